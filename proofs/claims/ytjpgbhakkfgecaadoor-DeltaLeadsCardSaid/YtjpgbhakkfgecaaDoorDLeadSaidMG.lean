/- DLeadSaid: the difference between a table and a later one leads from the first to the second. -/
import Derived.Deep.DeepCutAuto
import Derived.Test.YtjpgbhakkfgecaaDoorDLeadSaidMF
import Derived.Test.YtjpgbhakkfgecaaDoorDLeadSaidMB
import Derived.Test.YtjpgbhakkfgecaaDoorDLeadSaidMA
import Derived.Test.YtjpgbhakkfgecaaDoorDLeadSaidMC
import Derived.Test.YtjpgbhakkfgecaaDoorDLeadSaidME
import Derived.Test.YtjpgbhakkfgecaaDoorCards
import Derived.Test.YtjpgbhakkfgecaaDoorTie
namespace Go.Proofs.YtjpgbhakkfgecaaDoor
open Go.RowKit
set_option linter.unusedVariables false
set_option linter.unusedSimpArgs false

/-- a table and a verdict handed back -/
def ApRet (w : World) (M : Nat → Prop) (r : Bool × Tb) (e : Ending) (w' : World) : Prop := ∃ v, e = .returned (.tuple #[v, .bool r.1]) ∧ TbAt w' M v r.2 ∧ Below w.heap.size w w'
theorem wrap_min {x : Int} (h : I64 x) : wrap64 (min x 2147483648 + 1) = min x 2147483648 + 1 := by
  obtain ⟨h1, h2⟩ := h
  unfold wrap64
  omega

set_option maxHeartbeats 8000000 in
set_option maxRecDepth 100000 in
theorem dapply_any (M : Nat → Prop) (w : World) (hM : ∀ b, M b → b < w.heap.size) (va vd : Value) (t : Tb) (d : Dl) (hT : TbAt w M va t) (hD : DlAt w M vd d) (hst : t.nm.size ≤ maxLen) (hct : ∀ x ∈ t.cs, x.name.size ≤ maxLen) (hrt : t.rs.length ≤ 4398046511104) (hi : d.ins.length ≤ 1000000) (hde : d.del.length ≤ 4398046511104) (hup : d.upd.length ≤ 4398046511104) (hvi : ∀ r ∈ d.ins, r.2.length ≤ 4398046511104) (hvu : ∀ u ∈ d.upd, u.2.2.length ≤ 4398046511104) :
    Calls Tryd.prog 23 #[va, vd] w fun e w' => ApRet w M (applyD t d) e w' := by
  obtain ⟨tA, tn, tc, tB, tm, td, lt, rfl, a1, a2, a3, a4, a5, a6, a7, a8⟩ := hT
  obtain ⟨I, ni, ci, D, nd, cd, U, nu, cu, li, ld, lu, rfl, i1, i2, i3, r1, r2, r3, o1, o2, o3, e1, e2, e3⟩ := hD
  have HTL := hid (show lt.length = tm from a6.now.len)
  have HIL := hid (show li.length = ni from r1.now.len)
  have HDL := hid (show ld.length = nd from r2.now.len)
  have HUL := hid (show lu.length = nu from r3.now.len)
  have HTR := hid a8
  have HIR := hid e1
  have HDR := hid e2
  have HUR := hid e3
  have HTO := hid a7
  have HIO := hid o1
  have HUO := hid o3
  have HDO := hid o2
  have HTE := hid a6.now
  have HTC := hid (show t.cs.length = tn from cols_n a5.now)
  have HIN6 : Hid (∀ x ∈ li, x.n ≤ 4398046511104) := hid fun x hx => by
    have h1 := (r1.now.2 x hx).len
    have h2 := hvi x.row (by rw [← e1]; exact List.mem_map_of_mem hx)
    simp only [Rw.row] at h2
    omega
  have HUN : Hid (∀ x ∈ lu, x.nn ≤ 4398046511104) := hid fun x hx => by
    have h1 := (r3.now.2 x hx).2.len
    have h2 := hvu x.upd (by rw [← e3]; exact List.mem_map_of_mem hx)
    simp only [Pr.upd] at h2
    omega
  have htm : tm ≤ 4398046511104 := by have := HTL.out; have h := congrArg List.length a8; rw [List.length_map] at h; omega
  have hni : ni ≤ 1000000 := by have := HIL.out; have h := congrArg List.length e1; rw [List.length_map] at h; omega
  have hnd : nd ≤ 4398046511104 := by have := HDL.out; have h := congrArg List.length e2; rw [List.length_map] at h; omega
  have hnu : nu ≤ 4398046511104 := by have := HUL.out; have h := congrArg List.length e3; rw [List.length_map] at h; omega
  have K0 := (((((((((Hold.start M w hM).add (r3.less (by simp [Mut]))).add (r2.less (by simp [Mut, Hp.foot]))).add (r1.less (by simp [Mut, Hp.foot]))).add (a6.less (by simp [Mut, Hp.foot]))).add (a5.less (by simp [Mut, Hp.foot]))).alloc_cst #[.string t.nm, .slice tA tn tc, .int .i64 t.nx, .slice tB tm td] 27).alloc_cst #[.string d.nm, .slice I ni ci, .slice D nd cd, .slice U nu cu] 41).alloc #[.string ⟨#[]⟩, .slice none 0 0, .int .i64 0, .slice none 0 0] 27)
  simp only [World.size_alloc] at K0
  have F0 := K0.facts
  simp only [World.size_alloc, World.size_drew, factsL, cellsF, Nat.reduceAdd, List.toList_toArray, List.set_cons_zero, List.set_cons_succ, List.setIfInBounds_toArray, and_true, true_and] at F0
  clear a5 a6 a7 a8 r1 r2 r3 o1 o2 o3 e1 e2 e3
  go_enter Tryd.func23, Tryd.ntmps23
  go_wp2_with fail
  obtain ⟨g2, hg2⟩ : ∃ g, g = w.heap.size := ⟨_, rfl⟩
  obtain ⟨g3, hg3⟩ : ∃ g, g = g2 + 1 := ⟨_, rfl⟩
  obtain ⟨g4, hg4⟩ : ∃ g, g = g3 + 1 := ⟨_, rfl⟩
  rw [← hg2, ← hg3, ← hg4] at K0 ⊢
  clear F0
  generalize ((w.alloc _).alloc _).alloc _ = w1 at K0 ⊢
  have HGX := hid hg2
  clear hg2 hg3 hg4
  go_cut [47] (fun s wx => s = .bool (!(tabB t.nm t.cs t.nx t.rs && decide (d.nm = t.nm) && ordD d && fstD t d)) ∧ Hold M none w wx [.blk g4 27 #[.string ⟨#[]⟩, .slice none 0 0, .int .i64 0, .slice none 0 0], .cst g3 41 #[.string d.nm, .slice I ni ci, .slice D nd cd, .slice U nu cu], .cst g2 27 #[.string t.nm, .slice tA tn tc, .int .i64 t.nx, .slice tB tm td], .ro (ColsIn tA tn t.cs), .ro (RwsIn tB tm lt), .ro (RwsIn I ni li), .ro (RwsIn D nd ld), .ro (PrsIn U nu lu)])
  case first =>
    obtain ⟨KL, hKL, KN⟩ := K0.name
    have HF : Hid (∀ wv, Hold M none w wv KL → wv.cell? ⟨g2, 0, none⟩ = some (.string t.nm) ∧ wv.cell? ⟨g2, 1, none⟩ = some (.slice tA tn tc) ∧ wv.cell? ⟨g2, 2, none⟩ = some (.int .i64 t.nx) ∧ wv.cell? ⟨g2, 3, none⟩ = some (.slice tB tm td) ∧ wv.cell? ⟨g3, 0, none⟩ = some (.string d.nm) ∧ wv.cell? ⟨g3, 1, none⟩ = some (.slice I ni ci) ∧ wv.cell? ⟨g3, 2, none⟩ = some (.slice D nd cd) ∧ wv.cell? ⟨g3, 3, none⟩ = some (.slice U nu cu) ∧ g2 < wv.heap.size ∧ g3 < wv.heap.size) := hid fun wv HC => by
      rw [hKL] at HC
      have y1 := HC.cst_ 2 rfl
      have y2 := HC.cst_ 1 rfl
      exact ⟨cell_of_row _ _ 0 _ _ _ y1, cell_of_row _ _ 1 _ _ _ y1, cell_of_row _ _ 2 _ _ _ y1, cell_of_row _ _ 3 _ _ _ y1, cell_of_row _ _ 0 _ _ _ y2, cell_of_row _ _ 1 _ _ _ y2, cell_of_row _ _ 2 _ _ _ y2, cell_of_row _ _ 3 _ _ _ y2, Blk.lt y1, Blk.lt y2⟩
    have HTV : Hid (∀ wv, Hold M none w wv KL → Calls Tryd.prog 59 #[.agg #[.string t.nm, .slice tA tn tc, .int .i64 t.nx, .slice tB tm td]] wv fun e w' => e = .returned (.bool (tabB t.nm t.cs t.nx t.rs)) ∧ Below wv.heap.size wv w') := hid fun wv HC => by
      rw [hKL] at HC
      have hv := tvalid_any _ _ HC.mutLt t.nm tA tn tc t.cs t.nx tB tm td lt (HC.ro 3 rfl) (HC.ro 4 rfl) (by omega) (by omega) HTO.out hst hct
      rwa [HTR.out] at hv
    have HOD : Hid (∀ wv, Hold M none w wv KL → Calls Tryd.prog 64 #[.agg #[.string d.nm, .slice I ni ci, .slice D nd cd, .slice U nu cu]] wv fun e w' => e = .returned (.bool (ordD d)) ∧ Below wv.heap.size wv w') := hid fun wv HC => by
      rw [hKL] at HC
      exact dord_any wv _ d ⟨I, ni, ci, D, nd, cd, U, nu, cu, li, ld, lu, rfl, i1, i2, i3, (HC.ro 5 rfl).less (fun b hb => hb.elim), (HC.ro 6 rfl).less (fun b hb => hb.elim), (HC.ro 7 rfl).less (fun b hb => hb.elim), HIO.out, HDO.out, HUO.out, HIR.out, HDR.out, HUR.out⟩ (by omega) hde hup
    have HKL := hid hKL
    clear hKL
    cases hv : tabB t.nm t.cs t.nx t.rs
    · have HV := hid hv
      have HBAD := hid (show (!(tabB t.nm t.cs t.nx t.rs && decide (d.nm = t.nm) && ordD d && fstD t d)) = true by rw [hv]; rfl)
      clear hv
      refine wp_region_any (by kernel_rfl) ?_
      refine wpAny_hold 31 152 (KL) (spL [(17, fun u _ => u = .bool (tabB t.nm t.cs t.nx t.rs))]) (by kernel_rfl) (by kernel_rfl) (by kernel_rfl) rfl ?_ (KN.drew) ?_
      · exact stays_cons (fun _ _ _ _ h => h) (stays_nil _)
      simp only [List.take_succ_cons, List.take_zero, List.drop_succ_cons, List.drop_zero, Act.put, List.getElem_toArray, List.getElem_cons_zero, List.getElem_cons_succ, List.setIfInBounds_toArray, List.set_cons_succ, List.set_cons_zero]
      refine dw_val rfl rfl rfl ?_; apply Exists.intro; refine ⟨fun wv HC => ?_, ?_⟩
      · obtain ⟨f0, f1, f2, f3, f4, f5, f6, f7, f8, f9⟩ := HF.out _ HC; go_simp <;> rfl
      simp only [Act.put, List.setIfInBounds_toArray, List.set_cons_succ, List.set_cons_zero]
      refine dw_callR 17 (fun u _ => u = .bool (tabB t.nm t.cs t.nx t.rs)) (f := 59) (args := #[.agg #[.string t.nm, .slice tA tn tc, .int .i64 t.nx, .slice tB tm td]]) rfl rfl rfl rfl (fun wv => ?_) (fun wv HC hrm hD => ?_) ?_
      · go_simp <;> rfl
      · refine (HTV.out wv HC).mono ?_
        rintro e w5 ⟨rfl, b5⟩
        exact ⟨_, rfl, rfl, HC.call b5, RM.below b5⟩
      rintro x_ wx HCx rfl
      clear HCx
      rw [HV.out]
      simp only [Act.put, List.setIfInBounds_toArray, List.set_cons_succ, List.set_cons_zero]
      refine dw_val rfl rfl rfl ?_; apply Exists.intro; refine ⟨fun wv HC => ?_, ?_⟩
      ·  go_simp <;> rfl
      simp only [Act.put, List.setIfInBounds_toArray, List.set_cons_succ, List.set_cons_zero]
      refine dw_val rfl rfl rfl ?_; apply Exists.intro; refine ⟨fun wv HC => ?_, ?_⟩
      ·  go_simp <;> rfl
      simp only [Act.put, List.setIfInBounds_toArray, List.set_cons_succ, List.set_cons_zero]
      refine dw_skip rfl rfl rfl ?_
      simp only [Act.put, List.setIfInBounds_toArray, List.set_cons_succ, List.set_cons_zero]
      refine dw_skip rfl rfl rfl ?_
      simp only [Act.put, List.setIfInBounds_toArray, List.set_cons_succ, List.set_cons_zero]
      refine dw_skip rfl rfl rfl ?_
      simp only [Act.put, List.setIfInBounds_toArray, List.set_cons_succ, List.set_cons_zero]
      refine dw_skip rfl rfl rfl ?_
      simp only [Act.put, List.setIfInBounds_toArray, List.set_cons_succ, List.set_cons_zero]
      refine dw_skip rfl rfl rfl ?_
      simp only [Act.put, List.setIfInBounds_toArray, List.set_cons_succ, List.set_cons_zero]
      refine dw_skip rfl rfl rfl ?_
      simp only [Act.put, List.setIfInBounds_toArray, List.set_cons_succ, List.set_cons_zero]
      refine dw_val rfl rfl rfl ?_; apply Exists.intro; refine ⟨fun wv HC => ?_, ?_⟩
      ·  go_simp <;> rfl
      simp only [Act.put, List.setIfInBounds_toArray, List.set_cons_succ, List.set_cons_zero]
      refine dw_val rfl rfl rfl ?_; apply Exists.intro; refine ⟨fun wv HC => ?_, ?_⟩
      ·  go_simp <;> rfl
      simp only [Act.put, List.setIfInBounds_toArray, List.set_cons_succ, List.set_cons_zero]
      refine dw_skip rfl rfl rfl ?_
      simp only [Act.put, List.setIfInBounds_toArray, List.set_cons_succ, List.set_cons_zero]
      refine dw_skip rfl rfl rfl ?_
      simp only [Act.put, List.setIfInBounds_toArray, List.set_cons_succ, List.set_cons_zero]
      refine dw_skip rfl rfl rfl ?_
      simp only [Act.put, List.setIfInBounds_toArray, List.set_cons_succ, List.set_cons_zero]
      refine dw_val rfl rfl rfl ?_; apply Exists.intro; refine ⟨fun wv HC => ?_, ?_⟩
      ·  go_simp <;> rfl
      simp only [Act.put, List.setIfInBounds_toArray, List.set_cons_succ, List.set_cons_zero]
      refine dw_val rfl rfl rfl ?_; apply Exists.intro; refine ⟨fun wv HC => ?_, ?_⟩
      ·  go_simp <;> rfl
      simp only [Act.put, List.setIfInBounds_toArray, List.set_cons_succ, List.set_cons_zero]
      refine dw_skip rfl rfl rfl ?_
      simp only [Act.put, List.setIfInBounds_toArray, List.set_cons_succ, List.set_cons_zero]
      refine dw_skip rfl rfl rfl ?_
      simp only [Act.put, List.setIfInBounds_toArray, List.set_cons_succ, List.set_cons_zero]
      refine dw_skip rfl rfl rfl ?_
      simp only [Act.put, List.setIfInBounds_toArray, List.set_cons_succ, List.set_cons_zero]
      refine dw_skip rfl rfl rfl ?_
      simp only [Act.put, List.setIfInBounds_toArray, List.set_cons_succ, List.set_cons_zero]
      refine dw_skip rfl rfl rfl ?_
      simp only [Act.put, List.setIfInBounds_toArray, List.set_cons_succ, List.set_cons_zero]
      refine dw_skip rfl rfl rfl ?_
      simp only [Act.put, List.setIfInBounds_toArray, List.set_cons_succ, List.set_cons_zero]
      refine dw_skip rfl rfl rfl ?_
      simp only [Act.put, List.setIfInBounds_toArray, List.set_cons_succ, List.set_cons_zero]
      refine dw_skip rfl rfl rfl ?_
      simp only [Act.put, List.setIfInBounds_toArray, List.set_cons_succ, List.set_cons_zero]
      refine dw_skip rfl rfl rfl ?_
      simp only [Act.put, List.setIfInBounds_toArray, List.set_cons_succ, List.set_cons_zero]
      refine dw_skip rfl rfl rfl ?_
      simp only [Act.put, List.setIfInBounds_toArray, List.set_cons_succ, List.set_cons_zero]
      refine dw_skip rfl rfl rfl ?_
      simp only [Act.put, List.setIfInBounds_toArray, List.set_cons_succ, List.set_cons_zero]
      refine dw_skip rfl rfl rfl ?_
      simp only [Act.put, List.setIfInBounds_toArray, List.set_cons_succ, List.set_cons_zero]
      refine dw_skip rfl rfl rfl ?_
      simp only [Act.put, List.setIfInBounds_toArray, List.set_cons_succ, List.set_cons_zero]
      refine dw_skip rfl rfl rfl ?_
      simp only [Act.put, List.setIfInBounds_toArray, List.set_cons_succ, List.set_cons_zero]
      refine rel_nil ?_
      rintro wx2 HX
      rintro _hrm _HGW
      clear _HGW _hrm HTV HOD HF
      rw [HKL.out] at HX
      go_wp2_with fail
      go_meet
      exact ⟨by rw [HBAD.out], HX⟩
    have HV := hid hv
    clear hv
    by_cases hn : d.nm ≠ t.nm
    · have h1 : (d.nm.toList == t.nm.toList) = false := by rw [beq_eq_false_iff_ne]; exact fun h => hn (bytesEq h)
      have HBAD := hid (show (!(tabB t.nm t.cs t.nx t.rs && decide (d.nm = t.nm) && ordD d && fstD t d)) = true by rw [decide_eq_false hn]; simp)
      clear hn
      refine wp_region_any (by kernel_rfl) ?_
      refine wpAny_hold 31 152 (KL) (spL [(17, fun u _ => u = .bool (tabB t.nm t.cs t.nx t.rs))]) (by kernel_rfl) (by kernel_rfl) (by kernel_rfl) rfl ?_ (KN.drew) ?_
      · exact stays_cons (fun _ _ _ _ h => h) (stays_nil _)
      simp only [List.take_succ_cons, List.take_zero, List.drop_succ_cons, List.drop_zero, Act.put, List.getElem_toArray, List.getElem_cons_zero, List.getElem_cons_succ, List.setIfInBounds_toArray, List.set_cons_succ, List.set_cons_zero]
      refine dw_val rfl rfl rfl ?_; apply Exists.intro; refine ⟨fun wv HC => ?_, ?_⟩
      · obtain ⟨f0, f1, f2, f3, f4, f5, f6, f7, f8, f9⟩ := HF.out _ HC; go_simp <;> rfl
      simp only [Act.put, List.setIfInBounds_toArray, List.set_cons_succ, List.set_cons_zero]
      refine dw_callR 17 (fun u _ => u = .bool (tabB t.nm t.cs t.nx t.rs)) (f := 59) (args := #[.agg #[.string t.nm, .slice tA tn tc, .int .i64 t.nx, .slice tB tm td]]) rfl rfl rfl rfl (fun wv => ?_) (fun wv HC hrm hD => ?_) ?_
      · go_simp <;> rfl
      · refine (HTV.out wv HC).mono ?_
        rintro e w5 ⟨rfl, b5⟩
        exact ⟨_, rfl, rfl, HC.call b5, RM.below b5⟩
      rintro x_ wx HCx rfl
      clear HCx
      rw [HV.out]
      simp only [Act.put, List.setIfInBounds_toArray, List.set_cons_succ, List.set_cons_zero]
      refine dw_val rfl rfl rfl ?_; apply Exists.intro; refine ⟨fun wv HC => ?_, ?_⟩
      ·  go_simp <;> rfl
      simp only [Act.put, List.setIfInBounds_toArray, List.set_cons_succ, List.set_cons_zero]
      refine dw_val rfl rfl rfl ?_; apply Exists.intro; refine ⟨fun wv HC => ?_, ?_⟩
      ·  go_simp <;> rfl
      simp only [Act.put, List.setIfInBounds_toArray, List.set_cons_succ, List.set_cons_zero]
      refine dw_val rfl rfl rfl ?_; apply Exists.intro; refine ⟨fun wv HC => ?_, ?_⟩
      ·  go_simp <;> rfl
      simp only [Act.put, List.setIfInBounds_toArray, List.set_cons_succ, List.set_cons_zero]
      refine dw_val rfl rfl rfl ?_; apply Exists.intro; refine ⟨fun wv HC => ?_, ?_⟩
      · obtain ⟨f0, f1, f2, f3, f4, f5, f6, f7, f8, f9⟩ := HF.out _ HC; go_simp <;> rfl
      simp only [Act.put, List.setIfInBounds_toArray, List.set_cons_succ, List.set_cons_zero]
      refine dw_val rfl rfl rfl ?_; apply Exists.intro; refine ⟨fun wv HC => ?_, ?_⟩
      ·  go_simp <;> rfl
      simp only [Act.put, List.setIfInBounds_toArray, List.set_cons_succ, List.set_cons_zero]
      refine dw_val rfl rfl rfl ?_; apply Exists.intro; refine ⟨fun wv HC => ?_, ?_⟩
      ·  go_simp <;> rfl
      simp only [Act.put, List.setIfInBounds_toArray, List.set_cons_succ, List.set_cons_zero]
      refine dw_val rfl rfl rfl ?_; apply Exists.intro; refine ⟨fun wv HC => ?_, ?_⟩
      · obtain ⟨f0, f1, f2, f3, f4, f5, f6, f7, f8, f9⟩ := HF.out _ HC; go_simp <;> rfl
      simp only [Act.put, List.setIfInBounds_toArray, List.set_cons_succ, List.set_cons_zero]
      refine dw_val rfl rfl rfl ?_; apply Exists.intro; refine ⟨fun wv HC => ?_, ?_⟩
      ·  go_simp <;> rfl
      simp only [Act.put, List.setIfInBounds_toArray, List.set_cons_succ, List.set_cons_zero]
      refine dw_val rfl rfl rfl ?_; apply Exists.intro; refine ⟨fun wv HC => ?_, ?_⟩
      ·  go_simp <;> rfl
      simp only [Act.put, List.setIfInBounds_toArray, List.set_cons_succ, List.set_cons_zero]
      refine dw_val rfl rfl rfl ?_; apply Exists.intro; refine ⟨fun wv HC => ?_, ?_⟩
      ·  go_simp <;> rfl
      simp only [Act.put, List.setIfInBounds_toArray, List.set_cons_succ, List.set_cons_zero]
      refine dw_skip rfl rfl rfl ?_
      simp only [Act.put, List.setIfInBounds_toArray, List.set_cons_succ, List.set_cons_zero]
      refine dw_skip rfl rfl rfl ?_
      simp only [Act.put, List.setIfInBounds_toArray, List.set_cons_succ, List.set_cons_zero]
      refine dw_skip rfl rfl rfl ?_
      simp only [Act.put, List.setIfInBounds_toArray, List.set_cons_succ, List.set_cons_zero]
      refine dw_val rfl rfl rfl ?_; apply Exists.intro; refine ⟨fun wv HC => ?_, ?_⟩
      ·  go_simp <;> rfl
      simp only [Act.put, List.setIfInBounds_toArray, List.set_cons_succ, List.set_cons_zero]
      refine dw_val rfl rfl rfl ?_; apply Exists.intro; refine ⟨fun wv HC => ?_, ?_⟩
      ·  go_simp <;> rfl
      simp only [Act.put, List.setIfInBounds_toArray, List.set_cons_succ, List.set_cons_zero]
      refine dw_skip rfl rfl rfl ?_
      simp only [Act.put, List.setIfInBounds_toArray, List.set_cons_succ, List.set_cons_zero]
      refine dw_skip rfl rfl rfl ?_
      simp only [Act.put, List.setIfInBounds_toArray, List.set_cons_succ, List.set_cons_zero]
      refine dw_skip rfl rfl rfl ?_
      simp only [Act.put, List.setIfInBounds_toArray, List.set_cons_succ, List.set_cons_zero]
      refine dw_skip rfl rfl rfl ?_
      simp only [Act.put, List.setIfInBounds_toArray, List.set_cons_succ, List.set_cons_zero]
      refine dw_skip rfl rfl rfl ?_
      simp only [Act.put, List.setIfInBounds_toArray, List.set_cons_succ, List.set_cons_zero]
      refine dw_skip rfl rfl rfl ?_
      simp only [Act.put, List.setIfInBounds_toArray, List.set_cons_succ, List.set_cons_zero]
      refine dw_skip rfl rfl rfl ?_
      simp only [Act.put, List.setIfInBounds_toArray, List.set_cons_succ, List.set_cons_zero]
      refine dw_skip rfl rfl rfl ?_
      simp only [Act.put, List.setIfInBounds_toArray, List.set_cons_succ, List.set_cons_zero]
      refine dw_skip rfl rfl rfl ?_
      simp only [Act.put, List.setIfInBounds_toArray, List.set_cons_succ, List.set_cons_zero]
      refine dw_skip rfl rfl rfl ?_
      simp only [Act.put, List.setIfInBounds_toArray, List.set_cons_succ, List.set_cons_zero]
      refine dw_skip rfl rfl rfl ?_
      simp only [Act.put, List.setIfInBounds_toArray, List.set_cons_succ, List.set_cons_zero]
      refine dw_skip rfl rfl rfl ?_
      simp only [Act.put, List.setIfInBounds_toArray, List.set_cons_succ, List.set_cons_zero]
      refine dw_skip rfl rfl rfl ?_
      simp only [Act.put, List.setIfInBounds_toArray, List.set_cons_succ, List.set_cons_zero]
      refine dw_skip rfl rfl rfl ?_
      simp only [Act.put, List.setIfInBounds_toArray, List.set_cons_succ, List.set_cons_zero]
      refine rel_nil ?_
      rintro wx2 HX
      rintro _hrm _HGW
      clear _HGW _hrm HTV HOD HF
      rw [HKL.out] at HX
      go_wp2_with fail
      go_meet
      exact ⟨by rw [HBAD.out], HX⟩
    have hn : d.nm = t.nm := Decidable.not_not.1 hn
    have HNM := hid hn
    have h1 : (d.nm.toList == t.nm.toList) = true := by simp [hn]
    clear hn
    cases ho : ordD d
    · have HO := hid ho
      have HBAD := hid (show (!(tabB t.nm t.cs t.nx t.rs && decide (d.nm = t.nm) && ordD d && fstD t d)) = true by rw [ho]; simp)
      clear ho
      refine wp_region_any (by kernel_rfl) ?_
      refine wpAny_hold 31 152 (KL) (spL [(17, fun u _ => u = .bool (tabB t.nm t.cs t.nx t.rs)), (29, fun u _ => u = .bool (ordD d))]) (by kernel_rfl) (by kernel_rfl) (by kernel_rfl) rfl ?_ (KN.drew) ?_
      · exact stays_cons (fun _ _ _ _ h => h) (stays_cons (fun _ _ _ _ h => h) (stays_nil _))
      simp only [List.take_succ_cons, List.take_zero, List.drop_succ_cons, List.drop_zero, Act.put, List.getElem_toArray, List.getElem_cons_zero, List.getElem_cons_succ, List.setIfInBounds_toArray, List.set_cons_succ, List.set_cons_zero]
      refine dw_val rfl rfl rfl ?_; apply Exists.intro; refine ⟨fun wv HC => ?_, ?_⟩
      · obtain ⟨f0, f1, f2, f3, f4, f5, f6, f7, f8, f9⟩ := HF.out _ HC; go_simp <;> rfl
      simp only [Act.put, List.setIfInBounds_toArray, List.set_cons_succ, List.set_cons_zero]
      refine dw_callR 17 (fun u _ => u = .bool (tabB t.nm t.cs t.nx t.rs)) (f := 59) (args := #[.agg #[.string t.nm, .slice tA tn tc, .int .i64 t.nx, .slice tB tm td]]) rfl rfl rfl rfl (fun wv => ?_) (fun wv HC hrm hD => ?_) ?_
      · go_simp <;> rfl
      · refine (HTV.out wv HC).mono ?_
        rintro e w5 ⟨rfl, b5⟩
        exact ⟨_, rfl, rfl, HC.call b5, RM.below b5⟩
      rintro x_ wx HCx rfl
      clear HCx
      rw [HV.out]
      simp only [Act.put, List.setIfInBounds_toArray, List.set_cons_succ, List.set_cons_zero]
      refine dw_val rfl rfl rfl ?_; apply Exists.intro; refine ⟨fun wv HC => ?_, ?_⟩
      ·  go_simp <;> rfl
      simp only [Act.put, List.setIfInBounds_toArray, List.set_cons_succ, List.set_cons_zero]
      refine dw_val rfl rfl rfl ?_; apply Exists.intro; refine ⟨fun wv HC => ?_, ?_⟩
      ·  go_simp <;> rfl
      simp only [Act.put, List.setIfInBounds_toArray, List.set_cons_succ, List.set_cons_zero]
      refine dw_val rfl rfl rfl ?_; apply Exists.intro; refine ⟨fun wv HC => ?_, ?_⟩
      ·  go_simp <;> rfl
      simp only [Act.put, List.setIfInBounds_toArray, List.set_cons_succ, List.set_cons_zero]
      refine dw_val rfl rfl rfl ?_; apply Exists.intro; refine ⟨fun wv HC => ?_, ?_⟩
      · obtain ⟨f0, f1, f2, f3, f4, f5, f6, f7, f8, f9⟩ := HF.out _ HC; go_simp <;> rfl
      simp only [Act.put, List.setIfInBounds_toArray, List.set_cons_succ, List.set_cons_zero]
      refine dw_val rfl rfl rfl ?_; apply Exists.intro; refine ⟨fun wv HC => ?_, ?_⟩
      ·  go_simp <;> rfl
      simp only [Act.put, List.setIfInBounds_toArray, List.set_cons_succ, List.set_cons_zero]
      refine dw_val rfl rfl rfl ?_; apply Exists.intro; refine ⟨fun wv HC => ?_, ?_⟩
      ·  go_simp <;> rfl
      simp only [Act.put, List.setIfInBounds_toArray, List.set_cons_succ, List.set_cons_zero]
      refine dw_val rfl rfl rfl ?_; apply Exists.intro; refine ⟨fun wv HC => ?_, ?_⟩
      · obtain ⟨f0, f1, f2, f3, f4, f5, f6, f7, f8, f9⟩ := HF.out _ HC; go_simp <;> rfl
      simp only [Act.put, List.setIfInBounds_toArray, List.set_cons_succ, List.set_cons_zero]
      refine dw_val rfl rfl rfl ?_; apply Exists.intro; refine ⟨fun wv HC => ?_, ?_⟩
      ·  go_simp <;> rfl
      simp only [Act.put, List.setIfInBounds_toArray, List.set_cons_succ, List.set_cons_zero]
      refine dw_val rfl rfl rfl ?_; apply Exists.intro; refine ⟨fun wv HC => ?_, ?_⟩
      ·  go_simp <;> rfl
      simp only [Act.put, List.setIfInBounds_toArray, List.set_cons_succ, List.set_cons_zero]
      refine dw_val rfl rfl rfl ?_; apply Exists.intro; refine ⟨fun wv HC => ?_, ?_⟩
      ·  go_simp <;> rfl
      simp only [Act.put, List.setIfInBounds_toArray, List.set_cons_succ, List.set_cons_zero]
      refine dw_val rfl rfl rfl ?_; apply Exists.intro; refine ⟨fun wv HC => ?_, ?_⟩
      · obtain ⟨f0, f1, f2, f3, f4, f5, f6, f7, f8, f9⟩ := HF.out _ HC; go_simp <;> rfl
      simp only [Act.put, List.setIfInBounds_toArray, List.set_cons_succ, List.set_cons_zero]
      refine dw_callR 29 (fun u _ => u = .bool (ordD d)) (f := 64) (args := #[.agg #[.string d.nm, .slice I ni ci, .slice D nd cd, .slice U nu cu]]) rfl rfl rfl rfl (fun wv => ?_) (fun wv HC hrm hD => ?_) ?_
      · go_simp <;> rfl
      · refine (HOD.out wv HC).mono ?_
        rintro e w5 ⟨rfl, b5⟩
        exact ⟨_, rfl, rfl, HC.call b5, RM.below b5⟩
      rintro x_ wx HCx rfl
      clear HCx
      rw [HO.out]
      simp only [Act.put, List.setIfInBounds_toArray, List.set_cons_succ, List.set_cons_zero]
      refine dw_val rfl rfl rfl ?_; apply Exists.intro; refine ⟨fun wv HC => ?_, ?_⟩
      ·  go_simp <;> rfl
      simp only [Act.put, List.setIfInBounds_toArray, List.set_cons_succ, List.set_cons_zero]
      refine dw_val rfl rfl rfl ?_; apply Exists.intro; refine ⟨fun wv HC => ?_, ?_⟩
      ·  go_simp <;> rfl
      simp only [Act.put, List.setIfInBounds_toArray, List.set_cons_succ, List.set_cons_zero]
      refine dw_val rfl rfl rfl ?_; apply Exists.intro; refine ⟨fun wv HC => ?_, ?_⟩
      ·  go_simp <;> rfl
      simp only [Act.put, List.setIfInBounds_toArray, List.set_cons_succ, List.set_cons_zero]
      refine dw_skip rfl rfl rfl ?_
      simp only [Act.put, List.setIfInBounds_toArray, List.set_cons_succ, List.set_cons_zero]
      refine dw_skip rfl rfl rfl ?_
      simp only [Act.put, List.setIfInBounds_toArray, List.set_cons_succ, List.set_cons_zero]
      refine dw_skip rfl rfl rfl ?_
      simp only [Act.put, List.setIfInBounds_toArray, List.set_cons_succ, List.set_cons_zero]
      refine dw_skip rfl rfl rfl ?_
      simp only [Act.put, List.setIfInBounds_toArray, List.set_cons_succ, List.set_cons_zero]
      refine dw_skip rfl rfl rfl ?_
      simp only [Act.put, List.setIfInBounds_toArray, List.set_cons_succ, List.set_cons_zero]
      refine dw_skip rfl rfl rfl ?_
      simp only [Act.put, List.setIfInBounds_toArray, List.set_cons_succ, List.set_cons_zero]
      refine dw_skip rfl rfl rfl ?_
      simp only [Act.put, List.setIfInBounds_toArray, List.set_cons_succ, List.set_cons_zero]
      refine dw_skip rfl rfl rfl ?_
      simp only [Act.put, List.setIfInBounds_toArray, List.set_cons_succ, List.set_cons_zero]
      refine dw_skip rfl rfl rfl ?_
      simp only [Act.put, List.setIfInBounds_toArray, List.set_cons_succ, List.set_cons_zero]
      refine dw_skip rfl rfl rfl ?_
      simp only [Act.put, List.setIfInBounds_toArray, List.set_cons_succ, List.set_cons_zero]
      refine dw_skip rfl rfl rfl ?_
      simp only [Act.put, List.setIfInBounds_toArray, List.set_cons_succ, List.set_cons_zero]
      refine dw_skip rfl rfl rfl ?_
      simp only [Act.put, List.setIfInBounds_toArray, List.set_cons_succ, List.set_cons_zero]
      refine dw_skip rfl rfl rfl ?_
      simp only [Act.put, List.setIfInBounds_toArray, List.set_cons_succ, List.set_cons_zero]
      refine dw_skip rfl rfl rfl ?_
      simp only [Act.put, List.setIfInBounds_toArray, List.set_cons_succ, List.set_cons_zero]
      refine rel_nil ?_
      rintro wx2 HX
      rintro _hrm _HGW
      clear _HGW _hrm HTV HOD HF
      rw [HKL.out] at HX
      go_wp2_with fail
      go_meet
      exact ⟨by rw [HBAD.out], HX⟩
    have HO := hid ho
    clear ho
    by_cases hz : ni = 0 ∧ d.ins = []
    · obtain rfl : ni = 0 := hz.1
      have h2 : decide ((0 : Int) > 0) = false := by decide
      have HBAD := hid (show (!(tabB t.nm t.cs t.nx t.rs && decide (d.nm = t.nm) && ordD d && fstD t d)) = false by rw [HV.out, decide_eq_true HNM.out, HO.out, fstD_nil hz.2]; rfl)
      clear hz
      refine wp_region_any (by kernel_rfl) ?_
      refine wpAny_hold 31 152 (KL) (spL [(17, fun u _ => u = .bool (tabB t.nm t.cs t.nx t.rs)), (29, fun u _ => u = .bool (ordD d))]) (by kernel_rfl) (by kernel_rfl) (by kernel_rfl) rfl ?_ (KN.drew) ?_
      · exact stays_cons (fun _ _ _ _ h => h) (stays_cons (fun _ _ _ _ h => h) (stays_nil _))
      simp only [List.take_succ_cons, List.take_zero, List.drop_succ_cons, List.drop_zero, Act.put, List.getElem_toArray, List.getElem_cons_zero, List.getElem_cons_succ, List.setIfInBounds_toArray, List.set_cons_succ, List.set_cons_zero]
      refine dw_val rfl rfl rfl ?_; apply Exists.intro; refine ⟨fun wv HC => ?_, ?_⟩
      · obtain ⟨f0, f1, f2, f3, f4, f5, f6, f7, f8, f9⟩ := HF.out _ HC; go_simp <;> rfl
      simp only [Act.put, List.setIfInBounds_toArray, List.set_cons_succ, List.set_cons_zero]
      refine dw_callR 17 (fun u _ => u = .bool (tabB t.nm t.cs t.nx t.rs)) (f := 59) (args := #[.agg #[.string t.nm, .slice tA tn tc, .int .i64 t.nx, .slice tB tm td]]) rfl rfl rfl rfl (fun wv => ?_) (fun wv HC hrm hD => ?_) ?_
      · go_simp <;> rfl
      · refine (HTV.out wv HC).mono ?_
        rintro e w5 ⟨rfl, b5⟩
        exact ⟨_, rfl, rfl, HC.call b5, RM.below b5⟩
      rintro x_ wx HCx rfl
      clear HCx
      rw [HV.out]
      simp only [Act.put, List.setIfInBounds_toArray, List.set_cons_succ, List.set_cons_zero]
      refine dw_val rfl rfl rfl ?_; apply Exists.intro; refine ⟨fun wv HC => ?_, ?_⟩
      ·  go_simp <;> rfl
      simp only [Act.put, List.setIfInBounds_toArray, List.set_cons_succ, List.set_cons_zero]
      refine dw_val rfl rfl rfl ?_; apply Exists.intro; refine ⟨fun wv HC => ?_, ?_⟩
      ·  go_simp <;> rfl
      simp only [Act.put, List.setIfInBounds_toArray, List.set_cons_succ, List.set_cons_zero]
      refine dw_val rfl rfl rfl ?_; apply Exists.intro; refine ⟨fun wv HC => ?_, ?_⟩
      ·  go_simp <;> rfl
      simp only [Act.put, List.setIfInBounds_toArray, List.set_cons_succ, List.set_cons_zero]
      refine dw_val rfl rfl rfl ?_; apply Exists.intro; refine ⟨fun wv HC => ?_, ?_⟩
      · obtain ⟨f0, f1, f2, f3, f4, f5, f6, f7, f8, f9⟩ := HF.out _ HC; go_simp <;> rfl
      simp only [Act.put, List.setIfInBounds_toArray, List.set_cons_succ, List.set_cons_zero]
      refine dw_val rfl rfl rfl ?_; apply Exists.intro; refine ⟨fun wv HC => ?_, ?_⟩
      ·  go_simp <;> rfl
      simp only [Act.put, List.setIfInBounds_toArray, List.set_cons_succ, List.set_cons_zero]
      refine dw_val rfl rfl rfl ?_; apply Exists.intro; refine ⟨fun wv HC => ?_, ?_⟩
      ·  go_simp <;> rfl
      simp only [Act.put, List.setIfInBounds_toArray, List.set_cons_succ, List.set_cons_zero]
      refine dw_val rfl rfl rfl ?_; apply Exists.intro; refine ⟨fun wv HC => ?_, ?_⟩
      · obtain ⟨f0, f1, f2, f3, f4, f5, f6, f7, f8, f9⟩ := HF.out _ HC; go_simp <;> rfl
      simp only [Act.put, List.setIfInBounds_toArray, List.set_cons_succ, List.set_cons_zero]
      refine dw_val rfl rfl rfl ?_; apply Exists.intro; refine ⟨fun wv HC => ?_, ?_⟩
      ·  go_simp <;> rfl
      simp only [Act.put, List.setIfInBounds_toArray, List.set_cons_succ, List.set_cons_zero]
      refine dw_val rfl rfl rfl ?_; apply Exists.intro; refine ⟨fun wv HC => ?_, ?_⟩
      ·  go_simp <;> rfl
      simp only [Act.put, List.setIfInBounds_toArray, List.set_cons_succ, List.set_cons_zero]
      refine dw_val rfl rfl rfl ?_; apply Exists.intro; refine ⟨fun wv HC => ?_, ?_⟩
      ·  go_simp <;> rfl
      simp only [Act.put, List.setIfInBounds_toArray, List.set_cons_succ, List.set_cons_zero]
      refine dw_val rfl rfl rfl ?_; apply Exists.intro; refine ⟨fun wv HC => ?_, ?_⟩
      · obtain ⟨f0, f1, f2, f3, f4, f5, f6, f7, f8, f9⟩ := HF.out _ HC; go_simp <;> rfl
      simp only [Act.put, List.setIfInBounds_toArray, List.set_cons_succ, List.set_cons_zero]
      refine dw_callR 29 (fun u _ => u = .bool (ordD d)) (f := 64) (args := #[.agg #[.string d.nm, .slice I 0 ci, .slice D nd cd, .slice U nu cu]]) rfl rfl rfl rfl (fun wv => ?_) (fun wv HC hrm hD => ?_) ?_
      · go_simp <;> rfl
      · refine (HOD.out wv HC).mono ?_
        rintro e w5 ⟨rfl, b5⟩
        exact ⟨_, rfl, rfl, HC.call b5, RM.below b5⟩
      rintro x_ wx HCx rfl
      clear HCx
      rw [HO.out]
      simp only [Act.put, List.setIfInBounds_toArray, List.set_cons_succ, List.set_cons_zero]
      refine dw_val rfl rfl rfl ?_; apply Exists.intro; refine ⟨fun wv HC => ?_, ?_⟩
      ·  go_simp <;> rfl
      simp only [Act.put, List.setIfInBounds_toArray, List.set_cons_succ, List.set_cons_zero]
      refine dw_val rfl rfl rfl ?_; apply Exists.intro; refine ⟨fun wv HC => ?_, ?_⟩
      ·  go_simp <;> rfl
      simp only [Act.put, List.setIfInBounds_toArray, List.set_cons_succ, List.set_cons_zero]
      refine dw_val rfl rfl rfl ?_; apply Exists.intro; refine ⟨fun wv HC => ?_, ?_⟩
      ·  go_simp <;> rfl
      simp only [Act.put, List.setIfInBounds_toArray, List.set_cons_succ, List.set_cons_zero]
      refine dw_val rfl rfl rfl ?_; apply Exists.intro; refine ⟨fun wv HC => ?_, ?_⟩
      ·  go_simp <;> rfl
      simp only [Act.put, List.setIfInBounds_toArray, List.set_cons_succ, List.set_cons_zero]
      refine dw_val rfl rfl rfl ?_; apply Exists.intro; refine ⟨fun wv HC => ?_, ?_⟩
      · obtain ⟨f0, f1, f2, f3, f4, f5, f6, f7, f8, f9⟩ := HF.out _ HC; go_simp <;> rfl
      simp only [Act.put, List.setIfInBounds_toArray, List.set_cons_succ, List.set_cons_zero]
      refine dw_val rfl rfl rfl ?_; apply Exists.intro; refine ⟨fun wv HC => ?_, ?_⟩
      ·  go_simp <;> rfl
      simp only [Act.put, List.setIfInBounds_toArray, List.set_cons_succ, List.set_cons_zero]
      refine dw_val rfl rfl rfl ?_; apply Exists.intro; refine ⟨fun wv HC => ?_, ?_⟩
      ·  go_simp <;> rfl
      simp only [Act.put, List.setIfInBounds_toArray, List.set_cons_succ, List.set_cons_zero]
      refine dw_val rfl rfl rfl ?_; apply Exists.intro; refine ⟨fun wv HC => ?_, ?_⟩
      ·  go_simp <;> rfl
      simp only [Act.put, List.setIfInBounds_toArray, List.set_cons_succ, List.set_cons_zero]
      refine dw_skip rfl rfl rfl ?_
      simp only [Act.put, List.setIfInBounds_toArray, List.set_cons_succ, List.set_cons_zero]
      refine dw_skip rfl rfl rfl ?_
      simp only [Act.put, List.setIfInBounds_toArray, List.set_cons_succ, List.set_cons_zero]
      refine dw_skip rfl rfl rfl ?_
      simp only [Act.put, List.setIfInBounds_toArray, List.set_cons_succ, List.set_cons_zero]
      refine dw_skip rfl rfl rfl ?_
      simp only [Act.put, List.setIfInBounds_toArray, List.set_cons_succ, List.set_cons_zero]
      refine dw_skip rfl rfl rfl ?_
      simp only [Act.put, List.setIfInBounds_toArray, List.set_cons_succ, List.set_cons_zero]
      refine dw_skip rfl rfl rfl ?_
      simp only [Act.put, List.setIfInBounds_toArray, List.set_cons_succ, List.set_cons_zero]
      refine dw_skip rfl rfl rfl ?_
      simp only [Act.put, List.setIfInBounds_toArray, List.set_cons_succ, List.set_cons_zero]
      refine dw_skip rfl rfl rfl ?_
      simp only [Act.put, List.setIfInBounds_toArray, List.set_cons_succ, List.set_cons_zero]
      refine dw_val rfl rfl rfl ?_; apply Exists.intro; refine ⟨fun wv HC => ?_, ?_⟩
      ·  go_simp <;> rfl
      simp only [Act.put, List.setIfInBounds_toArray, List.set_cons_succ, List.set_cons_zero]
      refine rel_nil ?_
      rintro wx2 HX
      rintro _hrm _HGW
      clear _HGW _hrm HTV HOD HF
      rw [HKL.out] at HX
      go_wp2_with fail
      go_meet
      exact ⟨by rw [HBAD.out], HX⟩
    obtain ⟨x, hx⟩ : ∃ x, li[0]? = some x := by
      cases hl : li with
      | nil => exact absurd ⟨by have := HIL.out; rw [hl] at this; simpa using this.symm, by rw [← HIR.out, hl]; rfl⟩ hz
      | cons a l => exact ⟨a, rfl⟩
    have HX0 := hid (show d.ins[0]? = some x.row by rw [← HIR.out, List.getElem?_map, hx]; rfl)
    have hni0 : 0 < ni := by have h := (List.getElem?_eq_some_iff.1 hx).1; rw [HIL.out] at h; exact h
    have h2 : decide ((ni : Int) > 0) = true := by rw [decide_eq_true_iff]; omega
    have h4 : (0 : Int) < (ni : Int) := by omega
    clear hz
    obtain ⟨bi, oi, rfl, hcell, _⟩ := (K0.ro 5 rfl).rwsAt hx
    simp only [Nat.zero_mul, Nat.add_zero] at hcell
    have HF2 : Hid (∀ wv, Hold M none w wv KL → wv.cell? ⟨bi, oi, none⟩ = some (.int .i64 x.id) ∧ bi < wv.heap.size) := hid fun wv HC => by
      rw [HKL.out] at HC
      obtain ⟨b', o', e', h3, _⟩ := (HC.ro 5 rfl).rwsAt hx
      obtain ⟨rfl, rfl⟩ : bi = b' ∧ oi = o' := by injection e' with e'; injection e' with e1 e2; exact ⟨e1, e2⟩
      have h5 := h3.now
      simp only [Nat.zero_mul, Nat.add_zero] at h5
      exact ⟨h5.2.1, h5.1⟩
    clear hx hcell
    by_cases hx3 : x.id < t.nx
    · have h3 : decide (x.id < t.nx) = true := by simpa using hx3
      have HBAD := hid (show (!(tabB t.nm t.cs t.nx t.rs && decide (d.nm = t.nm) && ordD d && fstD t d)) = true by rw [fstD_at HX0.out, show decide (t.nx ≤ x.row.1) = false from decide_eq_false (show ¬ t.nx ≤ x.id by omega)]; simp)
      clear hx3
      refine wp_region_any (by kernel_rfl) ?_
      refine wpAny_hold 31 152 (KL) (spL [(17, fun u _ => u = .bool (tabB t.nm t.cs t.nx t.rs)), (29, fun u _ => u = .bool (ordD d))]) (by kernel_rfl) (by kernel_rfl) (by kernel_rfl) rfl ?_ (KN.drew) ?_
      · exact stays_cons (fun _ _ _ _ h => h) (stays_cons (fun _ _ _ _ h => h) (stays_nil _))
      simp only [List.take_succ_cons, List.take_zero, List.drop_succ_cons, List.drop_zero, Act.put, List.getElem_toArray, List.getElem_cons_zero, List.getElem_cons_succ, List.setIfInBounds_toArray, List.set_cons_succ, List.set_cons_zero]
      refine dw_val rfl rfl rfl ?_; apply Exists.intro; refine ⟨fun wv HC => ?_, ?_⟩
      · obtain ⟨f0, f1, f2, f3, f4, f5, f6, f7, f8, f9⟩ := HF.out _ HC; go_simp <;> rfl
      simp only [Act.put, List.setIfInBounds_toArray, List.set_cons_succ, List.set_cons_zero]
      refine dw_callR 17 (fun u _ => u = .bool (tabB t.nm t.cs t.nx t.rs)) (f := 59) (args := #[.agg #[.string t.nm, .slice tA tn tc, .int .i64 t.nx, .slice tB tm td]]) rfl rfl rfl rfl (fun wv => ?_) (fun wv HC hrm hD => ?_) ?_
      · go_simp <;> rfl
      · refine (HTV.out wv HC).mono ?_
        rintro e w5 ⟨rfl, b5⟩
        exact ⟨_, rfl, rfl, HC.call b5, RM.below b5⟩
      rintro x_ wx HCx rfl
      clear HCx
      rw [HV.out]
      simp only [Act.put, List.setIfInBounds_toArray, List.set_cons_succ, List.set_cons_zero]
      refine dw_val rfl rfl rfl ?_; apply Exists.intro; refine ⟨fun wv HC => ?_, ?_⟩
      ·  go_simp <;> rfl
      simp only [Act.put, List.setIfInBounds_toArray, List.set_cons_succ, List.set_cons_zero]
      refine dw_val rfl rfl rfl ?_; apply Exists.intro; refine ⟨fun wv HC => ?_, ?_⟩
      ·  go_simp <;> rfl
      simp only [Act.put, List.setIfInBounds_toArray, List.set_cons_succ, List.set_cons_zero]
      refine dw_val rfl rfl rfl ?_; apply Exists.intro; refine ⟨fun wv HC => ?_, ?_⟩
      ·  go_simp <;> rfl
      simp only [Act.put, List.setIfInBounds_toArray, List.set_cons_succ, List.set_cons_zero]
      refine dw_val rfl rfl rfl ?_; apply Exists.intro; refine ⟨fun wv HC => ?_, ?_⟩
      · obtain ⟨f0, f1, f2, f3, f4, f5, f6, f7, f8, f9⟩ := HF.out _ HC; go_simp <;> rfl
      simp only [Act.put, List.setIfInBounds_toArray, List.set_cons_succ, List.set_cons_zero]
      refine dw_val rfl rfl rfl ?_; apply Exists.intro; refine ⟨fun wv HC => ?_, ?_⟩
      ·  go_simp <;> rfl
      simp only [Act.put, List.setIfInBounds_toArray, List.set_cons_succ, List.set_cons_zero]
      refine dw_val rfl rfl rfl ?_; apply Exists.intro; refine ⟨fun wv HC => ?_, ?_⟩
      ·  go_simp <;> rfl
      simp only [Act.put, List.setIfInBounds_toArray, List.set_cons_succ, List.set_cons_zero]
      refine dw_val rfl rfl rfl ?_; apply Exists.intro; refine ⟨fun wv HC => ?_, ?_⟩
      · obtain ⟨f0, f1, f2, f3, f4, f5, f6, f7, f8, f9⟩ := HF.out _ HC; go_simp <;> rfl
      simp only [Act.put, List.setIfInBounds_toArray, List.set_cons_succ, List.set_cons_zero]
      refine dw_val rfl rfl rfl ?_; apply Exists.intro; refine ⟨fun wv HC => ?_, ?_⟩
      ·  go_simp <;> rfl
      simp only [Act.put, List.setIfInBounds_toArray, List.set_cons_succ, List.set_cons_zero]
      refine dw_val rfl rfl rfl ?_; apply Exists.intro; refine ⟨fun wv HC => ?_, ?_⟩
      ·  go_simp <;> rfl
      simp only [Act.put, List.setIfInBounds_toArray, List.set_cons_succ, List.set_cons_zero]
      refine dw_val rfl rfl rfl ?_; apply Exists.intro; refine ⟨fun wv HC => ?_, ?_⟩
      ·  go_simp <;> rfl
      simp only [Act.put, List.setIfInBounds_toArray, List.set_cons_succ, List.set_cons_zero]
      refine dw_val rfl rfl rfl ?_; apply Exists.intro; refine ⟨fun wv HC => ?_, ?_⟩
      · obtain ⟨f0, f1, f2, f3, f4, f5, f6, f7, f8, f9⟩ := HF.out _ HC; go_simp <;> rfl
      simp only [Act.put, List.setIfInBounds_toArray, List.set_cons_succ, List.set_cons_zero]
      refine dw_callR 29 (fun u _ => u = .bool (ordD d)) (f := 64) (args := #[.agg #[.string d.nm, .slice (some ⟨bi, oi, none⟩) ni ci, .slice D nd cd, .slice U nu cu]]) rfl rfl rfl rfl (fun wv => ?_) (fun wv HC hrm hD => ?_) ?_
      · go_simp <;> rfl
      · refine (HOD.out wv HC).mono ?_
        rintro e w5 ⟨rfl, b5⟩
        exact ⟨_, rfl, rfl, HC.call b5, RM.below b5⟩
      rintro x_ wx HCx rfl
      clear HCx
      rw [HO.out]
      simp only [Act.put, List.setIfInBounds_toArray, List.set_cons_succ, List.set_cons_zero]
      refine dw_val rfl rfl rfl ?_; apply Exists.intro; refine ⟨fun wv HC => ?_, ?_⟩
      ·  go_simp <;> rfl
      simp only [Act.put, List.setIfInBounds_toArray, List.set_cons_succ, List.set_cons_zero]
      refine dw_val rfl rfl rfl ?_; apply Exists.intro; refine ⟨fun wv HC => ?_, ?_⟩
      ·  go_simp <;> rfl
      simp only [Act.put, List.setIfInBounds_toArray, List.set_cons_succ, List.set_cons_zero]
      refine dw_val rfl rfl rfl ?_; apply Exists.intro; refine ⟨fun wv HC => ?_, ?_⟩
      ·  go_simp <;> rfl
      simp only [Act.put, List.setIfInBounds_toArray, List.set_cons_succ, List.set_cons_zero]
      refine dw_val rfl rfl rfl ?_; apply Exists.intro; refine ⟨fun wv HC => ?_, ?_⟩
      ·  go_simp <;> rfl
      simp only [Act.put, List.setIfInBounds_toArray, List.set_cons_succ, List.set_cons_zero]
      refine dw_val rfl rfl rfl ?_; apply Exists.intro; refine ⟨fun wv HC => ?_, ?_⟩
      · obtain ⟨f0, f1, f2, f3, f4, f5, f6, f7, f8, f9⟩ := HF.out _ HC; go_simp <;> rfl
      simp only [Act.put, List.setIfInBounds_toArray, List.set_cons_succ, List.set_cons_zero]
      refine dw_val rfl rfl rfl ?_; apply Exists.intro; refine ⟨fun wv HC => ?_, ?_⟩
      ·  go_simp <;> rfl
      simp only [Act.put, List.setIfInBounds_toArray, List.set_cons_succ, List.set_cons_zero]
      refine dw_val rfl rfl rfl ?_; apply Exists.intro; refine ⟨fun wv HC => ?_, ?_⟩
      ·  go_simp <;> rfl
      simp only [Act.put, List.setIfInBounds_toArray, List.set_cons_succ, List.set_cons_zero]
      refine dw_val rfl rfl rfl ?_; apply Exists.intro; refine ⟨fun wv HC => ?_, ?_⟩
      ·  go_simp <;> rfl
      simp only [Act.put, List.setIfInBounds_toArray, List.set_cons_succ, List.set_cons_zero]
      refine dw_val rfl rfl rfl ?_; apply Exists.intro; refine ⟨fun wv HC => ?_, ?_⟩
      ·  go_simp <;> rfl
      simp only [Act.put, List.setIfInBounds_toArray, List.set_cons_succ, List.set_cons_zero]
      refine dw_val rfl rfl rfl ?_; apply Exists.intro; refine ⟨fun wv HC => ?_, ?_⟩
      · obtain ⟨f0, f1, f2, f3, f4, f5, f6, f7, f8, f9⟩ := HF.out _ HC; go_simp <;> rfl
      simp only [Act.put, List.setIfInBounds_toArray, List.set_cons_succ, List.set_cons_zero]
      refine dw_val rfl rfl rfl ?_; apply Exists.intro; refine ⟨fun wv HC => ?_, ?_⟩
      ·  go_simp <;> rfl
      simp only [Act.put, List.setIfInBounds_toArray, List.set_cons_succ, List.set_cons_zero]
      refine dw_val rfl rfl rfl ?_; apply Exists.intro; refine ⟨fun wv HC => ?_, ?_⟩
      ·  go_simp <;> rfl
      simp only [Act.put, List.setIfInBounds_toArray, List.set_cons_succ, List.set_cons_zero]
      refine dw_val rfl rfl rfl ?_; apply Exists.intro; refine ⟨fun wv HC => ?_, ?_⟩
      · obtain ⟨h0, h1⟩ := HF2.out _ HC; go_simp <;> rfl
      simp only [Act.put, List.setIfInBounds_toArray, List.set_cons_succ, List.set_cons_zero]
      refine dw_val rfl rfl rfl ?_; apply Exists.intro; refine ⟨fun wv HC => ?_, ?_⟩
      ·  go_simp <;> rfl
      simp only [Act.put, List.setIfInBounds_toArray, List.set_cons_succ, List.set_cons_zero]
      refine dw_val rfl rfl rfl ?_; apply Exists.intro; refine ⟨fun wv HC => ?_, ?_⟩
      · obtain ⟨f0, f1, f2, f3, f4, f5, f6, f7, f8, f9⟩ := HF.out _ HC; go_simp <;> rfl
      simp only [Act.put, List.setIfInBounds_toArray, List.set_cons_succ, List.set_cons_zero]
      refine dw_val rfl rfl rfl ?_; apply Exists.intro; refine ⟨fun wv HC => ?_, ?_⟩
      ·  go_simp <;> rfl
      simp only [Act.put, List.setIfInBounds_toArray, List.set_cons_succ, List.set_cons_zero]
      refine dw_val rfl rfl rfl ?_; apply Exists.intro; refine ⟨fun wv HC => ?_, ?_⟩
      ·  go_simp <;> rfl
      simp only [Act.put, List.setIfInBounds_toArray, List.set_cons_succ, List.set_cons_zero]
      refine rel_nil ?_
      rintro wx2 HX
      rintro _hrm _HGW
      clear _HGW _hrm HTV HOD HF
      rw [HKL.out] at HX
      go_wp2_with fail
      go_meet
      exact ⟨by rw [HBAD.out], HX⟩
    · have h3 : decide (x.id < t.nx) = false := by simpa using hx3
      have HBAD := hid (show (!(tabB t.nm t.cs t.nx t.rs && decide (d.nm = t.nm) && ordD d && fstD t d)) = false by rw [HV.out, decide_eq_true HNM.out, HO.out, fstD_at HX0.out, show decide (t.nx ≤ x.row.1) = true from decide_eq_true (show t.nx ≤ x.id by omega)]; rfl)
      clear hx3
      refine wp_region_any (by kernel_rfl) ?_
      refine wpAny_hold 31 152 (KL) (spL [(17, fun u _ => u = .bool (tabB t.nm t.cs t.nx t.rs)), (29, fun u _ => u = .bool (ordD d))]) (by kernel_rfl) (by kernel_rfl) (by kernel_rfl) rfl ?_ (KN.drew) ?_
      · exact stays_cons (fun _ _ _ _ h => h) (stays_cons (fun _ _ _ _ h => h) (stays_nil _))
      simp only [List.take_succ_cons, List.take_zero, List.drop_succ_cons, List.drop_zero, Act.put, List.getElem_toArray, List.getElem_cons_zero, List.getElem_cons_succ, List.setIfInBounds_toArray, List.set_cons_succ, List.set_cons_zero]
      refine dw_val rfl rfl rfl ?_; apply Exists.intro; refine ⟨fun wv HC => ?_, ?_⟩
      · obtain ⟨f0, f1, f2, f3, f4, f5, f6, f7, f8, f9⟩ := HF.out _ HC; go_simp <;> rfl
      simp only [Act.put, List.setIfInBounds_toArray, List.set_cons_succ, List.set_cons_zero]
      refine dw_callR 17 (fun u _ => u = .bool (tabB t.nm t.cs t.nx t.rs)) (f := 59) (args := #[.agg #[.string t.nm, .slice tA tn tc, .int .i64 t.nx, .slice tB tm td]]) rfl rfl rfl rfl (fun wv => ?_) (fun wv HC hrm hD => ?_) ?_
      · go_simp <;> rfl
      · refine (HTV.out wv HC).mono ?_
        rintro e w5 ⟨rfl, b5⟩
        exact ⟨_, rfl, rfl, HC.call b5, RM.below b5⟩
      rintro x_ wx HCx rfl
      clear HCx
      rw [HV.out]
      simp only [Act.put, List.setIfInBounds_toArray, List.set_cons_succ, List.set_cons_zero]
      refine dw_val rfl rfl rfl ?_; apply Exists.intro; refine ⟨fun wv HC => ?_, ?_⟩
      ·  go_simp <;> rfl
      simp only [Act.put, List.setIfInBounds_toArray, List.set_cons_succ, List.set_cons_zero]
      refine dw_val rfl rfl rfl ?_; apply Exists.intro; refine ⟨fun wv HC => ?_, ?_⟩
      ·  go_simp <;> rfl
      simp only [Act.put, List.setIfInBounds_toArray, List.set_cons_succ, List.set_cons_zero]
      refine dw_val rfl rfl rfl ?_; apply Exists.intro; refine ⟨fun wv HC => ?_, ?_⟩
      ·  go_simp <;> rfl
      simp only [Act.put, List.setIfInBounds_toArray, List.set_cons_succ, List.set_cons_zero]
      refine dw_val rfl rfl rfl ?_; apply Exists.intro; refine ⟨fun wv HC => ?_, ?_⟩
      · obtain ⟨f0, f1, f2, f3, f4, f5, f6, f7, f8, f9⟩ := HF.out _ HC; go_simp <;> rfl
      simp only [Act.put, List.setIfInBounds_toArray, List.set_cons_succ, List.set_cons_zero]
      refine dw_val rfl rfl rfl ?_; apply Exists.intro; refine ⟨fun wv HC => ?_, ?_⟩
      ·  go_simp <;> rfl
      simp only [Act.put, List.setIfInBounds_toArray, List.set_cons_succ, List.set_cons_zero]
      refine dw_val rfl rfl rfl ?_; apply Exists.intro; refine ⟨fun wv HC => ?_, ?_⟩
      ·  go_simp <;> rfl
      simp only [Act.put, List.setIfInBounds_toArray, List.set_cons_succ, List.set_cons_zero]
      refine dw_val rfl rfl rfl ?_; apply Exists.intro; refine ⟨fun wv HC => ?_, ?_⟩
      · obtain ⟨f0, f1, f2, f3, f4, f5, f6, f7, f8, f9⟩ := HF.out _ HC; go_simp <;> rfl
      simp only [Act.put, List.setIfInBounds_toArray, List.set_cons_succ, List.set_cons_zero]
      refine dw_val rfl rfl rfl ?_; apply Exists.intro; refine ⟨fun wv HC => ?_, ?_⟩
      ·  go_simp <;> rfl
      simp only [Act.put, List.setIfInBounds_toArray, List.set_cons_succ, List.set_cons_zero]
      refine dw_val rfl rfl rfl ?_; apply Exists.intro; refine ⟨fun wv HC => ?_, ?_⟩
      ·  go_simp <;> rfl
      simp only [Act.put, List.setIfInBounds_toArray, List.set_cons_succ, List.set_cons_zero]
      refine dw_val rfl rfl rfl ?_; apply Exists.intro; refine ⟨fun wv HC => ?_, ?_⟩
      ·  go_simp <;> rfl
      simp only [Act.put, List.setIfInBounds_toArray, List.set_cons_succ, List.set_cons_zero]
      refine dw_val rfl rfl rfl ?_; apply Exists.intro; refine ⟨fun wv HC => ?_, ?_⟩
      · obtain ⟨f0, f1, f2, f3, f4, f5, f6, f7, f8, f9⟩ := HF.out _ HC; go_simp <;> rfl
      simp only [Act.put, List.setIfInBounds_toArray, List.set_cons_succ, List.set_cons_zero]
      refine dw_callR 29 (fun u _ => u = .bool (ordD d)) (f := 64) (args := #[.agg #[.string d.nm, .slice (some ⟨bi, oi, none⟩) ni ci, .slice D nd cd, .slice U nu cu]]) rfl rfl rfl rfl (fun wv => ?_) (fun wv HC hrm hD => ?_) ?_
      · go_simp <;> rfl
      · refine (HOD.out wv HC).mono ?_
        rintro e w5 ⟨rfl, b5⟩
        exact ⟨_, rfl, rfl, HC.call b5, RM.below b5⟩
      rintro x_ wx HCx rfl
      clear HCx
      rw [HO.out]
      simp only [Act.put, List.setIfInBounds_toArray, List.set_cons_succ, List.set_cons_zero]
      refine dw_val rfl rfl rfl ?_; apply Exists.intro; refine ⟨fun wv HC => ?_, ?_⟩
      ·  go_simp <;> rfl
      simp only [Act.put, List.setIfInBounds_toArray, List.set_cons_succ, List.set_cons_zero]
      refine dw_val rfl rfl rfl ?_; apply Exists.intro; refine ⟨fun wv HC => ?_, ?_⟩
      ·  go_simp <;> rfl
      simp only [Act.put, List.setIfInBounds_toArray, List.set_cons_succ, List.set_cons_zero]
      refine dw_val rfl rfl rfl ?_; apply Exists.intro; refine ⟨fun wv HC => ?_, ?_⟩
      ·  go_simp <;> rfl
      simp only [Act.put, List.setIfInBounds_toArray, List.set_cons_succ, List.set_cons_zero]
      refine dw_val rfl rfl rfl ?_; apply Exists.intro; refine ⟨fun wv HC => ?_, ?_⟩
      ·  go_simp <;> rfl
      simp only [Act.put, List.setIfInBounds_toArray, List.set_cons_succ, List.set_cons_zero]
      refine dw_val rfl rfl rfl ?_; apply Exists.intro; refine ⟨fun wv HC => ?_, ?_⟩
      · obtain ⟨f0, f1, f2, f3, f4, f5, f6, f7, f8, f9⟩ := HF.out _ HC; go_simp <;> rfl
      simp only [Act.put, List.setIfInBounds_toArray, List.set_cons_succ, List.set_cons_zero]
      refine dw_val rfl rfl rfl ?_; apply Exists.intro; refine ⟨fun wv HC => ?_, ?_⟩
      ·  go_simp <;> rfl
      simp only [Act.put, List.setIfInBounds_toArray, List.set_cons_succ, List.set_cons_zero]
      refine dw_val rfl rfl rfl ?_; apply Exists.intro; refine ⟨fun wv HC => ?_, ?_⟩
      ·  go_simp <;> rfl
      simp only [Act.put, List.setIfInBounds_toArray, List.set_cons_succ, List.set_cons_zero]
      refine dw_val rfl rfl rfl ?_; apply Exists.intro; refine ⟨fun wv HC => ?_, ?_⟩
      ·  go_simp <;> rfl
      simp only [Act.put, List.setIfInBounds_toArray, List.set_cons_succ, List.set_cons_zero]
      refine dw_val rfl rfl rfl ?_; apply Exists.intro; refine ⟨fun wv HC => ?_, ?_⟩
      ·  go_simp <;> rfl
      simp only [Act.put, List.setIfInBounds_toArray, List.set_cons_succ, List.set_cons_zero]
      refine dw_val rfl rfl rfl ?_; apply Exists.intro; refine ⟨fun wv HC => ?_, ?_⟩
      · obtain ⟨f0, f1, f2, f3, f4, f5, f6, f7, f8, f9⟩ := HF.out _ HC; go_simp <;> rfl
      simp only [Act.put, List.setIfInBounds_toArray, List.set_cons_succ, List.set_cons_zero]
      refine dw_val rfl rfl rfl ?_; apply Exists.intro; refine ⟨fun wv HC => ?_, ?_⟩
      ·  go_simp <;> rfl
      simp only [Act.put, List.setIfInBounds_toArray, List.set_cons_succ, List.set_cons_zero]
      refine dw_val rfl rfl rfl ?_; apply Exists.intro; refine ⟨fun wv HC => ?_, ?_⟩
      ·  go_simp <;> rfl
      simp only [Act.put, List.setIfInBounds_toArray, List.set_cons_succ, List.set_cons_zero]
      refine dw_val rfl rfl rfl ?_; apply Exists.intro; refine ⟨fun wv HC => ?_, ?_⟩
      · obtain ⟨h0, h1⟩ := HF2.out _ HC; go_simp <;> rfl
      simp only [Act.put, List.setIfInBounds_toArray, List.set_cons_succ, List.set_cons_zero]
      refine dw_val rfl rfl rfl ?_; apply Exists.intro; refine ⟨fun wv HC => ?_, ?_⟩
      ·  go_simp <;> rfl
      simp only [Act.put, List.setIfInBounds_toArray, List.set_cons_succ, List.set_cons_zero]
      refine dw_val rfl rfl rfl ?_; apply Exists.intro; refine ⟨fun wv HC => ?_, ?_⟩
      · obtain ⟨f0, f1, f2, f3, f4, f5, f6, f7, f8, f9⟩ := HF.out _ HC; go_simp <;> rfl
      simp only [Act.put, List.setIfInBounds_toArray, List.set_cons_succ, List.set_cons_zero]
      refine dw_val rfl rfl rfl ?_; apply Exists.intro; refine ⟨fun wv HC => ?_, ?_⟩
      ·  go_simp <;> rfl
      simp only [Act.put, List.setIfInBounds_toArray, List.set_cons_succ, List.set_cons_zero]
      refine dw_val rfl rfl rfl ?_; apply Exists.intro; refine ⟨fun wv HC => ?_, ?_⟩
      ·  go_simp <;> rfl
      simp only [Act.put, List.setIfInBounds_toArray, List.set_cons_succ, List.set_cons_zero]
      refine rel_nil ?_
      rintro wx2 HX
      rintro _hrm _HGW
      clear _HGW _hrm HTV HOD HF
      rw [HKL.out] at HX
      go_wp2_with fail
      go_meet
      exact ⟨by rw [HBAD.out], HX⟩
  case rest =>
    clear K0
    obtain ⟨rfl, K1⟩ := hcut
    cases hbad : (!(tabB t.nm t.cs t.nx t.rs && decide (d.nm = t.nm) && ordD d && fstD t d))
    case true =>
      have HN := hid (show applyD t d = (false, zeroT) from by
        simp only [Bool.not_eq_true', Bool.and_eq_false_iff, decide_eq_false_iff_not] at hbad
        rcases hbad with ((h | h) | h) | h
        · exact applyD_1 h
        · exact applyD_2 h
        · exact applyD_3 h
        · exact applyD_4 h)
      clear hbad
      have F1 := K1.facts
      simp only [World.size_alloc, World.size_drew, factsL, cellsF, Nat.reduceAdd, List.toList_toArray, List.set_cons_zero, List.set_cons_succ, List.setIfInBounds_toArray, and_true, true_and] at F1
      have KN := (((K1.store 0 rfl 0 (.string ⟨#[]⟩)).store 0 rfl 1 (.slice none 0 0)).store 0 rfl 2 (.int .i64 0)).store 0 rfl 3 (.slice none 0 0)
      go_wp2_with fail
      exact bodyPost_ret (v := .tuple #[.agg #[.string ⟨#[]⟩, .slice none 0 0, .int .i64 0, .slice none 0 0], .bool false]) (by simp [results, Tryd.results23, go_sem, F1]) rfl ⟨_, by rw [HN.out], by rw [HN.out]; exact tbAt_zero, KN.below⟩
    have HOKS := hid (show tabB t.nm t.cs t.nx t.rs = true ∧ d.nm = t.nm ∧ ordD d = true ∧ fstD t d = true from by
      simp only [Bool.not_eq_false', Bool.and_eq_true, decide_eq_true_eq] at hbad
      exact ⟨hbad.1.1.1, hbad.1.1.2, hbad.1.2, hbad.2⟩)
    clear hbad
    have htn6 : tn ≤ 6 := by have := tabB_cols HOKS.out.1; have := HTC.out; omega
    have htm1 : tm ≤ 100 := by have := (tabB_rows HOKS.out.1).1; have h := congrArg List.length HTR.out; rw [List.length_map] at h; have := HTL.out; omega
    have hnx1 : -9223372036854775808 ≤ t.nx ∧ t.nx ≤ 2147483649 := by have := (tabB_ok HOKS.out.1).2.2; omega
    have HSH := hid (rw_short HTE.out (by rw [HTR.out]; exact HOKS.out.1))
    clear htm hrt
    have K2 := K1.alloc #[.string t.nm, .slice tA tn tc, .int .i64 t.nx, .slice none 0 0] 27
    have F1 := K1.facts
    simp only [World.size_alloc, World.size_drew, factsL, cellsF, Nat.reduceAdd, List.toList_toArray, List.set_cons_zero, List.set_cons_succ, List.setIfInBounds_toArray, and_true, true_and] at F1
    go_wp2_with fail
    obtain ⟨g6, hg6⟩ : ∃ g, g = wc.heap.size := ⟨_, rfl⟩
    rw [← hg6] at K2 ⊢
    have HG6 := hid hg6
    clear hg6 F1 K1
    generalize World.alloc wc _ = w2 at K2 ⊢
    refine (cloneCols_any _ _ K2.mutLt tA tn tc t.cs (K2.ro 4 rfl) (by omega)).mono ?_
    rintro e w3 ⟨oA, on, oc, rfl, hon, hoc1, hoc2, ro1, b3⟩
    have K3 := (K2.call b3).add (show Ro w3 _ (ColsIn oA on t.cs) from ro1)
    have HOC := hid (And.intro hoc1 hoc2)
    have HON := hid hon
    clear ro1 b3 K2 hon
    have F3 := K3.facts
    simp only [World.size_alloc, World.size_drew, factsL, cellsF, Nat.reduceAdd, List.toList_toArray, List.set_cons_zero, List.set_cons_succ, List.setIfInBounds_toArray, and_true, true_and] at F3
    have N3 := K3.nes
    simp only [World.size_alloc, nesL, neF, List.set_cons_zero, List.set_cons_succ, and_true, true_and] at N3
    have K2 := K3.store 1 rfl 1 (.slice oA on oc)
    simp only [List.set_cons_zero, List.set_cons_succ, List.setIfInBounds_toArray] at K2
    clear K3
    go_wp2_with fail
    go_loopw [63] (fun iv wr => ∃ k : Nat, k ≤ nd ∧ iv = .int .i64 k ∧ Hid (∀ r ∈ ld.take k, r.row ∈ t.rs) ∧ Hold M none w wr [.ro (ColsIn oA on t.cs), .blk g6 27 #[.string t.nm, .slice oA on oc, .int .i64 t.nx, .slice none 0 0], .blk g4 27 #[.string ⟨#[]⟩, .slice none 0 0, .int .i64 0, .slice none 0 0], .cst g3 41 #[.string d.nm, .slice I ni ci, .slice D nd cd, .slice U nu cu], .cst g2 27 #[.string t.nm, .slice tA tn tc, .int .i64 t.nx, .slice tB tm td], .ro (ColsIn tA tn t.cs), .ro (RwsIn tB tm lt), .ro (RwsIn I ni li), .ro (RwsIn D nd ld), .ro (PrsIn U nu lu)]) (fun iv _ => nd - (intOf iv).toNat)
    case atStart => exact ⟨0, by omega, rfl, hid (fun r hr => by simp at hr), K2⟩
    case round =>
      clear K2
      obtain ⟨k, hk, rfl, HIN, H⟩ := hrel
      by_cases hlt : k < nd
      · have hd : decide ((k : Int) < (nd : Int)) = true := by simp; omega
        have i0 : (0 : Int) ≤ (k : Int) := by omega
        have i1 : (k : Int) < (nd : Int) := by omega
        obtain ⟨x, hx⟩ := get_of HDL.out hlt
        have hxv : Ro wr _ (VlsIn x.A x.n x.vs) := (H.ro 8 rfl).imp fun w2 h2 => h2.2 x (List.mem_of_getElem? hx)
        obtain ⟨bb, oo, rfl, hbb, c0, c1, _⟩ := (H.ro 8 rfl).now.at_ hx
        have HX := hid hx
        clear hx
        have K3 := (H.add hxv).alloc_cst #[.int .i64 x.id, .slice x.A x.n x.c] 53
        have F3 := K3.facts
        simp only [World.size_alloc, World.size_drew, factsL, cellsF, Nat.reduceAdd, List.toList_toArray, List.set_cons_zero, List.set_cons_succ, List.setIfInBounds_toArray, and_true, true_and] at F3
        clear hxv H
        go_wp2_with fail
        refine (dpresent_any _ _ K3.mutLt t.nm tA tn tc t.nx tB tm td lt x.id x.A x.n x.c x.vs (K3.ro 8 rfl) (K3.ro 1 rfl) (by omega) (fun r hr => by have := HSH.out r hr; omega)).mono ?_
        rintro e w3 ⟨rfl, b3⟩
        have K4 := (K3.call b3).drop ((List.sublist_cons_self _ _).trans (List.sublist_cons_self _ _))
        clear K3 F3 b3
        by_cases hp : x.row ∈ t.rs
        · have hp2 : (lt.any fun y => decide (y.row = (x.id, x.vs))) = true := by rw [any_row HTR.out]; exact decide_eq_true hp
          have HN := hid (show ∀ r ∈ ld.take (k + 1), r.row ∈ t.rs from by
            rw [List.take_add_one, HX.out, Option.toList_some]
            exact okSnoc HIN.out hp)
          clear hp
          rw [hp2]
          go_wp2_with fail
          go_roundw
          case rel => exact ⟨k + 1, by omega, by go_num, HN, K4⟩
          case measure => simp [intOf]; omega
        · have hp2 : (lt.any fun y => decide (y.row = (x.id, x.vs))) = false := by rw [any_row HTR.out]; exact decide_eq_false hp
          have HN := hid (applyD_5 (presD_del (t := t) (d := d) (r := x.row) (by rw [← HDR.out]; exact List.mem_map_of_mem (List.mem_of_getElem? HX.out)) hp))
          clear hp
          rw [hp2]
          have F4 := K4.facts
          simp only [World.size_alloc, World.size_drew, factsL, cellsF, Nat.reduceAdd, List.toList_toArray, List.set_cons_zero, List.set_cons_succ, List.setIfInBounds_toArray, and_true, true_and] at F4
          have KN := (((K4.store 2 rfl 0 (.string ⟨#[]⟩)).store 2 rfl 1 (.slice none 0 0)).store 2 rfl 2 (.int .i64 0)).store 2 rfl 3 (.slice none 0 0)
          go_wp2_with fail
          exact bodyPost_ret (v := .tuple #[.agg #[.string ⟨#[]⟩, .slice none 0 0, .int .i64 0, .slice none 0 0], .bool false]) (by simp [results, Tryd.results23, go_sem, F4]) rfl ⟨_, by rw [HN.out], by rw [HN.out]; exact tbAt_zero, KN.below⟩
      · obtain rfl : nd = k := by omega
        have hd : decide ((nd : Int) < (nd : Int)) = false := by simp
        have HAD := hid (show ∀ r ∈ d.del, r ∈ t.rs from by
          intro r hr
          rw [← HDR.out] at hr
          obtain ⟨x, hx, rfl⟩ := List.mem_map.1 hr
          exact HIN.out x (by rw [List.take_of_length_le (by rw [HDL.out]; exact Nat.le_refl _)]; exact hx))
        have F := H.facts
        simp only [World.size_alloc, World.size_drew, factsL, cellsF, Nat.reduceAdd, List.toList_toArray, List.set_cons_zero, List.set_cons_succ, List.setIfInBounds_toArray, and_true, true_and] at F
        go_wp2_with fail
        go_loopw [79] (fun iv wr => ∃ k : Nat, k ≤ nu ∧ iv = .int .i64 k ∧ Hid (∀ r ∈ lu.take k, (r.id, r.old) ∈ t.rs) ∧ Hold M none w wr [.ro (ColsIn oA on t.cs), .blk g6 27 #[.string t.nm, .slice oA on oc, .int .i64 t.nx, .slice none 0 0], .blk g4 27 #[.string ⟨#[]⟩, .slice none 0 0, .int .i64 0, .slice none 0 0], .cst g3 41 #[.string d.nm, .slice I ni ci, .slice D nd cd, .slice U nu cu], .cst g2 27 #[.string t.nm, .slice tA tn tc, .int .i64 t.nx, .slice tB tm td], .ro (ColsIn tA tn t.cs), .ro (RwsIn tB tm lt), .ro (RwsIn I ni li), .ro (RwsIn D nd ld), .ro (PrsIn U nu lu)]) (fun iv _ => nu - (intOf iv).toNat)
        case atStart => exact ⟨0, by omega, rfl, hid (fun r hr => by simp at hr), H⟩
        case round =>
          clear H F
          obtain ⟨k, hk, rfl, HIN, H⟩ := hrel
          by_cases hlt : k < nu
          · have hd : decide ((k : Int) < (nu : Int)) = true := by simp; omega
            have i0 : (0 : Int) ≤ (k : Int) := by omega
            have i1 : (k : Int) < (nu : Int) := by omega
            obtain ⟨x, hx⟩ := get_of HUL.out hlt
            have hxv : Ro wr _ (VlsIn x.oA x.on x.old) := (H.ro 9 rfl).imp fun w2 h2 => (h2.2 x (List.mem_of_getElem? hx)).1
            obtain ⟨bb, oo, rfl, hbb, c0, c1, c2, _⟩ := (H.ro 9 rfl).now.at_ hx
            have HX := hid hx
            clear hx
            have K3 := (H.add hxv).alloc_cst #[.int .i64 x.id, .slice x.oA x.on x.oc, .slice x.nA x.nn x.nc] 99
            have F3 := K3.facts
            simp only [World.size_alloc, World.size_drew, factsL, cellsF, Nat.reduceAdd, List.toList_toArray, List.set_cons_zero, List.set_cons_succ, List.setIfInBounds_toArray, and_true, true_and] at F3
            clear hxv H
            go_wp2_with fail
            refine (dpresent_any _ _ K3.mutLt t.nm tA tn tc t.nx tB tm td lt x.id x.oA x.on x.oc x.old (K3.ro 8 rfl) (K3.ro 1 rfl) (by omega) (fun r hr => by have := HSH.out r hr; omega)).mono ?_
            rintro e w3 ⟨rfl, b3⟩
            have K4 := (K3.call b3).drop ((List.sublist_cons_self _ _).trans (List.sublist_cons_self _ _))
            clear K3 F3 b3
            by_cases hp : (x.id, x.old) ∈ t.rs
            · have hp2 : (lt.any fun y => decide (y.row = (x.id, x.old))) = true := by rw [any_row HTR.out]; exact decide_eq_true hp
              have HN := hid (show ∀ r ∈ lu.take (k + 1), (r.id, r.old) ∈ t.rs from by
                rw [List.take_add_one, HX.out, Option.toList_some]
                exact okSnoc HIN.out hp)
              clear hp
              rw [hp2]
              go_wp2_with fail
              go_roundw
              case rel => exact ⟨k + 1, by omega, by go_num, HN, K4⟩
              case measure => simp [intOf]; omega
            · have hp2 : (lt.any fun y => decide (y.row = (x.id, x.old))) = false := by rw [any_row HTR.out]; exact decide_eq_false hp
              have HN := hid (applyD_5 (presD_upd (t := t) (d := d) (u := x.upd) (by rw [← HUR.out]; exact List.mem_map_of_mem (List.mem_of_getElem? HX.out)) hp))
              clear hp
              rw [hp2]
              have F4 := K4.facts
              simp only [World.size_alloc, World.size_drew, factsL, cellsF, Nat.reduceAdd, List.toList_toArray, List.set_cons_zero, List.set_cons_succ, List.setIfInBounds_toArray, and_true, true_and] at F4
              have KN := (((K4.store 2 rfl 0 (.string ⟨#[]⟩)).store 2 rfl 1 (.slice none 0 0)).store 2 rfl 2 (.int .i64 0)).store 2 rfl 3 (.slice none 0 0)
              go_wp2_with fail
              exact bodyPost_ret (v := .tuple #[.agg #[.string ⟨#[]⟩, .slice none 0 0, .int .i64 0, .slice none 0 0], .bool false]) (by simp [results, Tryd.results23, go_sem, F4]) rfl ⟨_, by rw [HN.out], by rw [HN.out]; exact tbAt_zero, KN.below⟩
          · obtain rfl : nu = k := by omega
            have hd : decide ((nu : Int) < (nu : Int)) = false := by simp
            have HPR := hid (presD_ok (t := t) (d := d) HAD.out (by
              intro u hu
              rw [← HUR.out] at hu
              obtain ⟨x, hx, rfl⟩ := List.mem_map.1 hu
              exact HIN.out x (by rw [List.take_of_length_le (by rw [HUL.out]; exact Nat.le_refl _)]; exact hx)))
            have KM := (H.add (show Ro _ _ (ValsIn []) from fun _ _ _ r hr => nomatch hr)).nil 53 2
            have F := H.facts
            simp only [World.size_alloc, World.size_drew, factsL, cellsF, Nat.reduceAdd, List.toList_toArray, List.set_cons_zero, List.set_cons_succ, List.setIfInBounds_toArray, and_true, true_and] at F
            clear H HAD HIN
            go_wp2_with fail
            go_loopw [95] (fun iv wr => ∃ (k q cq : Nat) (O : Option Addr) (lo : List Rw), k ≤ tm ∧ iv = .int .i64 k ∧ q ≤ k ∧ Hid (lo.map Rw.row = keepL d (t.rs.take k)) ∧ Hid (∀ r ∈ lo, r.ok) ∧ Hold M none w wr [.own 53 2 (.slice O q cq) q (rwCells lo), .ro (ValsIn lo), .ro (ColsIn oA on t.cs), .blk g6 27 #[.string t.nm, .slice oA on oc, .int .i64 t.nx, .slice O q cq], .blk g4 27 #[.string ⟨#[]⟩, .slice none 0 0, .int .i64 0, .slice none 0 0], .cst g3 41 #[.string d.nm, .slice I ni ci, .slice D nd cd, .slice U nu cu], .cst g2 27 #[.string t.nm, .slice tA tn tc, .int .i64 t.nx, .slice tB tm td], .ro (ColsIn tA tn t.cs), .ro (RwsIn tB tm lt), .ro (RwsIn I ni li), .ro (RwsIn D nd ld), .ro (PrsIn U nu lu)]) (fun iv _ => tm - (intOf iv).toNat)
            case atStart => exact ⟨0, 0, 0, none, [], by omega, rfl, by omega, hid rfl, hid (fun r hr => nomatch hr), KM⟩
            case round =>
              clear KM F
              obtain ⟨k, q, cq, O, lo, hk, rfl, hq, HLO, HOK, H⟩ := hrel
              by_cases hlt : k < tm
              · have hd : decide ((k : Int) < (tm : Int)) = true := by simp; omega
                have i0 : (0 : Int) ≤ (k : Int) := by omega
                have i1 : (k : Int) < (tm : Int) := by omega
                obtain ⟨x, hx⟩ := get_of HTL.out hlt
                have hxv : Ro wr _ (VlsIn x.A x.n x.vs) := (H.ro 8 rfl).imp fun w2 h2 => h2.2 x (List.mem_of_getElem? hx)
                obtain ⟨bb, oo, rfl, hbb, c0, c1, _⟩ := (H.ro 8 rfl).now.at_ hx
                have HXX := hid (show t.rs[k]? = some x.row by rw [← HTR.out, List.getElem?_map, hx]; rfl)
                have HXO := hid (HTO.out x (List.mem_of_getElem? hx))
                have hxn6 := HSH.out x (List.mem_of_getElem? hx)
                obtain ⟨xid, xA, xn, xc, xvs⟩ := x
                dsimp only at *
                clear hx
                have K3 := (H.add hxv).alloc #[.int .i64 xid, .slice xA xn xc] 53
                clear hxv H
                have F3 := K3.facts
                simp only [World.size_alloc, World.size_drew, factsL, cellsF, Nat.reduceAdd, List.toList_toArray, List.set_cons_zero, List.set_cons_succ, List.setIfInBounds_toArray, and_true, true_and] at F3
                go_wp2_with fail
                obtain ⟨gx, hgx⟩ : ∃ g, g = wr.heap.size := ⟨_, rfl⟩
                rw [← hgx] at K3 F3 ⊢
                have HGX := hid hgx
                clear hgx c0 c1
                generalize World.alloc wr _ = w3 at K3 F3 ⊢
                have hbx := K3.blk_ 0 rfl
                refine (dgoneC_any None_ w3 (fun b hb => hb.elim) D nd cd ld gx xid xA xn xc 53 (fun w2 h1 h2 => (h2 gx (Blk.lt hbx) (by simp [None_])).trans hbx) ((K3.ro 12 rfl).less fun b hb => hb.elim) (by omega)).mono ?_
                rintro e w4 ⟨rfl, b4⟩
                have K4 := K3.call b4
                clear K3 F3 b4 hbx
                cases hp : ld.any fun y => decide (y.id = xid)
                · have HP := hid (show (d.del.any fun y => decide (y.1 = xid)) = false by rw [← any_id HDR.out]; exact hp)
                  clear hp
                  have F4 := K4.facts
                  simp only [World.size_alloc, World.size_drew, factsL, cellsF, Nat.reduceAdd, List.toList_toArray, List.set_cons_zero, List.set_cons_succ, List.setIfInBounds_toArray, and_true, true_and] at F4
                  go_wp2_with fail
                  have hbx := K4.blk_ 0 rfl
                  refine (dpairI_any None_ w4 (fun b hb => hb.elim) U nu cu lu gx xid xA xn xc 53 (fun w2 h1 h2 => (h2 gx (Blk.lt hbx) (by simp [None_])).trans hbx) ((K4.ro 13 rfl).less fun b hb => hb.elim) (by omega)).mono ?_
                  rintro e w5 ⟨⟨r, rfl, hr⟩, b5⟩
                  have K5 := K4.call b5
                  clear K4 F4 b5 hbx
                  have F5 := K5.facts
                  simp only [World.size_alloc, World.size_drew, factsL, cellsF, Nat.reduceAdd, List.toList_toArray, List.set_cons_zero, List.set_cons_succ, List.setIfInBounds_toArray, and_true, true_and] at F5
                  rcases hr with ⟨j, y, hy, hp, hpb, rfl⟩ | ⟨rfl, hall⟩
                  · have h0 : decide ((j : Int) ≥ 0) = true := by simp
                    have HU := hid (show findU d.upd xid = some y.new from findU_at HUR.out hy hp hpb)
                    have hju : j < nu := by have := (List.getElem?_eq_some_iff.1 hy).1; rw [HUL.out] at this; exact this
                    have i2 : (0 : Int) ≤ (j : Int) := by omega
                    have i3 : (j : Int) < (nu : Int) := by omega
                    have hyv : Ro w5 _ (VlsIn y.nA y.nn y.new) := (K5.ro 13 rfl).imp fun w2 h2 => (h2.2 y (List.mem_of_getElem? hy)).2
                    obtain ⟨bu, ou, rfl, hbu, c0, c1, c2, _⟩ := (K5.ro 13 rfl).now.at_ hy
                    have HYM := hid (List.mem_of_getElem? hy)
                    have HYO := hid (HUO.out y (List.mem_of_getElem? hy))
                    have hyn : y.nn ≤ 4398046511104 := HUN.out y (List.mem_of_getElem? hy)
                    obtain ⟨yid, oA', on', oc', yold, yA, yn, yc, ynew⟩ := y
                    dsimp only at *
                    clear hy hp hpb
                    have K6 := (K5.store 0 rfl 1 (.slice yA yn yc)).drop (List.Sublist.cons_cons _ (List.sublist_cons_self _ _))
                    simp only [List.set_cons_zero, List.set_cons_succ, List.setIfInBounds_toArray] at K6
                    have hyv2 : Ro _ _ (VlsIn yA yn ynew) := (K6.ro 12 rfl).imp fun w2 h2 => (h2.2 _ HYM.out).2
                    have K7 := (K6.add hyv2).fix_ 1 rfl
                    simp only [List.set_cons_zero, List.set_cons_succ] at K7
                    clear K5 hyv
                    have KX := K7.sinkN 1
                    simp only [List.take_succ_cons, List.take_zero, List.drop_succ_cons, List.drop_zero, List.cons_append, List.nil_append] at KX
                    clear K6 K7 hyv2
                    obtain ⟨KL, hKL, KN⟩ := KX.name
                    have HF : Hid (∀ wv, Hold M none w wv KL → (wv.cell? ⟨g6, 3, none⟩ = some (.slice O q cq) ∧ g6 < wv.heap.size) ∧ wv.cell? ⟨gx, 0, none⟩ = some (.int .i64 xid) ∧ wv.cell? ⟨gx, 1, none⟩ = some (.slice yA yn yc) ∧ gx < wv.heap.size) := hid fun wv HC => by
                      rw [hKL] at HC
                      have y1 := HC.blk_ 5 rfl
                      have y2 := HC.cst_ 0 rfl
                      exact ⟨⟨cell_of_row _ _ 3 _ _ _ y1, Blk.lt y1⟩, cell_of_row _ _ 0 _ _ _ y2, cell_of_row _ _ 1 _ _ _ y2, Blk.lt y2⟩
                    have HRX : Hid (∀ wv, Hold M none w wv KL → Ro wv (Mut M KL) (VlsIn yA yn ynew)) := hid fun wv HC => by
                      rw [hKL] at HC ⊢
                      exact HC.ro 1 rfl
                    have HKL := hid hKL
                    clear hKL KX
                    go_wp2_with fail
                    refine wp_region_any (by kernel_rfl) ?_
                    refine wpAny_hold 5 152 (KL) (spL [(119, RowSlot (Mut M KL) xid ynew), (120, RBoxSlot (Mut M KL) xid ynew)]) (by kernel_rfl) (by kernel_rfl) (by kernel_rfl) rfl ?_ (KN.drew) ?_
                    · exact stays_cons rowSlot_mono (stays_cons rboxSlot_mono (stays_nil _))
                    simp only [List.take_succ_cons, List.take_zero, List.drop_succ_cons, List.drop_zero, Act.put, List.getElem_toArray, List.getElem_cons_zero, List.getElem_cons_succ, List.setIfInBounds_toArray, List.set_cons_succ, List.set_cons_zero]
                    refine dw_val rfl rfl rfl ?_; apply Exists.intro; refine ⟨fun wv HC => ?_, ?_⟩
                    ·  go_simp <;> rfl
                    simp only [Act.put, List.setIfInBounds_toArray, List.set_cons_succ, List.set_cons_zero]
                    refine dw_val rfl rfl rfl ?_; apply Exists.intro; refine ⟨fun wv HC => ?_, ?_⟩
                    · obtain ⟨⟨f0, f1⟩, f2, f3, f4⟩ := HF.out _ HC; go_simp <;> rfl
                    simp only [Act.put, List.setIfInBounds_toArray, List.set_cons_succ, List.set_cons_zero]
                    refine dw_val rfl rfl rfl ?_; apply Exists.intro; refine ⟨fun wv HC => ?_, ?_⟩
                    · obtain ⟨⟨f0, f1⟩, f2, f3, f4⟩ := HF.out _ HC; go_simp <;> rfl
                    simp only [Act.put, List.setIfInBounds_toArray, List.set_cons_succ, List.set_cons_zero]
                    refine dw_callR 119 (RowSlot (Mut M KL) xid ynew) (f := 61) (args := #[.agg #[.int .i64 xid, .slice yA yn yc]]) rfl rfl rfl rfl (fun wv => ?_) (fun wv HC hrm hD => ?_) ?_
                    · go_simp <;> rfl
                    · refine (dcopied_any _ wv HC.mutLt xid yA yn yc ynew (HRX.out _ HC) (by omega)).mono ?_
                      rintro e w5 ⟨A5, n5, c5, rfl, h50, h51, h52, h53, b5⟩
                      exact ⟨_, rfl, ⟨A5, n5, c5, rfl, h50, h51, h52, h53⟩, HC.call b5, RM.below b5⟩
                    rintro x_ wx HCx ⟨A5, n5, c5, rfl, -, -, -, -⟩
                    clear HCx
                    simp only [Act.put, List.setIfInBounds_toArray, List.set_cons_succ, List.set_cons_zero]
                    refine dw_new #[.int .i64 xid, .slice A5 n5 c5] 53 120 (RBoxSlot (Mut M KL) xid ynew) (fun g => .slice (some ⟨g, 0, none⟩) 1 1) rfl rfl rfl rfl (fun wv => ?_) (fun wv HC _hrm hD hro => ?_) ?_
                    · go_simp <;> rfl
                    · have hsl : RowSlot (Mut M KL) xid ynew (.agg #[.int .i64 xid, .slice A5 n5 c5]) wv := deps_at hD 3 rfl (by kernel_rfl) rfl rfl
                      obtain ⟨A6, n6, c6, e6, h1, h2, h3, h4⟩ := hsl
                      obtain ⟨rfl, rfl, rfl⟩ : A5 = A6 ∧ n5 = n6 ∧ c5 = c6 := by
                        injection e6 with e6
                        simp at e6
                        exact e6
                      exact ⟨_, A5, n5, c5, rfl, h1, h2, h3, h4.step (by simp) (fun b hb _ => Below.heap_alloc wv _ b hb) (fun _ _ h => h), ro_block (hro _ HC.mutLt) rfl⟩
                    rintro gn wg HCg hsl
                    simp only [Act.put, List.setIfInBounds_toArray, List.set_cons_succ, List.set_cons_zero]
                    clear hsl HCg
                    refine rel_nil ?_
                    rintro wx2 HX
                    rintro _hrm HGW
                    have hb2 : RBoxSlot (Mut M KL) xid ynew (.slice (some ⟨gn, 0, none⟩) 1 1) wx2 := (GW_on (d := 120) rfl).1 (HGW 4 _ rfl (by omega))
                    clear HGW _hrm
                    obtain ⟨gq, A6, n6, c6, e6, k0_, k1_, k2_, k3_, k4_⟩ := hb2
                    obtain rfl : gn = gq := by injection e6 with e6; injection e6 with e6; injection e6
                    clear e6
                    rw [HKL.out] at HX k3_
                    have k5 := hid k4_.now
                    have HK0 := hid (And.intro k0_ (And.intro k1_ k2_))
                    clear k4_ k0_ k1_ k2_ HF HRX KN
                    have HRS := hid (show rwCells lo ++ [.int .i64 xid, .slice A6 n6 c6] = rwCells (lo ++ [⟨xid, A6, n6, c6, ynew⟩]) from rwCells_snoc1 _ _ _ _ _ _)
                    have KA := HX.add k3_
                    clear HX k3_
                    have FKA := KA.facts
                    simp only [World.size_alloc, World.size_drew, factsL, cellsF, Nat.reduceAdd, List.toList_toArray, List.set_cons_zero, List.set_cons_succ, List.setIfInBounds_toArray, and_true, true_and] at FKA
                    go_wp2_with (at_builtin; go_must (refine wpList_appAllH KA 3 rfl Tryd.elRw k5.out rfl (.tmp 117) (.tmp 120) rfl rfl rfl (by intro z hz; simp at hz; rcases hz with rfl | rfl <;> rfl) (by omega) (by omega) ?_); intro C' cap' w6 hc6 hm6 KB; rw [HRS.out] at KB; simp only [List.set_cons_zero, List.set_cons_succ] at KB; (have F3 := KB.facts); simp only [World.size_alloc, World.size_drew, factsL, cellsF, Nat.reduceAdd, List.toList_toArray, List.set_cons_zero, List.set_cons_succ, List.setIfInBounds_toArray, and_true, true_and] at F3; (have N3 := KB.nes); simp only [World.size_alloc, nesL, neF, List.set_cons_zero, List.set_cons_succ, and_true, true_and] at N3)
                    have KD := KB.store 6 rfl 3 (.slice C' (q + 1) cap')
                    have KE := (KD.swapRo 4 rfl (vals_snoc (r := ⟨xid, A6, n6, c6, ynew⟩) (KD.ro 4 rfl) (KD.ro 0 rfl))).drop (List.sublist_cons_self _ _)
                    clear KB KD FKA k5
                    have HBN := hid (show (lo ++ [(⟨xid, A6, n6, c6, ynew⟩ : Rw)]).map Rw.row = keepL d (t.rs.take (k + 1)) by rw [List.map_append, HLO.out]; exact (keepL_turn (r := (xid, xvs)) HXX.out HP.out HU.out).symm)
                    have HOK2 := hid (okSnoc (P := Rw.ok) (x := (⟨xid, A6, n6, c6, ynew⟩ : Rw)) HOK.out ⟨HXO.out.id, HK0.out.2.1, HK0.out.2.2, HYO.out.new⟩)
                    have KZ := KE.drop (List.Sublist.cons _ (List.sublist_cons_self _ _))
                    go_roundw
                    case rel => exact ⟨k + 1, q + 1, cap', C', _, by omega, by first | rfl | go_num, by omega, HBN, HOK2, KZ⟩
                    case measure => simp [intOf]; omega
                  · have h0 : decide ((-1 : Int) ≥ 0) = false := by decide
                    have HU := hid (show findU d.upd xid = none from findU_no HUR.out hall)
                    clear hall
                    have KX := K5.fix_ 0 rfl
                    simp only [List.set_cons_zero] at KX
                    clear K5
                    obtain ⟨KL, hKL, KN⟩ := KX.name
                    have HF : Hid (∀ wv, Hold M none w wv KL → (wv.cell? ⟨g6, 3, none⟩ = some (.slice O q cq) ∧ g6 < wv.heap.size) ∧ wv.cell? ⟨gx, 0, none⟩ = some (.int .i64 xid) ∧ wv.cell? ⟨gx, 1, none⟩ = some (.slice xA xn xc) ∧ gx < wv.heap.size) := hid fun wv HC => by
                      rw [hKL] at HC
                      have y1 := HC.blk_ 5 rfl
                      have y2 := HC.cst_ 0 rfl
                      exact ⟨⟨cell_of_row _ _ 3 _ _ _ y1, Blk.lt y1⟩, cell_of_row _ _ 0 _ _ _ y2, cell_of_row _ _ 1 _ _ _ y2, Blk.lt y2⟩
                    have HRX : Hid (∀ wv, Hold M none w wv KL → Ro wv (Mut M KL) (VlsIn xA xn xvs)) := hid fun wv HC => by
                      rw [hKL] at HC ⊢
                      exact HC.ro 1 rfl
                    have HKL := hid hKL
                    clear hKL KX
                    go_wp2_with fail
                    refine wp_region_any (by kernel_rfl) ?_
                    refine wpAny_hold 5 152 (KL) (spL [(119, RowSlot (Mut M KL) xid xvs), (120, RBoxSlot (Mut M KL) xid xvs)]) (by kernel_rfl) (by kernel_rfl) (by kernel_rfl) rfl ?_ (KN.drew) ?_
                    · exact stays_cons rowSlot_mono (stays_cons rboxSlot_mono (stays_nil _))
                    simp only [List.take_succ_cons, List.take_zero, List.drop_succ_cons, List.drop_zero, Act.put, List.getElem_toArray, List.getElem_cons_zero, List.getElem_cons_succ, List.setIfInBounds_toArray, List.set_cons_succ, List.set_cons_zero]
                    refine dw_val rfl rfl rfl ?_; apply Exists.intro; refine ⟨fun wv HC => ?_, ?_⟩
                    ·  go_simp <;> rfl
                    simp only [Act.put, List.setIfInBounds_toArray, List.set_cons_succ, List.set_cons_zero]
                    refine dw_val rfl rfl rfl ?_; apply Exists.intro; refine ⟨fun wv HC => ?_, ?_⟩
                    · obtain ⟨⟨f0, f1⟩, f2, f3, f4⟩ := HF.out _ HC; go_simp <;> rfl
                    simp only [Act.put, List.setIfInBounds_toArray, List.set_cons_succ, List.set_cons_zero]
                    refine dw_val rfl rfl rfl ?_; apply Exists.intro; refine ⟨fun wv HC => ?_, ?_⟩
                    · obtain ⟨⟨f0, f1⟩, f2, f3, f4⟩ := HF.out _ HC; go_simp <;> rfl
                    simp only [Act.put, List.setIfInBounds_toArray, List.set_cons_succ, List.set_cons_zero]
                    refine dw_callR 119 (RowSlot (Mut M KL) xid xvs) (f := 61) (args := #[.agg #[.int .i64 xid, .slice xA xn xc]]) rfl rfl rfl rfl (fun wv => ?_) (fun wv HC hrm hD => ?_) ?_
                    · go_simp <;> rfl
                    · refine (dcopied_any _ wv HC.mutLt xid xA xn xc xvs (HRX.out _ HC) (by omega)).mono ?_
                      rintro e w5 ⟨A5, n5, c5, rfl, h50, h51, h52, h53, b5⟩
                      exact ⟨_, rfl, ⟨A5, n5, c5, rfl, h50, h51, h52, h53⟩, HC.call b5, RM.below b5⟩
                    rintro x_ wx HCx ⟨A5, n5, c5, rfl, -, -, -, -⟩
                    clear HCx
                    simp only [Act.put, List.setIfInBounds_toArray, List.set_cons_succ, List.set_cons_zero]
                    refine dw_new #[.int .i64 xid, .slice A5 n5 c5] 53 120 (RBoxSlot (Mut M KL) xid xvs) (fun g => .slice (some ⟨g, 0, none⟩) 1 1) rfl rfl rfl rfl (fun wv => ?_) (fun wv HC _hrm hD hro => ?_) ?_
                    · go_simp <;> rfl
                    · have hsl : RowSlot (Mut M KL) xid xvs (.agg #[.int .i64 xid, .slice A5 n5 c5]) wv := deps_at hD 3 rfl (by kernel_rfl) rfl rfl
                      obtain ⟨A6, n6, c6, e6, h1, h2, h3, h4⟩ := hsl
                      obtain ⟨rfl, rfl, rfl⟩ : A5 = A6 ∧ n5 = n6 ∧ c5 = c6 := by
                        injection e6 with e6
                        simp at e6
                        exact e6
                      exact ⟨_, A5, n5, c5, rfl, h1, h2, h3, h4.step (by simp) (fun b hb _ => Below.heap_alloc wv _ b hb) (fun _ _ h => h), ro_block (hro _ HC.mutLt) rfl⟩
                    rintro gn wg HCg hsl
                    simp only [Act.put, List.setIfInBounds_toArray, List.set_cons_succ, List.set_cons_zero]
                    clear hsl HCg
                    refine rel_nil ?_
                    rintro wx2 HX
                    rintro _hrm HGW
                    have hb2 : RBoxSlot (Mut M KL) xid xvs (.slice (some ⟨gn, 0, none⟩) 1 1) wx2 := (GW_on (d := 120) rfl).1 (HGW 4 _ rfl (by omega))
                    clear HGW _hrm
                    obtain ⟨gq, A6, n6, c6, e6, k0_, k1_, k2_, k3_, k4_⟩ := hb2
                    obtain rfl : gn = gq := by injection e6 with e6; injection e6 with e6; injection e6
                    clear e6
                    rw [HKL.out] at HX k3_
                    have k5 := hid k4_.now
                    have HK0 := hid (And.intro k0_ (And.intro k1_ k2_))
                    clear k4_ k0_ k1_ k2_ HF HRX KN
                    have HRS := hid (show rwCells lo ++ [.int .i64 xid, .slice A6 n6 c6] = rwCells (lo ++ [⟨xid, A6, n6, c6, xvs⟩]) from rwCells_snoc1 _ _ _ _ _ _)
                    have KA := HX.add k3_
                    clear HX k3_
                    have FKA := KA.facts
                    simp only [World.size_alloc, World.size_drew, factsL, cellsF, Nat.reduceAdd, List.toList_toArray, List.set_cons_zero, List.set_cons_succ, List.setIfInBounds_toArray, and_true, true_and] at FKA
                    go_wp2_with (at_builtin; go_must (refine wpList_appAllH KA 3 rfl Tryd.elRw k5.out rfl (.tmp 117) (.tmp 120) rfl rfl rfl (by intro z hz; simp at hz; rcases hz with rfl | rfl <;> rfl) (by omega) (by omega) ?_); intro C' cap' w6 hc6 hm6 KB; rw [HRS.out] at KB; simp only [List.set_cons_zero, List.set_cons_succ] at KB; (have F3 := KB.facts); simp only [World.size_alloc, World.size_drew, factsL, cellsF, Nat.reduceAdd, List.toList_toArray, List.set_cons_zero, List.set_cons_succ, List.setIfInBounds_toArray, and_true, true_and] at F3; (have N3 := KB.nes); simp only [World.size_alloc, nesL, neF, List.set_cons_zero, List.set_cons_succ, and_true, true_and] at N3)
                    have KD := KB.store 6 rfl 3 (.slice C' (q + 1) cap')
                    have KE := (KD.swapRo 4 rfl (vals_snoc (r := ⟨xid, A6, n6, c6, xvs⟩) (KD.ro 4 rfl) (KD.ro 0 rfl))).drop (List.sublist_cons_self _ _)
                    clear KB KD FKA k5
                    have HBN := hid (show (lo ++ [(⟨xid, A6, n6, c6, xvs⟩ : Rw)]).map Rw.row = keepL d (t.rs.take (k + 1)) by rw [List.map_append, HLO.out]; exact (keepL_same (r := (xid, xvs)) HXX.out HP.out HU.out).symm)
                    have HOK2 := hid (okSnoc (P := Rw.ok) (x := (⟨xid, A6, n6, c6, xvs⟩ : Rw)) HOK.out ⟨HXO.out.id, HK0.out.2.1, HK0.out.2.2, HXO.out.vs⟩)
                    have KZ := KE.drop (List.Sublist.cons _ (List.sublist_cons_self _ _))
                    go_roundw
                    case rel => exact ⟨k + 1, q + 1, cap', C', _, by omega, by first | rfl | go_num, by omega, HBN, HOK2, KZ⟩
                    case measure => simp [intOf]; omega
                · have HP := hid (show (d.del.any fun y => decide (y.1 = xid)) = true by rw [← any_id HDR.out]; exact hp)
                  have HBN := hid (show lo.map Rw.row = keepL d (t.rs.take (k + 1)) by rw [HLO.out]; exact (keepL_gone HXX.out HP.out).symm)
                  clear hp
                  have F4 := K4.facts
                  simp only [World.size_alloc, World.size_drew, factsL, cellsF, Nat.reduceAdd, List.toList_toArray, List.set_cons_zero, List.set_cons_succ, List.setIfInBounds_toArray, and_true, true_and] at F4
                  go_wp2_with fail
                  have KZ := K4.drop ((List.sublist_cons_self _ _).trans (List.sublist_cons_self _ _))
                  go_roundw
                  case rel => exact ⟨k + 1, q, cq, O, lo, by omega, by first | rfl | go_num, by omega, HBN, HOK, KZ⟩
                  case measure => simp [intOf]; omega
              · obtain rfl : tm = k := by omega
                have hd : decide ((tm : Int) < (tm : Int)) = false := by simp
                have HLO2 := hid (show lo.map Rw.row = keepD t d from by
                  have h := HLO.out
                  rwa [keepL_all (by rw [← HTR.out, List.length_map, HTL.out]; exact Nat.le_refl _)] at h)
                clear HLO
                have F := H.facts
                simp only [World.size_alloc, World.size_drew, factsL, cellsF, Nat.reduceAdd, List.toList_toArray, List.set_cons_zero, List.set_cons_succ, List.setIfInBounds_toArray, and_true, true_and] at F
                go_wp2_with fail
                go_loopw [127] (fun iv wr => ∃ (k q cq : Nat) (O : Option Addr) (lo : List Rw) (nv : Int), k ≤ ni ∧ iv = .int .i64 k ∧ q ≤ tm + k ∧ Hid (nv = nxD t.nx (d.ins.take k)) ∧ (-9223372036854775808 ≤ nv ∧ nv ≤ 2147483649) ∧ Hid (lo.map Rw.row = keepD t d ++ d.ins.take k) ∧ Hid (∀ r ∈ lo, r.ok) ∧ Hold M none w wr [.own 53 2 (.slice O q cq) q (rwCells lo), .ro (ValsIn lo), .ro (ColsIn oA on t.cs), .blk g6 27 #[.string t.nm, .slice oA on oc, .int .i64 nv, .slice O q cq], .blk g4 27 #[.string ⟨#[]⟩, .slice none 0 0, .int .i64 0, .slice none 0 0], .cst g3 41 #[.string d.nm, .slice I ni ci, .slice D nd cd, .slice U nu cu], .cst g2 27 #[.string t.nm, .slice tA tn tc, .int .i64 t.nx, .slice tB tm td], .ro (ColsIn tA tn t.cs), .ro (RwsIn tB tm lt), .ro (RwsIn I ni li), .ro (RwsIn D nd ld), .ro (PrsIn U nu lu)]) (fun iv _ => ni - (intOf iv).toNat)
                case atStart => exact ⟨0, q, cq, O, lo, t.nx, by omega, rfl, by omega, hid rfl, by omega, hid (by rw [HLO2.out]; simp), HOK, H⟩
                case round =>
                  clear H F HLO2 HOK hq
                  clear q cq O lo
                  obtain ⟨k, q, cq, O, lo, nv, hk, rfl, hq, HNV, hnv, HLO, HOK, H⟩ := hrel
                  by_cases hlt : k < ni
                  · have hd : decide ((k : Int) < (ni : Int)) = true := by simp; omega
                    have i0 : (0 : Int) ≤ (k : Int) := by omega
                    have i1 : (k : Int) < (ni : Int) := by omega
                    obtain ⟨x, hx⟩ := get_of HIL.out hlt
                    have hxv : Ro wr _ (VlsIn x.A x.n x.vs) := (H.ro 9 rfl).imp fun w2 h2 => h2.2 x (List.mem_of_getElem? hx)
                    obtain ⟨bb, oo, rfl, hbb, c0, c1, _⟩ := (H.ro 9 rfl).now.at_ hx
                    have HXX := hid (show d.ins[k]? = some x.row by rw [← HIR.out, List.getElem?_map, hx]; rfl)
                    have HXO := hid (HIO.out x (List.mem_of_getElem? hx))
                    have hxn6 := HIN6.out x (List.mem_of_getElem? hx)
                    obtain ⟨xid, xA, xn, xc, xvs⟩ := x
                    dsimp only at *
                    clear hx
                    have KX := (H.add hxv).alloc_cst #[.int .i64 xid, .slice xA xn xc] 53
                    clear hxv H
                    obtain ⟨KL, hKL, KN⟩ := KX.name
                    have HF : Hid (∀ wv, Hold M none w wv KL → (wv.cell? ⟨g6, 3, none⟩ = some (.slice O q cq) ∧ g6 < wv.heap.size) ∧ wv.cell? ⟨wr.heap.size, 0, none⟩ = some (.int .i64 xid) ∧ wv.cell? ⟨wr.heap.size, 1, none⟩ = some (.slice xA xn xc) ∧ wr.heap.size < wv.heap.size) := hid fun wv HC => by
                      rw [hKL] at HC
                      have y1 := HC.blk_ 5 rfl
                      have y2 := HC.cst_ 0 rfl
                      exact ⟨⟨cell_of_row _ _ 3 _ _ _ y1, Blk.lt y1⟩, cell_of_row _ _ 0 _ _ _ y2, cell_of_row _ _ 1 _ _ _ y2, Blk.lt y2⟩
                    have HRX : Hid (∀ wv, Hold M none w wv KL → Ro wv (Mut M KL) (VlsIn xA xn xvs)) := hid fun wv HC => by
                      rw [hKL] at HC ⊢
                      exact HC.ro 1 rfl
                    have HKL := hid hKL
                    clear hKL KX
                    go_wp2_with fail
                    refine wp_region_any (by kernel_rfl) ?_
                    refine wpAny_hold 5 152 (KL) (spL [(134, RowSlot (Mut M KL) xid xvs), (135, RBoxSlot (Mut M KL) xid xvs)]) (by kernel_rfl) (by kernel_rfl) (by kernel_rfl) rfl ?_ (KN.drew) ?_
                    · exact stays_cons rowSlot_mono (stays_cons rboxSlot_mono (stays_nil _))
                    simp only [List.take_succ_cons, List.take_zero, List.drop_succ_cons, List.drop_zero, Act.put, List.getElem_toArray, List.getElem_cons_zero, List.getElem_cons_succ, List.setIfInBounds_toArray, List.set_cons_succ, List.set_cons_zero]
                    refine dw_val rfl rfl rfl ?_; apply Exists.intro; refine ⟨fun wv HC => ?_, ?_⟩
                    ·  go_simp <;> rfl
                    simp only [Act.put, List.setIfInBounds_toArray, List.set_cons_succ, List.set_cons_zero]
                    refine dw_val rfl rfl rfl ?_; apply Exists.intro; refine ⟨fun wv HC => ?_, ?_⟩
                    · obtain ⟨⟨f0, f1⟩, f2, f3, f4⟩ := HF.out _ HC; go_simp <;> rfl
                    simp only [Act.put, List.setIfInBounds_toArray, List.set_cons_succ, List.set_cons_zero]
                    refine dw_val rfl rfl rfl ?_; apply Exists.intro; refine ⟨fun wv HC => ?_, ?_⟩
                    · obtain ⟨⟨f0, f1⟩, f2, f3, f4⟩ := HF.out _ HC; go_simp <;> rfl
                    simp only [Act.put, List.setIfInBounds_toArray, List.set_cons_succ, List.set_cons_zero]
                    refine dw_callR 134 (RowSlot (Mut M KL) xid xvs) (f := 61) (args := #[.agg #[.int .i64 xid, .slice xA xn xc]]) rfl rfl rfl rfl (fun wv => ?_) (fun wv HC hrm hD => ?_) ?_
                    · go_simp <;> rfl
                    · refine (dcopied_any _ wv HC.mutLt xid xA xn xc xvs (HRX.out _ HC) (by omega)).mono ?_
                      rintro e w5 ⟨A5, n5, c5, rfl, h50, h51, h52, h53, b5⟩
                      exact ⟨_, rfl, ⟨A5, n5, c5, rfl, h50, h51, h52, h53⟩, HC.call b5, RM.below b5⟩
                    rintro x_ wx HCx ⟨A5, n5, c5, rfl, -, -, -, -⟩
                    clear HCx
                    simp only [Act.put, List.setIfInBounds_toArray, List.set_cons_succ, List.set_cons_zero]
                    refine dw_new #[.int .i64 xid, .slice A5 n5 c5] 53 135 (RBoxSlot (Mut M KL) xid xvs) (fun g => .slice (some ⟨g, 0, none⟩) 1 1) rfl rfl rfl rfl (fun wv => ?_) (fun wv HC _hrm hD hro => ?_) ?_
                    · go_simp <;> rfl
                    · have hsl : RowSlot (Mut M KL) xid xvs (.agg #[.int .i64 xid, .slice A5 n5 c5]) wv := deps_at hD 3 rfl (by kernel_rfl) rfl rfl
                      obtain ⟨A6, n6, c6, e6, h1, h2, h3, h4⟩ := hsl
                      obtain ⟨rfl, rfl, rfl⟩ : A5 = A6 ∧ n5 = n6 ∧ c5 = c6 := by
                        injection e6 with e6
                        simp at e6
                        exact e6
                      exact ⟨_, A5, n5, c5, rfl, h1, h2, h3, h4.step (by simp) (fun b hb _ => Below.heap_alloc wv _ b hb) (fun _ _ h => h), ro_block (hro _ HC.mutLt) rfl⟩
                    rintro gn wg HCg hsl
                    simp only [Act.put, List.setIfInBounds_toArray, List.set_cons_succ, List.set_cons_zero]
                    clear hsl HCg
                    refine rel_nil ?_
                    rintro wx2 HX
                    rintro _hrm HGW
                    have hb2 : RBoxSlot (Mut M KL) xid xvs (.slice (some ⟨gn, 0, none⟩) 1 1) wx2 := (GW_on (d := 135) rfl).1 (HGW 4 _ rfl (by omega))
                    clear HGW _hrm
                    obtain ⟨gq, A6, n6, c6, e6, k0_, k1_, k2_, k3_, k4_⟩ := hb2
                    obtain rfl : gn = gq := by injection e6 with e6; injection e6 with e6; injection e6
                    clear e6
                    rw [HKL.out] at HX k3_
                    have k5 := hid k4_.now
                    have HK0 := hid (And.intro k0_ (And.intro k1_ k2_))
                    clear k4_ k0_ k1_ k2_ HF HRX KN
                    have HRS := hid (show rwCells lo ++ [.int .i64 xid, .slice A6 n6 c6] = rwCells (lo ++ [⟨xid, A6, n6, c6, xvs⟩]) from rwCells_snoc1 _ _ _ _ _ _)
                    have KA := HX.add k3_
                    clear HX k3_
                    have FKA := KA.facts
                    simp only [World.size_alloc, World.size_drew, factsL, cellsF, Nat.reduceAdd, List.toList_toArray, List.set_cons_zero, List.set_cons_succ, List.setIfInBounds_toArray, and_true, true_and] at FKA
                    go_wp2_with (at_builtin; go_must (refine wpList_appAllH KA 3 rfl Tryd.elRw k5.out rfl (.tmp 132) (.tmp 135) rfl rfl rfl (by intro z hz; simp at hz; rcases hz with rfl | rfl <;> rfl) (by omega) (by omega) ?_); intro C' cap' w6 hc6 hm6 KB; rw [HRS.out] at KB; simp only [List.set_cons_zero, List.set_cons_succ] at KB; (have F3 := KB.facts); simp only [World.size_alloc, World.size_drew, factsL, cellsF, Nat.reduceAdd, List.toList_toArray, List.set_cons_zero, List.set_cons_succ, List.setIfInBounds_toArray, and_true, true_and] at F3; (have N3 := KB.nes); simp only [World.size_alloc, nesL, neF, List.set_cons_zero, List.set_cons_succ, and_true, true_and] at N3)
                    have KD := KB.store 6 rfl 3 (.slice C' (q + 1) cap')
                    have KE := (KD.swapRo 4 rfl (vals_snoc (r := ⟨xid, A6, n6, c6, xvs⟩) (KD.ro 4 rfl) (KD.ro 0 rfl))).drop (List.sublist_cons_self _ _)
                    clear KB KD FKA k5
                    have hmx : nxD t.nx (d.ins.take (k + 1)) = max nv (min xid 2147483648 + 1) := by rw [nxD_take HXX.out, ← HNV.out]; rfl
                    rw [wrap_min (x := xid) HXO.out.id]
                    have hnv2 : -9223372036854775808 ≤ max nv (min xid 2147483648 + 1) ∧ max nv (min xid 2147483648 + 1) ≤ 2147483649 := by have := HXO.out.id; omega
                    have KE2 := KE.store 5 rfl 2 (.int .i64 (max nv (min xid 2147483648 + 1)))
                    have HBN := hid (show (lo ++ [(⟨xid, A6, n6, c6, xvs⟩ : Rw)]).map Rw.row = keepD t d ++ d.ins.take (k + 1) by rw [List.map_append, HLO.out, List.take_add_one, HXX.out, List.append_assoc]; rfl)
                    have HOK2 := hid (okSnoc (P := Rw.ok) (x := (⟨xid, A6, n6, c6, xvs⟩ : Rw)) HOK.out ⟨HXO.out.id, HK0.out.2.1, HK0.out.2.2, HXO.out.vs⟩)
                    have KZ := KE2.drop (List.Sublist.cons _ (List.sublist_cons_self _ _))
                    go_roundw
                    case rel => exact ⟨k + 1, q + 1, cap', C', _, _, by omega, by first | rfl | go_num, by omega, hid hmx.symm, hnv2, HBN, HOK2, KZ⟩
                    case measure => simp [intOf]; omega
                  · obtain rfl : ni = k := by omega
                    have hd : decide ((ni : Int) < (ni : Int)) = false := by simp
                    have HLO2 := hid (show lo.map Rw.row = keepD t d ++ d.ins from by
                      have h := HLO.out
                      rwa [List.take_of_length_le (by rw [← HIR.out, List.length_map, HIL.out]; exact Nat.le_refl _)] at h)
                    have HNV2 := hid (show nv = nxD t.nx d.ins from by
                      have h := HNV.out
                      rwa [List.take_of_length_le (by rw [← HIR.out, List.length_map, HIL.out]; exact Nat.le_refl _)] at h)
                    clear HLO HNV
                    obtain ⟨hq1, hq2, _⟩ := own_caps (H.get 0 rfl)
                    have KS := H.sealRow 0 rfl
                    simp only [List.set_cons_zero] at KS
                    have KR := KS.swapRo 0 rfl (show Ro _ _ (RwsIn O q lo) from (KS.ro 0 rfl).and (KS.ro 1 rfl))
                    simp only [List.set_cons_zero] at KR
                    clear H KS
                    have F := KR.facts
                    simp only [World.size_alloc, World.size_drew, factsL, cellsF, Nat.reduceAdd, List.toList_toArray, List.set_cons_zero, List.set_cons_succ, List.setIfInBounds_toArray, and_true, true_and] at F
                    go_wp2_with fail
                    have hv := tvalid_any _ _ KR.mutLt t.nm oA on oc t.cs nv O q cq lo (KR.ro 2 rfl) (KR.ro 0 rfl) (by omega) (by omega) HOK.out hst hct
                    rw [HLO2.out] at hv
                    refine hv.mono ?_
                    clear hv
                    rintro e w7 ⟨rfl, b7⟩
                    have K7 := KR.call b7
                    clear KR b7 F
                    have F := K7.facts
                    simp only [World.size_alloc, World.size_drew, factsL, cellsF, Nat.reduceAdd, List.toList_toArray, List.set_cons_zero, List.set_cons_succ, List.setIfInBounds_toArray, and_true, true_and] at F
                    cases hvv : tabB t.nm t.cs nv (keepD t d ++ d.ins)
                    · have HN := hid (applyD_6 (t := t) (d := d) (by rw [HNV2.out] at hvv; exact hvv))
                      clear hvv
                      go_wp2_with fail
                      have KN := (((K7.store 4 rfl 0 (.string ⟨#[]⟩)).store 4 rfl 1 (.slice none 0 0)).store 4 rfl 2 (.int .i64 0)).store 4 rfl 3 (.slice none 0 0)
                      go_wp2_with fail
                      exact bodyPost_ret (v := .tuple #[.agg #[.string ⟨#[]⟩, .slice none 0 0, .int .i64 0, .slice none 0 0], .bool false]) (by simp [results, Tryd.results23, go_sem, F]) rfl ⟨_, by rw [HN.out], by rw [HN.out]; exact tbAt_zero, KN.below⟩
                    · have HN := hid (applyD_ok (t := t) (d := d) HOKS.out.1 HOKS.out.2.1 HOKS.out.2.2.1 HOKS.out.2.2.2 HPR.out (by rw [HNV2.out] at hvv; exact hvv))
                      clear hvv
                      have KN := (((K7.store 4 rfl 0 (.string t.nm)).store 4 rfl 1 (.slice oA on oc)).store 4 rfl 2 (.int .i64 nv)).store 4 rfl 3 (.slice O q cq)
                      have r1 := KN.roOut 2 rfl
                      have r2 := KN.roOut 0 rfl
                      have NK := K7.nes
                      simp only [nesL, neF, and_true, true_and] at NK
                      clear K7
                      go_wp2_with fail
                      exact bodyPost_ret (v := .tuple #[.agg #[.string t.nm, .slice oA on oc, .int .i64 nv, .slice O q cq], .bool true]) (by simp [results, Tryd.results23, go_sem, F, NK]) rfl ⟨_, by rw [HN.out], by rw [HN.out]; exact ⟨oA, on, oc, O, q, cq, lo, by rw [HNV2.out]; rfl, HOC.out.1, HOC.out.2, hq1, hq2, r1, r2, HOK.out, HLO2.out⟩, KN.below⟩
end Go.Proofs.YtjpgbhakkfgecaaDoor

namespace Go.Proofs.YtjpgbhakkfgecaaDoor
open Go.RowKit
set_option linter.unusedVariables false
set_option linter.unusedSimpArgs false

def rowsN (ni nd nu : Nat) (e : Int) : Int := if e = 1 then ni else if e = 2 then nu else if e = 3 then nd else 0
set_option maxHeartbeats 1000000 in
theorem drows_any (w : World) (s : ByteArray) (I : Option Addr) (ni ci : Nat) (D : Option Addr) (nd cd : Nat) (U : Option Addr) (nu cu : Nat) (e : Int) : Calls Tryd.prog 47 #[.agg #[.string s, .slice I ni ci, .slice D nd cd, .slice U nu cu], .int .i64 e] w fun e' w' => e' = .returned (.int .i64 (rowsN ni nd nu e)) ∧ Below w.heap.size w w' := by
  have K0 := (Hold.begin_ w).alloc_cst #[.string s, .slice I ni ci, .slice D nd cd, .slice U nu cu] 41
  have F0 := K0.facts
  simp only [World.size_alloc, World.size_drew, factsL, cellsF, Nat.reduceAdd, List.toList_toArray, List.set_cons_zero, List.set_cons_succ, List.setIfInBounds_toArray, and_true, true_and] at F0
  by_cases h1 : e = 1
  · subst h1
    have HN := hid (show rowsN ni nd nu 1 = ni from rfl)
    go_enter Tryd.func47, Tryd.ntmps47
    go_wp2_with fail
    go_ret
    exact ⟨by rw [HN.out] <;> rfl, K0.below⟩
  · have e1 : (e == 1) = false := by simpa using h1
    by_cases h2 : e = 2
    · subst h2
      have HN := hid (show rowsN ni nd nu 2 = nu from rfl)
      clear h1
      go_enter Tryd.func47, Tryd.ntmps47
      go_wp2_with fail
      go_ret
      exact ⟨by rw [HN.out] <;> rfl, K0.below⟩
    · have e2 : (e == 2) = false := by simpa using h2
      by_cases h3 : e = 3
      · subst h3
        have HN := hid (show rowsN ni nd nu 3 = nd from rfl)
        clear h1 h2
        go_enter Tryd.func47, Tryd.ntmps47
        go_wp2_with fail
        go_ret
        exact ⟨by rw [HN.out] <;> rfl, K0.below⟩
      · have e3 : (e == 3) = false := by simpa using h3
        have HN := hid (show rowsN ni nd nu e = 0 by unfold rowsN; rw [if_neg h1, if_neg h2, if_neg h3])
        clear h1 h2 h3
        go_enter Tryd.func47, Tryd.ntmps47
        go_wp2_with fail
        go_ret
        exact ⟨by rw [HN.out] <;> rfl, K0.below⟩
set_option maxHeartbeats 1000000 in
theorem dempty_any (w : World) (s : ByteArray) (I : Option Addr) (ni ci : Nat) (D : Option Addr) (nd cd : Nat) (U : Option Addr) (nu cu : Nat) : Calls Tryd.prog 24 #[.agg #[.string s, .slice I ni ci, .slice D nd cd, .slice U nu cu]] w fun e' w' => e' = .returned (.bool (decide (ni = 0 ∧ nd = 0 ∧ nu = 0))) ∧ Below w.heap.size w w' := by
  have K0 := (Hold.begin_ w).alloc_cst #[.string s, .slice I ni ci, .slice D nd cd, .slice U nu cu] 41
  have F0 := K0.facts
  simp only [World.size_alloc, World.size_drew, factsL, cellsF, Nat.reduceAdd, List.toList_toArray, List.set_cons_zero, List.set_cons_succ, List.setIfInBounds_toArray, and_true, true_and] at F0
  by_cases h1 : ni = 0
  · have e1 : ((ni : Int) == 0) = true := by simp [h1]
    have HN1 := hid h1
    clear h1
    by_cases h2 : nd = 0
    · have e2 : ((nd : Int) == 0) = true := by simp [h2]
      have HN2 := hid h2
      clear h2
      by_cases h3 : nu = 0
      · have e3 : ((nu : Int) == 0) = true := by simp [h3]
        have HN := hid (show decide (ni = 0 ∧ nd = 0 ∧ nu = 0) = true by simp [HN1.out, HN2.out, h3])
        clear h3
        go_enter Tryd.func24, Tryd.ntmps24
        go_wp2_with fail
        go_ret
        exact ⟨by rw [HN.out] <;> first | rfl | simp, K0.below⟩
      · have e3 : ((nu : Int) == 0) = false := by simp; omega
        have HN := hid (show decide (ni = 0 ∧ nd = 0 ∧ nu = 0) = false by simp [h3])
        clear h3
        go_enter Tryd.func24, Tryd.ntmps24
        go_wp2_with fail
        go_ret
        exact ⟨by rw [HN.out] <;> first | rfl | simp, K0.below⟩
    · have e2 : ((nd : Int) == 0) = false := by simp; omega
      have HN := hid (show decide (ni = 0 ∧ nd = 0 ∧ nu = 0) = false by simp [h2])
      clear h2
      go_enter Tryd.func24, Tryd.ntmps24
      go_wp2_with fail
      go_ret
      exact ⟨by rw [HN.out] <;> first | rfl | simp, K0.below⟩
  · have e1 : ((ni : Int) == 0) = false := by simp; omega
    have HN := hid (show decide (ni = 0 ∧ nd = 0 ∧ nu = 0) = false by simp [h1])
    clear h1
    go_enter Tryd.func24, Tryd.ntmps24
    go_wp2_with fail
    go_ret
    exact ⟨by rw [HN.out] <;> first | rfl | simp, K0.below⟩
theorem k8_bet : betweenC ⟨nmLog, logCols, 2, [(1, [vNil, vNil])]⟩ ⟨nmLog, logCols, 3, [(2, [vNil, vNil])]⟩ = (true, ⟨nmLog, [(2, [vNil, vNil])], [(1, [vNil, vNil])], []⟩) := by decide +kernel
set_option maxHeartbeats 4000000 in
set_option maxRecDepth 100000 in
theorem known8 : Gives 11 #[] (.bool true) := by
  intro w
  have K0 := Hold.begin_ w
  have HS := hid small_u
  have HB := hid k8_bet
  go_enter Tryd.func11, Tryd.ntmps11
  go_wp2_with fail
  refine (schema_log _ _ K0.mutLt).mono ?_
  rintro e w1 ⟨A, n, c, rfl, h1, h2, r1, b1⟩
  have K1 := (K0.call b1).add r1
  clear K0 r1 b1
  generalize hU : nmLog = nl at *
  generalize hC : logCols = lc at *
  have HU := hid hU
  have HC := hid hC
  clear hU hC
  have hn2 : lc.length = n := cols_n (K1.ro 0 rfl).now
  have K2 := (((K1.alloc_cst #[.string nl, .slice A n c] 24).alloc_cst #[.int .i64 0, .int .i64 0, .string ⟨#[]⟩, .int .i64 0, .int .i64 0, .string ⟨#[]⟩] 71).alloc_cst #[.int .i64 1, .slice (some ⟨w1.heap.size + 1, 0, none⟩) 2 2] 53).alloc_cst #[.int .i64 2, .slice (some ⟨w1.heap.size + 1, 0, none⟩) 2 2] 53
  simp only [World.size_alloc] at K2
  have q1 : Ro _ _ (VlsIn (some ⟨w1.heap.size + 1, 0, none⟩) 2 [vNil, vNil]) := ro_block (t := 71) (cs := #[.int .i64 0, .int .i64 0, .string ⟨#[]⟩, .int .i64 0, .int .i64 0, .string ⟨#[]⟩]) (K2.get 2 rfl) rfl
  have q2 : Ro _ _ (SlR 2 (some ⟨w1.heap.size + 1 + 1, 0, none⟩) 1 (rwCells [⟨1, some ⟨w1.heap.size + 1, 0, none⟩, 2, 2, [vNil, vNil]⟩])) := ro_block (t := 53) (cs := #[.int .i64 1, .slice (some ⟨w1.heap.size + 1, 0, none⟩) 2 2]) (K2.get 1 rfl) rfl
  have q3 : Ro _ _ (SlR 2 (some ⟨w1.heap.size + 1 + 1 + 1, 0, none⟩) 1 (rwCells [⟨2, some ⟨w1.heap.size + 1, 0, none⟩, 2, 2, [vNil, vNil]⟩])) := ro_block (t := 53) (cs := #[.int .i64 2, .slice (some ⟨w1.heap.size + 1, 0, none⟩) 2 2]) (K2.get 0 rfl) rfl
  have q4 : Ro _ _ (RwsIn (some ⟨w1.heap.size + 1 + 1, 0, none⟩) 1 [⟨1, some ⟨w1.heap.size + 1, 0, none⟩, 2, 2, [vNil, vNil]⟩]) := q2.and (fun w2 h1 h2 r hr => by
    simp only [List.mem_cons, List.not_mem_nil, or_false] at hr
    subst hr
    exact q1 w2 h1 h2)
  have q5 : Ro _ _ (RwsIn (some ⟨w1.heap.size + 1 + 1 + 1, 0, none⟩) 1 [⟨2, some ⟨w1.heap.size + 1, 0, none⟩, 2, 2, [vNil, vNil]⟩]) := q3.and (fun w2 h1 h2 r hr => by
    simp only [List.mem_cons, List.not_mem_nil, or_false] at hr
    subst hr
    exact q1 w2 h1 h2)
  have F2 := K2.facts
  simp only [World.size_alloc, World.size_drew, factsL, cellsF, Nat.reduceAdd, List.toList_toArray, List.set_cons_zero, List.set_cons_succ, List.setIfInBounds_toArray, and_true, true_and] at F2
  have hok : ∀ (i : Int) (hi : I64 i), (Rw.ok ⟨i, some ⟨w1.heap.size + 1, 0, none⟩, 2, 2, [vNil, vNil]⟩) := fun i hi => ⟨hi, by simp, by simp, fun v hv => by
    simp only [List.mem_cons, List.not_mem_nil, or_false] at hv
    rcases hv with rfl | rfl <;> exact vNil_ok⟩
  have ha : TbAt _ (Mut None_ _) (.agg #[.string nl, .slice A n c, .int .i64 2, .slice (some ⟨w1.heap.size + 1 + 1, 0, none⟩) 1 1]) ⟨nl, lc, 2, [(1, [vNil, vNil])]⟩ := ⟨A, n, c, _, 1, 1, _, rfl, h1, by omega, by omega, by omega, K2.ro 4 rfl, q4, fun r hr => by simp only [List.mem_cons, List.not_mem_nil, or_false] at hr; subst hr; exact hok 1 (by unfold I64; omega), rfl⟩
  have hb : TbAt _ (Mut None_ _) (.agg #[.string nl, .slice A n c, .int .i64 3, .slice (some ⟨w1.heap.size + 1 + 1 + 1, 0, none⟩) 1 1]) ⟨nl, lc, 3, [(2, [vNil, vNil])]⟩ := ⟨A, n, c, _, 1, 1, _, rfl, h1, by omega, by omega, by omega, K2.ro 4 rfl, q5, fun r hr => by simp only [List.mem_cons, List.not_mem_nil, or_false] at hr; subst hr; exact hok 2 (by unfold I64; omega), rfl⟩
  go_wp2_with fail
  have hk := dbetw_any _ _ K2.mutLt _ _ _ _ ha hb HS.out.2.2.1 HS.out.2.2.2 (by show (1 : Nat) ≤ _; omega) HS.out.2.2.1 HS.out.2.2.2 (by show (1 : Nat) ≤ _; omega)
  rw [HB.out] at hk
  refine hk.mono ?_
  clear hk ha hb q1 q2 q3 q4 q5 hok F2
  rintro e w2 ⟨v, rfl, ⟨I, ni, ci, D, nd, cd, U, nu, cu, li, ld, lu, rfl, -, -, -, r1, r2, r3, -, -, -, e1, e2, e3⟩, b2⟩
  dsimp only at e1 e2 e3 ⊢
  obtain rfl : 1 = ni := by have h := r1.now.len; have h2 := congrArg List.length e1; rw [List.length_map] at h2; simp at h2; omega
  obtain rfl : 1 = nd := by have h := r2.now.len; have h2 := congrArg List.length e2; rw [List.length_map] at h2; simp at h2; omega
  obtain rfl : 0 = nu := by have h := r3.now.len; have h2 := congrArg List.length e3; rw [List.length_map] at h2; have h3 : lu.length = 0 := h2; omega
  have K3 := (K2.call b2).alloc_cst #[.string nl, .slice I 1 ci, .slice D 1 cd, .slice U 0 cu] 41
  clear K2 b2 r1 r2 r3 e1 e2 e3
  have F3 := K3.facts
  simp only [World.size_alloc, World.size_drew, factsL, cellsF, Nat.reduceAdd, List.toList_toArray, List.set_cons_zero, List.set_cons_succ, List.setIfInBounds_toArray, and_true, true_and] at F3
  go_wp2_with fail
  refine (drows_any _ nl I 1 ci D 1 cd U 0 cu 1).mono ?_
  rintro e w3 ⟨rfl, b3⟩
  have K4 := K3.call b3
  have F4 := K4.facts
  simp only [World.size_alloc, World.size_drew, factsL, cellsF, Nat.reduceAdd, List.toList_toArray, List.set_cons_zero, List.set_cons_succ, List.setIfInBounds_toArray, and_true, true_and] at F4
  rw [show rowsN 1 1 0 1 = 1 from rfl]
  clear K3 F3 b3
  go_wp2_with fail
  refine (drows_any _ nl I 1 ci D 1 cd U 0 cu 3).mono ?_
  rintro e w4 ⟨rfl, b3⟩
  have K5 := K4.call b3
  have F5 := K5.facts
  simp only [World.size_alloc, World.size_drew, factsL, cellsF, Nat.reduceAdd, List.toList_toArray, List.set_cons_zero, List.set_cons_succ, List.setIfInBounds_toArray, and_true, true_and] at F5
  rw [show rowsN 1 1 0 3 = 1 from rfl]
  clear K4 F4 b3
  go_wp2_with fail
  refine (drows_any _ nl I 1 ci D 1 cd U 0 cu 2).mono ?_
  rintro e w5 ⟨rfl, b3⟩
  have K6 := K5.call b3
  have F6 := K6.facts
  simp only [World.size_alloc, World.size_drew, factsL, cellsF, Nat.reduceAdd, List.toList_toArray, List.set_cons_zero, List.set_cons_succ, List.setIfInBounds_toArray, and_true, true_and] at F6
  rw [show rowsN 1 1 0 2 = 0 from rfl]
  clear K5 F5 b3
  go_wp2_with fail
  refine (dempty_any _ nl I 1 ci D 1 cd U 0 cu).mono ?_
  rintro e w6 ⟨rfl, b3⟩
  have K7 := K6.call b3
  rw [show decide (1 = 0 ∧ 1 = 0 ∧ 0 = 0) = false from rfl]
  clear K6 F6 b3
  go_wp2_with fail
  go_ret
  exact ⟨by first | rfl | simp, K7.below⟩
end Go.Proofs.YtjpgbhakkfgecaaDoor

namespace Go.Proofs.YtjpgbhakkfgecaaDoor
open Go.RowKit
set_option linter.unusedVariables false
set_option linter.unusedSimpArgs false

theorem betD_len {a b : Tb} (ha : VTab a) (hb : VTab b) : (betD a b).ins.length ≤ 100 ∧ (betD a b).del.length ≤ 100 ∧ (betD a b).upd.length ≤ 100 ∧ (∀ r ∈ (betD a b).ins, r.2.length ≤ 4) ∧ ∀ u ∈ (betD a b).upd, u.2.2.length ≤ 4 := by
  have h1 := ha.rows
  have h2 := hb.rows
  refine ⟨?_, ?_, ?_, fun r hr => hb.len r (List.mem_filter.1 hr).1, fun u hu => ?_⟩
  · have := List.length_filter_le (fun r : Row => (getR a.rs r.1).isNone) b.rs
    show (offR a.rs b.rs).length ≤ _
    unfold offR
    omega
  · have := List.length_filter_le (fun r : Row => (getR b.rs r.1).isNone) a.rs
    show (offR b.rs a.rs).length ≤ _
    unfold offR
    omega
  · have : (turnR a.rs b.rs).length ≤ b.rs.length := List.length_filterMap_le _ _
    show (turnR a.rs b.rs).length ≤ _
    omega
  · obtain ⟨r, hr, h3⟩ := List.mem_filterMap.1 hu
    split at h3
    · split at h3
      · cases h3
      · injection h3 with h3
        rw [← h3]
        exact hb.len r hr
    · cases h3
set_option maxHeartbeats 8000000 in
set_option maxRecDepth 100000 in
theorem dlforms_walk (A : Option Addr) (n c : Nat) (zs : List Int) (w : World) (hr : Rd w w.heap.size 1 A n (zs.map (Value.int .i64))) (hz : Ints zs) (hn : n ≤ c) (hc : c ≤ 9223372036854775807) (hw : Wds w) :
    Calls Tryd.prog 5 #[.slice A n c] w fun e w' => e = .returned (.bool true) ∧ Below w.heap.size w w' := by
  have hwl := hw.lt
  have K0 := Hold.begin_ w
  go_enter Tryd.func5, Tryd.ntmps5
  go_wp2_with fail
  refine (new_any A n c zs _ hr hz hn hc).mono ?_
  rintro e w1 ⟨T, rfl, hT, t1, b1⟩
  have K1 := Hold.newTape K0 b1 t1 hT (by simp [Mut, None_, Hp.foot])
  have wd0 : Wds w1 := hw.below b1 hwl
  have hT1 : 1 < T := by omega
  have K2 := K1.add (wd0.ro2 (show ¬ Mut None_ [.tp T] 1 by simp [Mut, None_, Hp.foot]; omega))
  clear K1 K0 wd0 t1 b1 hw hr hwl hT
  go_wp2_with fail
  refine (tname_any (Mut None_ _) T _ K2.mutLt (K2.tp_ 1 rfl) (K2.get 1 rfl).2).mono ?_
  rintro e w2 ⟨s, rfl, hs, t2, g2⟩
  have K3 := Hold.callT K2 1 rfl g2 t2
  clear K2 t2 g2
  have HSO0 := hid (schOk_name hs)
  clear hs
  go_wp2_with fail
  refine (schema_any (Mut None_ _) _ K3.mutLt s).mono ?_
  rintro e w3 ⟨A2, n2, c2, rfl, hc1, hc2, r3, b3⟩
  have K4 := (K3.call b3).add r3
  clear K3 b3 r3
  go_wp2_with fail
  have hn2 : (schemaOf s).2.length = n2 := cols_n (K4.ro 0 rfl).now
  have hl2 := HSO0.out.len
  refine (tof_slot (Mut None_ _) T _ K4.mutLt (K4.tp_ 2 rfl) (K4.get 2 rfl).2 _ A2 n2 c2 _ 7 ((K4.ro 0 rfl).less (mut_tp (i := 2) rfl)) hc1 (by omega) HSO0.out ((K4.ro 1 rfl).less (mut_tp (i := 2) rfl)) hT1 (by omega)).mono ?_
  clear hn2 hl2
  rintro e w5 ⟨v, t, rfl, ⟨A3, n3, c3, B, m, d, l, rfl, h31, h32, hmd, hd2, r4c, r4, hlk, hlr⟩, htv, -, -, hrl, t4, g4'⟩
  dsimp only at r4c hlr ⊢
  have K5 := ((Hold.callT K4 2 rfl g4' t4).add r4).add (r4c.less (mut_none rfl))
  have HVT := hid htv
  have HT3 := hid (And.intro h31 (And.intro h32 (And.intro hmd (And.intro hd2 (And.intro hlk hlr)))))
  have HBX := hid (show t.rs.length ≤ 4398046511104 from by omega)
  clear K4 t4 g4' hc1 hc2 r4 r4c hlk hlr htv hrl hmd hd2 h31 h32
  have K6 := K5.alloc_cst #[.string t.nm, .slice A3 n3 c3, .int .i64 t.nx, .slice B m d] 27
  clear K5
  obtain ⟨g8, hg8⟩ : ∃ g8, g8 = w5.heap.size := ⟨_, rfl⟩
  rw [← hg8] at K6
  have FA := K6.facts
  simp only [World.size_alloc, World.size_drew, factsL, cellsF, Nat.reduceAdd, List.toList_toArray, List.set_cons_zero, List.set_cons_succ, List.setIfInBounds_toArray, and_true, true_and] at FA
  go_wp2_with fail
  rw [← hg8]
  have HG8 := hid hg8
  clear hg8
  generalize World.alloc w5 _ = w5' at K6 FA ⊢
  have hT : TbAt w5' (Mut (Mut None_ _) [.tp T]) (.agg #[.string t.nm, .slice A3 n3 c3, .int .i64 t.nx, .slice B m d]) t := ⟨A3, n3, c3, B, m, d, l, rfl, HT3.out.1, HT3.out.2.1, HT3.out.2.2.1, HT3.out.2.2.2.1, (K6.ro 1 rfl).less (mut_tp (i := 5) rfl), (K6.ro 2 rfl).less (mut_tp (i := 5) rfl), HT3.out.2.2.2.2.1, HT3.out.2.2.2.2.2⟩
  refine (later_any (Mut None_ _) T _ K6.mutLt (K6.tp_ 5 rfl) (K6.get 5 rfl).2 _ t hT HVT.out ((K6.ro 4 rfl).less (mut_tp (i := 5) rfl)) hT1).mono ?_
  clear hT
  rintro e w6 ⟨v, u, rfl, ⟨A5, n5, c5, B5, m5, d5, l5, rfl, h51, h52, h53, h54, r5c, r5, h57, h58⟩, huv, hlt, t5, g5'⟩
  have K7 := (((Hold.callT K6 5 rfl g5' t5).add r5).add (r5c.less (mut_none rfl))).alloc_cst #[.string u.nm, .slice A5 n5 c5, .int .i64 u.nx, .slice B5 m5 d5] 27
  have HVU := hid huv
  have HLT := hid hlt
  have HT5 := hid (And.intro h51 (And.intro h52 (And.intro h53 (And.intro h54 (And.intro h57 h58)))))
  have HBY := hid (show u.rs.length ≤ 4398046511104 from by have := huv.rows; omega)
  clear K6 FA t5 g5' r5c r5 h51 h52 h53 h54 h57 h58 huv hlt
  obtain ⟨g9, hg9⟩ : ∃ g9, g9 = w6.heap.size := ⟨_, rfl⟩
  rw [← hg9] at K7
  have FA := K7.facts
  simp only [World.size_alloc, World.size_drew, factsL, cellsF, Nat.reduceAdd, List.toList_toArray, List.set_cons_zero, List.set_cons_succ, List.setIfInBounds_toArray, and_true, true_and] at FA
  go_wp2_with fail
  rw [← hg9]
  have HG9 := hid hg9
  clear hg9 FA
  generalize World.alloc w6 _ = w7 at K7 ⊢
  have hTt : TbAt w7 (Mut None_ _) (.agg #[.string t.nm, .slice A3 n3 c3, .int .i64 t.nx, .slice B m d]) t := ⟨A3, n3, c3, B, m, d, l, rfl, HT3.out.1, HT3.out.2.1, HT3.out.2.2.1, HT3.out.2.2.2.1, K7.ro 4 rfl, K7.ro 5 rfl, HT3.out.2.2.2.2.1, HT3.out.2.2.2.2.2⟩
  have hTu : TbAt w7 (Mut None_ _) (.agg #[.string u.nm, .slice A5 n5 c5, .int .i64 u.nx, .slice B5 m5 d5]) u := ⟨A5, n5, c5, B5, m5, d5, l5, rfl, HT5.out.1, HT5.out.2.1, HT5.out.2.2.1, HT5.out.2.2.2.1, K7.ro 1 rfl, K7.ro 2 rfl, HT5.out.2.2.2.2.1, HT5.out.2.2.2.2.2⟩
  have hk := dbetw_any _ _ K7.mutLt _ _ t u hTt hTu HVT.out.sch.nm HVT.out.sch.cs HBX.out HVU.out.sch.nm HVU.out.sch.cs HBY.out
  rw [betC_later HVT.out.val HVU.out.val HLT.out] at hk
  refine hk.mono ?_
  clear hk hTt hTu
  rintro e w8 ⟨v, rfl, ⟨I1, ni1, ci1, D1, nd1, cd1, U1, nu1, cu1, li1, ld1, lu1, rfl, q11, q12, q13, r1, r2, r3, o11, o12, o13, e11, e12, e13⟩, b1⟩
  dsimp only at e11 e12 e13 ⊢
  have K8 := (((K7.call b1).add r3).add (r2.less (mut_none rfl))).add ((r1.less (mut_none rfl)).less (mut_none rfl)) |>.alloc_cst #[.string (betD t u).nm, .slice I1 ni1 ci1, .slice D1 nd1 cd1, .slice U1 nu1 cu1] 41
  have HD1 := hid (And.intro q11 (And.intro q12 (And.intro q13 (And.intro o11 (And.intro o12 (And.intro o13 (And.intro e11 (And.intro e12 e13))))))))
  clear K7 b1 r1 r2 r3 q11 q12 q13 o11 o12 o13 e11 e12 e13
  have FA := K8.facts
  simp only [World.size_alloc, World.size_drew, factsL, cellsF, Nat.reduceAdd, List.toList_toArray, List.set_cons_zero, List.set_cons_succ, List.setIfInBounds_toArray, and_true, true_and] at FA
  go_wp2_with fail
  obtain ⟨ga, hga⟩ : ∃ g, g = w8.heap.size := ⟨_, rfl⟩
  rw [← hga] at K8 FA ⊢
  have HGA := hid hga
  clear hga
  generalize World.alloc w8 _ = w8' at K8 FA ⊢
  have hTt : TbAt w8' (Mut None_ _) (.agg #[.string t.nm, .slice A3 n3 c3, .int .i64 t.nx, .slice B m d]) t := ⟨A3, n3, c3, B, m, d, l, rfl, HT3.out.1, HT3.out.2.1, HT3.out.2.2.1, HT3.out.2.2.2.1, K8.ro 8 rfl, K8.ro 9 rfl, HT3.out.2.2.2.2.1, HT3.out.2.2.2.2.2⟩
  have hDd : DlAt w8' (Mut None_ _) (.agg #[.string (betD t u).nm, .slice I1 ni1 ci1, .slice D1 nd1 cd1, .slice U1 nu1 cu1]) (betD t u) := ⟨I1, ni1, ci1, D1, nd1, cd1, U1, nu1, cu1, li1, ld1, lu1, rfl, HD1.out.1, HD1.out.2.1, HD1.out.2.2.1, K8.ro 1 rfl, K8.ro 2 rfl, K8.ro 3 rfl, HD1.out.2.2.2.1, HD1.out.2.2.2.2.1, HD1.out.2.2.2.2.2.1, HD1.out.2.2.2.2.2.2.1, HD1.out.2.2.2.2.2.2.2.1, HD1.out.2.2.2.2.2.2.2.2⟩
  have hbl := betD_len HVT.out HVU.out
  have hk := dapply_any _ _ K8.mutLt _ _ t (betD t u) hTt hDd HVT.out.sch.nm HVT.out.sch.cs HBX.out (by omega) (by omega) (by omega) (fun r hr => by have := hbl.2.2.2.1 r hr; omega) (fun r hr => by have := hbl.2.2.2.2 r hr; omega)
  rw [applyD_later HVT.out.val HVU.out.val HLT.out] at hk
  refine hk.mono ?_
  clear hk hTt hDd hbl
  rintro e w9 ⟨v, rfl, ⟨A6, n6, c6, B6, m6, d6, l6, rfl, h61, h62, h63, h64, r6c, r6, h67, h68⟩, b1⟩
  dsimp only at r6c h68 ⊢
  have K9 := (((K8.call b1).add r6).add (r6c.less (mut_none rfl))).alloc_cst #[.string t.nm, .slice A6 n6 c6, .int .i64 (nxD t.nx (betD t u).ins), .slice B6 m6 d6] 27
  have HC6 := hid h68
  clear K8 b1 FA r6 r6c h61 h62 h63 h64 h67 h68
  have FA := K9.facts
  simp only [World.size_alloc, World.size_drew, factsL, cellsF, Nat.reduceAdd, List.toList_toArray, List.set_cons_zero, List.set_cons_succ, List.setIfInBounds_toArray, and_true, true_and] at FA
  go_wp2_with fail
  obtain ⟨gb, hgb⟩ : ∃ g, g = w9.heap.size := ⟨_, rfl⟩
  rw [← hgb] at K9 FA ⊢
  have HGB := hid hgb
  clear hgb
  generalize World.alloc w9 _ = w9' at K9 FA ⊢
  have hTt : TbAt w9' (Mut None_ _) (.agg #[.string t.nm, .slice A3 n3 c3, .int .i64 t.nx, .slice B m d]) t := ⟨A3, n3, c3, B, m, d, l, rfl, HT3.out.1, HT3.out.2.1, HT3.out.2.2.1, HT3.out.2.2.2.1, K9.ro 11 rfl, K9.ro 12 rfl, HT3.out.2.2.2.2.1, HT3.out.2.2.2.2.2⟩
  have hk := dbetw_any _ _ K9.mutLt _ _ t t hTt hTt HVT.out.sch.nm HVT.out.sch.cs HBX.out HVT.out.sch.nm HVT.out.sch.cs HBX.out
  have hself := betC_self HVT.out.val HVT.out.val (LaterOk.refl t)
  rw [hself.1] at hk
  refine hk.mono ?_
  clear hk hTt
  rintro e w10 ⟨v, rfl, ⟨I2, ni2, ci2, D2, nd2, cd2, U2, nu2, cu2, li2, ld2, lu2, rfl, q11, q12, q13, r1, r2, r3, o11, o12, o13, e11, e12, e13⟩, b1⟩
  dsimp only at e11 e12 e13 ⊢
  obtain rfl : ni2 = 0 := by have h1 := r1.now.len; rw [hself.2.1] at e11; rw [List.map_eq_nil_iff.1 e11] at h1; exact h1.symm
  obtain rfl : nd2 = 0 := by have h1 := r2.now.len; rw [hself.2.2.1] at e12; rw [List.map_eq_nil_iff.1 e12] at h1; exact h1.symm
  obtain rfl : nu2 = 0 := by have h1 := r3.now.len; rw [hself.2.2.2] at e13; rw [List.map_eq_nil_iff.1 e13] at h1; exact h1.symm
  have K10 := (K9.call b1).alloc_cst #[.string (betD t t).nm, .slice I2 0 ci2, .slice D2 0 cd2, .slice U2 0 cu2] 41
  clear K9 FA b1 r1 r2 r3 q11 q12 q13 o11 o12 o13 e11 e12 e13 hself
  have FA := K10.facts
  simp only [World.size_alloc, World.size_drew, factsL, cellsF, Nat.reduceAdd, List.toList_toArray, List.set_cons_zero, List.set_cons_succ, List.setIfInBounds_toArray, and_true, true_and] at FA
  go_wp2_with fail
  generalize World.alloc w10 _ = w10' at K10 FA ⊢
  refine (dempty_any _ _ I2 0 ci2 D2 0 cd2 U2 0 cu2).mono ?_
  rintro e w11 ⟨rfl, b1⟩
  have K11 := K10.call b1
  rw [show decide (0 = 0 ∧ 0 = 0 ∧ 0 = 0) = true from rfl]
  clear K10 FA b1
  have FA := K11.facts
  simp only [World.size_alloc, World.size_drew, factsL, cellsF, Nat.reduceAdd, List.toList_toArray, List.set_cons_zero, List.set_cons_succ, List.setIfInBounds_toArray, and_true, true_and] at FA
  go_wp2_with fail
  have hm6 : l6.length = m6 := (K11.ro 3 rfl).now.len
  have hlen : l6.length ≤ 100 := by have := HVU.out.rows; have h := congrArg List.length HC6.out; rw [List.length_map] at h; omega
  refine (eqRws_any _ B6 m6 d6 l6 B5 m5 d5 l5 (K11.ro 3 rfl).now (K11.ro 10 rfl).now (by omega) (fun r hr => by
    have h1 := ((K11.ro 3 rfl).now.2 r hr).len
    have h2 := HVU.out.len r.row (by rw [← HC6.out]; exact List.mem_map_of_mem hr)
    simp only [Rw.row] at h2
    omega)).mono ?_
  rintro e w12 ⟨rfl, b1⟩
  rw [show decide (l6.map Rw.row = l5.map Rw.row) = true from decide_eq_true (by rw [HC6.out, HT5.out.2.2.2.2.2])]
  have K12 := K11.call b1
  clear K11 FA b1 hm6 hlen
  have FA := K12.facts
  simp only [World.size_alloc, World.size_drew, factsL, cellsF, Nat.reduceAdd, List.toList_toArray, List.set_cons_zero, List.set_cons_succ, List.setIfInBounds_toArray, and_true, true_and] at FA
  have hnx : decide (nxD t.nx (betD t u).ins ≤ u.nx) = true := decide_eq_true (nx_later HVT.out.val HVU.out.val HLT.out)
  go_wp2_with fail
  refine (known8 _).mono ?_
  rintro e w13 ⟨rfl, b1⟩
  have K13 := K12.call b1
  go_wp2_with fail
  go_ret
  exact ⟨by first | rfl | simp, K13.below⟩
end Go.Proofs.YtjpgbhakkfgecaaDoor

namespace Go.Proofs.YtjpgbhakkfgecaaDoor
open Go.ChangeShapes Go.WideShapes Go.ChangeAt Go.RowKit
set_option linter.unusedVariables false
set_option linter.unusedSimpArgs false

namespace LawDeltaLeads
set_option maxRecDepth 100000 in
theorem contract (H : Type) (enc : TypeId × Value → H) (W : World) (base : Nat) (args : Array Value) (ds gs : List (DataW H)) (before : List MemPlace)
    (hval0 : ∀ (j : Nat) t v, Tryd.f5.params[j]? = some t → args[j]? = some v → Value.okWide Tryd.prog W .any base t v)
    (hsz0 : (DataW.weightsEach Tryd.prog (Tryd.f5.params.toList ++ Rows.deltaLeadsSpec.plain.varTypes Tryd.prog) (ds ++ gs)).all (· ≤ reachBytes) = true)
    (hW : DataW.Whole enc Tryd.prog Tryd.f5.params.toList Rows.deltaLeadsSpec.vars false W args.toList ds gs before) (hL : laidMetH Tryd.prog Rows.deltaLeadsRow.laid W) (hsh : W.ShapedOpen Tryd.prog) :
    Calls Tryd.prog 5 args W fun e W' => ∃ v, e = .returned v ∧ Rows.deltaLeadsSpec.post enc Tryd.prog Tryd.f5 false true false false W args v W' := by
  have hsz : (DataW.weightsEach Tryd.prog (Tryd.f5.params.toList ++ Rows.deltaLeadsSpec.plain.varTypes Tryd.prog) (ds ++ gs)).all (· ≤ reachBytes) = true := hsz0
  have hval : ∀ (j : Nat) t v, Tryd.f5.params[j]? = some t → args[j]? = some v → Value.okWide Tryd.prog W .any base t v := hval0
  have hW' := hW
  obtain ⟨p, q, hA0, hV, rfl, hfz, hnd⟩ := hW
  have hA : DataW.TrodAll enc Tryd.prog W 0 (fun _ => true) true Tryd.f5.params.toList args.toList ds p := hA0
  rw [Tryd.params5] at hA hval hsz
  obtain ⟨v0, vs0, d0, ds0, p0, q0, hargs, rfl, rfl, h0, r0⟩ := trodAll_cons hA
  obtain ⟨rfl, rfl, rfl⟩ := trodAll_nil r0
  obtain rfl : args = #[v0] := by cases args; simp_all
  obtain ⟨rfl, rfl⟩ := trodVars_none hV
  obtain ⟨A0, n0, c0, zs0, rfl, k0, z0, l0, m0, e0⟩ := open_i64s Tryd.underlying28 Tryd.underlying3 (by kernel_rfl) (hval 0 28 v0 rfl rfl) h0
  refine (dlforms_walk A0 n0 c0 zs0 W k0 z0 l0 (by unfold maxLen at m0; omega) (wds_of_laid (rest := []) hL)).mono fun e W' ⟨he, hb⟩ => ?_
  exact ⟨_, he, law_post rfl laidOut (by kernel_rfl) (by kernel_rfl) Tryd.underlying4 rfl hW' hb⟩

theorem laid_met (os : Os) : laidMet Tryd.prog Rows.deltaLeadsRow.laid ((wordsWorld os).forCall (fun _ _ => 0) ⟨#[], #[.slice none 0 0], []⟩).memory :=
  laidMet_of_run' 16 (by kernel_rfl) (by kernel_rfl)
theorem reads (os : Os) {H : Type} (enc : TypeId × Value → H) : ∃ places, DataW.whole enc Tryd.prog ((wordsWorld os).forCall (fun _ _ => 0) ⟨#[], #[.slice none 0 0], []⟩).memory Tryd.f5.params.toList Rows.deltaLeadsSpec.vars false #[.slice none 0 0].toList 8 = some ([.nil], [], places) :=
  ⟨[], by kernel_rfl⟩

set_option maxRecDepth 100000 in
theorem lifted (os : Os) (started : os.Started) (H : Type) (enc : TypeId × Value → H) (F : Stop.Interp) :
    ReturnsInHanded {} Tryd.checked os 5 .any ((OpenSpec.ofChange Rows.deltaLeadsSpec).preRow enc Tryd.prog Tryd.f5 Rows.deltaLeadsRow.domain false Rows.deltaLeadsRow.laid) (((OpenSpec.ofChange Rows.deltaLeadsSpec).at F).post enc Tryd.prog Tryd.f5 false true false false) := by
  obtain ⟨places, hx⟩ := reads os enc
  refine returnsInHanded_of_row (C := Tryd.checked) (s := OpenSpec.ofChange Rows.deltaLeadsSpec) own started (by kernel_rfl) Tryd.func5
    (witness_row_at (enc := enc) (C := Tryd.checked) false (wordsWorld os) #[.slice none 0 0] rfl (by kernel_rfl) (by kernel_rfl) (by kernel_rfl)
      (OpenSpec.preRow_of_cond 8 hx (by kernel_rfl) (fun k hk => by cases hk) (by kernel_rfl) (laid_met os))) ?_
  intro W base args ds gs before hval hW _ _ hsz0 hL hsh _
  exact contract H enc W base args ds gs before hval hsz0 hW hL hsh

theorem said : Rows.DeltaLeadsSaid :=
  OpenClaim.holds_of_cond 5 Tryd.f5 rfl rfl rfl rfl rfl rfl rfl ⟨rfl, rfl, rfl, rfl, rfl⟩ rfl rfl rfl rfl rfl (by kernel_rfl) Tryd.func5 (by kernel_rfl)
    (of_decide_eq_true (by kernel_rfl)) (by unfold Func.isWrapper; first | (rw [if_pos (by decide +kernel)]; kernel_rfl) | (rw [if_neg (by decide +kernel)]; exact ⟨rfl, rfl⟩))
    (fun os started H enc _ F => by rw [OpenClaim.pre_eq_preRow]; exact lifted os started H enc F)

theorem plain (f : FuncId) (fn : Func) (hf : Tryd.pinned.checked.prog.funcNamed "triggerstore/triggerstorelaw8.DeltaLeads" = some f) (hfn : Tryd.pinned.checked.prog.funcs[f]? = some fn) :
    false = Tryd.pinned.checked.prog.looks [] ∧ ∀ (j : Nat) t, fn.params[j]? = some t → Tryd.pinned.checked.prog.wantsStandIn t = false := by
  obtain rfl : f = 5 := Option.some.inj ((show Tryd.prog.funcNamed "triggerstore/triggerstorelaw8.DeltaLeads" = some 5 by kernel_rfl).symm.trans hf) |>.symm
  obtain rfl : fn = Tryd.f5 := (Option.some.inj (Tryd.func5.symm.trans hfn)).symm
  refine ⟨by kernel_rfl, fun j t ht => ?_⟩
  rw [Tryd.params5] at ht
  have hm := Array.mem_of_getElem? ht
  simp only [List.mem_toArray, List.mem_cons, List.not_mem_nil, or_false] at hm
  subst hm
  · exact (show Tryd.prog.wantsStandIn 28 = false by kernel_rfl)
end LawDeltaLeads

theorem deltaLeads_holds : Rows.DeltaLeadsCardSaid :=
  Claim7.holds_tied_plain_at .later [] _ _ _ _ LawDeltaLeads.said (fun _ h => by cases h) (by kernel_rfl) (fun _ h => by cases h) deltaLeads_row_tie rfl ⟨rfl, rfl⟩ (by kernel_rfl) rfl LawDeltaLeads.plain (by kernel_rfl)
#print axioms deltaLeads_holds
end Go.Proofs.YtjpgbhakkfgecaaDoor

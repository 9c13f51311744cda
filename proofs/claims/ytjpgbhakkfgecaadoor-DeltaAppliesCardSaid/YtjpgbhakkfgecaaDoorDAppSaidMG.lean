/- RSndPl: what the reference's sound and Apply say of a table and a difference. No program in sight. -/
import Derived.Deep.DeepCutAuto
import Derived.Test.YtjpgbhakkfgecaaDoorDAppSaidMF
import Derived.Test.YtjpgbhakkfgecaaDoorDAppSaidMB
import Derived.Test.YtjpgbhakkfgecaaDoorDAppSaidMA
import Derived.Test.YtjpgbhakkfgecaaDoorDAppSaidMD
import Derived.Test.YtjpgbhakkfgecaaDoorDAppSaidMC
import Derived.Test.YtjpgbhakkfgecaaDoorDAppSaidME
namespace Go.Proofs.YtjpgbhakkfgecaaDoor
open Go.RowKit
set_option linter.unusedVariables false
set_option linter.unusedSimpArgs false

/-- a table and a verdict handed back -/
def ApRet (w : World) (M : Nat → Prop) (r : Bool × Tb) (e : Ending) (w' : World) : Prop := ∃ v, e = .returned (.tuple #[v, .bool r.1]) ∧ TbAt w' M v r.2 ∧ Below w.heap.size w w'
theorem wrap_min {x : Int} (h : I64 x) : wrap64 (min x 2147483648 + 1) = min x 2147483648 + 1 := by
  obtain ⟨h1, h2⟩ := h
  unfold wrap64
  omega

set_option maxHeartbeats 8000000 in
set_option maxRecDepth 100000 in
theorem dapply_any (M : Nat → Prop) (w : World) (hM : ∀ b, M b → b < w.heap.size) (va vd : Value) (t : Tb) (d : Dl) (hT : TbAt w M va t) (hD : DlAt w M vd d) (hst : t.nm.size ≤ maxLen) (hct : ∀ x ∈ t.cs, x.name.size ≤ maxLen) (hrt : t.rs.length ≤ 4398046511104) (hi : d.ins.length ≤ 1000000) (hde : d.del.length ≤ 4398046511104) (hup : d.upd.length ≤ 4398046511104) (hvi : ∀ r ∈ d.ins, r.2.length ≤ 4398046511104) (hvu : ∀ u ∈ d.upd, u.2.2.length ≤ 4398046511104) :
    Calls Tryd.prog 23 #[va, vd] w fun e w' => ApRet w M (applyD t d) e w' := by
  obtain ⟨tA, tn, tc, tB, tm, td, lt, rfl, a1, a2, a3, a4, a5, a6, a7, a8⟩ := hT
  obtain ⟨I, ni, ci, D, nd, cd, U, nu, cu, li, ld, lu, rfl, i1, i2, i3, r1, r2, r3, o1, o2, o3, e1, e2, e3⟩ := hD
  have HTL := hid (show lt.length = tm from a6.now.len)
  have HIL := hid (show li.length = ni from r1.now.len)
  have HDL := hid (show ld.length = nd from r2.now.len)
  have HUL := hid (show lu.length = nu from r3.now.len)
  have HTR := hid a8
  have HIR := hid e1
  have HDR := hid e2
  have HUR := hid e3
  have HTO := hid a7
  have HIO := hid o1
  have HUO := hid o3
  have HDO := hid o2
  have HTE := hid a6.now
  have HTC := hid (show t.cs.length = tn from cols_n a5.now)
  have HIN6 : Hid (∀ x ∈ li, x.n ≤ 4398046511104) := hid fun x hx => by
    have h1 := (r1.now.2 x hx).len
    have h2 := hvi x.row (by rw [← e1]; exact List.mem_map_of_mem hx)
    simp only [Rw.row] at h2
    omega
  have HUN : Hid (∀ x ∈ lu, x.nn ≤ 4398046511104) := hid fun x hx => by
    have h1 := (r3.now.2 x hx).2.len
    have h2 := hvu x.upd (by rw [← e3]; exact List.mem_map_of_mem hx)
    simp only [Pr.upd] at h2
    omega
  have htm : tm ≤ 4398046511104 := by have := HTL.out; have h := congrArg List.length a8; rw [List.length_map] at h; omega
  have hni : ni ≤ 1000000 := by have := HIL.out; have h := congrArg List.length e1; rw [List.length_map] at h; omega
  have hnd : nd ≤ 4398046511104 := by have := HDL.out; have h := congrArg List.length e2; rw [List.length_map] at h; omega
  have hnu : nu ≤ 4398046511104 := by have := HUL.out; have h := congrArg List.length e3; rw [List.length_map] at h; omega
  have K0 := (((((((((Hold.start M w hM).add (r3.less (by simp [Mut]))).add (r2.less (by simp [Mut, Hp.foot]))).add (r1.less (by simp [Mut, Hp.foot]))).add (a6.less (by simp [Mut, Hp.foot]))).add (a5.less (by simp [Mut, Hp.foot]))).alloc_cst #[.string t.nm, .slice tA tn tc, .int .i64 t.nx, .slice tB tm td] 27).alloc_cst #[.string d.nm, .slice I ni ci, .slice D nd cd, .slice U nu cu] 41).alloc #[.string ⟨#[]⟩, .slice none 0 0, .int .i64 0, .slice none 0 0] 27)
  simp only [World.size_alloc] at K0
  have F0 := K0.facts
  simp only [factsL, cellsF, Nat.reduceAdd, zf, zl] at F0
  clear a5 a6 a7 a8 r1 r2 r3 o1 o2 o3 e1 e2 e3
  go_enter Tryd.func23, Tryd.ntmps23
  go_wp2_with fail
  obtain ⟨g2, hg2⟩ : ∃ g, g = w.heap.size := ⟨_, rfl⟩
  obtain ⟨g3, hg3⟩ : ∃ g, g = g2 + 1 := ⟨_, rfl⟩
  obtain ⟨g4, hg4⟩ : ∃ g, g = g3 + 1 := ⟨_, rfl⟩
  rw [← hg2, ← hg3, ← hg4] at K0 ⊢
  clear F0
  generalize ((w.alloc _).alloc _).alloc _ = w1 at K0 ⊢
  have HGX := hid hg2
  clear hg2 hg3 hg4
  go_cut [47] (fun s wx => s = .bool (!(tabB t.nm t.cs t.nx t.rs && decide (d.nm = t.nm) && ordD d && fstD t d)) ∧ Hold M none w wx [.blk g4 27 #[.string ⟨#[]⟩, .slice none 0 0, .int .i64 0, .slice none 0 0], .cst g3 41 #[.string d.nm, .slice I ni ci, .slice D nd cd, .slice U nu cu], .cst g2 27 #[.string t.nm, .slice tA tn tc, .int .i64 t.nx, .slice tB tm td], .ro (ColsIn tA tn t.cs), .ro (RwsIn tB tm lt), .ro (RwsIn I ni li), .ro (RwsIn D nd ld), .ro (PrsIn U nu lu)])
  case first =>
    obtain ⟨KL, hKL, KN⟩ := K0.name
    have HF : Hid (∀ wv, Hold M none w wv KL → wv.cell? ⟨g2, 0, none⟩ = some (.string t.nm) ∧ wv.cell? ⟨g2, 1, none⟩ = some (.slice tA tn tc) ∧ wv.cell? ⟨g2, 2, none⟩ = some (.int .i64 t.nx) ∧ wv.cell? ⟨g2, 3, none⟩ = some (.slice tB tm td) ∧ wv.cell? ⟨g3, 0, none⟩ = some (.string d.nm) ∧ wv.cell? ⟨g3, 1, none⟩ = some (.slice I ni ci) ∧ wv.cell? ⟨g3, 2, none⟩ = some (.slice D nd cd) ∧ wv.cell? ⟨g3, 3, none⟩ = some (.slice U nu cu) ∧ g2 < wv.heap.size ∧ g3 < wv.heap.size) := hid fun wv HC => by
      rw [hKL] at HC
      have y1 := HC.cst_ 2 rfl
      have y2 := HC.cst_ 1 rfl
      exact ⟨cell_of_row _ _ 0 _ _ _ y1, cell_of_row _ _ 1 _ _ _ y1, cell_of_row _ _ 2 _ _ _ y1, cell_of_row _ _ 3 _ _ _ y1, cell_of_row _ _ 0 _ _ _ y2, cell_of_row _ _ 1 _ _ _ y2, cell_of_row _ _ 2 _ _ _ y2, cell_of_row _ _ 3 _ _ _ y2, Blk.lt y1, Blk.lt y2⟩
    have HTV : Hid (∀ wv, Hold M none w wv KL → Calls Tryd.prog 59 #[.agg #[.string t.nm, .slice tA tn tc, .int .i64 t.nx, .slice tB tm td]] wv fun e w' => e = .returned (.bool (tabB t.nm t.cs t.nx t.rs)) ∧ Below wv.heap.size wv w') := hid fun wv HC => by
      rw [hKL] at HC
      have hv := tvalid_any _ _ HC.mutLt t.nm tA tn tc t.cs t.nx tB tm td lt (HC.ro 3 rfl) (HC.ro 4 rfl) (by omega) (by omega) HTO.out hst hct
      rwa [HTR.out] at hv
    have HOD : Hid (∀ wv, Hold M none w wv KL → Calls Tryd.prog 64 #[.agg #[.string d.nm, .slice I ni ci, .slice D nd cd, .slice U nu cu]] wv fun e w' => e = .returned (.bool (ordD d)) ∧ Below wv.heap.size wv w') := hid fun wv HC => by
      rw [hKL] at HC
      exact dord_any wv _ d ⟨I, ni, ci, D, nd, cd, U, nu, cu, li, ld, lu, rfl, i1, i2, i3, (HC.ro 5 rfl).less (fun b hb => hb.elim), (HC.ro 6 rfl).less (fun b hb => hb.elim), (HC.ro 7 rfl).less (fun b hb => hb.elim), HIO.out, HDO.out, HUO.out, HIR.out, HDR.out, HUR.out⟩ (by omega) hde hup
    have HKL := hid hKL
    clear hKL
    cases hv : tabB t.nm t.cs t.nx t.rs
    · have HV := hid hv
      have HBAD := hid (show (!(tabB t.nm t.cs t.nx t.rs && decide (d.nm = t.nm) && ordD d && fstD t d)) = true by rw [hv]; rfl)
      clear hv
      refine wp_region_any (by kernel_rfl) ?_
      refine wpAny_hold 31 152 (KL) (spL [(17, fun u _ => u = .bool (tabB t.nm t.cs t.nx t.rs))]) (by kernel_rfl) (by kernel_rfl) (by kernel_rfl) rfl ?_ (KN.drew) ?_
      · exact stays_cons (fun _ _ _ _ h => h) (stays_nil _)
      simp only [zd, Act.put, List.getElem_toArray, List.getElem_cons_zero, List.getElem_cons_succ, zl]
      refine dw_val rfl rfl rfl ?_; apply Exists.intro; refine ⟨fun wv HC => ?_, ?_⟩
      · obtain ⟨f0, f1, f2, f3, f4, f5, f6, f7, f8, f9⟩ := HF.out _ HC; go_simp <;> rfl
      simp only [Act.put, zl]
      refine dw_callR 17 (fun u _ => u = .bool (tabB t.nm t.cs t.nx t.rs)) (f := 59) (args := #[.agg #[.string t.nm, .slice tA tn tc, .int .i64 t.nx, .slice tB tm td]]) rfl rfl rfl rfl (fun wv => ?_) (fun wv HC hrm hD => ?_) ?_
      · go_simp <;> rfl
      · refine (HTV.out wv HC).mono ?_
        rintro e w5 ⟨rfl, b5⟩
        exact ⟨_, rfl, rfl, HC.call b5, RM.below b5⟩
      rintro x_ wx HCx rfl
      clear HCx
      rw [HV.out]
      simp only [Act.put, zl]
      refine dw_val rfl rfl rfl ?_; apply Exists.intro; refine ⟨fun wv HC => ?_, ?_⟩
      ·  go_simp <;> rfl
      simp only [Act.put, zl]
      refine dw_val rfl rfl rfl ?_; apply Exists.intro; refine ⟨fun wv HC => ?_, ?_⟩
      ·  go_simp <;> rfl
      simp only [Act.put, zl]
      refine dw_skip rfl rfl rfl ?_
      simp only [Act.put, zl]
      refine dw_skip rfl rfl rfl ?_
      simp only [Act.put, zl]
      refine dw_skip rfl rfl rfl ?_
      simp only [Act.put, zl]
      refine dw_skip rfl rfl rfl ?_
      simp only [Act.put, zl]
      refine dw_skip rfl rfl rfl ?_
      simp only [Act.put, zl]
      refine dw_skip rfl rfl rfl ?_
      simp only [Act.put, zl]
      refine dw_val rfl rfl rfl ?_; apply Exists.intro; refine ⟨fun wv HC => ?_, ?_⟩
      ·  go_simp <;> rfl
      simp only [Act.put, zl]
      refine dw_val rfl rfl rfl ?_; apply Exists.intro; refine ⟨fun wv HC => ?_, ?_⟩
      ·  go_simp <;> rfl
      simp only [Act.put, zl]
      refine dw_skip rfl rfl rfl ?_
      simp only [Act.put, zl]
      refine dw_skip rfl rfl rfl ?_
      simp only [Act.put, zl]
      refine dw_skip rfl rfl rfl ?_
      simp only [Act.put, zl]
      refine dw_val rfl rfl rfl ?_; apply Exists.intro; refine ⟨fun wv HC => ?_, ?_⟩
      ·  go_simp <;> rfl
      simp only [Act.put, zl]
      refine dw_val rfl rfl rfl ?_; apply Exists.intro; refine ⟨fun wv HC => ?_, ?_⟩
      ·  go_simp <;> rfl
      simp only [Act.put, zl]
      refine dw_skip rfl rfl rfl ?_
      simp only [Act.put, zl]
      refine dw_skip rfl rfl rfl ?_
      simp only [Act.put, zl]
      refine dw_skip rfl rfl rfl ?_
      simp only [Act.put, zl]
      refine dw_skip rfl rfl rfl ?_
      simp only [Act.put, zl]
      refine dw_skip rfl rfl rfl ?_
      simp only [Act.put, zl]
      refine dw_skip rfl rfl rfl ?_
      simp only [Act.put, zl]
      refine dw_skip rfl rfl rfl ?_
      simp only [Act.put, zl]
      refine dw_skip rfl rfl rfl ?_
      simp only [Act.put, zl]
      refine dw_skip rfl rfl rfl ?_
      simp only [Act.put, zl]
      refine dw_skip rfl rfl rfl ?_
      simp only [Act.put, zl]
      refine dw_skip rfl rfl rfl ?_
      simp only [Act.put, zl]
      refine dw_skip rfl rfl rfl ?_
      simp only [Act.put, zl]
      refine dw_skip rfl rfl rfl ?_
      simp only [Act.put, zl]
      refine dw_skip rfl rfl rfl ?_
      simp only [Act.put, zl]
      refine rel_nil ?_
      rintro wx2 HX
      rintro _hrm _HGW
      clear _HGW _hrm HTV HOD HF
      rw [HKL.out] at HX
      go_wp2_with fail
      go_meet
      exact ⟨by rw [HBAD.out], HX⟩
    have HV := hid hv
    clear hv
    by_cases hn : d.nm ≠ t.nm
    · have h1 : (d.nm.toList == t.nm.toList) = false := by rw [beq_eq_false_iff_ne]; exact fun h => hn (bytesEq h)
      have HBAD := hid (show (!(tabB t.nm t.cs t.nx t.rs && decide (d.nm = t.nm) && ordD d && fstD t d)) = true by rw [decide_eq_false hn]; simp)
      clear hn
      refine wp_region_any (by kernel_rfl) ?_
      refine wpAny_hold 31 152 (KL) (spL [(17, fun u _ => u = .bool (tabB t.nm t.cs t.nx t.rs))]) (by kernel_rfl) (by kernel_rfl) (by kernel_rfl) rfl ?_ (KN.drew) ?_
      · exact stays_cons (fun _ _ _ _ h => h) (stays_nil _)
      simp only [zd, Act.put, List.getElem_toArray, List.getElem_cons_zero, List.getElem_cons_succ, zl]
      refine dw_val rfl rfl rfl ?_; apply Exists.intro; refine ⟨fun wv HC => ?_, ?_⟩
      · obtain ⟨f0, f1, f2, f3, f4, f5, f6, f7, f8, f9⟩ := HF.out _ HC; go_simp <;> rfl
      simp only [Act.put, zl]
      refine dw_callR 17 (fun u _ => u = .bool (tabB t.nm t.cs t.nx t.rs)) (f := 59) (args := #[.agg #[.string t.nm, .slice tA tn tc, .int .i64 t.nx, .slice tB tm td]]) rfl rfl rfl rfl (fun wv => ?_) (fun wv HC hrm hD => ?_) ?_
      · go_simp <;> rfl
      · refine (HTV.out wv HC).mono ?_
        rintro e w5 ⟨rfl, b5⟩
        exact ⟨_, rfl, rfl, HC.call b5, RM.below b5⟩
      rintro x_ wx HCx rfl
      clear HCx
      rw [HV.out]
      simp only [Act.put, zl]
      refine dw_val rfl rfl rfl ?_; apply Exists.intro; refine ⟨fun wv HC => ?_, ?_⟩
      ·  go_simp <;> rfl
      simp only [Act.put, zl]
      refine dw_val rfl rfl rfl ?_; apply Exists.intro; refine ⟨fun wv HC => ?_, ?_⟩
      ·  go_simp <;> rfl
      simp only [Act.put, zl]
      refine dw_val rfl rfl rfl ?_; apply Exists.intro; refine ⟨fun wv HC => ?_, ?_⟩
      ·  go_simp <;> rfl
      simp only [Act.put, zl]
      refine dw_val rfl rfl rfl ?_; apply Exists.intro; refine ⟨fun wv HC => ?_, ?_⟩
      · obtain ⟨f0, f1, f2, f3, f4, f5, f6, f7, f8, f9⟩ := HF.out _ HC; go_simp <;> rfl
      simp only [Act.put, zl]
      refine dw_val rfl rfl rfl ?_; apply Exists.intro; refine ⟨fun wv HC => ?_, ?_⟩
      ·  go_simp <;> rfl
      simp only [Act.put, zl]
      refine dw_val rfl rfl rfl ?_; apply Exists.intro; refine ⟨fun wv HC => ?_, ?_⟩
      ·  go_simp <;> rfl
      simp only [Act.put, zl]
      refine dw_val rfl rfl rfl ?_; apply Exists.intro; refine ⟨fun wv HC => ?_, ?_⟩
      · obtain ⟨f0, f1, f2, f3, f4, f5, f6, f7, f8, f9⟩ := HF.out _ HC; go_simp <;> rfl
      simp only [Act.put, zl]
      refine dw_val rfl rfl rfl ?_; apply Exists.intro; refine ⟨fun wv HC => ?_, ?_⟩
      ·  go_simp <;> rfl
      simp only [Act.put, zl]
      refine dw_val rfl rfl rfl ?_; apply Exists.intro; refine ⟨fun wv HC => ?_, ?_⟩
      ·  go_simp <;> rfl
      simp only [Act.put, zl]
      refine dw_val rfl rfl rfl ?_; apply Exists.intro; refine ⟨fun wv HC => ?_, ?_⟩
      ·  go_simp <;> rfl
      simp only [Act.put, zl]
      refine dw_skip rfl rfl rfl ?_
      simp only [Act.put, zl]
      refine dw_skip rfl rfl rfl ?_
      simp only [Act.put, zl]
      refine dw_skip rfl rfl rfl ?_
      simp only [Act.put, zl]
      refine dw_val rfl rfl rfl ?_; apply Exists.intro; refine ⟨fun wv HC => ?_, ?_⟩
      ·  go_simp <;> rfl
      simp only [Act.put, zl]
      refine dw_val rfl rfl rfl ?_; apply Exists.intro; refine ⟨fun wv HC => ?_, ?_⟩
      ·  go_simp <;> rfl
      simp only [Act.put, zl]
      refine dw_skip rfl rfl rfl ?_
      simp only [Act.put, zl]
      refine dw_skip rfl rfl rfl ?_
      simp only [Act.put, zl]
      refine dw_skip rfl rfl rfl ?_
      simp only [Act.put, zl]
      refine dw_skip rfl rfl rfl ?_
      simp only [Act.put, zl]
      refine dw_skip rfl rfl rfl ?_
      simp only [Act.put, zl]
      refine dw_skip rfl rfl rfl ?_
      simp only [Act.put, zl]
      refine dw_skip rfl rfl rfl ?_
      simp only [Act.put, zl]
      refine dw_skip rfl rfl rfl ?_
      simp only [Act.put, zl]
      refine dw_skip rfl rfl rfl ?_
      simp only [Act.put, zl]
      refine dw_skip rfl rfl rfl ?_
      simp only [Act.put, zl]
      refine dw_skip rfl rfl rfl ?_
      simp only [Act.put, zl]
      refine dw_skip rfl rfl rfl ?_
      simp only [Act.put, zl]
      refine dw_skip rfl rfl rfl ?_
      simp only [Act.put, zl]
      refine dw_skip rfl rfl rfl ?_
      simp only [Act.put, zl]
      refine rel_nil ?_
      rintro wx2 HX
      rintro _hrm _HGW
      clear _HGW _hrm HTV HOD HF
      rw [HKL.out] at HX
      go_wp2_with fail
      go_meet
      exact ⟨by rw [HBAD.out], HX⟩
    have hn : d.nm = t.nm := Decidable.not_not.1 hn
    have HNM := hid hn
    have h1 : (d.nm.toList == t.nm.toList) = true := by simp [hn]
    clear hn
    cases ho : ordD d
    · have HO := hid ho
      have HBAD := hid (show (!(tabB t.nm t.cs t.nx t.rs && decide (d.nm = t.nm) && ordD d && fstD t d)) = true by rw [ho]; simp)
      clear ho
      refine wp_region_any (by kernel_rfl) ?_
      refine wpAny_hold 31 152 (KL) (spL [(17, fun u _ => u = .bool (tabB t.nm t.cs t.nx t.rs)), (29, fun u _ => u = .bool (ordD d))]) (by kernel_rfl) (by kernel_rfl) (by kernel_rfl) rfl ?_ (KN.drew) ?_
      · exact stays_cons (fun _ _ _ _ h => h) (stays_cons (fun _ _ _ _ h => h) (stays_nil _))
      simp only [zd, Act.put, List.getElem_toArray, List.getElem_cons_zero, List.getElem_cons_succ, zl]
      refine dw_val rfl rfl rfl ?_; apply Exists.intro; refine ⟨fun wv HC => ?_, ?_⟩
      · obtain ⟨f0, f1, f2, f3, f4, f5, f6, f7, f8, f9⟩ := HF.out _ HC; go_simp <;> rfl
      simp only [Act.put, zl]
      refine dw_callR 17 (fun u _ => u = .bool (tabB t.nm t.cs t.nx t.rs)) (f := 59) (args := #[.agg #[.string t.nm, .slice tA tn tc, .int .i64 t.nx, .slice tB tm td]]) rfl rfl rfl rfl (fun wv => ?_) (fun wv HC hrm hD => ?_) ?_
      · go_simp <;> rfl
      · refine (HTV.out wv HC).mono ?_
        rintro e w5 ⟨rfl, b5⟩
        exact ⟨_, rfl, rfl, HC.call b5, RM.below b5⟩
      rintro x_ wx HCx rfl
      clear HCx
      rw [HV.out]
      simp only [Act.put, zl]
      refine dw_val rfl rfl rfl ?_; apply Exists.intro; refine ⟨fun wv HC => ?_, ?_⟩
      ·  go_simp <;> rfl
      simp only [Act.put, zl]
      refine dw_val rfl rfl rfl ?_; apply Exists.intro; refine ⟨fun wv HC => ?_, ?_⟩
      ·  go_simp <;> rfl
      simp only [Act.put, zl]
      refine dw_val rfl rfl rfl ?_; apply Exists.intro; refine ⟨fun wv HC => ?_, ?_⟩
      ·  go_simp <;> rfl
      simp only [Act.put, zl]
      refine dw_val rfl rfl rfl ?_; apply Exists.intro; refine ⟨fun wv HC => ?_, ?_⟩
      · obtain ⟨f0, f1, f2, f3, f4, f5, f6, f7, f8, f9⟩ := HF.out _ HC; go_simp <;> rfl
      simp only [Act.put, zl]
      refine dw_val rfl rfl rfl ?_; apply Exists.intro; refine ⟨fun wv HC => ?_, ?_⟩
      ·  go_simp <;> rfl
      simp only [Act.put, zl]
      refine dw_val rfl rfl rfl ?_; apply Exists.intro; refine ⟨fun wv HC => ?_, ?_⟩
      ·  go_simp <;> rfl
      simp only [Act.put, zl]
      refine dw_val rfl rfl rfl ?_; apply Exists.intro; refine ⟨fun wv HC => ?_, ?_⟩
      · obtain ⟨f0, f1, f2, f3, f4, f5, f6, f7, f8, f9⟩ := HF.out _ HC; go_simp <;> rfl
      simp only [Act.put, zl]
      refine dw_val rfl rfl rfl ?_; apply Exists.intro; refine ⟨fun wv HC => ?_, ?_⟩
      ·  go_simp <;> rfl
      simp only [Act.put, zl]
      refine dw_val rfl rfl rfl ?_; apply Exists.intro; refine ⟨fun wv HC => ?_, ?_⟩
      ·  go_simp <;> rfl
      simp only [Act.put, zl]
      refine dw_val rfl rfl rfl ?_; apply Exists.intro; refine ⟨fun wv HC => ?_, ?_⟩
      ·  go_simp <;> rfl
      simp only [Act.put, zl]
      refine dw_val rfl rfl rfl ?_; apply Exists.intro; refine ⟨fun wv HC => ?_, ?_⟩
      · obtain ⟨f0, f1, f2, f3, f4, f5, f6, f7, f8, f9⟩ := HF.out _ HC; go_simp <;> rfl
      simp only [Act.put, zl]
      refine dw_callR 29 (fun u _ => u = .bool (ordD d)) (f := 64) (args := #[.agg #[.string d.nm, .slice I ni ci, .slice D nd cd, .slice U nu cu]]) rfl rfl rfl rfl (fun wv => ?_) (fun wv HC hrm hD => ?_) ?_
      · go_simp <;> rfl
      · refine (HOD.out wv HC).mono ?_
        rintro e w5 ⟨rfl, b5⟩
        exact ⟨_, rfl, rfl, HC.call b5, RM.below b5⟩
      rintro x_ wx HCx rfl
      clear HCx
      rw [HO.out]
      simp only [Act.put, zl]
      refine dw_val rfl rfl rfl ?_; apply Exists.intro; refine ⟨fun wv HC => ?_, ?_⟩
      ·  go_simp <;> rfl
      simp only [Act.put, zl]
      refine dw_val rfl rfl rfl ?_; apply Exists.intro; refine ⟨fun wv HC => ?_, ?_⟩
      ·  go_simp <;> rfl
      simp only [Act.put, zl]
      refine dw_val rfl rfl rfl ?_; apply Exists.intro; refine ⟨fun wv HC => ?_, ?_⟩
      ·  go_simp <;> rfl
      simp only [Act.put, zl]
      refine dw_skip rfl rfl rfl ?_
      simp only [Act.put, zl]
      refine dw_skip rfl rfl rfl ?_
      simp only [Act.put, zl]
      refine dw_skip rfl rfl rfl ?_
      simp only [Act.put, zl]
      refine dw_skip rfl rfl rfl ?_
      simp only [Act.put, zl]
      refine dw_skip rfl rfl rfl ?_
      simp only [Act.put, zl]
      refine dw_skip rfl rfl rfl ?_
      simp only [Act.put, zl]
      refine dw_skip rfl rfl rfl ?_
      simp only [Act.put, zl]
      refine dw_skip rfl rfl rfl ?_
      simp only [Act.put, zl]
      refine dw_skip rfl rfl rfl ?_
      simp only [Act.put, zl]
      refine dw_skip rfl rfl rfl ?_
      simp only [Act.put, zl]
      refine dw_skip rfl rfl rfl ?_
      simp only [Act.put, zl]
      refine dw_skip rfl rfl rfl ?_
      simp only [Act.put, zl]
      refine dw_skip rfl rfl rfl ?_
      simp only [Act.put, zl]
      refine dw_skip rfl rfl rfl ?_
      simp only [Act.put, zl]
      refine rel_nil ?_
      rintro wx2 HX
      rintro _hrm _HGW
      clear _HGW _hrm HTV HOD HF
      rw [HKL.out] at HX
      go_wp2_with fail
      go_meet
      exact ⟨by rw [HBAD.out], HX⟩
    have HO := hid ho
    clear ho
    by_cases hz : ni = 0 ∧ d.ins = []
    · obtain rfl : ni = 0 := hz.1
      have h2 : decide ((0 : Int) > 0) = false := by decide
      have HBAD := hid (show (!(tabB t.nm t.cs t.nx t.rs && decide (d.nm = t.nm) && ordD d && fstD t d)) = false by rw [HV.out, decide_eq_true HNM.out, HO.out, fstD_nil hz.2]; rfl)
      clear hz
      refine wp_region_any (by kernel_rfl) ?_
      refine wpAny_hold 31 152 (KL) (spL [(17, fun u _ => u = .bool (tabB t.nm t.cs t.nx t.rs)), (29, fun u _ => u = .bool (ordD d))]) (by kernel_rfl) (by kernel_rfl) (by kernel_rfl) rfl ?_ (KN.drew) ?_
      · exact stays_cons (fun _ _ _ _ h => h) (stays_cons (fun _ _ _ _ h => h) (stays_nil _))
      simp only [zd, Act.put, List.getElem_toArray, List.getElem_cons_zero, List.getElem_cons_succ, zl]
      refine dw_val rfl rfl rfl ?_; apply Exists.intro; refine ⟨fun wv HC => ?_, ?_⟩
      · obtain ⟨f0, f1, f2, f3, f4, f5, f6, f7, f8, f9⟩ := HF.out _ HC; go_simp <;> rfl
      simp only [Act.put, zl]
      refine dw_callR 17 (fun u _ => u = .bool (tabB t.nm t.cs t.nx t.rs)) (f := 59) (args := #[.agg #[.string t.nm, .slice tA tn tc, .int .i64 t.nx, .slice tB tm td]]) rfl rfl rfl rfl (fun wv => ?_) (fun wv HC hrm hD => ?_) ?_
      · go_simp <;> rfl
      · refine (HTV.out wv HC).mono ?_
        rintro e w5 ⟨rfl, b5⟩
        exact ⟨_, rfl, rfl, HC.call b5, RM.below b5⟩
      rintro x_ wx HCx rfl
      clear HCx
      rw [HV.out]
      simp only [Act.put, zl]
      refine dw_val rfl rfl rfl ?_; apply Exists.intro; refine ⟨fun wv HC => ?_, ?_⟩
      ·  go_simp <;> rfl
      simp only [Act.put, zl]
      refine dw_val rfl rfl rfl ?_; apply Exists.intro; refine ⟨fun wv HC => ?_, ?_⟩
      ·  go_simp <;> rfl
      simp only [Act.put, zl]
      refine dw_val rfl rfl rfl ?_; apply Exists.intro; refine ⟨fun wv HC => ?_, ?_⟩
      ·  go_simp <;> rfl
      simp only [Act.put, zl]
      refine dw_val rfl rfl rfl ?_; apply Exists.intro; refine ⟨fun wv HC => ?_, ?_⟩
      · obtain ⟨f0, f1, f2, f3, f4, f5, f6, f7, f8, f9⟩ := HF.out _ HC; go_simp <;> rfl
      simp only [Act.put, zl]
      refine dw_val rfl rfl rfl ?_; apply Exists.intro; refine ⟨fun wv HC => ?_, ?_⟩
      ·  go_simp <;> rfl
      simp only [Act.put, zl]
      refine dw_val rfl rfl rfl ?_; apply Exists.intro; refine ⟨fun wv HC => ?_, ?_⟩
      ·  go_simp <;> rfl
      simp only [Act.put, zl]
      refine dw_val rfl rfl rfl ?_; apply Exists.intro; refine ⟨fun wv HC => ?_, ?_⟩
      · obtain ⟨f0, f1, f2, f3, f4, f5, f6, f7, f8, f9⟩ := HF.out _ HC; go_simp <;> rfl
      simp only [Act.put, zl]
      refine dw_val rfl rfl rfl ?_; apply Exists.intro; refine ⟨fun wv HC => ?_, ?_⟩
      ·  go_simp <;> rfl
      simp only [Act.put, zl]
      refine dw_val rfl rfl rfl ?_; apply Exists.intro; refine ⟨fun wv HC => ?_, ?_⟩
      ·  go_simp <;> rfl
      simp only [Act.put, zl]
      refine dw_val rfl rfl rfl ?_; apply Exists.intro; refine ⟨fun wv HC => ?_, ?_⟩
      ·  go_simp <;> rfl
      simp only [Act.put, zl]
      refine dw_val rfl rfl rfl ?_; apply Exists.intro; refine ⟨fun wv HC => ?_, ?_⟩
      · obtain ⟨f0, f1, f2, f3, f4, f5, f6, f7, f8, f9⟩ := HF.out _ HC; go_simp <;> rfl
      simp only [Act.put, zl]
      refine dw_callR 29 (fun u _ => u = .bool (ordD d)) (f := 64) (args := #[.agg #[.string d.nm, .slice I 0 ci, .slice D nd cd, .slice U nu cu]]) rfl rfl rfl rfl (fun wv => ?_) (fun wv HC hrm hD => ?_) ?_
      · go_simp <;> rfl
      · refine (HOD.out wv HC).mono ?_
        rintro e w5 ⟨rfl, b5⟩
        exact ⟨_, rfl, rfl, HC.call b5, RM.below b5⟩
      rintro x_ wx HCx rfl
      clear HCx
      rw [HO.out]
      simp only [Act.put, zl]
      refine dw_val rfl rfl rfl ?_; apply Exists.intro; refine ⟨fun wv HC => ?_, ?_⟩
      ·  go_simp <;> rfl
      simp only [Act.put, zl]
      refine dw_val rfl rfl rfl ?_; apply Exists.intro; refine ⟨fun wv HC => ?_, ?_⟩
      ·  go_simp <;> rfl
      simp only [Act.put, zl]
      refine dw_val rfl rfl rfl ?_; apply Exists.intro; refine ⟨fun wv HC => ?_, ?_⟩
      ·  go_simp <;> rfl
      simp only [Act.put, zl]
      refine dw_val rfl rfl rfl ?_; apply Exists.intro; refine ⟨fun wv HC => ?_, ?_⟩
      ·  go_simp <;> rfl
      simp only [Act.put, zl]
      refine dw_val rfl rfl rfl ?_; apply Exists.intro; refine ⟨fun wv HC => ?_, ?_⟩
      · obtain ⟨f0, f1, f2, f3, f4, f5, f6, f7, f8, f9⟩ := HF.out _ HC; go_simp <;> rfl
      simp only [Act.put, zl]
      refine dw_val rfl rfl rfl ?_; apply Exists.intro; refine ⟨fun wv HC => ?_, ?_⟩
      ·  go_simp <;> rfl
      simp only [Act.put, zl]
      refine dw_val rfl rfl rfl ?_; apply Exists.intro; refine ⟨fun wv HC => ?_, ?_⟩
      ·  go_simp <;> rfl
      simp only [Act.put, zl]
      refine dw_val rfl rfl rfl ?_; apply Exists.intro; refine ⟨fun wv HC => ?_, ?_⟩
      ·  go_simp <;> rfl
      simp only [Act.put, zl]
      refine dw_skip rfl rfl rfl ?_
      simp only [Act.put, zl]
      refine dw_skip rfl rfl rfl ?_
      simp only [Act.put, zl]
      refine dw_skip rfl rfl rfl ?_
      simp only [Act.put, zl]
      refine dw_skip rfl rfl rfl ?_
      simp only [Act.put, zl]
      refine dw_skip rfl rfl rfl ?_
      simp only [Act.put, zl]
      refine dw_skip rfl rfl rfl ?_
      simp only [Act.put, zl]
      refine dw_skip rfl rfl rfl ?_
      simp only [Act.put, zl]
      refine dw_skip rfl rfl rfl ?_
      simp only [Act.put, zl]
      refine dw_val rfl rfl rfl ?_; apply Exists.intro; refine ⟨fun wv HC => ?_, ?_⟩
      ·  go_simp <;> rfl
      simp only [Act.put, zl]
      refine rel_nil ?_
      rintro wx2 HX
      rintro _hrm _HGW
      clear _HGW _hrm HTV HOD HF
      rw [HKL.out] at HX
      go_wp2_with fail
      go_meet
      exact ⟨by rw [HBAD.out], HX⟩
    obtain ⟨x, hx⟩ : ∃ x, li[0]? = some x := by
      cases hl : li with
      | nil => exact absurd ⟨by have := HIL.out; rw [hl] at this; simpa using this.symm, by rw [← HIR.out, hl]; rfl⟩ hz
      | cons a l => exact ⟨a, rfl⟩
    have HX0 := hid (show d.ins[0]? = some x.row by rw [← HIR.out, List.getElem?_map, hx]; rfl)
    have hni0 : 0 < ni := by have h := (List.getElem?_eq_some_iff.1 hx).1; rw [HIL.out] at h; exact h
    have h2 : decide ((ni : Int) > 0) = true := by rw [decide_eq_true_iff]; omega
    have h4 : (0 : Int) < (ni : Int) := by omega
    clear hz
    obtain ⟨bi, oi, rfl, hcell, _⟩ := (K0.ro 5 rfl).rwsAt hx
    simp only [Nat.zero_mul, Nat.add_zero] at hcell
    have HF2 : Hid (∀ wv, Hold M none w wv KL → wv.cell? ⟨bi, oi, none⟩ = some (.int .i64 x.id) ∧ bi < wv.heap.size) := hid fun wv HC => by
      rw [HKL.out] at HC
      obtain ⟨b', o', e', h3, _⟩ := (HC.ro 5 rfl).rwsAt hx
      obtain ⟨rfl, rfl⟩ : bi = b' ∧ oi = o' := by injection e' with e'; injection e' with e1 e2; exact ⟨e1, e2⟩
      have h5 := h3.now
      simp only [Nat.zero_mul, Nat.add_zero] at h5
      exact ⟨h5.2.1, h5.1⟩
    clear hx hcell
    by_cases hx3 : x.id < t.nx
    · have h3 : decide (x.id < t.nx) = true := by simpa using hx3
      have HBAD := hid (show (!(tabB t.nm t.cs t.nx t.rs && decide (d.nm = t.nm) && ordD d && fstD t d)) = true by rw [fstD_at HX0.out, show decide (t.nx ≤ x.row.1) = false from decide_eq_false (show ¬ t.nx ≤ x.id by omega)]; simp)
      clear hx3
      refine wp_region_any (by kernel_rfl) ?_
      refine wpAny_hold 31 152 (KL) (spL [(17, fun u _ => u = .bool (tabB t.nm t.cs t.nx t.rs)), (29, fun u _ => u = .bool (ordD d))]) (by kernel_rfl) (by kernel_rfl) (by kernel_rfl) rfl ?_ (KN.drew) ?_
      · exact stays_cons (fun _ _ _ _ h => h) (stays_cons (fun _ _ _ _ h => h) (stays_nil _))
      simp only [zd, Act.put, List.getElem_toArray, List.getElem_cons_zero, List.getElem_cons_succ, zl]
      refine dw_val rfl rfl rfl ?_; apply Exists.intro; refine ⟨fun wv HC => ?_, ?_⟩
      · obtain ⟨f0, f1, f2, f3, f4, f5, f6, f7, f8, f9⟩ := HF.out _ HC; go_simp <;> rfl
      simp only [Act.put, zl]
      refine dw_callR 17 (fun u _ => u = .bool (tabB t.nm t.cs t.nx t.rs)) (f := 59) (args := #[.agg #[.string t.nm, .slice tA tn tc, .int .i64 t.nx, .slice tB tm td]]) rfl rfl rfl rfl (fun wv => ?_) (fun wv HC hrm hD => ?_) ?_
      · go_simp <;> rfl
      · refine (HTV.out wv HC).mono ?_
        rintro e w5 ⟨rfl, b5⟩
        exact ⟨_, rfl, rfl, HC.call b5, RM.below b5⟩
      rintro x_ wx HCx rfl
      clear HCx
      rw [HV.out]
      simp only [Act.put, zl]
      refine dw_val rfl rfl rfl ?_; apply Exists.intro; refine ⟨fun wv HC => ?_, ?_⟩
      ·  go_simp <;> rfl
      simp only [Act.put, zl]
      refine dw_val rfl rfl rfl ?_; apply Exists.intro; refine ⟨fun wv HC => ?_, ?_⟩
      ·  go_simp <;> rfl
      simp only [Act.put, zl]
      refine dw_val rfl rfl rfl ?_; apply Exists.intro; refine ⟨fun wv HC => ?_, ?_⟩
      ·  go_simp <;> rfl
      simp only [Act.put, zl]
      refine dw_val rfl rfl rfl ?_; apply Exists.intro; refine ⟨fun wv HC => ?_, ?_⟩
      · obtain ⟨f0, f1, f2, f3, f4, f5, f6, f7, f8, f9⟩ := HF.out _ HC; go_simp <;> rfl
      simp only [Act.put, zl]
      refine dw_val rfl rfl rfl ?_; apply Exists.intro; refine ⟨fun wv HC => ?_, ?_⟩
      ·  go_simp <;> rfl
      simp only [Act.put, zl]
      refine dw_val rfl rfl rfl ?_; apply Exists.intro; refine ⟨fun wv HC => ?_, ?_⟩
      ·  go_simp <;> rfl
      simp only [Act.put, zl]
      refine dw_val rfl rfl rfl ?_; apply Exists.intro; refine ⟨fun wv HC => ?_, ?_⟩
      · obtain ⟨f0, f1, f2, f3, f4, f5, f6, f7, f8, f9⟩ := HF.out _ HC; go_simp <;> rfl
      simp only [Act.put, zl]
      refine dw_val rfl rfl rfl ?_; apply Exists.intro; refine ⟨fun wv HC => ?_, ?_⟩
      ·  go_simp <;> rfl
      simp only [Act.put, zl]
      refine dw_val rfl rfl rfl ?_; apply Exists.intro; refine ⟨fun wv HC => ?_, ?_⟩
      ·  go_simp <;> rfl
      simp only [Act.put, zl]
      refine dw_val rfl rfl rfl ?_; apply Exists.intro; refine ⟨fun wv HC => ?_, ?_⟩
      ·  go_simp <;> rfl
      simp only [Act.put, zl]
      refine dw_val rfl rfl rfl ?_; apply Exists.intro; refine ⟨fun wv HC => ?_, ?_⟩
      · obtain ⟨f0, f1, f2, f3, f4, f5, f6, f7, f8, f9⟩ := HF.out _ HC; go_simp <;> rfl
      simp only [Act.put, zl]
      refine dw_callR 29 (fun u _ => u = .bool (ordD d)) (f := 64) (args := #[.agg #[.string d.nm, .slice (some ⟨bi, oi, none⟩) ni ci, .slice D nd cd, .slice U nu cu]]) rfl rfl rfl rfl (fun wv => ?_) (fun wv HC hrm hD => ?_) ?_
      · go_simp <;> rfl
      · refine (HOD.out wv HC).mono ?_
        rintro e w5 ⟨rfl, b5⟩
        exact ⟨_, rfl, rfl, HC.call b5, RM.below b5⟩
      rintro x_ wx HCx rfl
      clear HCx
      rw [HO.out]
      simp only [Act.put, zl]
      refine dw_val rfl rfl rfl ?_; apply Exists.intro; refine ⟨fun wv HC => ?_, ?_⟩
      ·  go_simp <;> rfl
      simp only [Act.put, zl]
      refine dw_val rfl rfl rfl ?_; apply Exists.intro; refine ⟨fun wv HC => ?_, ?_⟩
      ·  go_simp <;> rfl
      simp only [Act.put, zl]
      refine dw_val rfl rfl rfl ?_; apply Exists.intro; refine ⟨fun wv HC => ?_, ?_⟩
      ·  go_simp <;> rfl
      simp only [Act.put, zl]
      refine dw_val rfl rfl rfl ?_; apply Exists.intro; refine ⟨fun wv HC => ?_, ?_⟩
      ·  go_simp <;> rfl
      simp only [Act.put, zl]
      refine dw_val rfl rfl rfl ?_; apply Exists.intro; refine ⟨fun wv HC => ?_, ?_⟩
      · obtain ⟨f0, f1, f2, f3, f4, f5, f6, f7, f8, f9⟩ := HF.out _ HC; go_simp <;> rfl
      simp only [Act.put, zl]
      refine dw_val rfl rfl rfl ?_; apply Exists.intro; refine ⟨fun wv HC => ?_, ?_⟩
      ·  go_simp <;> rfl
      simp only [Act.put, zl]
      refine dw_val rfl rfl rfl ?_; apply Exists.intro; refine ⟨fun wv HC => ?_, ?_⟩
      ·  go_simp <;> rfl
      simp only [Act.put, zl]
      refine dw_val rfl rfl rfl ?_; apply Exists.intro; refine ⟨fun wv HC => ?_, ?_⟩
      ·  go_simp <;> rfl
      simp only [Act.put, zl]
      refine dw_val rfl rfl rfl ?_; apply Exists.intro; refine ⟨fun wv HC => ?_, ?_⟩
      ·  go_simp <;> rfl
      simp only [Act.put, zl]
      refine dw_val rfl rfl rfl ?_; apply Exists.intro; refine ⟨fun wv HC => ?_, ?_⟩
      · obtain ⟨f0, f1, f2, f3, f4, f5, f6, f7, f8, f9⟩ := HF.out _ HC; go_simp <;> rfl
      simp only [Act.put, zl]
      refine dw_val rfl rfl rfl ?_; apply Exists.intro; refine ⟨fun wv HC => ?_, ?_⟩
      ·  go_simp <;> rfl
      simp only [Act.put, zl]
      refine dw_val rfl rfl rfl ?_; apply Exists.intro; refine ⟨fun wv HC => ?_, ?_⟩
      ·  go_simp <;> rfl
      simp only [Act.put, zl]
      refine dw_val rfl rfl rfl ?_; apply Exists.intro; refine ⟨fun wv HC => ?_, ?_⟩
      · obtain ⟨h0, h1⟩ := HF2.out _ HC; go_simp <;> rfl
      simp only [Act.put, zl]
      refine dw_val rfl rfl rfl ?_; apply Exists.intro; refine ⟨fun wv HC => ?_, ?_⟩
      ·  go_simp <;> rfl
      simp only [Act.put, zl]
      refine dw_val rfl rfl rfl ?_; apply Exists.intro; refine ⟨fun wv HC => ?_, ?_⟩
      · obtain ⟨f0, f1, f2, f3, f4, f5, f6, f7, f8, f9⟩ := HF.out _ HC; go_simp <;> rfl
      simp only [Act.put, zl]
      refine dw_val rfl rfl rfl ?_; apply Exists.intro; refine ⟨fun wv HC => ?_, ?_⟩
      ·  go_simp <;> rfl
      simp only [Act.put, zl]
      refine dw_val rfl rfl rfl ?_; apply Exists.intro; refine ⟨fun wv HC => ?_, ?_⟩
      ·  go_simp <;> rfl
      simp only [Act.put, zl]
      refine rel_nil ?_
      rintro wx2 HX
      rintro _hrm _HGW
      clear _HGW _hrm HTV HOD HF
      rw [HKL.out] at HX
      go_wp2_with fail
      go_meet
      exact ⟨by rw [HBAD.out], HX⟩
    · have h3 : decide (x.id < t.nx) = false := by simpa using hx3
      have HBAD := hid (show (!(tabB t.nm t.cs t.nx t.rs && decide (d.nm = t.nm) && ordD d && fstD t d)) = false by rw [HV.out, decide_eq_true HNM.out, HO.out, fstD_at HX0.out, show decide (t.nx ≤ x.row.1) = true from decide_eq_true (show t.nx ≤ x.id by omega)]; rfl)
      clear hx3
      refine wp_region_any (by kernel_rfl) ?_
      refine wpAny_hold 31 152 (KL) (spL [(17, fun u _ => u = .bool (tabB t.nm t.cs t.nx t.rs)), (29, fun u _ => u = .bool (ordD d))]) (by kernel_rfl) (by kernel_rfl) (by kernel_rfl) rfl ?_ (KN.drew) ?_
      · exact stays_cons (fun _ _ _ _ h => h) (stays_cons (fun _ _ _ _ h => h) (stays_nil _))
      simp only [zd, Act.put, List.getElem_toArray, List.getElem_cons_zero, List.getElem_cons_succ, zl]
      refine dw_val rfl rfl rfl ?_; apply Exists.intro; refine ⟨fun wv HC => ?_, ?_⟩
      · obtain ⟨f0, f1, f2, f3, f4, f5, f6, f7, f8, f9⟩ := HF.out _ HC; go_simp <;> rfl
      simp only [Act.put, zl]
      refine dw_callR 17 (fun u _ => u = .bool (tabB t.nm t.cs t.nx t.rs)) (f := 59) (args := #[.agg #[.string t.nm, .slice tA tn tc, .int .i64 t.nx, .slice tB tm td]]) rfl rfl rfl rfl (fun wv => ?_) (fun wv HC hrm hD => ?_) ?_
      · go_simp <;> rfl
      · refine (HTV.out wv HC).mono ?_
        rintro e w5 ⟨rfl, b5⟩
        exact ⟨_, rfl, rfl, HC.call b5, RM.below b5⟩
      rintro x_ wx HCx rfl
      clear HCx
      rw [HV.out]
      simp only [Act.put, zl]
      refine dw_val rfl rfl rfl ?_; apply Exists.intro; refine ⟨fun wv HC => ?_, ?_⟩
      ·  go_simp <;> rfl
      simp only [Act.put, zl]
      refine dw_val rfl rfl rfl ?_; apply Exists.intro; refine ⟨fun wv HC => ?_, ?_⟩
      ·  go_simp <;> rfl
      simp only [Act.put, zl]
      refine dw_val rfl rfl rfl ?_; apply Exists.intro; refine ⟨fun wv HC => ?_, ?_⟩
      ·  go_simp <;> rfl
      simp only [Act.put, zl]
      refine dw_val rfl rfl rfl ?_; apply Exists.intro; refine ⟨fun wv HC => ?_, ?_⟩
      · obtain ⟨f0, f1, f2, f3, f4, f5, f6, f7, f8, f9⟩ := HF.out _ HC; go_simp <;> rfl
      simp only [Act.put, zl]
      refine dw_val rfl rfl rfl ?_; apply Exists.intro; refine ⟨fun wv HC => ?_, ?_⟩
      ·  go_simp <;> rfl
      simp only [Act.put, zl]
      refine dw_val rfl rfl rfl ?_; apply Exists.intro; refine ⟨fun wv HC => ?_, ?_⟩
      ·  go_simp <;> rfl
      simp only [Act.put, zl]
      refine dw_val rfl rfl rfl ?_; apply Exists.intro; refine ⟨fun wv HC => ?_, ?_⟩
      · obtain ⟨f0, f1, f2, f3, f4, f5, f6, f7, f8, f9⟩ := HF.out _ HC; go_simp <;> rfl
      simp only [Act.put, zl]
      refine dw_val rfl rfl rfl ?_; apply Exists.intro; refine ⟨fun wv HC => ?_, ?_⟩
      ·  go_simp <;> rfl
      simp only [Act.put, zl]
      refine dw_val rfl rfl rfl ?_; apply Exists.intro; refine ⟨fun wv HC => ?_, ?_⟩
      ·  go_simp <;> rfl
      simp only [Act.put, zl]
      refine dw_val rfl rfl rfl ?_; apply Exists.intro; refine ⟨fun wv HC => ?_, ?_⟩
      ·  go_simp <;> rfl
      simp only [Act.put, zl]
      refine dw_val rfl rfl rfl ?_; apply Exists.intro; refine ⟨fun wv HC => ?_, ?_⟩
      · obtain ⟨f0, f1, f2, f3, f4, f5, f6, f7, f8, f9⟩ := HF.out _ HC; go_simp <;> rfl
      simp only [Act.put, zl]
      refine dw_callR 29 (fun u _ => u = .bool (ordD d)) (f := 64) (args := #[.agg #[.string d.nm, .slice (some ⟨bi, oi, none⟩) ni ci, .slice D nd cd, .slice U nu cu]]) rfl rfl rfl rfl (fun wv => ?_) (fun wv HC hrm hD => ?_) ?_
      · go_simp <;> rfl
      · refine (HOD.out wv HC).mono ?_
        rintro e w5 ⟨rfl, b5⟩
        exact ⟨_, rfl, rfl, HC.call b5, RM.below b5⟩
      rintro x_ wx HCx rfl
      clear HCx
      rw [HO.out]
      simp only [Act.put, zl]
      refine dw_val rfl rfl rfl ?_; apply Exists.intro; refine ⟨fun wv HC => ?_, ?_⟩
      ·  go_simp <;> rfl
      simp only [Act.put, zl]
      refine dw_val rfl rfl rfl ?_; apply Exists.intro; refine ⟨fun wv HC => ?_, ?_⟩
      ·  go_simp <;> rfl
      simp only [Act.put, zl]
      refine dw_val rfl rfl rfl ?_; apply Exists.intro; refine ⟨fun wv HC => ?_, ?_⟩
      ·  go_simp <;> rfl
      simp only [Act.put, zl]
      refine dw_val rfl rfl rfl ?_; apply Exists.intro; refine ⟨fun wv HC => ?_, ?_⟩
      ·  go_simp <;> rfl
      simp only [Act.put, zl]
      refine dw_val rfl rfl rfl ?_; apply Exists.intro; refine ⟨fun wv HC => ?_, ?_⟩
      · obtain ⟨f0, f1, f2, f3, f4, f5, f6, f7, f8, f9⟩ := HF.out _ HC; go_simp <;> rfl
      simp only [Act.put, zl]
      refine dw_val rfl rfl rfl ?_; apply Exists.intro; refine ⟨fun wv HC => ?_, ?_⟩
      ·  go_simp <;> rfl
      simp only [Act.put, zl]
      refine dw_val rfl rfl rfl ?_; apply Exists.intro; refine ⟨fun wv HC => ?_, ?_⟩
      ·  go_simp <;> rfl
      simp only [Act.put, zl]
      refine dw_val rfl rfl rfl ?_; apply Exists.intro; refine ⟨fun wv HC => ?_, ?_⟩
      ·  go_simp <;> rfl
      simp only [Act.put, zl]
      refine dw_val rfl rfl rfl ?_; apply Exists.intro; refine ⟨fun wv HC => ?_, ?_⟩
      ·  go_simp <;> rfl
      simp only [Act.put, zl]
      refine dw_val rfl rfl rfl ?_; apply Exists.intro; refine ⟨fun wv HC => ?_, ?_⟩
      · obtain ⟨f0, f1, f2, f3, f4, f5, f6, f7, f8, f9⟩ := HF.out _ HC; go_simp <;> rfl
      simp only [Act.put, zl]
      refine dw_val rfl rfl rfl ?_; apply Exists.intro; refine ⟨fun wv HC => ?_, ?_⟩
      ·  go_simp <;> rfl
      simp only [Act.put, zl]
      refine dw_val rfl rfl rfl ?_; apply Exists.intro; refine ⟨fun wv HC => ?_, ?_⟩
      ·  go_simp <;> rfl
      simp only [Act.put, zl]
      refine dw_val rfl rfl rfl ?_; apply Exists.intro; refine ⟨fun wv HC => ?_, ?_⟩
      · obtain ⟨h0, h1⟩ := HF2.out _ HC; go_simp <;> rfl
      simp only [Act.put, zl]
      refine dw_val rfl rfl rfl ?_; apply Exists.intro; refine ⟨fun wv HC => ?_, ?_⟩
      ·  go_simp <;> rfl
      simp only [Act.put, zl]
      refine dw_val rfl rfl rfl ?_; apply Exists.intro; refine ⟨fun wv HC => ?_, ?_⟩
      · obtain ⟨f0, f1, f2, f3, f4, f5, f6, f7, f8, f9⟩ := HF.out _ HC; go_simp <;> rfl
      simp only [Act.put, zl]
      refine dw_val rfl rfl rfl ?_; apply Exists.intro; refine ⟨fun wv HC => ?_, ?_⟩
      ·  go_simp <;> rfl
      simp only [Act.put, zl]
      refine dw_val rfl rfl rfl ?_; apply Exists.intro; refine ⟨fun wv HC => ?_, ?_⟩
      ·  go_simp <;> rfl
      simp only [Act.put, zl]
      refine rel_nil ?_
      rintro wx2 HX
      rintro _hrm _HGW
      clear _HGW _hrm HTV HOD HF
      rw [HKL.out] at HX
      go_wp2_with fail
      go_meet
      exact ⟨by rw [HBAD.out], HX⟩
  case rest =>
    clear K0
    obtain ⟨rfl, K1⟩ := hcut
    cases hbad : (!(tabB t.nm t.cs t.nx t.rs && decide (d.nm = t.nm) && ordD d && fstD t d))
    case true =>
      have HN := hid (show applyD t d = (false, zeroT) from by
        simp only [Bool.not_eq_true', Bool.and_eq_false_iff, decide_eq_false_iff_not] at hbad
        rcases hbad with ((h | h) | h) | h
        · exact applyD_1 h
        · exact applyD_2 h
        · exact applyD_3 h
        · exact applyD_4 h)
      clear hbad
      have F1 := K1.facts
      simp only [factsL, cellsF, Nat.reduceAdd, zf, zl] at F1
      have KN := (((K1.store 0 rfl 0 (.string ⟨#[]⟩)).store 0 rfl 1 (.slice none 0 0)).store 0 rfl 2 (.int .i64 0)).store 0 rfl 3 (.slice none 0 0)
      go_wp2_with fail
      exact bodyPost_ret (v := .tuple #[.agg #[.string ⟨#[]⟩, .slice none 0 0, .int .i64 0, .slice none 0 0], .bool false]) (by simp [results, Tryd.results23, go_sem, F1]) rfl ⟨_, by rw [HN.out], by rw [HN.out]; exact tbAt_zero, KN.below⟩
    have HOKS := hid (show tabB t.nm t.cs t.nx t.rs = true ∧ d.nm = t.nm ∧ ordD d = true ∧ fstD t d = true from by
      simp only [Bool.not_eq_false', Bool.and_eq_true, decide_eq_true_eq] at hbad
      exact ⟨hbad.1.1.1, hbad.1.1.2, hbad.1.2, hbad.2⟩)
    clear hbad
    have htn6 : tn ≤ 6 := by have := tabB_cols HOKS.out.1; have := HTC.out; omega
    have htm1 : tm ≤ 100 := by have := (tabB_rows HOKS.out.1).1; have h := congrArg List.length HTR.out; rw [List.length_map] at h; have := HTL.out; omega
    have hnx1 : -9223372036854775808 ≤ t.nx ∧ t.nx ≤ 2147483649 := by have := (tabB_ok HOKS.out.1).2.2; omega
    have HSH := hid (rw_short HTE.out (by rw [HTR.out]; exact HOKS.out.1))
    clear htm hrt
    have K2 := K1.alloc #[.string t.nm, .slice tA tn tc, .int .i64 t.nx, .slice none 0 0] 27
    have F1 := K1.facts
    simp only [factsL, cellsF, Nat.reduceAdd, zf, zl] at F1
    go_wp2_with fail
    obtain ⟨g6, hg6⟩ : ∃ g, g = wc.heap.size := ⟨_, rfl⟩
    rw [← hg6] at K2 ⊢
    have HG6 := hid hg6
    clear hg6 F1 K1
    generalize World.alloc wc _ = w2 at K2 ⊢
    refine (cloneCols_any _ _ K2.mutLt tA tn tc t.cs (K2.ro 4 rfl) (by omega)).mono ?_
    rintro e w3 ⟨oA, on, oc, rfl, hon, hoc1, hoc2, ro1, b3⟩
    have K3 := (K2.call b3).add (show Ro w3 _ (ColsIn oA on t.cs) from ro1)
    have HOC := hid (And.intro hoc1 hoc2)
    have HON := hid hon
    clear ro1 b3 K2 hon
    have F3 := K3.facts
    simp only [factsL, cellsF, Nat.reduceAdd, zf, zl] at F3
    have N3 := K3.nes
    simp only [World.size_alloc, nesL, neF, List.set_cons_zero, List.set_cons_succ, and_true, true_and] at N3
    have K2 := K3.store 1 rfl 1 (.slice oA on oc)
    simp only [List.set_cons_zero, List.set_cons_succ, List.setIfInBounds_toArray] at K2
    clear K3
    go_wp2_with fail
    go_loopw [63] (fun iv wr => ∃ k : Nat, k ≤ nd ∧ iv = .int .i64 k ∧ Hid (∀ r ∈ ld.take k, r.row ∈ t.rs) ∧ Hold M none w wr [.ro (ColsIn oA on t.cs), .blk g6 27 #[.string t.nm, .slice oA on oc, .int .i64 t.nx, .slice none 0 0], .blk g4 27 #[.string ⟨#[]⟩, .slice none 0 0, .int .i64 0, .slice none 0 0], .cst g3 41 #[.string d.nm, .slice I ni ci, .slice D nd cd, .slice U nu cu], .cst g2 27 #[.string t.nm, .slice tA tn tc, .int .i64 t.nx, .slice tB tm td], .ro (ColsIn tA tn t.cs), .ro (RwsIn tB tm lt), .ro (RwsIn I ni li), .ro (RwsIn D nd ld), .ro (PrsIn U nu lu)]) (fun iv _ => nd - (intOf iv).toNat)
    case atStart => exact ⟨0, by omega, rfl, hid (fun r hr => by simp at hr), K2⟩
    case round =>
      clear K2
      obtain ⟨k, hk, rfl, HIN, H⟩ := hrel
      by_cases hlt : k < nd
      · have hd : decide ((k : Int) < (nd : Int)) = true := by simp; omega
        have i0 : (0 : Int) ≤ (k : Int) := by omega
        have i1 : (k : Int) < (nd : Int) := by omega
        obtain ⟨x, hx⟩ := get_of HDL.out hlt
        have hxv : Ro wr _ (VlsIn x.A x.n x.vs) := (H.ro 8 rfl).imp fun w2 h2 => h2.2 x (List.mem_of_getElem? hx)
        obtain ⟨bb, oo, rfl, hbb, c0, c1, _⟩ := (H.ro 8 rfl).now.at_ hx
        have HX := hid hx
        clear hx
        have K3 := (H.add hxv).alloc_cst #[.int .i64 x.id, .slice x.A x.n x.c] 53
        have F3 := K3.facts
        simp only [factsL, cellsF, Nat.reduceAdd, zf, zl] at F3
        clear hxv H
        go_wp2_with fail
        refine (dpresent_any _ _ K3.mutLt t.nm tA tn tc t.nx tB tm td lt x.id x.A x.n x.c x.vs (K3.ro 8 rfl) (K3.ro 1 rfl) (by omega) (fun r hr => by have := HSH.out r hr; omega)).mono ?_
        rintro e w3 ⟨rfl, b3⟩
        have K4 := (K3.call b3).drop ((List.sublist_cons_self _ _).trans (List.sublist_cons_self _ _))
        clear K3 F3 b3
        by_cases hp : x.row ∈ t.rs
        · have hp2 : (lt.any fun y => decide (y.row = (x.id, x.vs))) = true := by rw [any_row HTR.out]; exact decide_eq_true hp
          have HN := hid (show ∀ r ∈ ld.take (k + 1), r.row ∈ t.rs from by
            rw [List.take_add_one, HX.out, Option.toList_some]
            exact okSnoc HIN.out hp)
          clear hp
          rw [hp2]
          go_wp2_with fail
          go_roundw
          case rel => exact ⟨k + 1, by omega, by go_num, HN, K4⟩
          case measure => simp [intOf]; omega
        · have hp2 : (lt.any fun y => decide (y.row = (x.id, x.vs))) = false := by rw [any_row HTR.out]; exact decide_eq_false hp
          have HN := hid (applyD_5 (presD_del (t := t) (d := d) (r := x.row) (by rw [← HDR.out]; exact List.mem_map_of_mem (List.mem_of_getElem? HX.out)) hp))
          clear hp
          rw [hp2]
          have F4 := K4.facts
          simp only [factsL, cellsF, Nat.reduceAdd, zf, zl] at F4
          have KN := (((K4.store 2 rfl 0 (.string ⟨#[]⟩)).store 2 rfl 1 (.slice none 0 0)).store 2 rfl 2 (.int .i64 0)).store 2 rfl 3 (.slice none 0 0)
          go_wp2_with fail
          exact bodyPost_ret (v := .tuple #[.agg #[.string ⟨#[]⟩, .slice none 0 0, .int .i64 0, .slice none 0 0], .bool false]) (by simp [results, Tryd.results23, go_sem, F4]) rfl ⟨_, by rw [HN.out], by rw [HN.out]; exact tbAt_zero, KN.below⟩
      · obtain rfl : nd = k := by omega
        have hd : decide ((nd : Int) < (nd : Int)) = false := by simp
        have HAD := hid (show ∀ r ∈ d.del, r ∈ t.rs from by
          intro r hr
          rw [← HDR.out] at hr
          obtain ⟨x, hx, rfl⟩ := List.mem_map.1 hr
          exact HIN.out x (by rw [List.take_of_length_le (by rw [HDL.out]; exact Nat.le_refl _)]; exact hx))
        have F := H.facts
        simp only [factsL, cellsF, Nat.reduceAdd, zf, zl] at F
        go_wp2_with fail
        go_loopw [79] (fun iv wr => ∃ k : Nat, k ≤ nu ∧ iv = .int .i64 k ∧ Hid (∀ r ∈ lu.take k, (r.id, r.old) ∈ t.rs) ∧ Hold M none w wr [.ro (ColsIn oA on t.cs), .blk g6 27 #[.string t.nm, .slice oA on oc, .int .i64 t.nx, .slice none 0 0], .blk g4 27 #[.string ⟨#[]⟩, .slice none 0 0, .int .i64 0, .slice none 0 0], .cst g3 41 #[.string d.nm, .slice I ni ci, .slice D nd cd, .slice U nu cu], .cst g2 27 #[.string t.nm, .slice tA tn tc, .int .i64 t.nx, .slice tB tm td], .ro (ColsIn tA tn t.cs), .ro (RwsIn tB tm lt), .ro (RwsIn I ni li), .ro (RwsIn D nd ld), .ro (PrsIn U nu lu)]) (fun iv _ => nu - (intOf iv).toNat)
        case atStart => exact ⟨0, by omega, rfl, hid (fun r hr => by simp at hr), H⟩
        case round =>
          clear H F
          obtain ⟨k, hk, rfl, HIN, H⟩ := hrel
          by_cases hlt : k < nu
          · have hd : decide ((k : Int) < (nu : Int)) = true := by simp; omega
            have i0 : (0 : Int) ≤ (k : Int) := by omega
            have i1 : (k : Int) < (nu : Int) := by omega
            obtain ⟨x, hx⟩ := get_of HUL.out hlt
            have hxv : Ro wr _ (VlsIn x.oA x.on x.old) := (H.ro 9 rfl).imp fun w2 h2 => (h2.2 x (List.mem_of_getElem? hx)).1
            obtain ⟨bb, oo, rfl, hbb, c0, c1, c2, _⟩ := (H.ro 9 rfl).now.at_ hx
            have HX := hid hx
            clear hx
            have K3 := (H.add hxv).alloc_cst #[.int .i64 x.id, .slice x.oA x.on x.oc, .slice x.nA x.nn x.nc] 99
            have F3 := K3.facts
            simp only [factsL, cellsF, Nat.reduceAdd, zf, zl] at F3
            clear hxv H
            go_wp2_with fail
            refine (dpresent_any _ _ K3.mutLt t.nm tA tn tc t.nx tB tm td lt x.id x.oA x.on x.oc x.old (K3.ro 8 rfl) (K3.ro 1 rfl) (by omega) (fun r hr => by have := HSH.out r hr; omega)).mono ?_
            rintro e w3 ⟨rfl, b3⟩
            have K4 := (K3.call b3).drop ((List.sublist_cons_self _ _).trans (List.sublist_cons_self _ _))
            clear K3 F3 b3
            by_cases hp : (x.id, x.old) ∈ t.rs
            · have hp2 : (lt.any fun y => decide (y.row = (x.id, x.old))) = true := by rw [any_row HTR.out]; exact decide_eq_true hp
              have HN := hid (show ∀ r ∈ lu.take (k + 1), (r.id, r.old) ∈ t.rs from by
                rw [List.take_add_one, HX.out, Option.toList_some]
                exact okSnoc HIN.out hp)
              clear hp
              rw [hp2]
              go_wp2_with fail
              go_roundw
              case rel => exact ⟨k + 1, by omega, by go_num, HN, K4⟩
              case measure => simp [intOf]; omega
            · have hp2 : (lt.any fun y => decide (y.row = (x.id, x.old))) = false := by rw [any_row HTR.out]; exact decide_eq_false hp
              have HN := hid (applyD_5 (presD_upd (t := t) (d := d) (u := x.upd) (by rw [← HUR.out]; exact List.mem_map_of_mem (List.mem_of_getElem? HX.out)) hp))
              clear hp
              rw [hp2]
              have F4 := K4.facts
              simp only [factsL, cellsF, Nat.reduceAdd, zf, zl] at F4
              have KN := (((K4.store 2 rfl 0 (.string ⟨#[]⟩)).store 2 rfl 1 (.slice none 0 0)).store 2 rfl 2 (.int .i64 0)).store 2 rfl 3 (.slice none 0 0)
              go_wp2_with fail
              exact bodyPost_ret (v := .tuple #[.agg #[.string ⟨#[]⟩, .slice none 0 0, .int .i64 0, .slice none 0 0], .bool false]) (by simp [results, Tryd.results23, go_sem, F4]) rfl ⟨_, by rw [HN.out], by rw [HN.out]; exact tbAt_zero, KN.below⟩
          · obtain rfl : nu = k := by omega
            have hd : decide ((nu : Int) < (nu : Int)) = false := by simp
            have HPR := hid (presD_ok (t := t) (d := d) HAD.out (by
              intro u hu
              rw [← HUR.out] at hu
              obtain ⟨x, hx, rfl⟩ := List.mem_map.1 hu
              exact HIN.out x (by rw [List.take_of_length_le (by rw [HUL.out]; exact Nat.le_refl _)]; exact hx)))
            have KM := (H.add (show Ro _ _ (ValsIn []) from fun _ _ _ r hr => nomatch hr)).nil 53 2
            have F := H.facts
            simp only [factsL, cellsF, Nat.reduceAdd, zf, zl] at F
            clear H HAD HIN
            go_wp2_with fail
            go_loopw [95] (fun iv wr => ∃ (k q cq : Nat) (O : Option Addr) (lo : List Rw), k ≤ tm ∧ iv = .int .i64 k ∧ q ≤ k ∧ Hid (lo.map Rw.row = keepL d (t.rs.take k)) ∧ Hid (∀ r ∈ lo, r.ok) ∧ Hold M none w wr [.own 53 2 (.slice O q cq) q (rwCells lo), .ro (ValsIn lo), .ro (ColsIn oA on t.cs), .blk g6 27 #[.string t.nm, .slice oA on oc, .int .i64 t.nx, .slice O q cq], .blk g4 27 #[.string ⟨#[]⟩, .slice none 0 0, .int .i64 0, .slice none 0 0], .cst g3 41 #[.string d.nm, .slice I ni ci, .slice D nd cd, .slice U nu cu], .cst g2 27 #[.string t.nm, .slice tA tn tc, .int .i64 t.nx, .slice tB tm td], .ro (ColsIn tA tn t.cs), .ro (RwsIn tB tm lt), .ro (RwsIn I ni li), .ro (RwsIn D nd ld), .ro (PrsIn U nu lu)]) (fun iv _ => tm - (intOf iv).toNat)
            case atStart => exact ⟨0, 0, 0, none, [], by omega, rfl, by omega, hid rfl, hid (fun r hr => nomatch hr), KM⟩
            case round =>
              clear KM F
              obtain ⟨k, q, cq, O, lo, hk, rfl, hq, HLO, HOK, H⟩ := hrel
              by_cases hlt : k < tm
              · have hd : decide ((k : Int) < (tm : Int)) = true := by simp; omega
                have i0 : (0 : Int) ≤ (k : Int) := by omega
                have i1 : (k : Int) < (tm : Int) := by omega
                obtain ⟨x, hx⟩ := get_of HTL.out hlt
                have hxv : Ro wr _ (VlsIn x.A x.n x.vs) := (H.ro 8 rfl).imp fun w2 h2 => h2.2 x (List.mem_of_getElem? hx)
                obtain ⟨bb, oo, rfl, hbb, c0, c1, _⟩ := (H.ro 8 rfl).now.at_ hx
                have HXX := hid (show t.rs[k]? = some x.row by rw [← HTR.out, List.getElem?_map, hx]; rfl)
                have HXO := hid (HTO.out x (List.mem_of_getElem? hx))
                have hxn6 := HSH.out x (List.mem_of_getElem? hx)
                obtain ⟨xid, xA, xn, xc, xvs⟩ := x
                dsimp only at *
                clear hx
                have K3 := (H.add hxv).alloc #[.int .i64 xid, .slice xA xn xc] 53
                clear hxv H
                have F3 := K3.facts
                simp only [factsL, cellsF, Nat.reduceAdd, zf, zl] at F3
                go_wp2_with fail
                obtain ⟨gx, hgx⟩ : ∃ g, g = wr.heap.size := ⟨_, rfl⟩
                rw [← hgx] at K3 F3 ⊢
                have HGX := hid hgx
                clear hgx c0 c1
                generalize World.alloc wr _ = w3 at K3 F3 ⊢
                have hbx := K3.blk_ 0 rfl
                refine (dgoneC_any None_ w3 (fun b hb => hb.elim) D nd cd ld gx xid xA xn xc 53 (fun w2 h1 h2 => (h2 gx (Blk.lt hbx) (by simp [None_])).trans hbx) ((K3.ro 12 rfl).less fun b hb => hb.elim) (by omega)).mono ?_
                rintro e w4 ⟨rfl, b4⟩
                have K4 := K3.call b4
                clear K3 F3 b4 hbx
                cases hp : ld.any fun y => decide (y.id = xid)
                · have HP := hid (show (d.del.any fun y => decide (y.1 = xid)) = false by rw [← any_id HDR.out]; exact hp)
                  clear hp
                  have F4 := K4.facts
                  simp only [factsL, cellsF, Nat.reduceAdd, zf, zl] at F4
                  go_wp2_with fail
                  have hbx := K4.blk_ 0 rfl
                  refine (dpairI_any None_ w4 (fun b hb => hb.elim) U nu cu lu gx xid xA xn xc 53 (fun w2 h1 h2 => (h2 gx (Blk.lt hbx) (by simp [None_])).trans hbx) ((K4.ro 13 rfl).less fun b hb => hb.elim) (by omega)).mono ?_
                  rintro e w5 ⟨⟨r, rfl, hr⟩, b5⟩
                  have K5 := K4.call b5
                  clear K4 F4 b5 hbx
                  have F5 := K5.facts
                  simp only [factsL, cellsF, Nat.reduceAdd, zf, zl] at F5
                  rcases hr with ⟨j, y, hy, hp, hpb, rfl⟩ | ⟨rfl, hall⟩
                  · have h0 : decide ((j : Int) ≥ 0) = true := by simp
                    have HU := hid (show findU d.upd xid = some y.new from findU_at HUR.out hy hp hpb)
                    have hju : j < nu := by have := (List.getElem?_eq_some_iff.1 hy).1; rw [HUL.out] at this; exact this
                    have i2 : (0 : Int) ≤ (j : Int) := by omega
                    have i3 : (j : Int) < (nu : Int) := by omega
                    have hyv : Ro w5 _ (VlsIn y.nA y.nn y.new) := (K5.ro 13 rfl).imp fun w2 h2 => (h2.2 y (List.mem_of_getElem? hy)).2
                    obtain ⟨bu, ou, rfl, hbu, c0, c1, c2, _⟩ := (K5.ro 13 rfl).now.at_ hy
                    have HYM := hid (List.mem_of_getElem? hy)
                    have HYO := hid (HUO.out y (List.mem_of_getElem? hy))
                    have hyn : y.nn ≤ 4398046511104 := HUN.out y (List.mem_of_getElem? hy)
                    obtain ⟨yid, oA', on', oc', yold, yA, yn, yc, ynew⟩ := y
                    dsimp only at *
                    clear hy hp hpb
                    have K6 := (K5.store 0 rfl 1 (.slice yA yn yc)).drop (List.Sublist.cons_cons _ (List.sublist_cons_self _ _))
                    simp only [List.set_cons_zero, List.set_cons_succ, List.setIfInBounds_toArray] at K6
                    have hyv2 : Ro _ _ (VlsIn yA yn ynew) := (K6.ro 12 rfl).imp fun w2 h2 => (h2.2 _ HYM.out).2
                    have K7 := (K6.add hyv2).fix_ 1 rfl
                    simp only [List.set_cons_zero, List.set_cons_succ] at K7
                    clear K5 hyv
                    have KX := K7.sinkN 1
                    simp only [List.take_succ_cons, List.take_zero, List.drop_succ_cons, List.drop_zero, List.cons_append, List.nil_append] at KX
                    clear K6 K7 hyv2
                    obtain ⟨KL, hKL, KN⟩ := KX.name
                    have HF : Hid (∀ wv, Hold M none w wv KL → (wv.cell? ⟨g6, 3, none⟩ = some (.slice O q cq) ∧ g6 < wv.heap.size) ∧ wv.cell? ⟨gx, 0, none⟩ = some (.int .i64 xid) ∧ wv.cell? ⟨gx, 1, none⟩ = some (.slice yA yn yc) ∧ gx < wv.heap.size) := hid fun wv HC => by
                      rw [hKL] at HC
                      have y1 := HC.blk_ 5 rfl
                      have y2 := HC.cst_ 0 rfl
                      exact ⟨⟨cell_of_row _ _ 3 _ _ _ y1, Blk.lt y1⟩, cell_of_row _ _ 0 _ _ _ y2, cell_of_row _ _ 1 _ _ _ y2, Blk.lt y2⟩
                    have HRX : Hid (∀ wv, Hold M none w wv KL → Ro wv (Mut M KL) (VlsIn yA yn ynew)) := hid fun wv HC => by
                      rw [hKL] at HC ⊢
                      exact HC.ro 1 rfl
                    have HKL := hid hKL
                    clear hKL KX
                    go_wp2_with fail
                    refine wp_region_any (by kernel_rfl) ?_
                    refine wpAny_hold 5 152 (KL) (spL [(119, RowSlot (Mut M KL) xid ynew), (120, RBoxSlot (Mut M KL) xid ynew)]) (by kernel_rfl) (by kernel_rfl) (by kernel_rfl) rfl ?_ (KN.drew) ?_
                    · exact stays_cons rowSlot_mono (stays_cons rboxSlot_mono (stays_nil _))
                    simp only [zd, Act.put, List.getElem_toArray, List.getElem_cons_zero, List.getElem_cons_succ, zl]
                    refine dw_val rfl rfl rfl ?_; apply Exists.intro; refine ⟨fun wv HC => ?_, ?_⟩
                    ·  go_simp <;> rfl
                    simp only [Act.put, zl]
                    refine dw_val rfl rfl rfl ?_; apply Exists.intro; refine ⟨fun wv HC => ?_, ?_⟩
                    · obtain ⟨⟨f0, f1⟩, f2, f3, f4⟩ := HF.out _ HC; go_simp <;> rfl
                    simp only [Act.put, zl]
                    refine dw_val rfl rfl rfl ?_; apply Exists.intro; refine ⟨fun wv HC => ?_, ?_⟩
                    · obtain ⟨⟨f0, f1⟩, f2, f3, f4⟩ := HF.out _ HC; go_simp <;> rfl
                    simp only [Act.put, zl]
                    refine dw_callR 119 (RowSlot (Mut M KL) xid ynew) (f := 61) (args := #[.agg #[.int .i64 xid, .slice yA yn yc]]) rfl rfl rfl rfl (fun wv => ?_) (fun wv HC hrm hD => ?_) ?_
                    · go_simp <;> rfl
                    · refine (dcopied_any _ wv HC.mutLt xid yA yn yc ynew (HRX.out _ HC) (by omega)).mono ?_
                      rintro e w5 ⟨A5, n5, c5, rfl, h50, h51, h52, h53, b5⟩
                      exact ⟨_, rfl, ⟨A5, n5, c5, rfl, h50, h51, h52, h53⟩, HC.call b5, RM.below b5⟩
                    rintro x_ wx HCx ⟨A5, n5, c5, rfl, -, -, -, -⟩
                    clear HCx
                    simp only [Act.put, zl]
                    refine dw_new #[.int .i64 xid, .slice A5 n5 c5] 53 120 (RBoxSlot (Mut M KL) xid ynew) (fun g => .slice (some ⟨g, 0, none⟩) 1 1) rfl rfl rfl rfl (fun wv => ?_) (fun wv HC _hrm hD hro => ?_) ?_
                    · go_simp <;> rfl
                    · have hsl : RowSlot (Mut M KL) xid ynew (.agg #[.int .i64 xid, .slice A5 n5 c5]) wv := deps_at hD 3 rfl (by kernel_rfl) rfl rfl
                      obtain ⟨A6, n6, c6, e6, h1, h2, h3, h4⟩ := hsl
                      obtain ⟨rfl, rfl, rfl⟩ : A5 = A6 ∧ n5 = n6 ∧ c5 = c6 := by
                        injection e6 with e6
                        simp at e6
                        exact e6
                      exact ⟨_, A5, n5, c5, rfl, h1, h2, h3, h4.step (by simp) (fun b hb _ => Below.heap_alloc wv _ b hb) (fun _ _ h => h), ro_block (hro _ HC.mutLt) rfl⟩
                    rintro gn wg HCg hsl
                    simp only [Act.put, zl]
                    clear hsl HCg
                    refine rel_nil ?_
                    rintro wx2 HX
                    rintro _hrm HGW
                    have hb2 : RBoxSlot (Mut M KL) xid ynew (.slice (some ⟨gn, 0, none⟩) 1 1) wx2 := (GW_on (d := 120) rfl).1 (HGW 4 _ rfl (by omega))
                    clear HGW _hrm
                    obtain ⟨gq, A6, n6, c6, e6, k0_, k1_, k2_, k3_, k4_⟩ := hb2
                    obtain rfl : gn = gq := by injection e6 with e6; injection e6 with e6; injection e6
                    clear e6
                    rw [HKL.out] at HX k3_
                    have k5 := hid k4_.now
                    have HK0 := hid (And.intro k0_ (And.intro k1_ k2_))
                    clear k4_ k0_ k1_ k2_ HF HRX KN
                    have HRS := hid (show rwCells lo ++ [.int .i64 xid, .slice A6 n6 c6] = rwCells (lo ++ [⟨xid, A6, n6, c6, ynew⟩]) from rwCells_snoc1 _ _ _ _ _ _)
                    have KA := HX.add k3_
                    clear HX k3_
                    have FKA := KA.facts
                    simp only [factsL, cellsF, Nat.reduceAdd, zf, zl] at FKA
                    go_wp2_with (at_builtin; go_must (refine wpList_appAllH KA 3 rfl Tryd.elRw k5.out rfl (.tmp 117) (.tmp 120) rfl rfl rfl (by intro z hz; simp at hz; rcases hz with rfl | rfl <;> rfl) (by omega) (by omega) ?_); intro C' cap' w6 hc6 hm6 KB; rw [HRS.out] at KB; simp only [List.set_cons_zero, List.set_cons_succ] at KB; (have F3 := KB.facts); simp only [factsL, cellsF, Nat.reduceAdd, zf, zl] at F3; (have N3 := KB.nes); simp only [World.size_alloc, nesL, neF, List.set_cons_zero, List.set_cons_succ, and_true, true_and] at N3)
                    have KD := KB.store 6 rfl 3 (.slice C' (q + 1) cap')
                    have KE := (KD.swapRo 4 rfl (vals_snoc (r := ⟨xid, A6, n6, c6, ynew⟩) (KD.ro 4 rfl) (KD.ro 0 rfl))).drop (List.sublist_cons_self _ _)
                    clear KB KD FKA k5
                    have HBN := hid (show (lo ++ [(⟨xid, A6, n6, c6, ynew⟩ : Rw)]).map Rw.row = keepL d (t.rs.take (k + 1)) by rw [List.map_append, HLO.out]; exact (keepL_turn (r := (xid, xvs)) HXX.out HP.out HU.out).symm)
                    have HOK2 := hid (okSnoc (P := Rw.ok) (x := (⟨xid, A6, n6, c6, ynew⟩ : Rw)) HOK.out ⟨HXO.out.id, HK0.out.2.1, HK0.out.2.2, HYO.out.new⟩)
                    have KZ := KE.drop (List.Sublist.cons _ (List.sublist_cons_self _ _))
                    go_roundw
                    case rel => exact ⟨k + 1, q + 1, cap', C', _, by omega, by first | rfl | go_num, by omega, HBN, HOK2, KZ⟩
                    case measure => simp [intOf]; omega
                  · have h0 : decide ((-1 : Int) ≥ 0) = false := by decide
                    have HU := hid (show findU d.upd xid = none from findU_no HUR.out hall)
                    clear hall
                    have KX := K5.fix_ 0 rfl
                    simp only [List.set_cons_zero] at KX
                    clear K5
                    obtain ⟨KL, hKL, KN⟩ := KX.name
                    have HF : Hid (∀ wv, Hold M none w wv KL → (wv.cell? ⟨g6, 3, none⟩ = some (.slice O q cq) ∧ g6 < wv.heap.size) ∧ wv.cell? ⟨gx, 0, none⟩ = some (.int .i64 xid) ∧ wv.cell? ⟨gx, 1, none⟩ = some (.slice xA xn xc) ∧ gx < wv.heap.size) := hid fun wv HC => by
                      rw [hKL] at HC
                      have y1 := HC.blk_ 5 rfl
                      have y2 := HC.cst_ 0 rfl
                      exact ⟨⟨cell_of_row _ _ 3 _ _ _ y1, Blk.lt y1⟩, cell_of_row _ _ 0 _ _ _ y2, cell_of_row _ _ 1 _ _ _ y2, Blk.lt y2⟩
                    have HRX : Hid (∀ wv, Hold M none w wv KL → Ro wv (Mut M KL) (VlsIn xA xn xvs)) := hid fun wv HC => by
                      rw [hKL] at HC ⊢
                      exact HC.ro 1 rfl
                    have HKL := hid hKL
                    clear hKL KX
                    go_wp2_with fail
                    refine wp_region_any (by kernel_rfl) ?_
                    refine wpAny_hold 5 152 (KL) (spL [(119, RowSlot (Mut M KL) xid xvs), (120, RBoxSlot (Mut M KL) xid xvs)]) (by kernel_rfl) (by kernel_rfl) (by kernel_rfl) rfl ?_ (KN.drew) ?_
                    · exact stays_cons rowSlot_mono (stays_cons rboxSlot_mono (stays_nil _))
                    simp only [zd, Act.put, List.getElem_toArray, List.getElem_cons_zero, List.getElem_cons_succ, zl]
                    refine dw_val rfl rfl rfl ?_; apply Exists.intro; refine ⟨fun wv HC => ?_, ?_⟩
                    ·  go_simp <;> rfl
                    simp only [Act.put, zl]
                    refine dw_val rfl rfl rfl ?_; apply Exists.intro; refine ⟨fun wv HC => ?_, ?_⟩
                    · obtain ⟨⟨f0, f1⟩, f2, f3, f4⟩ := HF.out _ HC; go_simp <;> rfl
                    simp only [Act.put, zl]
                    refine dw_val rfl rfl rfl ?_; apply Exists.intro; refine ⟨fun wv HC => ?_, ?_⟩
                    · obtain ⟨⟨f0, f1⟩, f2, f3, f4⟩ := HF.out _ HC; go_simp <;> rfl
                    simp only [Act.put, zl]
                    refine dw_callR 119 (RowSlot (Mut M KL) xid xvs) (f := 61) (args := #[.agg #[.int .i64 xid, .slice xA xn xc]]) rfl rfl rfl rfl (fun wv => ?_) (fun wv HC hrm hD => ?_) ?_
                    · go_simp <;> rfl
                    · refine (dcopied_any _ wv HC.mutLt xid xA xn xc xvs (HRX.out _ HC) (by omega)).mono ?_
                      rintro e w5 ⟨A5, n5, c5, rfl, h50, h51, h52, h53, b5⟩
                      exact ⟨_, rfl, ⟨A5, n5, c5, rfl, h50, h51, h52, h53⟩, HC.call b5, RM.below b5⟩
                    rintro x_ wx HCx ⟨A5, n5, c5, rfl, -, -, -, -⟩
                    clear HCx
                    simp only [Act.put, zl]
                    refine dw_new #[.int .i64 xid, .slice A5 n5 c5] 53 120 (RBoxSlot (Mut M KL) xid xvs) (fun g => .slice (some ⟨g, 0, none⟩) 1 1) rfl rfl rfl rfl (fun wv => ?_) (fun wv HC _hrm hD hro => ?_) ?_
                    · go_simp <;> rfl
                    · have hsl : RowSlot (Mut M KL) xid xvs (.agg #[.int .i64 xid, .slice A5 n5 c5]) wv := deps_at hD 3 rfl (by kernel_rfl) rfl rfl
                      obtain ⟨A6, n6, c6, e6, h1, h2, h3, h4⟩ := hsl
                      obtain ⟨rfl, rfl, rfl⟩ : A5 = A6 ∧ n5 = n6 ∧ c5 = c6 := by
                        injection e6 with e6
                        simp at e6
                        exact e6
                      exact ⟨_, A5, n5, c5, rfl, h1, h2, h3, h4.step (by simp) (fun b hb _ => Below.heap_alloc wv _ b hb) (fun _ _ h => h), ro_block (hro _ HC.mutLt) rfl⟩
                    rintro gn wg HCg hsl
                    simp only [Act.put, zl]
                    clear hsl HCg
                    refine rel_nil ?_
                    rintro wx2 HX
                    rintro _hrm HGW
                    have hb2 : RBoxSlot (Mut M KL) xid xvs (.slice (some ⟨gn, 0, none⟩) 1 1) wx2 := (GW_on (d := 120) rfl).1 (HGW 4 _ rfl (by omega))
                    clear HGW _hrm
                    obtain ⟨gq, A6, n6, c6, e6, k0_, k1_, k2_, k3_, k4_⟩ := hb2
                    obtain rfl : gn = gq := by injection e6 with e6; injection e6 with e6; injection e6
                    clear e6
                    rw [HKL.out] at HX k3_
                    have k5 := hid k4_.now
                    have HK0 := hid (And.intro k0_ (And.intro k1_ k2_))
                    clear k4_ k0_ k1_ k2_ HF HRX KN
                    have HRS := hid (show rwCells lo ++ [.int .i64 xid, .slice A6 n6 c6] = rwCells (lo ++ [⟨xid, A6, n6, c6, xvs⟩]) from rwCells_snoc1 _ _ _ _ _ _)
                    have KA := HX.add k3_
                    clear HX k3_
                    have FKA := KA.facts
                    simp only [factsL, cellsF, Nat.reduceAdd, zf, zl] at FKA
                    go_wp2_with (at_builtin; go_must (refine wpList_appAllH KA 3 rfl Tryd.elRw k5.out rfl (.tmp 117) (.tmp 120) rfl rfl rfl (by intro z hz; simp at hz; rcases hz with rfl | rfl <;> rfl) (by omega) (by omega) ?_); intro C' cap' w6 hc6 hm6 KB; rw [HRS.out] at KB; simp only [List.set_cons_zero, List.set_cons_succ] at KB; (have F3 := KB.facts); simp only [factsL, cellsF, Nat.reduceAdd, zf, zl] at F3; (have N3 := KB.nes); simp only [World.size_alloc, nesL, neF, List.set_cons_zero, List.set_cons_succ, and_true, true_and] at N3)
                    have KD := KB.store 6 rfl 3 (.slice C' (q + 1) cap')
                    have KE := (KD.swapRo 4 rfl (vals_snoc (r := ⟨xid, A6, n6, c6, xvs⟩) (KD.ro 4 rfl) (KD.ro 0 rfl))).drop (List.sublist_cons_self _ _)
                    clear KB KD FKA k5
                    have HBN := hid (show (lo ++ [(⟨xid, A6, n6, c6, xvs⟩ : Rw)]).map Rw.row = keepL d (t.rs.take (k + 1)) by rw [List.map_append, HLO.out]; exact (keepL_same (r := (xid, xvs)) HXX.out HP.out HU.out).symm)
                    have HOK2 := hid (okSnoc (P := Rw.ok) (x := (⟨xid, A6, n6, c6, xvs⟩ : Rw)) HOK.out ⟨HXO.out.id, HK0.out.2.1, HK0.out.2.2, HXO.out.vs⟩)
                    have KZ := KE.drop (List.Sublist.cons _ (List.sublist_cons_self _ _))
                    go_roundw
                    case rel => exact ⟨k + 1, q + 1, cap', C', _, by omega, by first | rfl | go_num, by omega, HBN, HOK2, KZ⟩
                    case measure => simp [intOf]; omega
                · have HP := hid (show (d.del.any fun y => decide (y.1 = xid)) = true by rw [← any_id HDR.out]; exact hp)
                  have HBN := hid (show lo.map Rw.row = keepL d (t.rs.take (k + 1)) by rw [HLO.out]; exact (keepL_gone HXX.out HP.out).symm)
                  clear hp
                  have F4 := K4.facts
                  simp only [factsL, cellsF, Nat.reduceAdd, zf, zl] at F4
                  go_wp2_with fail
                  have KZ := K4.drop ((List.sublist_cons_self _ _).trans (List.sublist_cons_self _ _))
                  go_roundw
                  case rel => exact ⟨k + 1, q, cq, O, lo, by omega, by first | rfl | go_num, by omega, HBN, HOK, KZ⟩
                  case measure => simp [intOf]; omega
              · obtain rfl : tm = k := by omega
                have hd : decide ((tm : Int) < (tm : Int)) = false := by simp
                have HLO2 := hid (show lo.map Rw.row = keepD t d from by
                  have h := HLO.out
                  rwa [keepL_all (by rw [← HTR.out, List.length_map, HTL.out]; exact Nat.le_refl _)] at h)
                clear HLO
                have F := H.facts
                simp only [factsL, cellsF, Nat.reduceAdd, zf, zl] at F
                go_wp2_with fail
                go_loopw [127] (fun iv wr => ∃ (k q cq : Nat) (O : Option Addr) (lo : List Rw) (nv : Int), k ≤ ni ∧ iv = .int .i64 k ∧ q ≤ tm + k ∧ Hid (nv = nxD t.nx (d.ins.take k)) ∧ (-9223372036854775808 ≤ nv ∧ nv ≤ 2147483649) ∧ Hid (lo.map Rw.row = keepD t d ++ d.ins.take k) ∧ Hid (∀ r ∈ lo, r.ok) ∧ Hold M none w wr [.own 53 2 (.slice O q cq) q (rwCells lo), .ro (ValsIn lo), .ro (ColsIn oA on t.cs), .blk g6 27 #[.string t.nm, .slice oA on oc, .int .i64 nv, .slice O q cq], .blk g4 27 #[.string ⟨#[]⟩, .slice none 0 0, .int .i64 0, .slice none 0 0], .cst g3 41 #[.string d.nm, .slice I ni ci, .slice D nd cd, .slice U nu cu], .cst g2 27 #[.string t.nm, .slice tA tn tc, .int .i64 t.nx, .slice tB tm td], .ro (ColsIn tA tn t.cs), .ro (RwsIn tB tm lt), .ro (RwsIn I ni li), .ro (RwsIn D nd ld), .ro (PrsIn U nu lu)]) (fun iv _ => ni - (intOf iv).toNat)
                case atStart => exact ⟨0, q, cq, O, lo, t.nx, by omega, rfl, by omega, hid rfl, by omega, hid (by rw [HLO2.out]; simp), HOK, H⟩
                case round =>
                  clear H F HLO2 HOK hq
                  clear q cq O lo
                  obtain ⟨k, q, cq, O, lo, nv, hk, rfl, hq, HNV, hnv, HLO, HOK, H⟩ := hrel
                  by_cases hlt : k < ni
                  · have hd : decide ((k : Int) < (ni : Int)) = true := by simp; omega
                    have i0 : (0 : Int) ≤ (k : Int) := by omega
                    have i1 : (k : Int) < (ni : Int) := by omega
                    obtain ⟨x, hx⟩ := get_of HIL.out hlt
                    have hxv : Ro wr _ (VlsIn x.A x.n x.vs) := (H.ro 9 rfl).imp fun w2 h2 => h2.2 x (List.mem_of_getElem? hx)
                    obtain ⟨bb, oo, rfl, hbb, c0, c1, _⟩ := (H.ro 9 rfl).now.at_ hx
                    have HXX := hid (show d.ins[k]? = some x.row by rw [← HIR.out, List.getElem?_map, hx]; rfl)
                    have HXO := hid (HIO.out x (List.mem_of_getElem? hx))
                    have hxn6 := HIN6.out x (List.mem_of_getElem? hx)
                    obtain ⟨xid, xA, xn, xc, xvs⟩ := x
                    dsimp only at *
                    clear hx
                    have KX := (H.add hxv).alloc_cst #[.int .i64 xid, .slice xA xn xc] 53
                    clear hxv H
                    obtain ⟨KL, hKL, KN⟩ := KX.name
                    have HF : Hid (∀ wv, Hold M none w wv KL → (wv.cell? ⟨g6, 3, none⟩ = some (.slice O q cq) ∧ g6 < wv.heap.size) ∧ wv.cell? ⟨wr.heap.size, 0, none⟩ = some (.int .i64 xid) ∧ wv.cell? ⟨wr.heap.size, 1, none⟩ = some (.slice xA xn xc) ∧ wr.heap.size < wv.heap.size) := hid fun wv HC => by
                      rw [hKL] at HC
                      have y1 := HC.blk_ 5 rfl
                      have y2 := HC.cst_ 0 rfl
                      exact ⟨⟨cell_of_row _ _ 3 _ _ _ y1, Blk.lt y1⟩, cell_of_row _ _ 0 _ _ _ y2, cell_of_row _ _ 1 _ _ _ y2, Blk.lt y2⟩
                    have HRX : Hid (∀ wv, Hold M none w wv KL → Ro wv (Mut M KL) (VlsIn xA xn xvs)) := hid fun wv HC => by
                      rw [hKL] at HC ⊢
                      exact HC.ro 1 rfl
                    have HKL := hid hKL
                    clear hKL KX
                    go_wp2_with fail
                    refine wp_region_any (by kernel_rfl) ?_
                    refine wpAny_hold 5 152 (KL) (spL [(134, RowSlot (Mut M KL) xid xvs), (135, RBoxSlot (Mut M KL) xid xvs)]) (by kernel_rfl) (by kernel_rfl) (by kernel_rfl) rfl ?_ (KN.drew) ?_
                    · exact stays_cons rowSlot_mono (stays_cons rboxSlot_mono (stays_nil _))
                    simp only [zd, Act.put, List.getElem_toArray, List.getElem_cons_zero, List.getElem_cons_succ, zl]
                    refine dw_val rfl rfl rfl ?_; apply Exists.intro; refine ⟨fun wv HC => ?_, ?_⟩
                    ·  go_simp <;> rfl
                    simp only [Act.put, zl]
                    refine dw_val rfl rfl rfl ?_; apply Exists.intro; refine ⟨fun wv HC => ?_, ?_⟩
                    · obtain ⟨⟨f0, f1⟩, f2, f3, f4⟩ := HF.out _ HC; go_simp <;> rfl
                    simp only [Act.put, zl]
                    refine dw_val rfl rfl rfl ?_; apply Exists.intro; refine ⟨fun wv HC => ?_, ?_⟩
                    · obtain ⟨⟨f0, f1⟩, f2, f3, f4⟩ := HF.out _ HC; go_simp <;> rfl
                    simp only [Act.put, zl]
                    refine dw_callR 134 (RowSlot (Mut M KL) xid xvs) (f := 61) (args := #[.agg #[.int .i64 xid, .slice xA xn xc]]) rfl rfl rfl rfl (fun wv => ?_) (fun wv HC hrm hD => ?_) ?_
                    · go_simp <;> rfl
                    · refine (dcopied_any _ wv HC.mutLt xid xA xn xc xvs (HRX.out _ HC) (by omega)).mono ?_
                      rintro e w5 ⟨A5, n5, c5, rfl, h50, h51, h52, h53, b5⟩
                      exact ⟨_, rfl, ⟨A5, n5, c5, rfl, h50, h51, h52, h53⟩, HC.call b5, RM.below b5⟩
                    rintro x_ wx HCx ⟨A5, n5, c5, rfl, -, -, -, -⟩
                    clear HCx
                    simp only [Act.put, zl]
                    refine dw_new #[.int .i64 xid, .slice A5 n5 c5] 53 135 (RBoxSlot (Mut M KL) xid xvs) (fun g => .slice (some ⟨g, 0, none⟩) 1 1) rfl rfl rfl rfl (fun wv => ?_) (fun wv HC _hrm hD hro => ?_) ?_
                    · go_simp <;> rfl
                    · have hsl : RowSlot (Mut M KL) xid xvs (.agg #[.int .i64 xid, .slice A5 n5 c5]) wv := deps_at hD 3 rfl (by kernel_rfl) rfl rfl
                      obtain ⟨A6, n6, c6, e6, h1, h2, h3, h4⟩ := hsl
                      obtain ⟨rfl, rfl, rfl⟩ : A5 = A6 ∧ n5 = n6 ∧ c5 = c6 := by
                        injection e6 with e6
                        simp at e6
                        exact e6
                      exact ⟨_, A5, n5, c5, rfl, h1, h2, h3, h4.step (by simp) (fun b hb _ => Below.heap_alloc wv _ b hb) (fun _ _ h => h), ro_block (hro _ HC.mutLt) rfl⟩
                    rintro gn wg HCg hsl
                    simp only [Act.put, zl]
                    clear hsl HCg
                    refine rel_nil ?_
                    rintro wx2 HX
                    rintro _hrm HGW
                    have hb2 : RBoxSlot (Mut M KL) xid xvs (.slice (some ⟨gn, 0, none⟩) 1 1) wx2 := (GW_on (d := 135) rfl).1 (HGW 4 _ rfl (by omega))
                    clear HGW _hrm
                    obtain ⟨gq, A6, n6, c6, e6, k0_, k1_, k2_, k3_, k4_⟩ := hb2
                    obtain rfl : gn = gq := by injection e6 with e6; injection e6 with e6; injection e6
                    clear e6
                    rw [HKL.out] at HX k3_
                    have k5 := hid k4_.now
                    have HK0 := hid (And.intro k0_ (And.intro k1_ k2_))
                    clear k4_ k0_ k1_ k2_ HF HRX KN
                    have HRS := hid (show rwCells lo ++ [.int .i64 xid, .slice A6 n6 c6] = rwCells (lo ++ [⟨xid, A6, n6, c6, xvs⟩]) from rwCells_snoc1 _ _ _ _ _ _)
                    have KA := HX.add k3_
                    clear HX k3_
                    have FKA := KA.facts
                    simp only [factsL, cellsF, Nat.reduceAdd, zf, zl] at FKA
                    go_wp2_with (at_builtin; go_must (refine wpList_appAllH KA 3 rfl Tryd.elRw k5.out rfl (.tmp 132) (.tmp 135) rfl rfl rfl (by intro z hz; simp at hz; rcases hz with rfl | rfl <;> rfl) (by omega) (by omega) ?_); intro C' cap' w6 hc6 hm6 KB; rw [HRS.out] at KB; simp only [List.set_cons_zero, List.set_cons_succ] at KB; (have F3 := KB.facts); simp only [factsL, cellsF, Nat.reduceAdd, zf, zl] at F3; (have N3 := KB.nes); simp only [World.size_alloc, nesL, neF, List.set_cons_zero, List.set_cons_succ, and_true, true_and] at N3)
                    have KD := KB.store 6 rfl 3 (.slice C' (q + 1) cap')
                    have KE := (KD.swapRo 4 rfl (vals_snoc (r := ⟨xid, A6, n6, c6, xvs⟩) (KD.ro 4 rfl) (KD.ro 0 rfl))).drop (List.sublist_cons_self _ _)
                    clear KB KD FKA k5
                    have hmx : nxD t.nx (d.ins.take (k + 1)) = max nv (min xid 2147483648 + 1) := by rw [nxD_take HXX.out, ← HNV.out]; rfl
                    rw [wrap_min (x := xid) HXO.out.id]
                    have hnv2 : -9223372036854775808 ≤ max nv (min xid 2147483648 + 1) ∧ max nv (min xid 2147483648 + 1) ≤ 2147483649 := by have := HXO.out.id; omega
                    have KE2 := KE.store 5 rfl 2 (.int .i64 (max nv (min xid 2147483648 + 1)))
                    have HBN := hid (show (lo ++ [(⟨xid, A6, n6, c6, xvs⟩ : Rw)]).map Rw.row = keepD t d ++ d.ins.take (k + 1) by rw [List.map_append, HLO.out, List.take_add_one, HXX.out, List.append_assoc]; rfl)
                    have HOK2 := hid (okSnoc (P := Rw.ok) (x := (⟨xid, A6, n6, c6, xvs⟩ : Rw)) HOK.out ⟨HXO.out.id, HK0.out.2.1, HK0.out.2.2, HXO.out.vs⟩)
                    have KZ := KE2.drop (List.Sublist.cons _ (List.sublist_cons_self _ _))
                    go_roundw
                    case rel => exact ⟨k + 1, q + 1, cap', C', _, _, by omega, by first | rfl | go_num, by omega, hid hmx.symm, hnv2, HBN, HOK2, KZ⟩
                    case measure => simp [intOf]; omega
                  · obtain rfl : ni = k := by omega
                    have hd : decide ((ni : Int) < (ni : Int)) = false := by simp
                    have HLO2 := hid (show lo.map Rw.row = keepD t d ++ d.ins from by
                      have h := HLO.out
                      rwa [List.take_of_length_le (by rw [← HIR.out, List.length_map, HIL.out]; exact Nat.le_refl _)] at h)
                    have HNV2 := hid (show nv = nxD t.nx d.ins from by
                      have h := HNV.out
                      rwa [List.take_of_length_le (by rw [← HIR.out, List.length_map, HIL.out]; exact Nat.le_refl _)] at h)
                    clear HLO HNV
                    obtain ⟨hq1, hq2, _⟩ := own_caps (H.get 0 rfl)
                    have KS := H.sealRow 0 rfl
                    simp only [List.set_cons_zero] at KS
                    have KR := KS.swapRo 0 rfl (show Ro _ _ (RwsIn O q lo) from (KS.ro 0 rfl).and (KS.ro 1 rfl))
                    simp only [List.set_cons_zero] at KR
                    clear H KS
                    have F := KR.facts
                    simp only [factsL, cellsF, Nat.reduceAdd, zf, zl] at F
                    go_wp2_with fail
                    have hv := tvalid_any _ _ KR.mutLt t.nm oA on oc t.cs nv O q cq lo (KR.ro 2 rfl) (KR.ro 0 rfl) (by omega) (by omega) HOK.out hst hct
                    rw [HLO2.out] at hv
                    refine hv.mono ?_
                    clear hv
                    rintro e w7 ⟨rfl, b7⟩
                    have K7 := KR.call b7
                    clear KR b7 F
                    have F := K7.facts
                    simp only [factsL, cellsF, Nat.reduceAdd, zf, zl] at F
                    cases hvv : tabB t.nm t.cs nv (keepD t d ++ d.ins)
                    · have HN := hid (applyD_6 (t := t) (d := d) (by rw [HNV2.out] at hvv; exact hvv))
                      clear hvv
                      go_wp2_with fail
                      have KN := (((K7.store 4 rfl 0 (.string ⟨#[]⟩)).store 4 rfl 1 (.slice none 0 0)).store 4 rfl 2 (.int .i64 0)).store 4 rfl 3 (.slice none 0 0)
                      go_wp2_with fail
                      exact bodyPost_ret (v := .tuple #[.agg #[.string ⟨#[]⟩, .slice none 0 0, .int .i64 0, .slice none 0 0], .bool false]) (by simp [results, Tryd.results23, go_sem, F]) rfl ⟨_, by rw [HN.out], by rw [HN.out]; exact tbAt_zero, KN.below⟩
                    · have HN := hid (applyD_ok (t := t) (d := d) HOKS.out.1 HOKS.out.2.1 HOKS.out.2.2.1 HOKS.out.2.2.2 HPR.out (by rw [HNV2.out] at hvv; exact hvv))
                      clear hvv
                      have KN := (((K7.store 4 rfl 0 (.string t.nm)).store 4 rfl 1 (.slice oA on oc)).store 4 rfl 2 (.int .i64 nv)).store 4 rfl 3 (.slice O q cq)
                      have r1 := KN.roOut 2 rfl
                      have r2 := KN.roOut 0 rfl
                      have NK := K7.nes
                      simp only [nesL, neF, and_true, true_and] at NK
                      clear K7
                      go_wp2_with fail
                      exact bodyPost_ret (v := .tuple #[.agg #[.string t.nm, .slice oA on oc, .int .i64 nv, .slice O q cq], .bool true]) (by simp [results, Tryd.results23, go_sem, F, NK]) rfl ⟨_, by rw [HN.out], by rw [HN.out]; exact ⟨oA, on, oc, O, q, cq, lo, by rw [HNV2.out]; rfl, HOC.out.1, HOC.out.2, hq1, hq2, r1, r2, HOK.out, HLO2.out⟩, KN.below⟩
end Go.Proofs.YtjpgbhakkfgecaaDoor

namespace Go.Proofs.YtjpgbhakkfgecaaDoor
open Go.RowKit
set_option linter.unusedVariables false
set_option linter.unusedSimpArgs false

def rowsN (ni nd nu : Nat) (e : Int) : Int := if e = 1 then ni else if e = 2 then nu else if e = 3 then nd else 0
set_option maxHeartbeats 1000000 in
theorem drows_any (w : World) (s : ByteArray) (I : Option Addr) (ni ci : Nat) (D : Option Addr) (nd cd : Nat) (U : Option Addr) (nu cu : Nat) (e : Int) : Calls Tryd.prog 47 #[.agg #[.string s, .slice I ni ci, .slice D nd cd, .slice U nu cu], .int .i64 e] w fun e' w' => e' = .returned (.int .i64 (rowsN ni nd nu e)) ∧ Below w.heap.size w w' := by
  have K0 := (Hold.begin_ w).alloc_cst #[.string s, .slice I ni ci, .slice D nd cd, .slice U nu cu] 41
  have F0 := K0.facts
  simp only [factsL, cellsF, Nat.reduceAdd, zf, zl] at F0
  by_cases h1 : e = 1
  · subst h1
    have HN := hid (show rowsN ni nd nu 1 = ni from rfl)
    go_enter Tryd.func47, Tryd.ntmps47
    go_wp2_with fail
    go_ret
    exact ⟨by rw [HN.out] <;> rfl, K0.below⟩
  · have e1 : (e == 1) = false := by simpa using h1
    by_cases h2 : e = 2
    · subst h2
      have HN := hid (show rowsN ni nd nu 2 = nu from rfl)
      clear h1
      go_enter Tryd.func47, Tryd.ntmps47
      go_wp2_with fail
      go_ret
      exact ⟨by rw [HN.out] <;> rfl, K0.below⟩
    · have e2 : (e == 2) = false := by simpa using h2
      by_cases h3 : e = 3
      · subst h3
        have HN := hid (show rowsN ni nd nu 3 = nd from rfl)
        clear h1 h2
        go_enter Tryd.func47, Tryd.ntmps47
        go_wp2_with fail
        go_ret
        exact ⟨by rw [HN.out] <;> rfl, K0.below⟩
      · have e3 : (e == 3) = false := by simpa using h3
        have HN := hid (show rowsN ni nd nu e = 0 by unfold rowsN; rw [if_neg h1, if_neg h2, if_neg h3])
        clear h1 h2 h3
        go_enter Tryd.func47, Tryd.ntmps47
        go_wp2_with fail
        go_ret
        exact ⟨by rw [HN.out] <;> rfl, K0.below⟩
set_option maxHeartbeats 1000000 in
theorem dempty_any (w : World) (s : ByteArray) (I : Option Addr) (ni ci : Nat) (D : Option Addr) (nd cd : Nat) (U : Option Addr) (nu cu : Nat) : Calls Tryd.prog 24 #[.agg #[.string s, .slice I ni ci, .slice D nd cd, .slice U nu cu]] w fun e' w' => e' = .returned (.bool (decide (ni = 0 ∧ nd = 0 ∧ nu = 0))) ∧ Below w.heap.size w w' := by
  have K0 := (Hold.begin_ w).alloc_cst #[.string s, .slice I ni ci, .slice D nd cd, .slice U nu cu] 41
  have F0 := K0.facts
  simp only [factsL, cellsF, Nat.reduceAdd, zf, zl] at F0
  by_cases h1 : ni = 0
  · have e1 : ((ni : Int) == 0) = true := by simp [h1]
    have HN1 := hid h1
    clear h1
    by_cases h2 : nd = 0
    · have e2 : ((nd : Int) == 0) = true := by simp [h2]
      have HN2 := hid h2
      clear h2
      by_cases h3 : nu = 0
      · have e3 : ((nu : Int) == 0) = true := by simp [h3]
        have HN := hid (show decide (ni = 0 ∧ nd = 0 ∧ nu = 0) = true by simp [HN1.out, HN2.out, h3])
        clear h3
        go_enter Tryd.func24, Tryd.ntmps24
        go_wp2_with fail
        go_ret
        exact ⟨by rw [HN.out] <;> first | rfl | simp, K0.below⟩
      · have e3 : ((nu : Int) == 0) = false := by simp; omega
        have HN := hid (show decide (ni = 0 ∧ nd = 0 ∧ nu = 0) = false by simp [h3])
        clear h3
        go_enter Tryd.func24, Tryd.ntmps24
        go_wp2_with fail
        go_ret
        exact ⟨by rw [HN.out] <;> first | rfl | simp, K0.below⟩
    · have e2 : ((nd : Int) == 0) = false := by simp; omega
      have HN := hid (show decide (ni = 0 ∧ nd = 0 ∧ nu = 0) = false by simp [h2])
      clear h2
      go_enter Tryd.func24, Tryd.ntmps24
      go_wp2_with fail
      go_ret
      exact ⟨by rw [HN.out] <;> first | rfl | simp, K0.below⟩
  · have e1 : ((ni : Int) == 0) = false := by simp; omega
    have HN := hid (show decide (ni = 0 ∧ nd = 0 ∧ nu = 0) = false by simp [h1])
    clear h1
    go_enter Tryd.func24, Tryd.ntmps24
    go_wp2_with fail
    go_ret
    exact ⟨by rw [HN.out] <;> first | rfl | simp, K0.below⟩
theorem k8_bet : betweenC ⟨nmLog, logCols, 2, [(1, [vNil, vNil])]⟩ ⟨nmLog, logCols, 3, [(2, [vNil, vNil])]⟩ = (true, ⟨nmLog, [(2, [vNil, vNil])], [(1, [vNil, vNil])], []⟩) := by decide +kernel
set_option maxHeartbeats 4000000 in
set_option maxRecDepth 100000 in
theorem known8 : Gives 11 #[] (.bool true) := by
  intro w
  have K0 := Hold.begin_ w
  have HS := hid small_u
  have HB := hid k8_bet
  go_enter Tryd.func11, Tryd.ntmps11
  go_wp2_with fail
  refine (schema_log _ _ K0.mutLt).mono ?_
  rintro e w1 ⟨A, n, c, rfl, h1, h2, r1, b1⟩
  have K1 := (K0.call b1).add r1
  clear K0 r1 b1
  generalize hU : nmLog = nl at *
  generalize hC : logCols = lc at *
  have HU := hid hU
  have HC := hid hC
  clear hU hC
  have hn2 : lc.length = n := cols_n (K1.ro 0 rfl).now
  have K2 := (((K1.alloc_cst #[.string nl, .slice A n c] 24).alloc_cst #[.int .i64 0, .int .i64 0, .string ⟨#[]⟩, .int .i64 0, .int .i64 0, .string ⟨#[]⟩] 71).alloc_cst #[.int .i64 1, .slice (some ⟨w1.heap.size + 1, 0, none⟩) 2 2] 53).alloc_cst #[.int .i64 2, .slice (some ⟨w1.heap.size + 1, 0, none⟩) 2 2] 53
  simp only [World.size_alloc] at K2
  have q1 : Ro _ _ (VlsIn (some ⟨w1.heap.size + 1, 0, none⟩) 2 [vNil, vNil]) := ro_block (t := 71) (cs := #[.int .i64 0, .int .i64 0, .string ⟨#[]⟩, .int .i64 0, .int .i64 0, .string ⟨#[]⟩]) (K2.get 2 rfl) rfl
  have q2 : Ro _ _ (SlR 2 (some ⟨w1.heap.size + 1 + 1, 0, none⟩) 1 (rwCells [⟨1, some ⟨w1.heap.size + 1, 0, none⟩, 2, 2, [vNil, vNil]⟩])) := ro_block (t := 53) (cs := #[.int .i64 1, .slice (some ⟨w1.heap.size + 1, 0, none⟩) 2 2]) (K2.get 1 rfl) rfl
  have q3 : Ro _ _ (SlR 2 (some ⟨w1.heap.size + 1 + 1 + 1, 0, none⟩) 1 (rwCells [⟨2, some ⟨w1.heap.size + 1, 0, none⟩, 2, 2, [vNil, vNil]⟩])) := ro_block (t := 53) (cs := #[.int .i64 2, .slice (some ⟨w1.heap.size + 1, 0, none⟩) 2 2]) (K2.get 0 rfl) rfl
  have q4 : Ro _ _ (RwsIn (some ⟨w1.heap.size + 1 + 1, 0, none⟩) 1 [⟨1, some ⟨w1.heap.size + 1, 0, none⟩, 2, 2, [vNil, vNil]⟩]) := q2.and (fun w2 h1 h2 r hr => by
    simp only [List.mem_cons, List.not_mem_nil, or_false] at hr
    subst hr
    exact q1 w2 h1 h2)
  have q5 : Ro _ _ (RwsIn (some ⟨w1.heap.size + 1 + 1 + 1, 0, none⟩) 1 [⟨2, some ⟨w1.heap.size + 1, 0, none⟩, 2, 2, [vNil, vNil]⟩]) := q3.and (fun w2 h1 h2 r hr => by
    simp only [List.mem_cons, List.not_mem_nil, or_false] at hr
    subst hr
    exact q1 w2 h1 h2)
  have F2 := K2.facts
  simp only [factsL, cellsF, Nat.reduceAdd, zf, zl] at F2
  have hok : ∀ (i : Int) (hi : I64 i), (Rw.ok ⟨i, some ⟨w1.heap.size + 1, 0, none⟩, 2, 2, [vNil, vNil]⟩) := fun i hi => ⟨hi, by simp, by simp, fun v hv => by
    simp only [List.mem_cons, List.not_mem_nil, or_false] at hv
    rcases hv with rfl | rfl <;> exact vNil_ok⟩
  have ha : TbAt _ (Mut None_ _) (.agg #[.string nl, .slice A n c, .int .i64 2, .slice (some ⟨w1.heap.size + 1 + 1, 0, none⟩) 1 1]) ⟨nl, lc, 2, [(1, [vNil, vNil])]⟩ := ⟨A, n, c, _, 1, 1, _, rfl, h1, by omega, by omega, by omega, K2.ro 4 rfl, q4, fun r hr => by simp only [List.mem_cons, List.not_mem_nil, or_false] at hr; subst hr; exact hok 1 (by unfold I64; omega), rfl⟩
  have hb : TbAt _ (Mut None_ _) (.agg #[.string nl, .slice A n c, .int .i64 3, .slice (some ⟨w1.heap.size + 1 + 1 + 1, 0, none⟩) 1 1]) ⟨nl, lc, 3, [(2, [vNil, vNil])]⟩ := ⟨A, n, c, _, 1, 1, _, rfl, h1, by omega, by omega, by omega, K2.ro 4 rfl, q5, fun r hr => by simp only [List.mem_cons, List.not_mem_nil, or_false] at hr; subst hr; exact hok 2 (by unfold I64; omega), rfl⟩
  go_wp2_with fail
  have hk := dbetw_any _ _ K2.mutLt _ _ _ _ ha hb HS.out.2.2.1 HS.out.2.2.2 (by show (1 : Nat) ≤ _; omega) HS.out.2.2.1 HS.out.2.2.2 (by show (1 : Nat) ≤ _; omega)
  rw [HB.out] at hk
  refine hk.mono ?_
  clear hk ha hb q1 q2 q3 q4 q5 hok F2
  rintro e w2 ⟨v, rfl, ⟨I, ni, ci, D, nd, cd, U, nu, cu, li, ld, lu, rfl, -, -, -, r1, r2, r3, -, -, -, e1, e2, e3⟩, b2⟩
  dsimp only at e1 e2 e3 ⊢
  obtain rfl : 1 = ni := by have h := r1.now.len; have h2 := congrArg List.length e1; rw [List.length_map] at h2; simp at h2; omega
  obtain rfl : 1 = nd := by have h := r2.now.len; have h2 := congrArg List.length e2; rw [List.length_map] at h2; simp at h2; omega
  obtain rfl : 0 = nu := by have h := r3.now.len; have h2 := congrArg List.length e3; rw [List.length_map] at h2; have h3 : lu.length = 0 := h2; omega
  have K3 := (K2.call b2).alloc_cst #[.string nl, .slice I 1 ci, .slice D 1 cd, .slice U 0 cu] 41
  clear K2 b2 r1 r2 r3 e1 e2 e3
  have F3 := K3.facts
  simp only [factsL, cellsF, Nat.reduceAdd, zf, zl] at F3
  go_wp2_with fail
  refine (drows_any _ nl I 1 ci D 1 cd U 0 cu 1).mono ?_
  rintro e w3 ⟨rfl, b3⟩
  have K4 := K3.call b3
  have F4 := K4.facts
  simp only [factsL, cellsF, Nat.reduceAdd, zf, zl] at F4
  rw [show rowsN 1 1 0 1 = 1 from rfl]
  clear K3 F3 b3
  go_wp2_with fail
  refine (drows_any _ nl I 1 ci D 1 cd U 0 cu 3).mono ?_
  rintro e w4 ⟨rfl, b3⟩
  have K5 := K4.call b3
  have F5 := K5.facts
  simp only [factsL, cellsF, Nat.reduceAdd, zf, zl] at F5
  rw [show rowsN 1 1 0 3 = 1 from rfl]
  clear K4 F4 b3
  go_wp2_with fail
  refine (drows_any _ nl I 1 ci D 1 cd U 0 cu 2).mono ?_
  rintro e w5 ⟨rfl, b3⟩
  have K6 := K5.call b3
  have F6 := K6.facts
  simp only [factsL, cellsF, Nat.reduceAdd, zf, zl] at F6
  rw [show rowsN 1 1 0 2 = 0 from rfl]
  clear K5 F5 b3
  go_wp2_with fail
  refine (dempty_any _ nl I 1 ci D 1 cd U 0 cu).mono ?_
  rintro e w6 ⟨rfl, b3⟩
  have K7 := K6.call b3
  rw [show decide (1 = 0 ∧ 1 = 0 ∧ 0 = 0) = false from rfl]
  clear K6 F6 b3
  go_wp2_with fail
  go_ret
  exact ⟨by first | rfl | simp, K7.below⟩
end Go.Proofs.YtjpgbhakkfgecaaDoor

namespace Go.Proofs.YtjpgbhakkfgecaaDoor
open Go.RowKit
set_option linter.unusedVariables false
set_option linter.unusedSimpArgs false

theorem betD_len {a b : Tb} (ha : VTab a) (hb : VTab b) : (betD a b).ins.length ≤ 100 ∧ (betD a b).del.length ≤ 100 ∧ (betD a b).upd.length ≤ 100 ∧ (∀ r ∈ (betD a b).ins, r.2.length ≤ 4) ∧ ∀ u ∈ (betD a b).upd, u.2.2.length ≤ 4 := by
  have h1 := ha.rows
  have h2 := hb.rows
  refine ⟨?_, ?_, ?_, fun r hr => hb.len r (List.mem_filter.1 hr).1, fun u hu => ?_⟩
  · have := List.length_filter_le (fun r : Row => (getR a.rs r.1).isNone) b.rs
    show (offR a.rs b.rs).length ≤ _
    unfold offR
    omega
  · have := List.length_filter_le (fun r : Row => (getR b.rs r.1).isNone) a.rs
    show (offR b.rs a.rs).length ≤ _
    unfold offR
    omega
  · have : (turnR a.rs b.rs).length ≤ b.rs.length := List.length_filterMap_le _ _
    show (turnR a.rs b.rs).length ≤ _
    omega
  · obtain ⟨r, hr, h3⟩ := List.mem_filterMap.1 hu
    split at h3
    · split at h3
      · cases h3
      · injection h3 with h3
        rw [← h3]
        exact hb.len r hr
    · cases h3
end Go.Proofs.YtjpgbhakkfgecaaDoor

namespace Go.Proofs.YtjpgbhakkfgecaaDoor
open Go.RowKit
set_option linter.unusedVariables false
set_option linter.unusedSimpArgs false

set_option maxHeartbeats 4000000 in
set_option maxRecDepth 100000 in
theorem rsameschema_any (w : World) (nm : ByteArray) (A : Option Addr) (n c : Nat) (cs : List Col) (nm2 : ByteArray) (B : Option Addr) (m d : Nat) (ds : List Col) (hD : ColsIn A n cs w) (hE : ColsIn B m ds w) (hn : n ≤ 4398046511104) :
    Calls Tryd.prog 53 #[.agg #[.string nm, .slice A n c], .agg #[.string nm2, .slice B m d]] w fun e w' => e = .returned (.bool (decide (nm = nm2 ∧ cs = ds))) ∧ Below w.heap.size w w' := by
  have HL := hid (show cs.length = n from cols_n hD)
  have HK := hid (show ds.length = m from cols_n hE)
  have K0 := ((((Hold.start None_ w (fun b hb => hb.elim)).add (Rd.ro hE (Nat.le_refl _) (by simp [Mut, None_]) : Ro w _ (ColsIn B m ds))).add (Rd.ro hD (Nat.le_refl _) (by simp [Mut, None_, Hp.foot]) : Ro w _ (ColsIn A n cs))).alloc_cst #[.string nm, .slice A n c] 24).alloc_cst #[.string nm2, .slice B m d] 24
  rw [World.size_alloc] at K0
  have F0 := K0.facts
  simp only [factsL, cellsF, Nat.reduceAdd, zf, zl] at F0
  clear hD hE
  by_cases hi : nm = nm2
  · subst hi
    have h1 : (nm.toList == nm.toList) = true := by simp
    have h1' : (nm.toList != nm.toList) = false := by simp
    by_cases hnm : n = m
    · subst hnm
      have hb : ((n : Int) != (n : Int)) = false := by simp
      go_enter Tryd.func53, Tryd.ntmps53
      go_wp2_with fail
      obtain ⟨g2, hg2⟩ : ∃ g, g = w.heap.size := ⟨_, rfl⟩
      obtain ⟨g3, hg3⟩ : ∃ g, g = g2 + 1 := ⟨_, rfl⟩
      rw [← hg2, ← hg3] at K0 ⊢
      clear F0
      generalize (w.alloc _).alloc _ = w1 at K0 ⊢
      have HG := hid hg2
      clear hg2 hg3
      go_loopw [23] (fun iv wr => ∃ (k : Nat), k ≤ n ∧ iv = .int .i64 k ∧ Hid (cs.take k = ds.take k) ∧ Hold None_ none w wr [.cst g3 24 #[.string nm, .slice B n d], .cst g2 24 #[.string nm, .slice A n c], .ro (ColsIn A n cs), .ro (ColsIn B n ds)]) (fun iv _ => n - (intOf iv).toNat)
      case atStart => exact ⟨0, by omega, rfl, hid (by simp), K0⟩
      case round =>
        clear K0
        obtain ⟨k, hk, rfl, HTK, H⟩ := hrel
        have F := H.facts
        simp only [factsL, cellsF, Nat.reduceAdd, zf, zl] at F
        by_cases hlt : k < n
        · have hd : decide ((k : Int) < (n : Int)) = true := by simp; omega
          have i0 : (0 : Int) ≤ (k : Int) := by omega
          have i1 : (k : Int) < (n : Int) := by omega
          obtain ⟨x, hx⟩ := get_of HL.out hlt
          obtain ⟨y, hy⟩ := get_of HK.out hlt
          obtain ⟨g, o, rfl, hbx, x0, x1, x2, x3⟩ := (RdC.of_sl (H.ro 2 rfl).now).at_ hx
          obtain ⟨g', o', rfl, hby, y0, y1, y2, y3⟩ := (RdC.of_sl (H.ro 3 rfl).now).at_ hy
          have HX := hid hx; have HY := hid hy; clear hx hy
          by_cases h0 : x.name = y.name
          · have e0 : (x.name.toList == y.name.toList) = true := by simp [h0]
            by_cases h1 : x.ty = y.ty
            · have e1 : (x.ty == y.ty) = true := by simp [h1]
              by_cases h2 : x.nn = y.nn
              · have e2 : (x.nn == y.nn) = true := by simp [h2]
                by_cases h3 : x.key = y.key
                · have e3 : (x.key == y.key) = true := by simp [h3]
                  have HXY := hid (show x = y by cases x; cases y; simp_all)
                  clear h0 h1 h2 h3
                  go_wp2_with fail
                  go_quiet (fail)
                  have HZ := H.drewN nq
                  go_wp2_with fail
                  go_roundw
                  case rel => exact ⟨k + 1, by omega, by go_num, hid (takeEq_succ HX.out HY.out HTK.out HXY.out), HZ⟩
                  case measure => simp [intOf]; omega
                · have e3 : (x.key == y.key) = false := by simpa using h3
                  have HN := hid (show decide (nm = nm ∧ cs = ds) = false from by rw [decide_eq_false_iff_not]; rintro ⟨_, h⟩; exact take_ne HX.out HY.out (by intro h; exact h3 (by rw [h])) h)
                  clear h0 h1 h2 h3
                  go_wp2_with fail
                  go_quiet (fail)
                  have HZ := H.drewN nq
                  go_wp2_with fail
                  go_ret
                  exact ⟨by rw [HN.out] <;> rfl, HZ.below⟩
              · have e2 : (x.nn == y.nn) = false := by simpa using h2
                have HN := hid (show decide (nm = nm ∧ cs = ds) = false from by rw [decide_eq_false_iff_not]; rintro ⟨_, h⟩; exact take_ne HX.out HY.out (by intro h; exact h2 (by rw [h])) h)
                clear h0 h1 h2
                go_wp2_with fail
                go_quiet (fail)
                have HZ := H.drewN nq
                go_wp2_with fail
                go_ret
                exact ⟨by rw [HN.out] <;> rfl, HZ.below⟩
            · have e1 : (x.ty == y.ty) = false := by simpa using h1
              have HN := hid (show decide (nm = nm ∧ cs = ds) = false from by rw [decide_eq_false_iff_not]; rintro ⟨_, h⟩; exact take_ne HX.out HY.out (by intro h; exact h1 (by rw [h])) h)
              clear h0 h1
              go_wp2_with fail
              go_quiet (fail)
              have HZ := H.drewN nq
              go_wp2_with fail
              go_ret
              exact ⟨by rw [HN.out] <;> rfl, HZ.below⟩
          · have e0 : (x.name.toList == y.name.toList) = false := by rw [beq_eq_false_iff_ne]; exact fun h => h0 (bytesEq h)
            have HN := hid (show decide (nm = nm ∧ cs = ds) = false from by rw [decide_eq_false_iff_not]; rintro ⟨_, h⟩; exact take_ne HX.out HY.out (by intro h; exact h0 (by rw [h])) h)
            clear h0
            go_wp2_with fail
            go_quiet (fail)
            have HZ := H.drewN nq
            go_wp2_with fail
            go_ret
            exact ⟨by rw [HN.out] <;> rfl, HZ.below⟩
        · obtain rfl : n = k := by omega
          have hd : decide ((n : Int) < (n : Int)) = false := by simp
          have HE := hid (show cs = ds from by
            have h := HTK.out
            rw [List.take_of_length_le (by rw [HL.out]; exact Nat.le_refl _), List.take_of_length_le (by rw [HK.out]; exact Nat.le_refl _)] at h
            simp [h])
          go_wp2_with fail
          go_ret
          exact ⟨congrArg (fun b => Ending.returned (Value.bool b)) (a₁ := true) (by simp [HE.out]), H.below⟩
    · have hb : ((n : Int) != (m : Int)) = true := by simp; omega
      have HB := hid (show ¬ cs = ds from by rintro rfl; have := HL.out; have := HK.out; omega)
      go_enter Tryd.func53, Tryd.ntmps53
      go_wp2_with fail
      go_ret
      exact ⟨congrArg (fun b => Ending.returned (Value.bool b)) (a₁ := false) (by simp [HB.out]), K0.below⟩
  · have h1 : (nm.toList == nm2.toList) = false := by rw [beq_eq_false_iff_ne]; exact fun h => hi (bytesEq h)
    have h1' : (nm.toList != nm2.toList) = true := by rw [bne_iff_ne]; exact fun h => hi (bytesEq h)
    have HB := hid (show decide (nm = nm2 ∧ cs = ds) = false by simp [hi])
    clear hi
    go_enter Tryd.func53, Tryd.ntmps53
    go_wp2_with fail
    go_ret
    exact ⟨by rw [HB.out] <;> rfl, K0.below⟩
end Go.Proofs.YtjpgbhakkfgecaaDoor

namespace Go.Proofs.YtjpgbhakkfgecaaDoor
open Go.RowKit
set_option linter.unusedVariables false
set_option linter.unusedSimpArgs false

set_option maxHeartbeats 8000000 in
set_option maxRecDepth 100000 in
theorem rbetw_any (M : Nat → Prop) (w : World) (hM : ∀ b, M b → b < w.heap.size) (va vb : Value) (a b : Tb) (hTa : TbAt w M va a) (hTb : TbAt w M vb b) (hsa : a.nm.size ≤ maxLen) (hca : ∀ x ∈ a.cs, x.name.size ≤ maxLen) (hra : a.rs.length ≤ 4398046511104) (hsb : b.nm.size ≤ maxLen) (hcb : ∀ x ∈ b.cs, x.name.size ≤ maxLen) (hrb : b.rs.length ≤ 4398046511104) :
    Calls Tryd.prog 19 #[va, vb] w fun e w' => BetRet w M (betweenC a b) e w' := by
  obtain ⟨aA, an, ac, aB, am, ad, la, rfl, a1, a2, a3, a4, a5, a6, a7, a8⟩ := hTa
  obtain ⟨bA, bn, bc, bB, bm, bd, lb, rfl, b1, b2, b3, b4, b5, b6, b7, b8⟩ := hTb
  have HAL := hid (show la.length = am from a6.now.len)
  have HBL := hid (show lb.length = bm from b6.now.len)
  have HAR := hid a8
  have HBR := hid b8
  have HAO := hid a7
  have HBO := hid b7
  have HAE := hid a6.now
  have HBE := hid b6.now
  have HAC := hid (show a.cs.length = an from cols_n a5.now)
  have ham : am ≤ 4398046511104 := by have := HAL.out; have h := congrArg List.length a8; rw [List.length_map] at h; omega
  have hbm : bm ≤ 4398046511104 := by have := HBL.out; have h := congrArg List.length b8; rw [List.length_map] at h; omega
  have K0 := (((((((Hold.start M w hM).add (b6.less (by simp [Mut]))).add (b5.less (by simp [Mut, Hp.foot]))).add (a6.less (by simp [Mut, Hp.foot]))).add (a5.less (by simp [Mut, Hp.foot]))).alloc_cst #[.string a.nm, .slice aA an ac, .int .i64 a.nx, .slice aB am ad] 27).alloc_cst #[.string b.nm, .slice bA bn bc, .int .i64 b.nx, .slice bB bm bd] 27).alloc #[.string ⟨#[]⟩, .slice none 0 0, .slice none 0 0, .slice none 0 0] 41
  simp only [World.size_alloc] at K0
  have F0 := K0.facts
  simp only [factsL, cellsF, Nat.reduceAdd, zf, zl] at F0
  clear a5 a6 a7 a8 b5 b6 b7 b8
  go_enter Tryd.func19, Tryd.ntmps19
  go_wp2_with fail
  obtain ⟨g2, hg2⟩ : ∃ g, g = w.heap.size := ⟨_, rfl⟩
  obtain ⟨g3, hg3⟩ : ∃ g, g = g2 + 1 := ⟨_, rfl⟩
  obtain ⟨g4, hg4⟩ : ∃ g, g = g3 + 1 := ⟨_, rfl⟩
  rw [← hg2, ← hg3, ← hg4] at K0 ⊢
  clear F0
  generalize ((w.alloc _).alloc _).alloc _ = w1 at K0 ⊢
  have HGX := hid hg2
  clear hg2 hg3 hg4
  have hv := rtvalid_any _ _ K0.mutLt a.nm aA an ac a.cs a.nx aB am ad la (K0.ro 3 rfl) (K0.ro 4 rfl) (by omega) (by omega) HAO.out hsa hca
  rw [HAR.out] at hv
  refine hv.mono ?_
  clear hv
  rintro e w2 ⟨rfl, b1_⟩
  have K1 := K0.call b1_
  clear K0 b1_
  have F1 := K1.facts
  simp only [factsL, cellsF, Nat.reduceAdd, zf, zl] at F1
  cases hva : tabB a.nm a.cs a.nx a.rs
  · have HN := hid (betC_a (b := b) hva)
    clear hva
    have KN := (((K1.store 0 rfl 0 (.string ⟨#[]⟩)).store 0 rfl 1 (.slice none 0 0)).store 0 rfl 2 (.slice none 0 0)).store 0 rfl 3 (.slice none 0 0)
    go_wp2_with fail
    exact bodyPost_ret (v := .tuple #[.agg #[.string ⟨#[]⟩, .slice none 0 0, .slice none 0 0, .slice none 0 0], .bool false]) (by simp [results, Tryd.results19, go_sem, F1]) rfl ⟨_, by rw [HN.out], by rw [HN.out]; exact dlAt_zero, KN.below⟩
  have HVA := hid hva
  clear hva
  go_wp2_with fail
  have hv := rtvalid_any _ _ K1.mutLt b.nm bA bn bc b.cs b.nx bB bm bd lb (K1.ro 5 rfl) (K1.ro 6 rfl) (by omega) (by omega) HBO.out hsb hcb
  rw [HBR.out] at hv
  refine hv.mono ?_
  clear hv
  rintro e w3 ⟨rfl, b1_⟩
  have K2 := K1.call b1_
  clear K1 b1_ F1
  have F2 := K2.facts
  simp only [factsL, cellsF, Nat.reduceAdd, zf, zl] at F2
  cases hvb : tabB b.nm b.cs b.nx b.rs
  · have HN := hid (betC_b (a := a) hvb)
    clear hvb
    have KN := (((K2.store 0 rfl 0 (.string ⟨#[]⟩)).store 0 rfl 1 (.slice none 0 0)).store 0 rfl 2 (.slice none 0 0)).store 0 rfl 3 (.slice none 0 0)
    go_wp2_with fail
    exact bodyPost_ret (v := .tuple #[.agg #[.string ⟨#[]⟩, .slice none 0 0, .slice none 0 0, .slice none 0 0], .bool false]) (by simp [results, Tryd.results19, go_sem, F2]) rfl ⟨_, by rw [HN.out], by rw [HN.out]; exact dlAt_zero, KN.below⟩
  have HVB := hid hvb
  clear hvb hsa hca hsb hcb
  have han6 : an ≤ 6 := by have := tabB_cols HVA.out; have := HAC.out; omega
  have ham1 : am ≤ 100 := by have := (tabB_rows HVA.out).1; have h := congrArg List.length HAR.out; rw [List.length_map] at h; have := HAL.out; omega
  have hbm1 : bm ≤ 100 := by have := (tabB_rows HVB.out).1; have h := congrArg List.length HBR.out; rw [List.length_map] at h; have := HBL.out; omega
  have HSA := hid (rw_short HAE.out (by rw [HAR.out]; exact HVA.out))
  have HSB := hid (rw_short HBE.out (by rw [HBR.out]; exact HVB.out))
  clear ham hbm hra hrb
  go_wp2_with fail
  refine (rsameschema_any _ a.nm aA an ac a.cs b.nm bA bn bc b.cs (K2.ro 3 rfl).now (K2.ro 5 rfl).now (by omega)).mono ?_
  rintro e w4 ⟨rfl, b1_⟩
  have K3 := K2.call b1_
  clear K2 b1_ F2
  have F3 := K3.facts
  simp only [factsL, cellsF, Nat.reduceAdd, zf, zl] at F3
  cases hss : decide (a.nm = b.nm ∧ a.cs = b.cs)
  · have HN := hid (betC_s hss)
    clear hss
    have KN := (((K3.store 0 rfl 0 (.string ⟨#[]⟩)).store 0 rfl 1 (.slice none 0 0)).store 0 rfl 2 (.slice none 0 0)).store 0 rfl 3 (.slice none 0 0)
    go_wp2_with fail
    exact bodyPost_ret (v := .tuple #[.agg #[.string ⟨#[]⟩, .slice none 0 0, .slice none 0 0, .slice none 0 0], .bool false]) (by simp [results, Tryd.results19, go_sem, F3]) rfl ⟨_, by rw [HN.out], by rw [HN.out]; exact dlAt_zero, KN.below⟩
  have HEQ := hid (of_decide_eq_true hss)
  clear hss
  by_cases hnx : b.nx < a.nx
  · have hd : decide (b.nx < a.nx) = true := by simpa using hnx
    have HN := hid (betC_n hnx)
    clear hnx
    have KN := (((K3.store 0 rfl 0 (.string ⟨#[]⟩)).store 0 rfl 1 (.slice none 0 0)).store 0 rfl 2 (.slice none 0 0)).store 0 rfl 3 (.slice none 0 0)
    go_wp2_with fail
    exact bodyPost_ret (v := .tuple #[.agg #[.string ⟨#[]⟩, .slice none 0 0, .slice none 0 0, .slice none 0 0], .bool false]) (by simp [results, Tryd.results19, go_sem, F3]) rfl ⟨_, by rw [HN.out], by rw [HN.out]; exact dlAt_zero, KN.below⟩
  have hd : decide (b.nx < a.nx) = false := by simpa using hnx
  have HST := hid (RSt.zero HVA.out HVB.out HEQ.out (show a.nx ≤ b.nx by omega))
  clear hnx
  have K4 := K3.alloc #[.string a.nm, .slice none 0 0, .slice none 0 0, .slice none 0 0] 41
  go_wp2_with fail
  obtain ⟨g6, hg6⟩ : ∃ g, g = w4.heap.size := ⟨_, rfl⟩
  rw [← hg6] at K4 ⊢
  have HG6 := hid hg6
  clear hg6 hd F3 K3
  generalize World.alloc w4 _ = w5 at K4 ⊢
  have K6 := ((((((K4.add (show Ro _ _ (PrVals []) from fun _ _ _ r hr => nomatch hr)).add (ro_vals_nil _ _)).add (ro_vals_nil _ _)).nil 99 3).nil 53 2).nil 53 2)
  clear K4
  go_loopw [46] (fun iv wr => ∃ (j ni ci nu cu : Nat) (I U : Option Addr) (li : List Rw) (lu : List Pr), j ≤ bm ∧ iv = .int .i64 j ∧ ni ≤ j ∧ nu ≤ j ∧ Hid (RSt a b j 0 li [] lu) ∧ Hold M none w wr [.own 53 2 (.slice I ni ci) ni (rwCells li), .own 53 2 (.slice none 0 0) 0 (rwCells []), .own 99 3 (.slice U nu cu) nu (prCells lu), .ro (ValsIn li), .ro (ValsIn []), .ro (PrVals lu), .blk g6 41 #[.string a.nm, .slice I ni ci, .slice none 0 0, .slice U nu cu], .blk g4 41 #[.string ⟨#[]⟩, .slice none 0 0, .slice none 0 0, .slice none 0 0], .cst g3 27 #[.string b.nm, .slice bA bn bc, .int .i64 b.nx, .slice bB bm bd], .cst g2 27 #[.string a.nm, .slice aA an ac, .int .i64 a.nx, .slice aB am ad], .ro (ColsIn aA an a.cs), .ro (RwsIn aB am la), .ro (ColsIn bA bn b.cs), .ro (RwsIn bB bm lb)]) (fun iv _ => bm - (intOf iv).toNat)
  case atStart => exact ⟨0, 0, 0, 0, 0, none, none, [], [], by omega, rfl, by omega, by omega, HST, K6⟩
  case round =>
    clear K6 HST
    obtain ⟨j, ni, ci, nu, cu, I, U, li, lu, hj, rfl, hni, hnu, HBS, H⟩ := hrel
    by_cases hlt : j < bm
    · have hd : decide ((j : Int) < (bm : Int)) = true := by simp; omega
      have j0 : (0 : Int) ≤ (j : Int) := by omega
      have j1 : (j : Int) < (bm : Int) := by omega
      obtain ⟨r, hr⟩ := get_of HBL.out hlt
      obtain ⟨bb, bo, rfl, hbb, c0, c1, _⟩ := (H.ro 13 rfl).now.at_ hr
      have HRR := hid (show b.rs[j]? = some r.row by rw [← HBR.out, List.getElem?_map, hr]; rfl)
      have HRO := hid (HBO.out r (List.mem_of_getElem? hr))
      have hrn6 := HSB.out r (List.mem_of_getElem? hr)
      have hxr : Ro wr _ (VlsIn r.A r.n r.vs) := (H.ro 13 rfl).imp fun w2 h2 => h2.2 r (List.mem_of_getElem? hr)
      obtain ⟨rid, rA, rn, rc, rvs⟩ := r
      dsimp only at *
      clear hr
      have K1 := (H.add hxr).alloc_cst #[.int .i64 rid, .slice rA rn rc] 53
      clear H hxr
      obtain ⟨g8, hg8⟩ : ∃ g, g = wr.heap.size := ⟨_, rfl⟩
      rw [← hg8] at K1
      have F1 := K1.facts
      simp only [factsL, cellsF, Nat.reduceAdd, zf, zl] at F1
      go_wp2_with fail
      rw [← hg8]
      have HG8 := hid hg8
      clear hg8 c0 c1
      have hg := rtget_any _ _ K1.mutLt (.string a.nm) (.slice aA an ac) (.int .i64 a.nx) aB am ad la rid (K1.ro 13 rfl) (by omega) (fun r hr => by have := HSA.out r hr; omega)
      rw [HAR.out] at hg
      refine hg.mono ?_
      clear hg
      rintro e w6 ⟨Ag, ng, cg, rfl, hng, hgc1, hgc2, rg, bg⟩
      have K2 := K1.call bg
      clear K1 bg F1
      have F2 := K2.facts
      simp only [factsL, cellsF, Nat.reduceAdd, zf, zl] at F2
      cases hgt : getR a.rs rid with
      | none =>
        have HGG := hid hgt
        simp only [Option.isSome_none]
        clear rg hng hgc1 hgc2 hgt
        by_cases hrn : rid < a.nx
        · have hd3 : decide (rid < a.nx) = true := by simpa using hrn
          have HN := hid (HBS.out.bad HRR.out HGG.out hrn)
          clear hrn
          have KN := (((K2.store 9 rfl 0 (.string ⟨#[]⟩)).store 9 rfl 1 (.slice none 0 0)).store 9 rfl 2 (.slice none 0 0)).store 9 rfl 3 (.slice none 0 0)
          go_wp2_with fail
          exact bodyPost_ret (v := .tuple #[.agg #[.string ⟨#[]⟩, .slice none 0 0, .slice none 0 0, .slice none 0 0], .bool false]) (by simp [results, Tryd.results19, go_sem, F2]) rfl ⟨_, by rw [HN.out], by rw [HN.out]; exact dlAt_zero, KN.below⟩
        · have hd3 : decide (rid < a.nx) = false := by simpa using hrn
          have HRN := hid (show a.nx ≤ rid by omega)
          clear hrn
          obtain ⟨KL, hKL, KN⟩ := K2.name
          have HF : Hid (∀ wv, Hold M none w wv KL → (wv.cell? ⟨g6, 1, none⟩ = some (.slice I ni ci) ∧ g6 < wv.heap.size) ∧ wv.cell? ⟨g8, 0, none⟩ = some (.int .i64 rid) ∧ wv.cell? ⟨g8, 1, none⟩ = some (.slice rA rn rc) ∧ g8 < wv.heap.size) := hid fun wv HC => by
            rw [hKL] at HC
            have y1 := HC.blk_ 8 rfl
            have y2 := HC.cst_ 0 rfl
            exact ⟨⟨cell_of_row _ _ 1 _ _ _ y1, Blk.lt y1⟩, cell_of_row _ _ 0 _ _ _ y2, cell_of_row _ _ 1 _ _ _ y2, Blk.lt y2⟩
          have HRX : Hid (∀ wv, Hold M none w wv KL → Ro wv (Mut M KL) (VlsIn rA rn rvs)) := hid fun wv HC => by
            rw [hKL] at HC ⊢
            exact HC.ro 1 rfl
          have HKL := hid hKL
          clear hKL K2
          go_wp2_with fail
          refine wp_region_any (by kernel_rfl) ?_
          refine wpAny_hold 5 119 (KL) (spL [(72, RowSlot (Mut M KL) rid rvs), (73, RBoxSlot (Mut M KL) rid rvs)]) (by kernel_rfl) (by kernel_rfl) (by kernel_rfl) rfl ?_ (KN.drew) ?_
          · exact stays_cons rowSlot_mono (stays_cons rboxSlot_mono (stays_nil _))
          simp only [zd, Act.put, List.getElem_toArray, List.getElem_cons_zero, List.getElem_cons_succ, zl]
          refine dw_val rfl rfl rfl ?_; apply Exists.intro; refine ⟨fun wv HC => ?_, ?_⟩
          ·  go_simp <;> rfl
          simp only [Act.put, zl]
          refine dw_val rfl rfl rfl ?_; apply Exists.intro; refine ⟨fun wv HC => ?_, ?_⟩
          · obtain ⟨⟨f0, f1⟩, f2, f3, f4⟩ := HF.out _ HC; go_simp <;> rfl
          simp only [Act.put, zl]
          refine dw_val rfl rfl rfl ?_; apply Exists.intro; refine ⟨fun wv HC => ?_, ?_⟩
          · obtain ⟨⟨f0, f1⟩, f2, f3, f4⟩ := HF.out _ HC; go_simp <;> rfl
          simp only [Act.put, zl]
          refine dw_callR 72 (RowSlot (Mut M KL) rid rvs) (f := 55) (args := #[.agg #[.int .i64 rid, .slice rA rn rc]]) rfl rfl rfl rfl (fun wv => ?_) (fun wv HC hrm hD => ?_) ?_
          · go_simp <;> rfl
          · refine (rcopyrow_any _ wv HC.mutLt rid rA rn rc rvs (HRX.out _ HC) (by omega)).mono ?_
            rintro e w5 ⟨A5, n5, c5, rfl, h50, h51, h52, h53, b5⟩
            exact ⟨_, rfl, ⟨A5, n5, c5, rfl, h50, h51, h52, h53⟩, HC.call b5, RM.below b5⟩
          rintro x_ wx HCx ⟨A5, n5, c5, rfl, -, -, -, -⟩
          clear HCx
          simp only [Act.put, zl]
          refine dw_new #[.int .i64 rid, .slice A5 n5 c5] 53 73 (RBoxSlot (Mut M KL) rid rvs) (fun g => .slice (some ⟨g, 0, none⟩) 1 1) rfl rfl rfl rfl (fun wv => ?_) (fun wv HC _hrm hD hro => ?_) ?_
          · go_simp <;> rfl
          · have hsl : RowSlot (Mut M KL) rid rvs (.agg #[.int .i64 rid, .slice A5 n5 c5]) wv := deps_at hD 3 rfl (by kernel_rfl) rfl rfl
            obtain ⟨A6, n6, c6, e6, h1, h2, h3, h4⟩ := hsl
            obtain ⟨rfl, rfl, rfl⟩ : A5 = A6 ∧ n5 = n6 ∧ c5 = c6 := by
              injection e6 with e6
              simp at e6
              exact e6
            exact ⟨_, A5, n5, c5, rfl, h1, h2, h3, h4.step (by simp) (fun b hb _ => Below.heap_alloc wv _ b hb) (fun _ _ h => h), ro_block (hro _ HC.mutLt) rfl⟩
          rintro gn wg HCg hsl
          simp only [Act.put, zl]
          clear hsl HCg
          refine rel_nil ?_
          rintro wx2 HX
          rintro _hrm HGW
          have hb2 : RBoxSlot (Mut M KL) rid rvs (.slice (some ⟨gn, 0, none⟩) 1 1) wx2 := (GW_on (d := 73) rfl).1 (HGW 4 _ rfl (by omega))
          clear HGW _hrm
          obtain ⟨gq, A6, n6, c6, e6, k0_, k1_, k2_, k3_, k4_⟩ := hb2
          obtain rfl : gn = gq := by injection e6 with e6; injection e6 with e6; injection e6
          clear e6
          rw [HKL.out] at HX k3_
          have k5 := hid k4_.now
          have HK0 := hid (And.intro k0_ (And.intro k1_ k2_))
          clear k4_ k0_ k1_ k2_ HF HRX KN
          have HRS := hid (show rwCells li ++ [.int .i64 rid, .slice A6 n6 c6] = rwCells (li ++ [⟨rid, A6, n6, c6, rvs⟩]) from rwCells_snoc1 _ _ _ _ _ _)
          have KA := HX.add k3_
          clear HX k3_
          have FKA := KA.facts
          simp only [factsL, cellsF, Nat.reduceAdd, zf, zl] at FKA
          go_wp2_with (at_builtin; go_must (refine wpList_appAllH KA 3 rfl Tryd.elRw k5.out rfl (.tmp 70) (.tmp 73) rfl rfl rfl (by intro z hz; simp at hz; rcases hz with rfl | rfl <;> rfl) (by omega) (by omega) ?_); intro C' cap' w6 hc6 hm6 KB; rw [HRS.out] at KB; simp only [List.set_cons_zero, List.set_cons_succ] at KB; (have F3 := KB.facts); simp only [factsL, cellsF, Nat.reduceAdd, zf, zl] at F3)
          have KD := KB.store 9 rfl 1 (.slice C' (ni + 1) cap')
          have KE := (KD.swapRo 6 rfl (vals_snoc (r := ⟨rid, A6, n6, c6, rvs⟩) (KD.ro 6 rfl) (KD.ro 0 rfl))).drop (List.sublist_cons_self _ _)
          clear KB KD FKA k5
          have HBN := hid (HBS.out.ins_ HRR.out HGG.out HRN.out (y := ⟨rid, A6, n6, c6, rvs⟩) rfl ⟨HRO.out.id, HK0.out.2.1, HK0.out.2.2, HRO.out.vs⟩)
          have KZ := KE.drop (List.Sublist.cons _ (List.sublist_cons_self _ _))
          go_roundw
          case rel => exact ⟨j + 1, ni + 1, cap', nu, cu, C', U, _, lu, by omega, by first | rfl | go_num, by omega, by omega, HBN, KZ⟩
          case measure => simp [intOf]; omega
      | some o =>
        rw [hgt] at rg hng
        simp only [Option.getD_some] at rg hng
        have HGG := hid hgt
        have HGC := hid (And.intro hng (And.intro hgc1 hgc2))
        have HGO := hid (show ∀ v ∈ o, v.ok from fun v hv => by
          have h1 := getR_out hgt
          rw [← HAR.out] at h1
          obtain ⟨z, hz, hzr⟩ := List.mem_map.1 h1
          have h2 : z.vs = o := congrArg Prod.snd hzr
          exact (HAO.out z hz).vs v (by rw [h2]; exact hv))
        simp only [Option.isSome_some]
        have hng6 : ng ≤ 9223372036854775807 := by omega
        clear hgt hng hgc1 hgc2
        have K3 := K2.add rg
        clear K2 rg F2
        have F3 := K3.facts
        simp only [factsL, cellsF, Nat.reduceAdd, zf, zl] at F3
        go_wp2_with fail
        refine (rcmprows_any _ _ K3.mutLt Ag ng cg o rA rn rc rvs (K3.ro 0 rfl) (K3.ro 2 rfl) (by omega) (by omega)).mono ?_
        rintro e w7 ⟨⟨r0, rfl, hr0⟩, b7⟩
        have K6 := K3.call b7
        clear K3 b7 F3
        have F6 := K6.facts
        simp only [factsL, cellsF, Nat.reduceAdd, zf, zl] at F6
        by_cases hov : o = rvs
        · obtain rfl : r0 = 0 := hr0.2 hov
          have HBN := hid (HBS.out.same HRR.out HGG.out hov)
          clear hr0 hov
          have KZ := K6.drop (List.Sublist.cons _ (List.Sublist.cons _ (List.sublist_cons_self _ _)))
          go_wp2_with fail
          go_roundw
          case rel => exact ⟨j + 1, ni, ci, nu, cu, I, U, li, lu, by omega, by first | rfl | go_num, by omega, by omega, HBN, KZ⟩
          case measure => simp [intOf]; omega
        · have hrz : (r0 != 0) = true := by simpa using fun h => hov (hr0.1 h)
          have HNE := hid hov
          clear hr0 hov
          obtain ⟨KL, hKL, KN⟩ := K6.name
          have HF : Hid (∀ wv, Hold M none w wv KL → (wv.cell? ⟨g6, 3, none⟩ = some (.slice U nu cu) ∧ g6 < wv.heap.size) ∧ wv.cell? ⟨g8, 0, none⟩ = some (.int .i64 rid) ∧ wv.cell? ⟨g8, 1, none⟩ = some (.slice rA rn rc) ∧ g8 < wv.heap.size) := hid fun wv HC => by
            rw [hKL] at HC
            have y1 := HC.blk_ 9 rfl
            have y2 := HC.cst_ 1 rfl
            exact ⟨⟨cell_of_row _ _ 3 _ _ _ y1, Blk.lt y1⟩, cell_of_row _ _ 0 _ _ _ y2, cell_of_row _ _ 1 _ _ _ y2, Blk.lt y2⟩
          have HRX : Hid (∀ wv, Hold M none w wv KL → Ro wv (Mut M KL) (VlsIn Ag ng o) ∧ Ro wv (Mut M KL) (VlsIn rA rn rvs)) := hid fun wv HC => by
            rw [hKL] at HC ⊢
            exact ⟨HC.ro 0 rfl, HC.ro 2 rfl⟩
          have HKL := hid hKL
          clear hKL K6
          go_wp2_with fail
          refine wp_region_any (by kernel_rfl) ?_
          refine wpAny_hold 10 119 (KL) (spL [(88, VlsSlot (Mut M KL) rvs), (89, PrSlot (Mut M KL) (rid, o, rvs)), (90, PrsSlot (Mut M KL) [(rid, o, rvs)])]) (by kernel_rfl) (by kernel_rfl) (by kernel_rfl) rfl ?_ (KN.drew) ?_
          · exact stays_cons vlsSlot_mono (stays_cons prSlot_mono (stays_cons prsSlot_mono (stays_nil _)))
          simp only [zd, Act.put, List.getElem_toArray, List.getElem_cons_zero, List.getElem_cons_succ, zl]
          refine dw_val rfl rfl rfl ?_; apply Exists.intro; refine ⟨fun wv HC => ?_, ?_⟩
          ·  go_simp <;> rfl
          simp only [Act.put, zl]
          refine dw_val rfl rfl rfl ?_; apply Exists.intro; refine ⟨fun wv HC => ?_, ?_⟩
          · obtain ⟨⟨f0, f1⟩, f2, f3, f4⟩ := HF.out _ HC; go_simp <;> rfl
          simp only [Act.put, zl]
          refine dw_val rfl rfl rfl ?_; apply Exists.intro; refine ⟨fun wv HC => ?_, ?_⟩
          ·  go_simp <;> rfl
          simp only [Act.put, zl]
          refine dw_val rfl rfl rfl ?_; apply Exists.intro; refine ⟨fun wv HC => ?_, ?_⟩
          · obtain ⟨⟨f0, f1⟩, f2, f3, f4⟩ := HF.out _ HC; go_simp <;> rfl
          simp only [Act.put, zl]
          refine dw_val rfl rfl rfl ?_; apply Exists.intro; refine ⟨fun wv HC => ?_, ?_⟩
          ·  go_simp <;> rfl
          simp only [Act.put, zl]
          refine dw_val rfl rfl rfl ?_; apply Exists.intro; refine ⟨fun wv HC => ?_, ?_⟩
          ·  go_simp <;> rfl
          simp only [Act.put, zl]
          refine dw_val rfl rfl rfl ?_; apply Exists.intro; refine ⟨fun wv HC => ?_, ?_⟩
          · obtain ⟨⟨f0, f1⟩, f2, f3, f4⟩ := HF.out _ HC; go_simp <;> rfl
          simp only [Act.put, zl]
          refine dw_callR 88 (VlsSlot (Mut M KL) rvs) (f := 56) (args := #[.slice rA rn rc]) rfl rfl rfl rfl (fun wv => ?_) (fun wv HC hrm hD => ?_) ?_
          · go_simp <;> rfl
          · refine (copyVls_any _ wv HC.mutLt rA rn rc rvs (HRX.out _ HC).2 (by omega)).mono ?_
            rintro e w5 ⟨A5, n5, c5, rfl, h50, h51, h52, h53, b5⟩
            exact ⟨_, rfl, ⟨A5, n5, c5, rfl, h50, h51, h52, h53⟩, HC.call b5, RM.below b5⟩
          rintro x_ wx HCx ⟨A94, n94, c94, rfl, -, -, -, -⟩
          clear HCx
          simp only [Act.put, zl]
          refine dw_valC 89 (PrSlot (Mut M KL) (rid, o, rvs)) rfl rfl rfl rfl (.agg #[.int .i64 rid, .slice Ag ng cg, .slice A94 n94 c94]) (fun wv HC => ?_) (fun wv HC hD => ?_) ?_
          · go_simp <;> rfl
          · have hb : VlsSlot (Mut M KL) rvs (.slice A94 n94 c94) wv := deps_at hD 7 rfl (by kernel_rfl) rfl rfl
            exact prSlot_of HRO.out.id HGO.out HRO.out.vs ⟨Ag, ng, cg, rfl, HGC.out.1, HGC.out.2.1, HGC.out.2.2, (HRX.out _ HC).1⟩ hb
          simp only [Act.put, zl]
          refine dw_new #[.int .i64 rid, .slice Ag ng cg, .slice A94 n94 c94] 99 90 (PrsSlot (Mut M KL) [(rid, o, rvs)]) (fun g => .slice (some ⟨g, 0, none⟩) 1 1) rfl rfl rfl rfl (fun wv => ?_) (fun wv HC _hrm hD hro => ?_) ?_
          · go_simp <;> rfl
          · have hrr := RM.alloc (Mut M KL) wv (.cells #[.int .i64 rid, .slice Ag ng cg, .slice A94 n94 c94] 99)
            have h0 : PrSlot (Mut M KL) (rid, o, rvs) (.agg #[.int .i64 rid, .slice Ag ng cg, .slice A94 n94 c94]) wv := deps_at hD 8 rfl (by kernel_rfl) rfl rfl
            replace h0 := prSlot_mono _ _ _ hrr h0
            exact prsSlot_one (hro _ HC.mutLt) (fun i j k e1 => Value.agg.inj e1) h0
          rintro g96 wg HCg hsl
          simp only [Act.put, zl]
          clear hsl HCg
          refine rel_nil ?_
          rintro wx5 HX5
          rintro _hrm HGW
          have hb2 : PrsSlot (Mut M KL) [(rid, o, rvs)] (.slice (some ⟨g96, 0, none⟩) 1 1) wx5 := (GW_on (d := 90) rfl).1 (HGW 9 _ rfl (by omega))
          clear HGW _hrm
          obtain ⟨Aq, nq, cq, pq, heq, -, -, hpm, hpok, hpr⟩ := hb2
          obtain ⟨rfl, rfl, rfl⟩ : some ⟨g96, 0, none⟩ = Aq ∧ 1 = nq ∧ 1 = cq := by injection heq with h1 h2 h3; exact ⟨h1, h2, h3⟩
          clear heq
          obtain ⟨pr, rfl, hpu⟩ : ∃ pr, pq = [pr] ∧ pr.upd = (rid, o, rvs) := by
            obtain ⟨pr, h1, h2⟩ := List.map_eq_singleton_iff.1 hpm
            exact ⟨pr, h1, h2⟩
          rw [HKL.out] at HX5 hpr
          have HPE := hid (show prCells lu ++ prCells [pr] = prCells (lu ++ [pr]) by simp [prCells])
          have KA := HX5.add (hpr.imp fun w h => (h.2 : PrVals [pr] w))
          have k5 := hid ((hpr.imp fun w h => h.1).now)
          have HBN := hid (HBS.out.turn HRR.out HGG.out HNE.out hpu (hpok pr (List.mem_singleton.2 rfl)))
          clear HX5 hpr hpm hpok hpu HF HRX KN
          have FKA := KA.facts
          simp only [factsL, cellsF, Nat.reduceAdd, zf, zl] at FKA
          go_wp2_with (at_builtin; go_must (refine wpList_appAllH KA 6 rfl Tryd.elPr k5.out rfl (.tmp 82) (.tmp 90) rfl rfl rfl (prCells_one _) (by omega) (by omega) ?_); intro C' cap' w6 hc6 hm6 KB; rw [HPE.out] at KB; simp only [List.set_cons_zero, List.set_cons_succ] at KB; (have FB := KB.facts); simp only [factsL, cellsF, Nat.reduceAdd, zf, zl] at FB)
          have KD := KB.store 10 rfl 3 (.slice C' (nu + 1) cap')
          have KZ := (KD.swapRo 9 rfl (prVals_app (KD.ro 9 rfl) (KD.ro 0 rfl))).drop (List.Sublist.cons _ (List.Sublist.cons _ (List.Sublist.cons _ (List.sublist_cons_self _ _))))
          clear KB KD FKA k5
          go_roundw
          case rel => exact ⟨j + 1, ni, ci, nu + 1, cap', I, C', li, _, by omega, by first | rfl | go_num, by omega, by omega, HBN, KZ⟩
          case measure => simp [intOf]; omega
    · obtain rfl : j = bm := by omega
      have hd : decide ((j : Int) < (j : Int)) = false := by simp
      have HBJ := hid (show b.rs.length ≤ j by rw [← HBR.out, List.length_map, HBL.out]; exact Nat.le_refl _)
      clear hlt
      have F1 := H.facts
      simp only [factsL, cellsF, Nat.reduceAdd, zf, zl] at F1
      go_wp2_with fail
      clear F1
      go_loopw [97] (fun iv wr => ∃ (k nd cd : Nat) (D : Option Addr) (ld : List Rw), k ≤ am ∧ iv = .int .i64 k ∧ nd ≤ k ∧ Hid (RSt a b j k li ld lu) ∧ Hold M none w wr [.own 53 2 (.slice I ni ci) ni (rwCells li), .own 53 2 (.slice D nd cd) nd (rwCells ld), .own 99 3 (.slice U nu cu) nu (prCells lu), .ro (ValsIn li), .ro (ValsIn ld), .ro (PrVals lu), .blk g6 41 #[.string a.nm, .slice I ni ci, .slice D nd cd, .slice U nu cu], .blk g4 41 #[.string ⟨#[]⟩, .slice none 0 0, .slice none 0 0, .slice none 0 0], .cst g3 27 #[.string b.nm, .slice bA bn bc, .int .i64 b.nx, .slice bB j bd], .cst g2 27 #[.string a.nm, .slice aA an ac, .int .i64 a.nx, .slice aB am ad], .ro (ColsIn aA an a.cs), .ro (RwsIn aB am la), .ro (ColsIn bA bn b.cs), .ro (RwsIn bB j lb)]) (fun iv _ => am - (intOf iv).toNat)
      case atStart => exact ⟨0, 0, 0, none, [], by omega, rfl, by omega, HBS, H⟩
      case round =>
        clear H HBS
        obtain ⟨k, nd, cd, D, ld, hk, rfl, hnd, HBS, H⟩ := hrel
        by_cases hlt : k < am
        · have hd5 : decide ((k : Int) < (am : Int)) = true := by simp; omega
          have k0 : (0 : Int) ≤ (k : Int) := by omega
          have k1 : (k : Int) < (am : Int) := by omega
          obtain ⟨x, hx⟩ := get_of HAL.out hlt
          have HXX := hid (show a.rs[k]? = some x.row by rw [← HAR.out, List.getElem?_map, hx]; rfl)
          have HXO := hid (HAO.out x (List.mem_of_getElem? hx))
          have hxn6 := HSA.out x (List.mem_of_getElem? hx)
          obtain ⟨bx, ox, rfl, hbx', x0, x1, _⟩ := (H.ro 11 rfl).now.at_ hx
          have hxx : Ro wr _ (VlsIn x.A x.n x.vs) := (H.ro 11 rfl).imp fun w2 h2 => h2.2 x (List.mem_of_getElem? hx)
          clear hx
          obtain ⟨xid, xA, xn, xc, xvs⟩ := x
          dsimp only at *
          have K1 := (H.add hxx).alloc_cst #[.int .i64 xid, .slice xA xn xc] 53
          clear H hxx
          obtain ⟨gx, hgx⟩ : ∃ g, g = wr.heap.size := ⟨_, rfl⟩
          rw [← hgx] at K1
          have F1 := K1.facts
          simp only [factsL, cellsF, Nat.reduceAdd, zf, zl] at F1
          go_wp2_with fail
          rw [← hgx]
          have HGX2 := hid hgx
          clear hgx x0 x1
          have hg := rtget_any _ _ K1.mutLt (.string b.nm) (.slice bA bn bc) (.int .i64 b.nx) bB j bd lb xid (K1.ro 15 rfl) (by omega) (fun r hr => by have := HSB.out r hr; omega)
          rw [HBR.out] at hg
          refine hg.mono ?_
          clear hg
          rintro e w6 ⟨Ag, ng, cg, rfl, -, -, -, -, bg⟩
          have K2 := K1.call bg
          clear K1 bg F1
          have F2 := K2.facts
          simp only [factsL, cellsF, Nat.reduceAdd, zf, zl] at F2
          cases hgt : getR b.rs xid with
          | none =>
            have HGG := hid hgt
            simp only [Option.isSome_none]
            clear hgt
            obtain ⟨KL, hKL, KN⟩ := K2.name
            have HF : Hid (∀ wv, Hold M none w wv KL → (wv.cell? ⟨g6, 2, none⟩ = some (.slice D nd cd) ∧ g6 < wv.heap.size) ∧ wv.cell? ⟨gx, 0, none⟩ = some (.int .i64 xid) ∧ wv.cell? ⟨gx, 1, none⟩ = some (.slice xA xn xc) ∧ gx < wv.heap.size) := hid fun wv HC => by
              rw [hKL] at HC
              have y1 := HC.blk_ 8 rfl
              have y2 := HC.cst_ 0 rfl
              exact ⟨⟨cell_of_row _ _ 2 _ _ _ y1, Blk.lt y1⟩, cell_of_row _ _ 0 _ _ _ y2, cell_of_row _ _ 1 _ _ _ y2, Blk.lt y2⟩
            have HRX : Hid (∀ wv, Hold M none w wv KL → Ro wv (Mut M KL) (VlsIn xA xn xvs)) := hid fun wv HC => by
              rw [hKL] at HC ⊢
              exact HC.ro 1 rfl
            have HKL := hid hKL
            clear hKL K2
            go_wp2_with fail
            refine wp_region_any (by kernel_rfl) ?_
            refine wpAny_hold 5 119 (KL) (spL [(113, RowSlot (Mut M KL) xid xvs), (114, RBoxSlot (Mut M KL) xid xvs)]) (by kernel_rfl) (by kernel_rfl) (by kernel_rfl) rfl ?_ (KN.drew) ?_
            · exact stays_cons rowSlot_mono (stays_cons rboxSlot_mono (stays_nil _))
            simp only [zd, Act.put, List.getElem_toArray, List.getElem_cons_zero, List.getElem_cons_succ, zl]
            refine dw_val rfl rfl rfl ?_; apply Exists.intro; refine ⟨fun wv HC => ?_, ?_⟩
            ·  go_simp <;> rfl
            simp only [Act.put, zl]
            refine dw_val rfl rfl rfl ?_; apply Exists.intro; refine ⟨fun wv HC => ?_, ?_⟩
            · obtain ⟨⟨f0, f1⟩, f2, f3, f4⟩ := HF.out _ HC; go_simp <;> rfl
            simp only [Act.put, zl]
            refine dw_val rfl rfl rfl ?_; apply Exists.intro; refine ⟨fun wv HC => ?_, ?_⟩
            · obtain ⟨⟨f0, f1⟩, f2, f3, f4⟩ := HF.out _ HC; go_simp <;> rfl
            simp only [Act.put, zl]
            refine dw_callR 113 (RowSlot (Mut M KL) xid xvs) (f := 55) (args := #[.agg #[.int .i64 xid, .slice xA xn xc]]) rfl rfl rfl rfl (fun wv => ?_) (fun wv HC hrm hD => ?_) ?_
            · go_simp <;> rfl
            · refine (rcopyrow_any _ wv HC.mutLt xid xA xn xc xvs (HRX.out _ HC) (by omega)).mono ?_
              rintro e w5 ⟨A5, n5, c5, rfl, h50, h51, h52, h53, b5⟩
              exact ⟨_, rfl, ⟨A5, n5, c5, rfl, h50, h51, h52, h53⟩, HC.call b5, RM.below b5⟩
            rintro x_ wx HCx ⟨A5, n5, c5, rfl, -, -, -, -⟩
            clear HCx
            simp only [Act.put, zl]
            refine dw_new #[.int .i64 xid, .slice A5 n5 c5] 53 114 (RBoxSlot (Mut M KL) xid xvs) (fun g => .slice (some ⟨g, 0, none⟩) 1 1) rfl rfl rfl rfl (fun wv => ?_) (fun wv HC _hrm hD hro => ?_) ?_
            · go_simp <;> rfl
            · have hsl : RowSlot (Mut M KL) xid xvs (.agg #[.int .i64 xid, .slice A5 n5 c5]) wv := deps_at hD 3 rfl (by kernel_rfl) rfl rfl
              obtain ⟨A6, n6, c6, e6, h1, h2, h3, h4⟩ := hsl
              obtain ⟨rfl, rfl, rfl⟩ : A5 = A6 ∧ n5 = n6 ∧ c5 = c6 := by
                injection e6 with e6
                simp at e6
                exact e6
              exact ⟨_, A5, n5, c5, rfl, h1, h2, h3, h4.step (by simp) (fun b hb _ => Below.heap_alloc wv _ b hb) (fun _ _ h => h), ro_block (hro _ HC.mutLt) rfl⟩
            rintro gn wg HCg hsl
            simp only [Act.put, zl]
            clear hsl HCg
            refine rel_nil ?_
            rintro wx2 HX
            rintro _hrm HGW
            have hb2 : RBoxSlot (Mut M KL) xid xvs (.slice (some ⟨gn, 0, none⟩) 1 1) wx2 := (GW_on (d := 114) rfl).1 (HGW 4 _ rfl (by omega))
            clear HGW _hrm
            obtain ⟨gq, A6, n6, c6, e6, k0_, k1_, k2_, k3_, k4_⟩ := hb2
            obtain rfl : gn = gq := by injection e6 with e6; injection e6 with e6; injection e6
            clear e6
            rw [HKL.out] at HX k3_
            have k5 := hid k4_.now
            have HK0 := hid (And.intro k0_ (And.intro k1_ k2_))
            clear k4_ k0_ k1_ k2_ HF HRX KN
            have HRS := hid (show rwCells ld ++ [.int .i64 xid, .slice A6 n6 c6] = rwCells (ld ++ [⟨xid, A6, n6, c6, xvs⟩]) from rwCells_snoc1 _ _ _ _ _ _)
            have KA := HX.add k3_
            clear HX k3_
            have FKA := KA.facts
            simp only [factsL, cellsF, Nat.reduceAdd, zf, zl] at FKA
            go_wp2_with (at_builtin; go_must (refine wpList_appAllH KA 4 rfl Tryd.elRw k5.out rfl (.tmp 111) (.tmp 114) rfl rfl rfl (by intro z hz; simp at hz; rcases hz with rfl | rfl <;> rfl) (by omega) (by omega) ?_); intro C' cap' w6 hc6 hm6 KB; rw [HRS.out] at KB; simp only [List.set_cons_zero, List.set_cons_succ] at KB; (have F3 := KB.facts); simp only [factsL, cellsF, Nat.reduceAdd, zf, zl] at F3)
            have KD := KB.store 9 rfl 2 (.slice C' (nd + 1) cap')
            have KE := (KD.swapRo 7 rfl (vals_snoc (r := ⟨xid, A6, n6, c6, xvs⟩) (KD.ro 7 rfl) (KD.ro 0 rfl))).drop (List.sublist_cons_self _ _)
            clear KB KD FKA k5
            have HBN := hid (HBS.out.left HXX.out HGG.out (y := ⟨xid, A6, n6, c6, xvs⟩) rfl ⟨HXO.out.id, HK0.out.2.1, HK0.out.2.2, HXO.out.vs⟩)
            have KZ := KE.drop (List.Sublist.cons _ (List.sublist_cons_self _ _))
            go_roundw
            case rel => exact ⟨k + 1, nd + 1, cap', C', _, by omega, by first | rfl | go_num, by omega, HBN, KZ⟩
            case measure => simp [intOf]; omega
          | some v =>
            have HBN := hid (HBS.out.keep HXX.out hgt)
            simp only [Option.isSome_some]
            clear hgt
            have KZ := K2.drop (List.Sublist.cons _ (List.sublist_cons_self _ _))
            go_wp2_with fail
            go_roundw
            case rel => exact ⟨k + 1, nd, cd, D, ld, by omega, by first | rfl | go_num, by omega, HBN, KZ⟩
            case measure => simp [intOf]; omega
        · obtain rfl : k = am := by omega
          have hd5 : decide ((k : Int) < (k : Int)) = false := by simp
          have HFIN := hid (HBS.out.fin HBJ.out (by rw [← HAR.out, List.length_map, HAL.out]; exact Nat.le_refl _))
          have F := H.facts
          simp only [factsL, cellsF, Nat.reduceAdd, zf, zl] at F
          obtain ⟨hi1, hi2, _⟩ := own_caps (H.get 0 rfl)
          obtain ⟨hd1, hd2, _⟩ := own_caps (H.get 1 rfl)
          obtain ⟨hu1, hu2, _⟩ := own_caps (H.get 2 rfl)
          have KS := H.sealRow 0 rfl
          simp only [List.set_cons_zero, List.set_cons_succ] at KS
          have KS2 := KS.sealRow 1 rfl
          simp only [List.set_cons_zero, List.set_cons_succ] at KS2
          have KS3 := KS2.sealRow 2 rfl
          simp only [List.set_cons_zero, List.set_cons_succ] at KS3
          have KN := (((KS3.store 7 rfl 0 (.string a.nm)).store 7 rfl 1 (.slice I ni ci)).store 7 rfl 2 (.slice D nd cd)).store 7 rfl 3 (.slice U nu cu)
          have r1 := (KN.roOut 0 rfl).and (KN.roOut 3 rfl)
          have r2 := (KN.roOut 1 rfl).and (KN.roOut 4 rfl)
          have r3 := (KN.roOut 2 rfl).and (KN.roOut 5 rfl)
          have NK := H.nes
          simp only [nesL, neF, and_true, true_and] at NK
          clear KS KS2 KS3 H
          go_wp2_with fail
          exact bodyPost_ret (v := .tuple #[.agg #[.string a.nm, .slice I ni ci, .slice D nd cd, .slice U nu cu], .bool true]) (by simp [results, Tryd.results19, go_sem, F, NK]) rfl ⟨_, by rw [HFIN.out], by rw [HFIN.out]; exact ⟨I, ni, ci, D, nd, cd, U, nu, cu, li, ld, lu, rfl, ⟨hi1, hi2⟩, ⟨hd1, hd2⟩, ⟨hu1, hu2⟩, r1, r2, r3, HBS.out.ok1, HBS.out.ok2, HBS.out.ok3, rfl, rfl, rfl⟩, KN.below⟩
end Go.Proofs.YtjpgbhakkfgecaaDoor

namespace Go.Proofs.YtjpgbhakkfgecaaDoor
open Go.RowKit
set_option linter.unusedVariables false
set_option linter.unusedSimpArgs false

/-- a difference whose rows are short -/
structure DlShort (d : Dl) : Prop where
  fi : d.ins.length ≤ 4398046511104
  fd : d.del.length ≤ 4398046511104
  fu : d.upd.length ≤ 4398046511104
  ri : ∀ r ∈ d.ins, r.2.length ≤ 4398046511104
  rd : ∀ r ∈ d.del, r.2.length ≤ 4398046511104
  ru : ∀ u ∈ d.upd, u.2.1.length ≤ 4398046511104 ∧ u.2.2.length ≤ 4398046511104

end Go.Proofs.YtjpgbhakkfgecaaDoor

namespace Go.Proofs.YtjpgbhakkfgecaaDoor
open Go.RowKit
set_option linter.unusedVariables false
set_option linter.unusedSimpArgs false

end Go.Proofs.YtjpgbhakkfgecaaDoor

namespace Go.Proofs.YtjpgbhakkfgecaaDoor
open Go.RowKit
set_option linter.unusedVariables false
set_option linter.unusedSimpArgs false

def SomeTabSl (M : Nat → Prop) (u : Value) (w : World) : Prop := ∃ t : Tb, TbAt w M u t ∧ t.nm.size ≤ maxLen ∧ (∀ x ∈ t.cs, x.name.size ≤ maxLen) ∧ t.cs.length ≤ 1001 ∧ t.rs.length ≤ 1000 ∧ ∀ r ∈ t.rs, r.2.length ≤ 1000
theorem someTabSl_mono {M : Nat → Prop} (u : Value) (w w' : World) (hr : RM M w w') (h : SomeTabSl M u w) : SomeTabSl M u w' := by
  obtain ⟨t, h1, h2⟩ := h
  exact ⟨t, tbAt_mono hr h1, h2⟩
end Go.Proofs.YtjpgbhakkfgecaaDoor

namespace Go.Proofs.YtjpgbhakkfgecaaDoor
open Go.RowKit
set_option linter.unusedVariables false
set_option linter.unusedSimpArgs false

def soundD (t : Tb) (d : Dl) : Bool := ordD d && fstD t d && presD t d && decide (d.nm = t.nm)
theorem pw_snoc {l : List Int} {k : Nat} {r : Int} (h : (l.take k).Pairwise (· < ·)) (hr : l[k]? = some r) (hp : ∀ j p, k = j + 1 → l[j]? = some p → p < r) : (l.take (k + 1)).Pairwise (· < ·) := by
  rw [List.take_add_one, hr, Option.toList_some, List.pairwise_append]
  refine ⟨h, List.pairwise_singleton _ _, fun a ha b hb => ?_⟩
  simp at hb
  subst hb
  obtain ⟨i, hi, hai⟩ := mem_take_at ha
  cases k with
  | zero => omega
  | succ j =>
    have hj : j < l.length := by have := (List.getElem?_eq_some_iff.1 hr).1; omega
    have h1 := hp j _ rfl (List.getElem?_eq_getElem hj)
    rcases Nat.lt_or_ge i j with hij | hij
    · rw [List.pairwise_iff_getElem] at h
      obtain ⟨hi2, rfl⟩ := List.getElem?_eq_some_iff.1 hai
      have h2 := h i j (by rw [List.length_take]; omega) (by rw [List.length_take]; omega) hij
      simp only [List.getElem_take] at h2
      omega
    · obtain rfl : i = j := by omega
      rw [List.getElem?_eq_getElem hj] at hai
      injection hai with hai
      omega
theorem not_asc {l : List Int} {j : Nat} {p r : Int} (hp : l[j]? = some p) (hr : l[j + 1]? = some r) (h : r ≤ p) : ascB l = false := by
  unfold ascB
  rw [decide_eq_false_iff_not, List.pairwise_iff_getElem]
  intro hall
  obtain ⟨h1, rfl⟩ := List.getElem?_eq_some_iff.1 hp
  obtain ⟨h2, rfl⟩ := List.getElem?_eq_some_iff.1 hr
  have := hall j (j + 1) h1 h2 (by omega)
  omega
theorem ids_at {l : List Row} {k : Nat} {r : Row} (h : l[k]? = some r) : (l.map (·.1))[k]? = some r.1 := by rw [List.getElem?_map, h]; rfl
theorem uids_at {l : List Upd} {k : Nat} {r : Upd} (h : l[k]? = some r) : (l.map (·.1))[k]? = some r.1 := by rw [List.getElem?_map, h]; rfl
theorem sound_ins {t : Tb} {d : Dl} (h : ascB (d.ins.map (·.1)) = false) : soundD t d = false := by unfold soundD ordD; rw [h]; simp
theorem sound_del {t : Tb} {d : Dl} (h : ascB (d.del.map (·.1)) = false) : soundD t d = false := by unfold soundD ordD; rw [h]; simp
theorem sound_upd {t : Tb} {d : Dl} (h : ascB (d.upd.map (·.1)) = false) : soundD t d = false := by unfold soundD ordD; rw [h]; simp
theorem sound_fst {t : Tb} {d : Dl} (h : fstD t d = false) : soundD t d = false := by unfold soundD; rw [h]; simp
theorem sound_pres {t : Tb} {d : Dl} (h : presD t d = false) : soundD t d = false := by unfold soundD; rw [h]; simp
theorem sound_gone {t : Tb} {d : Dl} {k : Nat} {u : Upd} (hu : d.upd[k]? = some u) (h : u.1 ∈ d.del.map (·.1)) : soundD t d = false := by
  have : (d.upd.all fun u => !(d.del.any fun x => decide (x.1 = u.1))) = false := by
    rw [List.all_eq_false]
    refine ⟨u, List.mem_of_getElem? hu, ?_⟩
    obtain ⟨x, hx, e⟩ := List.mem_map.1 h
    have h2 : (d.del.any fun x => decide (x.1 = u.1)) = true := by rw [List.any_eq_true]; exact ⟨x, hx, by simpa using e⟩
    rw [h2]; simp
  unfold soundD ordD; rw [this]; simp
/-- in a valid table: a row is there exactly if Get finds its values -/
theorem row_get {t : Tb} (hv : tabB t.nm t.cs t.nx t.rs = true) {id : Int} {vs : List Vl} : (id, vs) ∈ t.rs ↔ getR t.rs id = some vs := ⟨fun h => getR_of_mem (tabB_asc hv) h, fun h => getR_out h⟩
theorem sound_no {t : Tb} {d : Dl} (hv : tabB t.nm t.cs t.nx t.rs = true) {k : Nat} {r : Row} (hr : d.del[k]? = some r) (h : getR t.rs r.1 ≠ some r.2) : soundD t d = false :=
  sound_pres (presD_del (List.mem_of_getElem? hr) fun hm => h ((row_get hv).1 hm))
theorem sound_no2 {t : Tb} {d : Dl} (hv : tabB t.nm t.cs t.nx t.rs = true) {k : Nat} {u : Upd} (hu : d.upd[k]? = some u) (h : getR t.rs u.1 ≠ some u.2.1) : soundD t d = false :=
  sound_pres (presD_upd (List.mem_of_getElem? hu) fun hm => h ((row_get hv).1 hm))
theorem sound_low {t : Tb} {d : Dl} {k : Nat} {r : Row} (hr : d.ins[k]? = some r) (h : r.1 < t.nx) (ha : ∀ x ∈ d.ins.take k, t.nx ≤ x.1) : soundD t d = false := by
  cases k with
  | zero => exact sound_fst (by rw [fstD_at hr]; simp; omega)
  | succ j =>
    have hj : j < d.ins.length := by have := (List.getElem?_eq_some_iff.1 hr).1; omega
    have h1 := ha _ (mem_of_take_at (Nat.lt_succ_self j) (List.getElem?_eq_getElem hj))
    exact sound_ins (not_asc (ids_at (List.getElem?_eq_getElem hj)) (ids_at hr) (by omega))
theorem sound_end {t : Tb} {d : Dl} (h1 : (d.del.map (·.1)).Pairwise (· < ·)) (h2 : (d.upd.map (·.1)).Pairwise (· < ·)) (h3 : (d.ins.map (·.1)).Pairwise (· < ·)) (h4 : ∀ r ∈ d.del, r ∈ t.rs) (h5 : ∀ u ∈ d.upd, (u.1, u.2.1) ∈ t.rs) (h6 : ∀ r ∈ d.ins, t.nx ≤ r.1) (h7 : ∀ u ∈ d.upd, u.1 ∉ d.del.map (·.1)) : soundD t d = decide (d.nm = t.nm) := by
  have e1 : ordD d = true := by
    unfold ordD ascB
    simp only [Bool.and_eq_true, decide_eq_true_eq, List.all_eq_true, Bool.not_eq_true']
    refine ⟨⟨⟨h3, h1⟩, h2⟩, fun u hu => ?_⟩
    rw [List.any_eq_false]
    intro x hx e
    exact h7 u hu (by rw [← of_decide_eq_true e]; exact List.mem_map_of_mem hx)
  have e2 : fstD t d = true := by
    unfold fstD
    split
    · rfl
    · rename_i r rest he
      rw [decide_eq_true_eq]
      exact h6 r (by rw [he]; exact List.mem_cons_self ..)
  unfold soundD
  rw [e1, e2, presD_ok h4 h5]
  simp
/-- the reference's answer -/
theorem applyD_sound {t : Tb} {d : Dl} : applyD t d = if tabB t.nm t.cs t.nx t.rs && soundD t d && tabB (outD t d).nm (outD t d).cs (outD t d).nx (outD t d).rs then (true, outD t d) else (false, zeroT) := by
  unfold applyD soundD
  have : (tabB t.nm t.cs t.nx t.rs && decide (d.nm = t.nm) && ordD d && fstD t d && presD t d && tabB (outD t d).nm (outD t d).cs (outD t d).nx (outD t d).rs) = (tabB t.nm t.cs t.nx t.rs && (ordD d && fstD t d && presD t d && decide (d.nm = t.nm)) && tabB (outD t d).nm (outD t d).cs (outD t d).nx (outD t d).rs) := by
    generalize tabB t.nm t.cs t.nx t.rs = a1
    generalize tabB (outD t d).nm (outD t d).cs (outD t d).nx (outD t d).rs = a2
    generalize ordD d = a3
    generalize fstD t d = a4
    generalize presD t d = a5
    generalize decide (d.nm = t.nm) = a6
    revert a1 a2 a3 a4 a5 a6
    decide
  rw [this]
/-- the next number after k rows came in order -/
theorem nxD_step {nx : Int} {l : List Row} (hp : (l.map (·.1)).Pairwise (· < ·)) (hlo : ∀ r ∈ l, nx ≤ r.1) {k : Nat} {r : Row} (hr : l[k]? = some r) (hh : ∀ x ∈ l.take (k + 1), x.1 < 2147483648) : nxD nx (l.take (k + 1)) = r.1 + 1 := by
  rw [nxD_take hr]
  have h0 := hh r (mem_of_take_at (Nat.lt_succ_self k) hr)
  have h1 := hlo r (List.mem_of_getElem? hr)
  have : nxD nx (l.take k) ≤ r.1 := nxD_le h1 fun x hx => by
    obtain ⟨i, hi, hxi⟩ := mem_take_at hx
    exact asc_at hp hxi hr hi
  omega
theorem nxD_big {nx : Int} {l : List Row} {r : Row} (hr : r ∈ l) (h : 2147483648 ≤ r.1) : 2147483649 ≤ nxD nx l := by
  induction l generalizing nx with
  | nil => cases hr
  | cons x l ih =>
    rcases List.mem_cons.1 hr with e | e
    · subst e
      have := nxD_ge (ins := l) (nx := max nx (min r.1 2147483648 + 1))
      show 2147483649 ≤ nxD (max nx (min r.1 2147483648 + 1)) l
      omega
    · exact ih e
theorem applyD_big {t : Tb} {d : Dl} {r : Row} (hr : r ∈ d.ins) (h : 2147483648 ≤ r.1) : applyD t d = (false, zeroT) := applyD_6 (by
  have h1 := nxD_big (nx := t.nx) hr h
  cases hb : tabB (outD t d).nm (outD t d).cs (outD t d).nx (outD t d).rs with
  | false => rfl
  | true =>
    have := (tabB_ok hb).2.2.2.1
    have h2 : (outD t d).nx = nxD t.nx d.ins := rfl
    omega)
end Go.Proofs.YtjpgbhakkfgecaaDoor

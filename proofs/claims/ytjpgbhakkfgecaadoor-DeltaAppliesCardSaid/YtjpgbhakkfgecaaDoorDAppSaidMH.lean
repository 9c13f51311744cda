/- DSpoil: law8.spoiled: a difference with one change. -/
import Derived.Deep.DeepCutAuto
import Derived.Test.YtjpgbhakkfgecaaDoorDAppSaidMG
import Derived.Test.YtjpgbhakkfgecaaDoorDAppSaidMB
import Derived.Test.YtjpgbhakkfgecaaDoorDAppSaidMA
import Derived.Test.YtjpgbhakkfgecaaDoorDAppSaidMD
import Derived.Test.YtjpgbhakkfgecaaDoorDAppSaidMC
import Derived.Test.YtjpgbhakkfgecaaDoorDAppSaidME
namespace Go.Proofs.YtjpgbhakkfgecaaDoor
open Go.RowKit Go.Maps
set_option linter.unusedVariables false
set_option linter.unusedSimpArgs false

/-- the number at k does not come after the one ahead of it -/
def lateB (l : List Int) (k : Nat) : Bool := match k with | 0 => false | j + 1 => decide (l.getD (j + 1) 0 ≤ l.getD j 0)
theorem lateB_at {l : List Int} {j : Nat} {p r : Int} (hp : l[j]? = some p) (hr : l[j + 1]? = some r) : lateB l (j + 1) = decide (r ≤ p) := by
  show decide (l.getD (j + 1) 0 ≤ l.getD j 0) = decide (r ≤ p)
  rw [List.getD_eq_getElem?_getD, List.getD_eq_getElem?_getD, hp, hr]
  rfl
theorem lateB_asc {l : List Int} {k : Nat} {r : Int} (h : lateB l k = true) (hr : l[k]? = some r) : ascB l = false := by
  cases k with
  | zero => cases h
  | succ j =>
    have hj : j < l.length := by have := (List.getElem?_eq_some_iff.1 hr).1; omega
    rw [lateB_at (List.getElem?_eq_getElem hj) hr, decide_eq_true_eq] at h
    exact not_asc (List.getElem?_eq_getElem hj) hr h
theorem lateB_no {l : List Int} {k : Nat} {r : Int} (h : lateB l k = false) (hr : l[k]? = some r) : ∀ j p, k = j + 1 → l[j]? = some p → p < r := fun j p e hp => by
  subst e
  rw [lateB_at hp hr, decide_eq_false_iff_not] at h
  omega

set_option maxHeartbeats 8000000 in
set_option maxRecDepth 100000 in
theorem rsound_any (M : Nat → Prop) (w : World) (hM : ∀ b, M b → b < w.heap.size) (va vd : Value) (t : Tb) (d : Dl) (hT : TbAt w M va t) (hD : DlAt w M vd d) (hval : Hid (tabB t.nm t.cs t.nx t.rs = true)) (hi : d.ins.length ≤ 1000000) (hde : d.del.length ≤ 4398046511104) (hup : d.upd.length ≤ 4398046511104) :
    Calls Tryd.prog 93 #[va, vd] w fun e w' => e = .returned (.bool (soundD t d)) ∧ Below w.heap.size w w' := by
  obtain ⟨tA, tn, tc, tB, tm, td, lt, rfl, a1, a2, a3, a4, a5, a6, a7, a8⟩ := hT
  obtain ⟨I, ni, ci, D, nd, cd, U, nu, cu, li, ld, lu, rfl, i1, i2, i3, r1, r2, r3, o1, o2, o3, e1, e2, e3⟩ := hD
  have HTL := hid (show lt.length = tm from a6.now.len)
  have HIL := hid (show li.length = ni from r1.now.len)
  have HDL := hid (show ld.length = nd from r2.now.len)
  have HUL := hid (show lu.length = nu from r3.now.len)
  have HTR := hid a8
  have HIR := hid e1
  have HDR := hid e2
  have HUR := hid e3
  have HDO := hid o2
  have HUO := hid o3
  have HSH := hid (rw_short a6.now (by rw [a8]; exact hval.out))
  have htm1 : tm ≤ 100 := by have := (tabB_rows hval.out).1; have h := congrArg List.length a8; rw [List.length_map] at h; have := HTL.out; omega
  have hni : ni ≤ 1000000 := by have := HIL.out; have h := congrArg List.length e1; rw [List.length_map] at h; omega
  have hnd : nd ≤ 4398046511104 := by have := HDL.out; have h := congrArg List.length e2; rw [List.length_map] at h; omega
  have hnu : nu ≤ 4398046511104 := by have := HUL.out; have h := congrArg List.length e3; rw [List.length_map] at h; omega
  have K0 := ((((((Hold.start M w hM).add (r3.less (by simp [Mut]))).add (r2.less (by simp [Mut, Hp.foot]))).add (r1.less (by simp [Mut, Hp.foot]))).add (a6.less (by simp [Mut, Hp.foot]))).alloc_cst #[.string t.nm, .slice tA tn tc, .int .i64 t.nx, .slice tB tm td] 27).alloc_cst #[.string d.nm, .slice I ni ci, .slice D nd cd, .slice U nu cu] 41
  have KM := Hold.mset K0 4 intFam
  rw [show (fun _ : Int => False) = (fun z => z ∈ (d.del.take 0).map (·.1)) by funext z; simp] at KM
  simp only [World.size_alloc] at KM
  have F0 := KM.facts
  simp only [factsL, cellsF, Nat.reduceAdd, zf, zl] at F0
  have hmm := @run_makeMap Tryd.prog
  clear a5 a6 a7 a8 r1 r2 r3 o1 o2 o3 e1 e2 e3 K0
  go_enter Tryd.func93, Tryd.ntmps93
  go_wp2_with fail
  obtain ⟨g2, hg2⟩ : ∃ g, g = w.heap.size := ⟨_, rfl⟩
  obtain ⟨g3, hg3⟩ : ∃ g, g = g2 + 1 := ⟨_, rfl⟩
  obtain ⟨gm, hgm⟩ : ∃ g, g = g3 + 1 := ⟨_, rfl⟩
  rw [← hg2, ← hg3, ← hgm] at KM ⊢
  clear F0
  generalize ((w.alloc _).alloc _).alloc _ = w1 at KM ⊢
  have HGX0 := hid hg2
  clear hg2 hg3 hgm hmm
  go_loopw [20] (fun iv wr => ∃ k : Nat, k ≤ nd ∧ iv = .int .i64 k ∧ Hid (∀ r ∈ d.del.take k, r ∈ t.rs) ∧ Hid (((d.del.map (·.1)).take k).Pairwise (· < ·)) ∧ Hold M none w wr [.ob gm (MSet 4 intFam gm k (fun z => z ∈ (d.del.take k).map (·.1))), .cst g3 41 #[.string d.nm, .slice I ni ci, .slice D nd cd, .slice U nu cu], .cst g2 27 #[.string t.nm, .slice tA tn tc, .int .i64 t.nx, .slice tB tm td], .ro (RwsIn tB tm lt), .ro (RwsIn I ni li), .ro (RwsIn D nd ld), .ro (PrsIn U nu lu)]) (fun iv _ => nd - (intOf iv).toNat)
  case atStart => exact ⟨0, by omega, rfl, hid (fun r hr => by simp at hr), hid (by simp), KM⟩
  case round =>
    clear KM
    obtain ⟨k, hk, rfl, HIN, HAS, H⟩ := hrel
    by_cases hlt : k < nd
    · have hd : decide ((k : Int) < (nd : Int)) = true := by simp; omega
      have i0 : (0 : Int) ≤ (k : Int) := by omega
      have i1 : (k : Int) < (nd : Int) := by omega
      obtain ⟨x, hx⟩ := get_of HDL.out hlt
      have hxv : Ro wr _ (VlsIn x.A x.n x.vs) := (H.ro 5 rfl).imp fun w2 h2 => h2.2 x (List.mem_of_getElem? hx)
      obtain ⟨bb, oo, rfl, hbb, c0, c1, _⟩ := (H.ro 5 rfl).now.at_ hx
      have HXX := hid (show d.del[k]? = some x.row by rw [← HDR.out, List.getElem?_map, hx]; rfl)
      have HXO := hid (HDO.out x (List.mem_of_getElem? hx))
      have hxc := HXO.out.nc
      have hxc2 := HXO.out.c
      obtain ⟨xid, xA, xn, xc, xvs⟩ := x
      dsimp only at *
      have HXN := hid (show (d.del.map (·.1))[k]? = some xid from ids_at HXX.out)
      clear hx
      have K3 := (H.add hxv).alloc_cst #[.int .i64 xid, .slice xA xn xc] 53
      have F3 := K3.facts
      simp only [factsL, cellsF, Nat.reduceAdd, zf, zl] at F3
      clear hxv H
      go_wp2_with fail
      obtain ⟨gx, hgx⟩ : ∃ g, g = wr.heap.size := ⟨_, rfl⟩
      rw [← hgx] at K3 F3 ⊢
      have HGX := hid hgx
      clear hgx c0 c1
      generalize World.alloc wr _ = w3 at K3 F3 ⊢
      have hg := rtget_any _ _ K3.mutLt (.string t.nm) (.slice tA tn tc) (.int .i64 t.nx) tB tm td lt xid (K3.ro 5 rfl) (by omega) (fun r hr => by have := HSH.out r hr; omega)
      rw [HTR.out] at hg
      obtain ⟨o, ho⟩ : ∃ o, o = getR t.rs xid := ⟨_, rfl⟩
      rw [← ho] at hg
      have HO := hid ho
      clear ho
      refine hg.mono ?_
      clear hg
      rintro e w4 ⟨A4, n4, c4, rfl, h40, h41, h42, ro4, b4⟩
      have K4 := (K3.call b4).add ro4
      clear K3 F3 b4 ro4 h40
      obtain ⟨bs, hbs⟩ : ∃ b, b = o.isSome := ⟨_, rfl⟩
      rw [← hbs]
      have HBS := hid (show (bs = false → none = o) ∧ (bs = true → ∃ v, o = some v) from ⟨fun h => (by cases o with | none => rfl | some v => (rw [hbs] at h; cases h)), fun h => (by cases o with | none => (rw [hbs] at h; cases h) | some v => exact ⟨v, rfl⟩)⟩)
      clear hbs
      have F4 := K4.facts
      simp only [factsL, cellsF, Nat.reduceAdd, zf, zl] at F4
      go_wp2_with fail
      go_cut [56] (fun s wx => s = .bool (!decide (o = some xvs) || lateB (d.del.map (·.1)) k) ∧ Hold M none w wx [.ro (VlsIn A4 n4 (o.getD [])), .cst gx 53 #[.int .i64 xid, .slice xA xn xc], .ro (VlsIn xA xn xvs), .ob gm (MSet 4 intFam gm k (fun z => z ∈ (d.del.take k).map (·.1))), .cst g3 41 #[.string d.nm, .slice I ni ci, .slice (some ⟨bb, oo, none⟩) nd cd, .slice U nu cu], .cst g2 27 #[.string t.nm, .slice tA tn tc, .int .i64 t.nx, .slice tB tm td], .ro (RwsIn tB tm lt), .ro (RwsIn I ni li), .ro (RwsIn (some ⟨bb, oo, none⟩) nd ld), .ro (PrsIn U nu lu)])
      case first =>
        obtain ⟨KL, hKL, KN⟩ := K4.name
        have HF : Hid (∀ wv, Hold M none w wv KL → wv.cell? ⟨gx, 0, none⟩ = some (.int .i64 xid) ∧ wv.cell? ⟨gx, 1, none⟩ = some (.slice xA xn xc) ∧ gx < wv.heap.size ∧ wv.cell? ⟨g3, 2, none⟩ = some (.slice (some ⟨bb, oo, none⟩) nd cd) ∧ g3 < wv.heap.size ∧ True) := hid fun wv HC => by
          rw [hKL] at HC
          have y1 := HC.cst_ 1 rfl
          have y2 := HC.cst_ 4 rfl
          exact ⟨cell_of_row _ _ 0 _ _ _ y1, cell_of_row _ _ 1 _ _ _ y1, Blk.lt y1, cell_of_row _ _ 2 _ _ _ y2, Blk.lt y2, trivial⟩
        have HKL := hid hKL
        cases bs with
        | false =>
          have HBAD := hid (show (!decide (o = some xvs) || lateB (d.del.map (·.1)) k) = true by rw [← HBS.out.1 rfl]; simp)
          clear hKL
          refine wp_region_any (by kernel_rfl) ?_
          refine wpAny_hold 24 144 (KL) (spL []) (by kernel_rfl) (by kernel_rfl) (by kernel_rfl) rfl ?_ (KN.drew) ?_
          · exact stays_nil _
          simp only [zd, Act.put, List.getElem_toArray, List.getElem_cons_zero, List.getElem_cons_succ, zl]
          refine dw_val rfl rfl rfl ?_; apply Exists.intro; refine ⟨fun wv HC => ?_, ?_⟩
          ·  go_simp <;> rfl
          simp only [Act.put, zl]
          refine dw_val rfl rfl rfl ?_; apply Exists.intro; refine ⟨fun wv HC => ?_, ?_⟩
          ·  go_simp <;> rfl
          simp only [Act.put, zl]
          refine dw_val rfl rfl rfl ?_; apply Exists.intro; refine ⟨fun wv HC => ?_, ?_⟩
          ·  go_simp <;> rfl
          simp only [Act.put, zl]
          refine dw_skip rfl rfl rfl ?_
          simp only [Act.put, zl]
          refine dw_skip rfl rfl rfl ?_
          simp only [Act.put, zl]
          refine dw_skip rfl rfl rfl ?_
          simp only [Act.put, zl]
          refine dw_skip rfl rfl rfl ?_
          simp only [Act.put, zl]
          refine dw_skip rfl rfl rfl ?_
          simp only [Act.put, zl]
          refine dw_val rfl rfl rfl ?_; apply Exists.intro; refine ⟨fun wv HC => ?_, ?_⟩
          ·  go_simp <;> rfl
          simp only [Act.put, zl]
          refine dw_val rfl rfl rfl ?_; apply Exists.intro; refine ⟨fun wv HC => ?_, ?_⟩
          ·  go_simp <;> rfl
          simp only [Act.put, zl]
          refine dw_skip rfl rfl rfl ?_
          simp only [Act.put, zl]
          refine dw_skip rfl rfl rfl ?_
          simp only [Act.put, zl]
          refine dw_skip rfl rfl rfl ?_
          simp only [Act.put, zl]
          refine dw_skip rfl rfl rfl ?_
          simp only [Act.put, zl]
          refine dw_skip rfl rfl rfl ?_
          simp only [Act.put, zl]
          refine dw_skip rfl rfl rfl ?_
          simp only [Act.put, zl]
          refine dw_skip rfl rfl rfl ?_
          simp only [Act.put, zl]
          refine dw_skip rfl rfl rfl ?_
          simp only [Act.put, zl]
          refine dw_skip rfl rfl rfl ?_
          simp only [Act.put, zl]
          refine dw_skip rfl rfl rfl ?_
          simp only [Act.put, zl]
          refine dw_skip rfl rfl rfl ?_
          simp only [Act.put, zl]
          refine dw_skip rfl rfl rfl ?_
          simp only [Act.put, zl]
          refine dw_skip rfl rfl rfl ?_
          simp only [Act.put, zl]
          refine dw_skip rfl rfl rfl ?_
          simp only [Act.put, zl]
          refine rel_nil ?_
          rintro wx2 HX
          rintro _hrm _HGW
          clear _HGW _hrm
          rw [HKL.out] at HX
          go_wp2_with fail
          go_meet
          exact ⟨by rw [HBAD.out], HX⟩
        | true =>
          obtain ⟨v, hov⟩ := HBS.out.2 rfl
          have HCR : Hid (∀ wv, Hold M none w wv KL → Calls Tryd.prog 39 #[.slice A4 n4 c4, .slice xA xn xc] wv fun e w' => CmpIs (v = xvs) e ∧ Below wv.heap.size wv w') := hid fun wv HC => by
            rw [hKL] at HC
            have h : Ro wv _ (VlsIn A4 n4 v) := (HC.ro 0 rfl).imp fun w2 h2 => by rw [hov] at h2; exact h2
            exact rcmprows_any _ _ HC.mutLt A4 n4 c4 v xA xn xc xvs h (HC.ro 2 rfl) (by omega) (by omega)
          clear hKL
          by_cases hv : v = xvs
          case neg =>
            have HNE := hid hv
            have HBAD := hid (show (!decide (o = some xvs) || lateB (d.del.map (·.1)) k) = true by rw [hov, decide_eq_false (show ¬ (some v = some xvs) from fun h => hv (by injection h))]; simp)
            clear hv
            refine wp_region_any (by kernel_rfl) ?_
            refine wpAny_hold 24 144 (KL) (spL [(38, fun u _ => ∃ r : Int, u = .int .i64 r ∧ (r = 0 ↔ v = xvs))]) (by kernel_rfl) (by kernel_rfl) (by kernel_rfl) rfl ?_ (KN.drew) ?_
            · exact stays_cons (fun _ _ _ _ h => h) (stays_nil _)
            simp only [zd, Act.put, List.getElem_toArray, List.getElem_cons_zero, List.getElem_cons_succ, zl]
            refine dw_val rfl rfl rfl ?_; apply Exists.intro; refine ⟨fun wv HC => ?_, ?_⟩
            ·  go_simp <;> rfl
            simp only [Act.put, zl]
            refine dw_val rfl rfl rfl ?_; apply Exists.intro; refine ⟨fun wv HC => ?_, ?_⟩
            ·  go_simp <;> rfl
            simp only [Act.put, zl]
            refine dw_val rfl rfl rfl ?_; apply Exists.intro; refine ⟨fun wv HC => ?_, ?_⟩
            ·  go_simp <;> rfl
            simp only [Act.put, zl]
            refine dw_val rfl rfl rfl ?_; apply Exists.intro; refine ⟨fun wv HC => ?_, ?_⟩
            ·  go_simp <;> rfl
            simp only [Act.put, zl]
            refine dw_val rfl rfl rfl ?_; apply Exists.intro; refine ⟨fun wv HC => ?_, ?_⟩
            ·  go_simp <;> rfl
            simp only [Act.put, zl]
            refine dw_val rfl rfl rfl ?_; apply Exists.intro; refine ⟨fun wv HC => ?_, ?_⟩
            · obtain ⟨f0, f1, f2, f3, f4, f5⟩ := HF.out _ HC; go_simp <;> rfl
            simp only [Act.put, zl]
            refine dw_callR 38 (fun u _ => ∃ r : Int, u = .int .i64 r ∧ (r = 0 ↔ v = xvs)) (f := 39) (args := #[.slice A4 n4 c4, .slice xA xn xc]) rfl rfl rfl rfl (fun wv => ?_) (fun wv HC hrm hD => ?_) ?_
            · go_simp <;> rfl
            · refine (HCR.out wv HC).mono ?_
              rintro e w5 ⟨⟨r, rfl, hr⟩, b5⟩
              exact ⟨_, rfl, ⟨r, rfl, hr⟩, HC.call b5, RM.below b5⟩
            rintro x_ wx HCx ⟨r, rfl, hr⟩
            clear HCx
            have hr0 : (r != 0) = true := by simp; exact fun h => HNE.out (hr.1 h)
            simp only [Act.put, zl]
            refine dw_val rfl rfl rfl ?_; apply Exists.intro; refine ⟨fun wv HC => ?_, ?_⟩
            ·  go_simp <;> rfl
            simp only [Act.put, zl]
            refine dw_val rfl rfl rfl ?_; apply Exists.intro; refine ⟨fun wv HC => ?_, ?_⟩
            ·  go_simp <;> rfl
            simp only [Act.put, zl]
            refine dw_val rfl rfl rfl ?_; apply Exists.intro; refine ⟨fun wv HC => ?_, ?_⟩
            ·  go_simp <;> rfl
            simp only [Act.put, zl]
            refine dw_skip rfl rfl rfl ?_
            simp only [Act.put, zl]
            refine dw_skip rfl rfl rfl ?_
            simp only [Act.put, zl]
            refine dw_skip rfl rfl rfl ?_
            simp only [Act.put, zl]
            refine dw_skip rfl rfl rfl ?_
            simp only [Act.put, zl]
            refine dw_skip rfl rfl rfl ?_
            simp only [Act.put, zl]
            refine dw_skip rfl rfl rfl ?_
            simp only [Act.put, zl]
            refine dw_skip rfl rfl rfl ?_
            simp only [Act.put, zl]
            refine dw_skip rfl rfl rfl ?_
            simp only [Act.put, zl]
            refine dw_skip rfl rfl rfl ?_
            simp only [Act.put, zl]
            refine dw_skip rfl rfl rfl ?_
            simp only [Act.put, zl]
            refine dw_skip rfl rfl rfl ?_
            simp only [Act.put, zl]
            refine dw_skip rfl rfl rfl ?_
            simp only [Act.put, zl]
            refine dw_skip rfl rfl rfl ?_
            simp only [Act.put, zl]
            refine dw_skip rfl rfl rfl ?_
            simp only [Act.put, zl]
            refine rel_nil ?_
            rintro wx2 HX
            rintro _hrm _HGW
            clear _HGW _hrm
            rw [HKL.out] at HX
            go_wp2_with fail
            go_meet
            exact ⟨by rw [HBAD.out], HX⟩
          case pos =>
            have HEQ := hid hv
            by_cases hk0 : k = 0
            · obtain rfl : k = 0 := hk0
              have HBAD := hid (show (!decide (o = some xvs) || lateB (d.del.map (·.1)) 0) = false by rw [hov, hv]; simp [lateB])
              clear hv
              refine wp_region_any (by kernel_rfl) ?_
              refine wpAny_hold 24 144 (KL) (spL [(38, fun u _ => ∃ r : Int, u = .int .i64 r ∧ (r = 0 ↔ v = xvs))]) (by kernel_rfl) (by kernel_rfl) (by kernel_rfl) rfl ?_ (KN.drew) ?_
              · exact stays_cons (fun _ _ _ _ h => h) (stays_nil _)
              simp only [zd, Act.put, List.getElem_toArray, List.getElem_cons_zero, List.getElem_cons_succ, zl]
              refine dw_val rfl rfl rfl ?_; apply Exists.intro; refine ⟨fun wv HC => ?_, ?_⟩
              ·  go_simp <;> rfl
              simp only [Act.put, zl]
              refine dw_val rfl rfl rfl ?_; apply Exists.intro; refine ⟨fun wv HC => ?_, ?_⟩
              ·  go_simp <;> rfl
              simp only [Act.put, zl]
              refine dw_val rfl rfl rfl ?_; apply Exists.intro; refine ⟨fun wv HC => ?_, ?_⟩
              ·  go_simp <;> rfl
              simp only [Act.put, zl]
              refine dw_val rfl rfl rfl ?_; apply Exists.intro; refine ⟨fun wv HC => ?_, ?_⟩
              ·  go_simp <;> rfl
              simp only [Act.put, zl]
              refine dw_val rfl rfl rfl ?_; apply Exists.intro; refine ⟨fun wv HC => ?_, ?_⟩
              ·  go_simp <;> rfl
              simp only [Act.put, zl]
              refine dw_val rfl rfl rfl ?_; apply Exists.intro; refine ⟨fun wv HC => ?_, ?_⟩
              · obtain ⟨f0, f1, f2, f3, f4, f5⟩ := HF.out _ HC; go_simp <;> rfl
              simp only [Act.put, zl]
              refine dw_callR 38 (fun u _ => ∃ r : Int, u = .int .i64 r ∧ (r = 0 ↔ v = xvs)) (f := 39) (args := #[.slice A4 n4 c4, .slice xA xn xc]) rfl rfl rfl rfl (fun wv => ?_) (fun wv HC hrm hD => ?_) ?_
              · go_simp <;> rfl
              · refine (HCR.out wv HC).mono ?_
                rintro e w5 ⟨⟨r, rfl, hr⟩, b5⟩
                exact ⟨_, rfl, ⟨r, rfl, hr⟩, HC.call b5, RM.below b5⟩
              rintro x_ wx HCx ⟨r, rfl, hr⟩
              clear HCx
              obtain rfl : r = 0 := hr.2 HEQ.out
              clear hr
              simp only [Act.put, zl]
              refine dw_val rfl rfl rfl ?_; apply Exists.intro; refine ⟨fun wv HC => ?_, ?_⟩
              ·  go_simp <;> rfl
              simp only [Act.put, zl]
              refine dw_val rfl rfl rfl ?_; apply Exists.intro; refine ⟨fun wv HC => ?_, ?_⟩
              ·  go_simp <;> rfl
              simp only [Act.put, zl]
              refine dw_val rfl rfl rfl ?_; apply Exists.intro; refine ⟨fun wv HC => ?_, ?_⟩
              ·  go_simp <;> rfl
              simp only [Act.put, zl]
              refine dw_val rfl rfl rfl ?_; apply Exists.intro; refine ⟨fun wv HC => ?_, ?_⟩
              ·  go_simp <;> rfl
              simp only [Act.put, zl]
              refine dw_val rfl rfl rfl ?_; apply Exists.intro; refine ⟨fun wv HC => ?_, ?_⟩
              ·  go_simp <;> rfl
              simp only [Act.put, zl]
              refine dw_val rfl rfl rfl ?_; apply Exists.intro; refine ⟨fun wv HC => ?_, ?_⟩
              ·  go_simp <;> rfl
              simp only [Act.put, zl]
              refine dw_skip rfl rfl rfl ?_
              simp only [Act.put, zl]
              refine dw_skip rfl rfl rfl ?_
              simp only [Act.put, zl]
              refine dw_skip rfl rfl rfl ?_
              simp only [Act.put, zl]
              refine dw_skip rfl rfl rfl ?_
              simp only [Act.put, zl]
              refine dw_skip rfl rfl rfl ?_
              simp only [Act.put, zl]
              refine dw_skip rfl rfl rfl ?_
              simp only [Act.put, zl]
              refine dw_skip rfl rfl rfl ?_
              simp only [Act.put, zl]
              refine dw_skip rfl rfl rfl ?_
              simp only [Act.put, zl]
              refine dw_skip rfl rfl rfl ?_
              simp only [Act.put, zl]
              refine dw_skip rfl rfl rfl ?_
              simp only [Act.put, zl]
              refine dw_val rfl rfl rfl ?_; apply Exists.intro; refine ⟨fun wv HC => ?_, ?_⟩
              ·  go_simp <;> rfl
              simp only [Act.put, zl]
              refine rel_nil ?_
              rintro wx2 HX
              rintro _hrm _HGW
              clear _HGW _hrm
              rw [HKL.out] at HX
              go_wp2_with fail
              go_meet
              exact ⟨by rw [HBAD.out], HX⟩
            · obtain ⟨j, rfl⟩ : ∃ j, k = j + 1 := ⟨k - 1, by omega⟩
              have hc0 : decide (((j + 1 : Nat) : Int) > 0) = true := by rw [decide_eq_true_iff]; omega
              have hc1 : decide ((0 : Int) < (j : Int) + 1) = true := by rw [decide_eq_true_iff]; omega
              obtain ⟨p, hp⟩ := get_of HDL.out (show j < nd by omega)
              have HPP := hid (show (d.del.map (·.1))[j]? = some p.id by rw [← HDR.out, List.map_map, List.getElem?_map, hp]; rfl)
              have HP : Hid (∀ wv, Hold M none w wv KL → wv.cell? ⟨bb, oo + j * 2, none⟩ = some (.int .i64 p.id) ∧ bb < wv.heap.size) := hid fun wv HC => by
                rw [HKL.out] at HC
                obtain ⟨b', o', e', h3, h4, _⟩ := (HC.ro 8 rfl).now.at_ hp
                obtain ⟨rfl, rfl⟩ : bb = b' ∧ oo = o' := by injection e' with e'; injection e' with e1 e2; exact ⟨e1, e2⟩
                exact ⟨h4, h3⟩
              have j0 : (0 : Int) ≤ (j : Int) := by omega
              have j1 : (j : Int) < (nd : Int) := by omega
              clear hp hk0
              by_cases hle : p.id ≥ xid
              · have hc2 : decide (p.id ≥ xid) = true := decide_eq_true hle
                have HBAD := hid (show (!decide (o = some xvs) || lateB (d.del.map (·.1)) (j + 1)) = true by rw [lateB_at HPP.out HXN.out, decide_eq_true (show xid ≤ p.id from hle)]; simp)
                clear hle hv
                refine wp_region_any (by kernel_rfl) ?_
                refine wpAny_hold 24 144 (KL) (spL [(38, fun u _ => ∃ r : Int, u = .int .i64 r ∧ (r = 0 ↔ v = xvs))]) (by kernel_rfl) (by kernel_rfl) (by kernel_rfl) rfl ?_ (KN.drew) ?_
                · exact stays_cons (fun _ _ _ _ h => h) (stays_nil _)
                simp only [zd, Act.put, List.getElem_toArray, List.getElem_cons_zero, List.getElem_cons_succ, zl]
                refine dw_val rfl rfl rfl ?_; apply Exists.intro; refine ⟨fun wv HC => ?_, ?_⟩
                ·  go_simp <;> rfl
                simp only [Act.put, zl]
                refine dw_val rfl rfl rfl ?_; apply Exists.intro; refine ⟨fun wv HC => ?_, ?_⟩
                ·  go_simp <;> rfl
                simp only [Act.put, zl]
                refine dw_val rfl rfl rfl ?_; apply Exists.intro; refine ⟨fun wv HC => ?_, ?_⟩
                ·  go_simp <;> rfl
                simp only [Act.put, zl]
                refine dw_val rfl rfl rfl ?_; apply Exists.intro; refine ⟨fun wv HC => ?_, ?_⟩
                ·  go_simp <;> rfl
                simp only [Act.put, zl]
                refine dw_val rfl rfl rfl ?_; apply Exists.intro; refine ⟨fun wv HC => ?_, ?_⟩
                ·  go_simp <;> rfl
                simp only [Act.put, zl]
                refine dw_val rfl rfl rfl ?_; apply Exists.intro; refine ⟨fun wv HC => ?_, ?_⟩
                · obtain ⟨f0, f1, f2, f3, f4, f5⟩ := HF.out _ HC; go_simp <;> rfl
                simp only [Act.put, zl]
                refine dw_callR 38 (fun u _ => ∃ r : Int, u = .int .i64 r ∧ (r = 0 ↔ v = xvs)) (f := 39) (args := #[.slice A4 n4 c4, .slice xA xn xc]) rfl rfl rfl rfl (fun wv => ?_) (fun wv HC hrm hD => ?_) ?_
                · go_simp <;> rfl
                · refine (HCR.out wv HC).mono ?_
                  rintro e w5 ⟨⟨r, rfl, hr⟩, b5⟩
                  exact ⟨_, rfl, ⟨r, rfl, hr⟩, HC.call b5, RM.below b5⟩
                rintro x_ wx HCx ⟨r, rfl, hr⟩
                clear HCx
                obtain rfl : r = 0 := hr.2 HEQ.out
                clear hr
                simp only [Act.put, zl]
                refine dw_val rfl rfl rfl ?_; apply Exists.intro; refine ⟨fun wv HC => ?_, ?_⟩
                ·  go_simp <;> rfl
                simp only [Act.put, zl]
                refine dw_val rfl rfl rfl ?_; apply Exists.intro; refine ⟨fun wv HC => ?_, ?_⟩
                ·  go_simp <;> rfl
                simp only [Act.put, zl]
                refine dw_val rfl rfl rfl ?_; apply Exists.intro; refine ⟨fun wv HC => ?_, ?_⟩
                ·  go_simp <;> rfl
                simp only [Act.put, zl]
                refine dw_val rfl rfl rfl ?_; apply Exists.intro; refine ⟨fun wv HC => ?_, ?_⟩
                ·  go_simp <;> rfl
                simp only [Act.put, zl]
                refine dw_val rfl rfl rfl ?_; apply Exists.intro; refine ⟨fun wv HC => ?_, ?_⟩
                ·  go_simp <;> rfl
                simp only [Act.put, zl]
                refine dw_val rfl rfl rfl ?_; apply Exists.intro; refine ⟨fun wv HC => ?_, ?_⟩
                ·  go_simp <;> rfl
                simp only [Act.put, zl]
                refine dw_val rfl rfl rfl ?_; apply Exists.intro; refine ⟨fun wv HC => ?_, ?_⟩
                ·  go_simp <;> rfl
                simp only [Act.put, zl]
                refine dw_val rfl rfl rfl ?_; apply Exists.intro; refine ⟨fun wv HC => ?_, ?_⟩
                · obtain ⟨f0, f1, f2, f3, f4, f5⟩ := HF.out _ HC; obtain ⟨p0, p1⟩ := HP.out _ HC; go_simp <;> rfl
                simp only [Act.put, zl]
                refine dw_val rfl rfl rfl ?_; apply Exists.intro; refine ⟨fun wv HC => ?_, ?_⟩
                ·  go_simp <;> rfl
                simp only [Act.put, zl]
                refine dw_val rfl rfl rfl ⟨.int .i64 (j : Int), fun wv HC => ?_, ?_⟩
                · have hw_ : wrap64 ((j : Int) + 1 - 1) = (j : Int) := by unfold wrap64; omega
                  go_simp <;> first | rfl | omega | (rw [IntKind.wrap_i64]; unfold wrap64; omega) | (rw [IntKind.wrap_i64]; omega)
                simp only [Act.put, zl]
                refine dw_val rfl rfl rfl ?_; apply Exists.intro; refine ⟨fun wv HC => ?_, ?_⟩
                ·  go_simp <;> rfl
                simp only [Act.put, zl]
                refine dw_val rfl rfl rfl ?_; apply Exists.intro; refine ⟨fun wv HC => ?_, ?_⟩
                ·  go_simp <;> rfl
                simp only [Act.put, zl]
                refine dw_val rfl rfl rfl ?_; apply Exists.intro; refine ⟨fun wv HC => ?_, ?_⟩
                · obtain ⟨f0, f1, f2, f3, f4, f5⟩ := HF.out _ HC; obtain ⟨p0, p1⟩ := HP.out _ HC; go_simp <;> rfl
                simp only [Act.put, zl]
                refine dw_val rfl rfl rfl ?_; apply Exists.intro; refine ⟨fun wv HC => ?_, ?_⟩
                ·  go_simp <;> rfl
                simp only [Act.put, zl]
                refine dw_val rfl rfl rfl ?_; apply Exists.intro; refine ⟨fun wv HC => ?_, ?_⟩
                · obtain ⟨f0, f1, f2, f3, f4, f5⟩ := HF.out _ HC; obtain ⟨p0, p1⟩ := HP.out _ HC; go_simp <;> rfl
                simp only [Act.put, zl]
                refine dw_val rfl rfl rfl ?_; apply Exists.intro; refine ⟨fun wv HC => ?_, ?_⟩
                ·  go_simp <;> rfl
                simp only [Act.put, zl]
                refine dw_val rfl rfl rfl ?_; apply Exists.intro; refine ⟨fun wv HC => ?_, ?_⟩
                ·  go_simp <;> rfl
                simp only [Act.put, zl]
                refine rel_nil ?_
                rintro wx2 HX
                rintro _hrm _HGW
                clear _HGW _hrm
                rw [HKL.out] at HX
                go_wp2_with fail
                go_meet
                exact ⟨by rw [HBAD.out], HX⟩
              · have hc2 : decide (p.id ≥ xid) = false := decide_eq_false hle
                have HBAD := hid (show (!decide (o = some xvs) || lateB (d.del.map (·.1)) (j + 1)) = false by rw [lateB_at HPP.out HXN.out, decide_eq_false (show ¬ xid ≤ p.id from hle), hov, hv]; simp)
                clear hle hv
                refine wp_region_any (by kernel_rfl) ?_
                refine wpAny_hold 24 144 (KL) (spL [(38, fun u _ => ∃ r : Int, u = .int .i64 r ∧ (r = 0 ↔ v = xvs))]) (by kernel_rfl) (by kernel_rfl) (by kernel_rfl) rfl ?_ (KN.drew) ?_
                · exact stays_cons (fun _ _ _ _ h => h) (stays_nil _)
                simp only [zd, Act.put, List.getElem_toArray, List.getElem_cons_zero, List.getElem_cons_succ, zl]
                refine dw_val rfl rfl rfl ?_; apply Exists.intro; refine ⟨fun wv HC => ?_, ?_⟩
                ·  go_simp <;> rfl
                simp only [Act.put, zl]
                refine dw_val rfl rfl rfl ?_; apply Exists.intro; refine ⟨fun wv HC => ?_, ?_⟩
                ·  go_simp <;> rfl
                simp only [Act.put, zl]
                refine dw_val rfl rfl rfl ?_; apply Exists.intro; refine ⟨fun wv HC => ?_, ?_⟩
                ·  go_simp <;> rfl
                simp only [Act.put, zl]
                refine dw_val rfl rfl rfl ?_; apply Exists.intro; refine ⟨fun wv HC => ?_, ?_⟩
                ·  go_simp <;> rfl
                simp only [Act.put, zl]
                refine dw_val rfl rfl rfl ?_; apply Exists.intro; refine ⟨fun wv HC => ?_, ?_⟩
                ·  go_simp <;> rfl
                simp only [Act.put, zl]
                refine dw_val rfl rfl rfl ?_; apply Exists.intro; refine ⟨fun wv HC => ?_, ?_⟩
                · obtain ⟨f0, f1, f2, f3, f4, f5⟩ := HF.out _ HC; go_simp <;> rfl
                simp only [Act.put, zl]
                refine dw_callR 38 (fun u _ => ∃ r : Int, u = .int .i64 r ∧ (r = 0 ↔ v = xvs)) (f := 39) (args := #[.slice A4 n4 c4, .slice xA xn xc]) rfl rfl rfl rfl (fun wv => ?_) (fun wv HC hrm hD => ?_) ?_
                · go_simp <;> rfl
                · refine (HCR.out wv HC).mono ?_
                  rintro e w5 ⟨⟨r, rfl, hr⟩, b5⟩
                  exact ⟨_, rfl, ⟨r, rfl, hr⟩, HC.call b5, RM.below b5⟩
                rintro x_ wx HCx ⟨r, rfl, hr⟩
                clear HCx
                obtain rfl : r = 0 := hr.2 HEQ.out
                clear hr
                simp only [Act.put, zl]
                refine dw_val rfl rfl rfl ?_; apply Exists.intro; refine ⟨fun wv HC => ?_, ?_⟩
                ·  go_simp <;> rfl
                simp only [Act.put, zl]
                refine dw_val rfl rfl rfl ?_; apply Exists.intro; refine ⟨fun wv HC => ?_, ?_⟩
                ·  go_simp <;> rfl
                simp only [Act.put, zl]
                refine dw_val rfl rfl rfl ?_; apply Exists.intro; refine ⟨fun wv HC => ?_, ?_⟩
                ·  go_simp <;> rfl
                simp only [Act.put, zl]
                refine dw_val rfl rfl rfl ?_; apply Exists.intro; refine ⟨fun wv HC => ?_, ?_⟩
                ·  go_simp <;> rfl
                simp only [Act.put, zl]
                refine dw_val rfl rfl rfl ?_; apply Exists.intro; refine ⟨fun wv HC => ?_, ?_⟩
                ·  go_simp <;> rfl
                simp only [Act.put, zl]
                refine dw_val rfl rfl rfl ?_; apply Exists.intro; refine ⟨fun wv HC => ?_, ?_⟩
                ·  go_simp <;> rfl
                simp only [Act.put, zl]
                refine dw_val rfl rfl rfl ?_; apply Exists.intro; refine ⟨fun wv HC => ?_, ?_⟩
                ·  go_simp <;> rfl
                simp only [Act.put, zl]
                refine dw_val rfl rfl rfl ?_; apply Exists.intro; refine ⟨fun wv HC => ?_, ?_⟩
                · obtain ⟨f0, f1, f2, f3, f4, f5⟩ := HF.out _ HC; obtain ⟨p0, p1⟩ := HP.out _ HC; go_simp <;> rfl
                simp only [Act.put, zl]
                refine dw_val rfl rfl rfl ?_; apply Exists.intro; refine ⟨fun wv HC => ?_, ?_⟩
                ·  go_simp <;> rfl
                simp only [Act.put, zl]
                refine dw_val rfl rfl rfl ⟨.int .i64 (j : Int), fun wv HC => ?_, ?_⟩
                · have hw_ : wrap64 ((j : Int) + 1 - 1) = (j : Int) := by unfold wrap64; omega
                  go_simp <;> first | rfl | omega | (rw [IntKind.wrap_i64]; unfold wrap64; omega) | (rw [IntKind.wrap_i64]; omega)
                simp only [Act.put, zl]
                refine dw_val rfl rfl rfl ?_; apply Exists.intro; refine ⟨fun wv HC => ?_, ?_⟩
                ·  go_simp <;> rfl
                simp only [Act.put, zl]
                refine dw_val rfl rfl rfl ?_; apply Exists.intro; refine ⟨fun wv HC => ?_, ?_⟩
                ·  go_simp <;> rfl
                simp only [Act.put, zl]
                refine dw_val rfl rfl rfl ?_; apply Exists.intro; refine ⟨fun wv HC => ?_, ?_⟩
                · obtain ⟨f0, f1, f2, f3, f4, f5⟩ := HF.out _ HC; obtain ⟨p0, p1⟩ := HP.out _ HC; go_simp <;> rfl
                simp only [Act.put, zl]
                refine dw_val rfl rfl rfl ?_; apply Exists.intro; refine ⟨fun wv HC => ?_, ?_⟩
                ·  go_simp <;> rfl
                simp only [Act.put, zl]
                refine dw_val rfl rfl rfl ?_; apply Exists.intro; refine ⟨fun wv HC => ?_, ?_⟩
                · obtain ⟨f0, f1, f2, f3, f4, f5⟩ := HF.out _ HC; obtain ⟨p0, p1⟩ := HP.out _ HC; go_simp <;> rfl
                simp only [Act.put, zl]
                refine dw_val rfl rfl rfl ?_; apply Exists.intro; refine ⟨fun wv HC => ?_, ?_⟩
                ·  go_simp <;> rfl
                simp only [Act.put, zl]
                refine dw_val rfl rfl rfl ?_; apply Exists.intro; refine ⟨fun wv HC => ?_, ?_⟩
                ·  go_simp <;> rfl
                simp only [Act.put, zl]
                refine rel_nil ?_
                rintro wx2 HX
                rintro _hrm _HGW
                clear _HGW _hrm
                rw [HKL.out] at HX
                go_wp2_with fail
                go_meet
                exact ⟨by rw [HBAD.out], HX⟩
      case rest =>
        clear K4 F4
        obtain ⟨rfl, K5⟩ := hcut
        have F5 := K5.facts
        simp only [factsL, cellsF, Nat.reduceAdd, zf, zl] at F5
        cases hb : (!decide (o = some xvs) || lateB (d.del.map (·.1)) k)
        · have hb2 : getR t.rs xid = some xvs ∧ lateB (d.del.map (·.1)) k = false := by
            rw [← HO.out]
            simpa only [Bool.or_eq_false_iff, Bool.not_eq_false', decide_eq_true_eq] using hb
          have HN := hid (show ∀ r ∈ d.del.take (k + 1), r ∈ t.rs from by
            rw [List.take_add_one, HXX.out, Option.toList_some]
            exact okSnoc HIN.out ((row_get hval.out).2 hb2.1))
          have HN2 := hid (pw_snoc HAS.out HXN.out (lateB_no hb2.2 HXN.out))
          have hxok : I64 xid := HXO.out.id
          have HSE := hid (show (fun z => z = xid ∨ z ∈ (d.del.take k).map (·.1)) = (fun z => z ∈ (d.del.take (k + 1)).map (·.1)) by
            funext z
            rw [List.take_add_one, HXX.out, Option.toList_some, List.map_append]
            simp [Rw.row, or_comm])
          clear hb hb2
          go_wp2_with (at_mapUpdate; go_must (refine wpList_put K5 3 rfl Tryd.setI rfl (.tmp 57) (.tmp 59) _ rfl rfl xid rfl rfl hxok (by unfold maxLen; omega) ?_); intro w6 K6)
          rw [HSE.out] at K6
          simp only [List.set_cons_zero, List.set_cons_succ] at K6
          have K7 := K6.drop ((List.sublist_cons_self _ _).trans ((List.sublist_cons_self _ _).trans (List.sublist_cons_self _ _)))
          go_roundw
          case rel => exact ⟨k + 1, by omega, by first | rfl | go_num, HN, HN2, K7⟩
          case measure => simp [intOf]; omega
        · have HN := hid (show soundD t d = false from by
            rw [Bool.or_eq_true, Bool.not_eq_true', decide_eq_false_iff_not] at hb
            rcases hb with hb | hb
            · exact sound_no hval.out HXX.out (by rw [HO.out] at hb; exact hb)
            · exact sound_del (lateB_asc hb HXN.out))
          clear hb
          go_wp2_with fail
          go_ret
          exact ⟨by rw [HN.out] <;> rfl, K5.below⟩
    · obtain rfl : nd = k := by omega
      have hd : decide ((nd : Int) < (nd : Int)) = false := by simp
      have hle : d.del.length ≤ nd := by rw [← HDR.out, List.length_map, HDL.out]; exact Nat.le_refl _
      have HAD := hid (show ∀ r ∈ d.del, r ∈ t.rs from by
        have h := HIN.out
        rwa [List.take_of_length_le hle] at h)
      have HAA := hid (show (d.del.map (·.1)).Pairwise (· < ·) from by
        have h := HAS.out
        rwa [List.take_of_length_le (by rw [List.length_map]; exact hle)] at h)
      have K2 : Hold M none w wr [.ob gm (MSet 4 intFam gm nd (fun z => z ∈ d.del.map (·.1))), .cst g3 41 #[.string d.nm, .slice I ni ci, .slice D nd cd, .slice U nu cu], .cst g2 27 #[.string t.nm, .slice tA tn tc, .int .i64 t.nx, .slice tB tm td], .ro (RwsIn tB tm lt), .ro (RwsIn I ni li), .ro (RwsIn D nd ld), .ro (PrsIn U nu lu)] := by
        have h := H
        rw [List.take_of_length_le hle] at h
        exact h
      clear H hle
      have F := K2.facts
      simp only [factsL, cellsF, Nat.reduceAdd, zf, zl] at F
      go_wp2_with fail
      go_loopw [64] (fun iv wr => ∃ k : Nat, k ≤ nu ∧ iv = .int .i64 k ∧ Hid (∀ u ∈ d.upd.take k, (u.1, u.2.1) ∈ t.rs) ∧ Hid (∀ u ∈ d.upd.take k, u.1 ∉ d.del.map (·.1)) ∧ Hid (((d.upd.map (·.1)).take k).Pairwise (· < ·)) ∧ Hold M none w wr [.ob gm (MSet 4 intFam gm nd (fun z => z ∈ d.del.map (·.1))), .cst g3 41 #[.string d.nm, .slice I ni ci, .slice D nd cd, .slice U nu cu], .cst g2 27 #[.string t.nm, .slice tA tn tc, .int .i64 t.nx, .slice tB tm td], .ro (RwsIn tB tm lt), .ro (RwsIn I ni li), .ro (RwsIn D nd ld), .ro (PrsIn U nu lu)]) (fun iv _ => nu - (intOf iv).toNat)
      case atStart => exact ⟨0, by omega, rfl, hid (fun r hr => by simp at hr), hid (fun r hr => by simp at hr), hid (by simp), K2⟩
      case round =>
        clear K2 F
        obtain ⟨k, hk, rfl, HIN, HGN, HAS, H⟩ := hrel
        by_cases hlt : k < nu
        · have hd : decide ((k : Int) < (nu : Int)) = true := by simp; omega
          have i0 : (0 : Int) ≤ (k : Int) := by omega
          have i1 : (k : Int) < (nu : Int) := by omega
          obtain ⟨x, hx⟩ := get_of HUL.out hlt
          have hxv : Ro wr _ (VlsIn x.oA x.on x.old) := (H.ro 6 rfl).imp fun w2 h2 => (h2.2 x (List.mem_of_getElem? hx)).1
          obtain ⟨bb, oo, rfl, hbb, c0, c1, c2, _⟩ := (H.ro 6 rfl).now.at_ hx
          have HXX := hid (show d.upd[k]? = some x.upd by rw [← HUR.out, List.getElem?_map, hx]; rfl)
          have HXO := hid (HUO.out x (List.mem_of_getElem? hx))
          have hxc := HXO.out.oc
          have hxc2 := HXO.out.oc2
          obtain ⟨xid, xA, xn, xc, xold, yA, yn, yc, xnew⟩ := x
          dsimp only at *
          have HXN := hid (show (d.upd.map (·.1))[k]? = some xid from uids_at HXX.out)
          clear hx
          have K3 := (H.add hxv).alloc_cst #[.int .i64 xid, .slice xA xn xc, .slice yA yn yc] 99
          have F3 := K3.facts
          simp only [factsL, cellsF, Nat.reduceAdd, zf, zl] at F3
          clear hxv H
          go_wp2_with fail
          obtain ⟨gx, hgx⟩ : ∃ g, g = wr.heap.size := ⟨_, rfl⟩
          rw [← hgx] at K3 F3 ⊢
          have HGX := hid hgx
          clear hgx c0 c1 c2
          generalize World.alloc wr _ = w3 at K3 F3 ⊢
          have hg := rtget_any _ _ K3.mutLt (.string t.nm) (.slice tA tn tc) (.int .i64 t.nx) tB tm td lt xid (K3.ro 5 rfl) (by omega) (fun r hr => by have := HSH.out r hr; omega)
          rw [HTR.out] at hg
          obtain ⟨o, ho⟩ : ∃ o, o = getR t.rs xid := ⟨_, rfl⟩
          rw [← ho] at hg
          have HO := hid ho
          clear ho
          refine hg.mono ?_
          clear hg
          rintro e w4 ⟨A4, n4, c4, rfl, h40, h41, h42, ro4, b4⟩
          have K4 := (K3.call b4).add ro4
          clear K3 F3 b4 ro4 h40
          obtain ⟨bs, hbs⟩ : ∃ b, b = o.isSome := ⟨_, rfl⟩
          rw [← hbs]
          have HBS := hid (show (bs = false → none = o) ∧ (bs = true → ∃ v, o = some v) from ⟨fun h => (by cases o with | none => rfl | some v => (rw [hbs] at h; cases h)), fun h => (by cases o with | none => (rw [hbs] at h; cases h) | some v => exact ⟨v, rfl⟩)⟩)
          clear hbs
          have F4 := K4.facts
          simp only [factsL, cellsF, Nat.reduceAdd, zf, zl] at F4
          go_wp2_with fail
          go_cut [106] (fun s wx => s = .bool (!decide (o = some xold) || decide (xid ∈ d.del.map (·.1)) || lateB (d.upd.map (·.1)) k) ∧ Hold M none w wx [.ro (VlsIn A4 n4 (o.getD [])), .cst gx 99 #[.int .i64 xid, .slice xA xn xc, .slice yA yn yc], .ro (VlsIn xA xn xold), .ob gm (MSet 4 intFam gm nd (fun z => z ∈ d.del.map (·.1))), .cst g3 41 #[.string d.nm, .slice I ni ci, .slice D nd cd, .slice (some ⟨bb, oo, none⟩) nu cu], .cst g2 27 #[.string t.nm, .slice tA tn tc, .int .i64 t.nx, .slice tB tm td], .ro (RwsIn tB tm lt), .ro (RwsIn I ni li), .ro (RwsIn D nd ld), .ro (PrsIn (some ⟨bb, oo, none⟩) nu lu)])
          case first =>
            obtain ⟨KL, hKL, KN⟩ := K4.name
            have HF : Hid (∀ wv, Hold M none w wv KL → wv.cell? ⟨gx, 0, none⟩ = some (.int .i64 xid) ∧ wv.cell? ⟨gx, 1, none⟩ = some (.slice xA xn xc) ∧ gx < wv.heap.size ∧ wv.cell? ⟨g3, 3, none⟩ = some (.slice (some ⟨bb, oo, none⟩) nu cu) ∧ g3 < wv.heap.size ∧ True) := hid fun wv HC => by
              rw [hKL] at HC
              have y1 := HC.cst_ 1 rfl
              have y2 := HC.cst_ 4 rfl
              exact ⟨cell_of_row _ _ 0 _ _ _ y1, cell_of_row _ _ 1 _ _ _ y1, Blk.lt y1, cell_of_row _ _ 3 _ _ _ y2, Blk.lt y2, trivial⟩
            have HLK : Hid (∀ wv, Hold M none w wv KL → (Instr.lookup 133 (.map (some gm)) (.int .i64 xid) false).run Tryd.prog wv = .ok (.bool (decide (xid ∈ d.del.map (·.1)))) wv) := hid fun wv HC => by
              rw [hKL] at HC
              obtain ⟨c, hrun, hc⟩ := (HC.ob_ 3 rfl).look Tryd.setI (x := xid) HXO.out.id
              have e : c = decide (xid ∈ d.del.map (·.1)) := by rw [Bool.eq_iff_iff, hc, decide_eq_true_iff]
              rw [← e]
              exact hrun
            have HKL := hid hKL
            cases bs with
            | false =>
              have HBAD := hid (show (!decide (o = some xold) || decide (xid ∈ d.del.map (·.1)) || lateB (d.upd.map (·.1)) k) = true by rw [← HBS.out.1 rfl]; simp)
              clear hKL
              refine wp_region_any (by kernel_rfl) ?_
              refine wpAny_hold 30 144 (KL) (spL []) (by kernel_rfl) (by kernel_rfl) (by kernel_rfl) rfl ?_ (KN.drew) ?_
              · exact stays_nil _
              simp only [zd, Act.put, List.getElem_toArray, List.getElem_cons_zero, List.getElem_cons_succ, zl]
              refine dw_val rfl rfl rfl ?_; apply Exists.intro; refine ⟨fun wv HC => ?_, ?_⟩
              ·  go_simp <;> rfl
              simp only [Act.put, zl]
              refine dw_val rfl rfl rfl ?_; apply Exists.intro; refine ⟨fun wv HC => ?_, ?_⟩
              ·  go_simp <;> rfl
              simp only [Act.put, zl]
              refine dw_val rfl rfl rfl ?_; apply Exists.intro; refine ⟨fun wv HC => ?_, ?_⟩
              ·  go_simp <;> rfl
              simp only [Act.put, zl]
              refine dw_skip rfl rfl rfl ?_
              simp only [Act.put, zl]
              refine dw_skip rfl rfl rfl ?_
              simp only [Act.put, zl]
              refine dw_skip rfl rfl rfl ?_
              simp only [Act.put, zl]
              refine dw_skip rfl rfl rfl ?_
              simp only [Act.put, zl]
              refine dw_val rfl rfl rfl ?_; apply Exists.intro; refine ⟨fun wv HC => ?_, ?_⟩
              ·  go_simp <;> rfl
              simp only [Act.put, zl]
              refine dw_val rfl rfl rfl ?_; apply Exists.intro; refine ⟨fun wv HC => ?_, ?_⟩
              ·  go_simp <;> rfl
              simp only [Act.put, zl]
              refine dw_skip rfl rfl rfl ?_
              simp only [Act.put, zl]
              refine dw_skip rfl rfl rfl ?_
              simp only [Act.put, zl]
              refine dw_skip rfl rfl rfl ?_
              simp only [Act.put, zl]
              refine dw_skip rfl rfl rfl ?_
              simp only [Act.put, zl]
              refine dw_skip rfl rfl rfl ?_
              simp only [Act.put, zl]
              refine dw_val rfl rfl rfl ?_; apply Exists.intro; refine ⟨fun wv HC => ?_, ?_⟩
              ·  go_simp <;> rfl
              simp only [Act.put, zl]
              refine dw_val rfl rfl rfl ?_; apply Exists.intro; refine ⟨fun wv HC => ?_, ?_⟩
              ·  go_simp <;> rfl
              simp only [Act.put, zl]
              refine dw_skip rfl rfl rfl ?_
              simp only [Act.put, zl]
              refine dw_skip rfl rfl rfl ?_
              simp only [Act.put, zl]
              refine dw_skip rfl rfl rfl ?_
              simp only [Act.put, zl]
              refine dw_skip rfl rfl rfl ?_
              simp only [Act.put, zl]
              refine dw_skip rfl rfl rfl ?_
              simp only [Act.put, zl]
              refine dw_skip rfl rfl rfl ?_
              simp only [Act.put, zl]
              refine dw_skip rfl rfl rfl ?_
              simp only [Act.put, zl]
              refine dw_skip rfl rfl rfl ?_
              simp only [Act.put, zl]
              refine dw_skip rfl rfl rfl ?_
              simp only [Act.put, zl]
              refine dw_skip rfl rfl rfl ?_
              simp only [Act.put, zl]
              refine dw_skip rfl rfl rfl ?_
              simp only [Act.put, zl]
              refine dw_skip rfl rfl rfl ?_
              simp only [Act.put, zl]
              refine dw_skip rfl rfl rfl ?_
              simp only [Act.put, zl]
              refine dw_skip rfl rfl rfl ?_
              simp only [Act.put, zl]
              refine rel_nil ?_
              rintro wx2 HX
              rintro _hrm _HGW
              clear _HGW _hrm
              rw [HKL.out] at HX
              go_wp2_with fail
              go_meet
              exact ⟨by rw [HBAD.out], HX⟩
            | true =>
              obtain ⟨v, hov⟩ := HBS.out.2 rfl
              have HCR : Hid (∀ wv, Hold M none w wv KL → Calls Tryd.prog 39 #[.slice A4 n4 c4, .slice xA xn xc] wv fun e w' => CmpIs (v = xold) e ∧ Below wv.heap.size wv w') := hid fun wv HC => by
                rw [hKL] at HC
                have h : Ro wv _ (VlsIn A4 n4 v) := (HC.ro 0 rfl).imp fun w2 h2 => by rw [hov] at h2; exact h2
                exact rcmprows_any _ _ HC.mutLt A4 n4 c4 v xA xn xc xold h (HC.ro 2 rfl) (by omega) (by omega)
              clear hKL
              by_cases hg : xid ∈ d.del.map (·.1)
              · have HBAD := hid (show (!decide (o = some xold) || decide (xid ∈ d.del.map (·.1)) || lateB (d.upd.map (·.1)) k) = true by rw [decide_eq_true hg]; simp)
                rw [decide_eq_true hg] at HLK
                clear hg
                refine wp_region_any (by kernel_rfl) ?_
                refine wpAny_hold 30 144 (KL) (spL []) (by kernel_rfl) (by kernel_rfl) (by kernel_rfl) rfl ?_ (KN.drew) ?_
                · exact stays_nil _
                simp only [zd, Act.put, List.getElem_toArray, List.getElem_cons_zero, List.getElem_cons_succ, zl]
                refine dw_val rfl rfl rfl ?_; apply Exists.intro; refine ⟨fun wv HC => ?_, ?_⟩
                ·  go_simp <;> rfl
                simp only [Act.put, zl]
                refine dw_val rfl rfl rfl ?_; apply Exists.intro; refine ⟨fun wv HC => ?_, ?_⟩
                ·  go_simp <;> rfl
                simp only [Act.put, zl]
                refine dw_val rfl rfl rfl ?_; apply Exists.intro; refine ⟨fun wv HC => ?_, ?_⟩
                ·  go_simp <;> rfl
                simp only [Act.put, zl]
                refine dw_val rfl rfl rfl ?_; apply Exists.intro; refine ⟨fun wv HC => ?_, ?_⟩
                ·  go_simp <;> rfl
                simp only [Act.put, zl]
                refine dw_val rfl rfl rfl ?_; apply Exists.intro; refine ⟨fun wv HC => ?_, ?_⟩
                ·  go_simp <;> rfl
                simp only [Act.put, zl]
                refine dw_val rfl rfl rfl ?_; apply Exists.intro; refine ⟨fun wv HC => ?_, ?_⟩
                · obtain ⟨f0, f1, f2, f3, f4, f5⟩ := HF.out _ HC; go_simp <;> rfl
                simp only [Act.put, zl]
                refine dw_val rfl rfl rfl ⟨.bool true, fun wv HC => ?_, ?_⟩
                · have hl_ := HLK.out wv HC
                  go_simp <;> first | rfl | exact hl_ | (rw [hl_]; rfl)
                simp only [Act.put, zl]
                refine dw_val rfl rfl rfl ?_; apply Exists.intro; refine ⟨fun wv HC => ?_, ?_⟩
                ·  go_simp <;> rfl
                simp only [Act.put, zl]
                refine dw_val rfl rfl rfl ?_; apply Exists.intro; refine ⟨fun wv HC => ?_, ?_⟩
                ·  go_simp <;> rfl
                simp only [Act.put, zl]
                refine dw_skip rfl rfl rfl ?_
                simp only [Act.put, zl]
                refine dw_skip rfl rfl rfl ?_
                simp only [Act.put, zl]
                refine dw_skip rfl rfl rfl ?_
                simp only [Act.put, zl]
                refine dw_skip rfl rfl rfl ?_
                simp only [Act.put, zl]
                refine dw_skip rfl rfl rfl ?_
                simp only [Act.put, zl]
                refine dw_val rfl rfl rfl ?_; apply Exists.intro; refine ⟨fun wv HC => ?_, ?_⟩
                ·  go_simp <;> rfl
                simp only [Act.put, zl]
                refine dw_val rfl rfl rfl ?_; apply Exists.intro; refine ⟨fun wv HC => ?_, ?_⟩
                ·  go_simp <;> rfl
                simp only [Act.put, zl]
                refine dw_skip rfl rfl rfl ?_
                simp only [Act.put, zl]
                refine dw_skip rfl rfl rfl ?_
                simp only [Act.put, zl]
                refine dw_skip rfl rfl rfl ?_
                simp only [Act.put, zl]
                refine dw_skip rfl rfl rfl ?_
                simp only [Act.put, zl]
                refine dw_skip rfl rfl rfl ?_
                simp only [Act.put, zl]
                refine dw_skip rfl rfl rfl ?_
                simp only [Act.put, zl]
                refine dw_skip rfl rfl rfl ?_
                simp only [Act.put, zl]
                refine dw_skip rfl rfl rfl ?_
                simp only [Act.put, zl]
                refine dw_skip rfl rfl rfl ?_
                simp only [Act.put, zl]
                refine dw_skip rfl rfl rfl ?_
                simp only [Act.put, zl]
                refine dw_skip rfl rfl rfl ?_
                simp only [Act.put, zl]
                refine dw_skip rfl rfl rfl ?_
                simp only [Act.put, zl]
                refine dw_skip rfl rfl rfl ?_
                simp only [Act.put, zl]
                refine dw_skip rfl rfl rfl ?_
                simp only [Act.put, zl]
                refine rel_nil ?_
                rintro wx2 HX
                rintro _hrm _HGW
                clear _HGW _hrm
                rw [HKL.out] at HX
                go_wp2_with fail
                go_meet
                exact ⟨by rw [HBAD.out], HX⟩
              · have HG := hid hg
                rw [decide_eq_false hg] at HLK
                clear hg
                by_cases hv : v = xold
                case neg =>
                  have HNE := hid hv
                  have HBAD := hid (show (!decide (o = some xold) || decide (xid ∈ d.del.map (·.1)) || lateB (d.upd.map (·.1)) k) = true by rw [hov, decide_eq_false (show ¬ (some v = some xold) from fun h => hv (by injection h))]; simp)
                  clear hv
                  refine wp_region_any (by kernel_rfl) ?_
                  refine wpAny_hold 30 144 (KL) (spL [(88, fun u _ => ∃ r : Int, u = .int .i64 r ∧ (r = 0 ↔ v = xold))]) (by kernel_rfl) (by kernel_rfl) (by kernel_rfl) rfl ?_ (KN.drew) ?_
                  · exact stays_cons (fun _ _ _ _ h => h) (stays_nil _)
                  simp only [zd, Act.put, List.getElem_toArray, List.getElem_cons_zero, List.getElem_cons_succ, zl]
                  refine dw_val rfl rfl rfl ?_; apply Exists.intro; refine ⟨fun wv HC => ?_, ?_⟩
                  ·  go_simp <;> rfl
                  simp only [Act.put, zl]
                  refine dw_val rfl rfl rfl ?_; apply Exists.intro; refine ⟨fun wv HC => ?_, ?_⟩
                  ·  go_simp <;> rfl
                  simp only [Act.put, zl]
                  refine dw_val rfl rfl rfl ?_; apply Exists.intro; refine ⟨fun wv HC => ?_, ?_⟩
                  ·  go_simp <;> rfl
                  simp only [Act.put, zl]
                  refine dw_val rfl rfl rfl ?_; apply Exists.intro; refine ⟨fun wv HC => ?_, ?_⟩
                  ·  go_simp <;> rfl
                  simp only [Act.put, zl]
                  refine dw_val rfl rfl rfl ?_; apply Exists.intro; refine ⟨fun wv HC => ?_, ?_⟩
                  ·  go_simp <;> rfl
                  simp only [Act.put, zl]
                  refine dw_val rfl rfl rfl ?_; apply Exists.intro; refine ⟨fun wv HC => ?_, ?_⟩
                  · obtain ⟨f0, f1, f2, f3, f4, f5⟩ := HF.out _ HC; go_simp <;> rfl
                  simp only [Act.put, zl]
                  refine dw_val rfl rfl rfl ⟨.bool false, fun wv HC => ?_, ?_⟩
                  · have hl_ := HLK.out wv HC
                    go_simp <;> first | rfl | exact hl_ | (rw [hl_]; rfl)
                  simp only [Act.put, zl]
                  refine dw_val rfl rfl rfl ?_; apply Exists.intro; refine ⟨fun wv HC => ?_, ?_⟩
                  ·  go_simp <;> rfl
                  simp only [Act.put, zl]
                  refine dw_val rfl rfl rfl ?_; apply Exists.intro; refine ⟨fun wv HC => ?_, ?_⟩
                  ·  go_simp <;> rfl
                  simp only [Act.put, zl]
                  refine dw_val rfl rfl rfl ?_; apply Exists.intro; refine ⟨fun wv HC => ?_, ?_⟩
                  ·  go_simp <;> rfl
                  simp only [Act.put, zl]
                  refine dw_val rfl rfl rfl ?_; apply Exists.intro; refine ⟨fun wv HC => ?_, ?_⟩
                  ·  go_simp <;> rfl
                  simp only [Act.put, zl]
                  refine dw_val rfl rfl rfl ?_; apply Exists.intro; refine ⟨fun wv HC => ?_, ?_⟩
                  · obtain ⟨f0, f1, f2, f3, f4, f5⟩ := HF.out _ HC; go_simp <;> rfl
                  simp only [Act.put, zl]
                  refine dw_callR 88 (fun u _ => ∃ r : Int, u = .int .i64 r ∧ (r = 0 ↔ v = xold)) (f := 39) (args := #[.slice A4 n4 c4, .slice xA xn xc]) rfl rfl rfl rfl (fun wv => ?_) (fun wv HC hrm hD => ?_) ?_
                  · go_simp <;> rfl
                  · refine (HCR.out wv HC).mono ?_
                    rintro e w5 ⟨⟨r, rfl, hr⟩, b5⟩
                    exact ⟨_, rfl, ⟨r, rfl, hr⟩, HC.call b5, RM.below b5⟩
                  rintro x_ wx HCx ⟨r, rfl, hr⟩
                  clear HCx
                  have hr0 : (r != 0) = true := by simp; exact fun h => HNE.out (hr.1 h)
                  simp only [Act.put, zl]
                  refine dw_val rfl rfl rfl ?_; apply Exists.intro; refine ⟨fun wv HC => ?_, ?_⟩
                  ·  go_simp <;> rfl
                  simp only [Act.put, zl]
                  refine dw_val rfl rfl rfl ?_; apply Exists.intro; refine ⟨fun wv HC => ?_, ?_⟩
                  ·  go_simp <;> rfl
                  simp only [Act.put, zl]
                  refine dw_val rfl rfl rfl ?_; apply Exists.intro; refine ⟨fun wv HC => ?_, ?_⟩
                  ·  go_simp <;> rfl
                  simp only [Act.put, zl]
                  refine dw_skip rfl rfl rfl ?_
                  simp only [Act.put, zl]
                  refine dw_skip rfl rfl rfl ?_
                  simp only [Act.put, zl]
                  refine dw_skip rfl rfl rfl ?_
                  simp only [Act.put, zl]
                  refine dw_skip rfl rfl rfl ?_
                  simp only [Act.put, zl]
                  refine dw_skip rfl rfl rfl ?_
                  simp only [Act.put, zl]
                  refine dw_skip rfl rfl rfl ?_
                  simp only [Act.put, zl]
                  refine dw_skip rfl rfl rfl ?_
                  simp only [Act.put, zl]
                  refine dw_skip rfl rfl rfl ?_
                  simp only [Act.put, zl]
                  refine dw_skip rfl rfl rfl ?_
                  simp only [Act.put, zl]
                  refine dw_skip rfl rfl rfl ?_
                  simp only [Act.put, zl]
                  refine dw_skip rfl rfl rfl ?_
                  simp only [Act.put, zl]
                  refine dw_skip rfl rfl rfl ?_
                  simp only [Act.put, zl]
                  refine dw_skip rfl rfl rfl ?_
                  simp only [Act.put, zl]
                  refine dw_skip rfl rfl rfl ?_
                  simp only [Act.put, zl]
                  refine rel_nil ?_
                  rintro wx2 HX
                  rintro _hrm _HGW
                  clear _HGW _hrm
                  rw [HKL.out] at HX
                  go_wp2_with fail
                  go_meet
                  exact ⟨by rw [HBAD.out], HX⟩
                case pos =>
                  have HEQ := hid hv
                  by_cases hk0 : k = 0
                  · obtain rfl : k = 0 := hk0
                    have HBAD := hid (show (!decide (o = some xold) || decide (xid ∈ d.del.map (·.1)) || lateB (d.upd.map (·.1)) 0) = false by rw [hov, hv]; simp [lateB, HG.out])
                    clear hv
                    refine wp_region_any (by kernel_rfl) ?_
                    refine wpAny_hold 30 144 (KL) (spL [(88, fun u _ => ∃ r : Int, u = .int .i64 r ∧ (r = 0 ↔ v = xold))]) (by kernel_rfl) (by kernel_rfl) (by kernel_rfl) rfl ?_ (KN.drew) ?_
                    · exact stays_cons (fun _ _ _ _ h => h) (stays_nil _)
                    simp only [zd, Act.put, List.getElem_toArray, List.getElem_cons_zero, List.getElem_cons_succ, zl]
                    refine dw_val rfl rfl rfl ?_; apply Exists.intro; refine ⟨fun wv HC => ?_, ?_⟩
                    ·  go_simp <;> rfl
                    simp only [Act.put, zl]
                    refine dw_val rfl rfl rfl ?_; apply Exists.intro; refine ⟨fun wv HC => ?_, ?_⟩
                    ·  go_simp <;> rfl
                    simp only [Act.put, zl]
                    refine dw_val rfl rfl rfl ?_; apply Exists.intro; refine ⟨fun wv HC => ?_, ?_⟩
                    ·  go_simp <;> rfl
                    simp only [Act.put, zl]
                    refine dw_val rfl rfl rfl ?_; apply Exists.intro; refine ⟨fun wv HC => ?_, ?_⟩
                    ·  go_simp <;> rfl
                    simp only [Act.put, zl]
                    refine dw_val rfl rfl rfl ?_; apply Exists.intro; refine ⟨fun wv HC => ?_, ?_⟩
                    ·  go_simp <;> rfl
                    simp only [Act.put, zl]
                    refine dw_val rfl rfl rfl ?_; apply Exists.intro; refine ⟨fun wv HC => ?_, ?_⟩
                    · obtain ⟨f0, f1, f2, f3, f4, f5⟩ := HF.out _ HC; go_simp <;> rfl
                    simp only [Act.put, zl]
                    refine dw_val rfl rfl rfl ⟨.bool false, fun wv HC => ?_, ?_⟩
                    · have hl_ := HLK.out wv HC
                      go_simp <;> first | rfl | exact hl_ | (rw [hl_]; rfl)
                    simp only [Act.put, zl]
                    refine dw_val rfl rfl rfl ?_; apply Exists.intro; refine ⟨fun wv HC => ?_, ?_⟩
                    ·  go_simp <;> rfl
                    simp only [Act.put, zl]
                    refine dw_val rfl rfl rfl ?_; apply Exists.intro; refine ⟨fun wv HC => ?_, ?_⟩
                    ·  go_simp <;> rfl
                    simp only [Act.put, zl]
                    refine dw_val rfl rfl rfl ?_; apply Exists.intro; refine ⟨fun wv HC => ?_, ?_⟩
                    ·  go_simp <;> rfl
                    simp only [Act.put, zl]
                    refine dw_val rfl rfl rfl ?_; apply Exists.intro; refine ⟨fun wv HC => ?_, ?_⟩
                    ·  go_simp <;> rfl
                    simp only [Act.put, zl]
                    refine dw_val rfl rfl rfl ?_; apply Exists.intro; refine ⟨fun wv HC => ?_, ?_⟩
                    · obtain ⟨f0, f1, f2, f3, f4, f5⟩ := HF.out _ HC; go_simp <;> rfl
                    simp only [Act.put, zl]
                    refine dw_callR 88 (fun u _ => ∃ r : Int, u = .int .i64 r ∧ (r = 0 ↔ v = xold)) (f := 39) (args := #[.slice A4 n4 c4, .slice xA xn xc]) rfl rfl rfl rfl (fun wv => ?_) (fun wv HC hrm hD => ?_) ?_
                    · go_simp <;> rfl
                    · refine (HCR.out wv HC).mono ?_
                      rintro e w5 ⟨⟨r, rfl, hr⟩, b5⟩
                      exact ⟨_, rfl, ⟨r, rfl, hr⟩, HC.call b5, RM.below b5⟩
                    rintro x_ wx HCx ⟨r, rfl, hr⟩
                    clear HCx
                    obtain rfl : r = 0 := hr.2 HEQ.out
                    clear hr
                    simp only [Act.put, zl]
                    refine dw_val rfl rfl rfl ?_; apply Exists.intro; refine ⟨fun wv HC => ?_, ?_⟩
                    ·  go_simp <;> rfl
                    simp only [Act.put, zl]
                    refine dw_val rfl rfl rfl ?_; apply Exists.intro; refine ⟨fun wv HC => ?_, ?_⟩
                    ·  go_simp <;> rfl
                    simp only [Act.put, zl]
                    refine dw_val rfl rfl rfl ?_; apply Exists.intro; refine ⟨fun wv HC => ?_, ?_⟩
                    ·  go_simp <;> rfl
                    simp only [Act.put, zl]
                    refine dw_val rfl rfl rfl ?_; apply Exists.intro; refine ⟨fun wv HC => ?_, ?_⟩
                    ·  go_simp <;> rfl
                    simp only [Act.put, zl]
                    refine dw_val rfl rfl rfl ?_; apply Exists.intro; refine ⟨fun wv HC => ?_, ?_⟩
                    ·  go_simp <;> rfl
                    simp only [Act.put, zl]
                    refine dw_val rfl rfl rfl ?_; apply Exists.intro; refine ⟨fun wv HC => ?_, ?_⟩
                    ·  go_simp <;> rfl
                    simp only [Act.put, zl]
                    refine dw_skip rfl rfl rfl ?_
                    simp only [Act.put, zl]
                    refine dw_skip rfl rfl rfl ?_
                    simp only [Act.put, zl]
                    refine dw_skip rfl rfl rfl ?_
                    simp only [Act.put, zl]
                    refine dw_skip rfl rfl rfl ?_
                    simp only [Act.put, zl]
                    refine dw_skip rfl rfl rfl ?_
                    simp only [Act.put, zl]
                    refine dw_skip rfl rfl rfl ?_
                    simp only [Act.put, zl]
                    refine dw_skip rfl rfl rfl ?_
                    simp only [Act.put, zl]
                    refine dw_skip rfl rfl rfl ?_
                    simp only [Act.put, zl]
                    refine dw_skip rfl rfl rfl ?_
                    simp only [Act.put, zl]
                    refine dw_skip rfl rfl rfl ?_
                    simp only [Act.put, zl]
                    refine dw_val rfl rfl rfl ?_; apply Exists.intro; refine ⟨fun wv HC => ?_, ?_⟩
                    ·  go_simp <;> rfl
                    simp only [Act.put, zl]
                    refine rel_nil ?_
                    rintro wx2 HX
                    rintro _hrm _HGW
                    clear _HGW _hrm
                    rw [HKL.out] at HX
                    go_wp2_with fail
                    go_meet
                    exact ⟨by rw [HBAD.out], HX⟩
                  · obtain ⟨j, rfl⟩ : ∃ j, k = j + 1 := ⟨k - 1, by omega⟩
                    have hc0 : decide (((j + 1 : Nat) : Int) > 0) = true := by rw [decide_eq_true_iff]; omega
                    have hc1 : decide ((0 : Int) < (j : Int) + 1) = true := by rw [decide_eq_true_iff]; omega
                    obtain ⟨p, hp⟩ := get_of HUL.out (show j < nu by omega)
                    have HPP := hid (show (d.upd.map (·.1))[j]? = some p.id by rw [← HUR.out, List.map_map, List.getElem?_map, hp]; rfl)
                    have HP : Hid (∀ wv, Hold M none w wv KL → wv.cell? ⟨bb, oo + j * 3, none⟩ = some (.int .i64 p.id) ∧ bb < wv.heap.size) := hid fun wv HC => by
                      rw [HKL.out] at HC
                      obtain ⟨b', o', e', h3, h4, _⟩ := (HC.ro 9 rfl).now.at_ hp
                      obtain ⟨rfl, rfl⟩ : bb = b' ∧ oo = o' := by injection e' with e'; injection e' with e1 e2; exact ⟨e1, e2⟩
                      exact ⟨h4, h3⟩
                    have j0 : (0 : Int) ≤ (j : Int) := by omega
                    have j1 : (j : Int) < (nu : Int) := by omega
                    clear hp hk0
                    by_cases hle : p.id ≥ xid
                    · have hc2 : decide (p.id ≥ xid) = true := decide_eq_true hle
                      have HBAD := hid (show (!decide (o = some xold) || decide (xid ∈ d.del.map (·.1)) || lateB (d.upd.map (·.1)) (j + 1)) = true by rw [lateB_at HPP.out HXN.out, decide_eq_true (show xid ≤ p.id from hle)]; simp)
                      clear hle hv
                      refine wp_region_any (by kernel_rfl) ?_
                      refine wpAny_hold 30 144 (KL) (spL [(88, fun u _ => ∃ r : Int, u = .int .i64 r ∧ (r = 0 ↔ v = xold))]) (by kernel_rfl) (by kernel_rfl) (by kernel_rfl) rfl ?_ (KN.drew) ?_
                      · exact stays_cons (fun _ _ _ _ h => h) (stays_nil _)
                      simp only [zd, Act.put, List.getElem_toArray, List.getElem_cons_zero, List.getElem_cons_succ, zl]
                      refine dw_val rfl rfl rfl ?_; apply Exists.intro; refine ⟨fun wv HC => ?_, ?_⟩
                      ·  go_simp <;> rfl
                      simp only [Act.put, zl]
                      refine dw_val rfl rfl rfl ?_; apply Exists.intro; refine ⟨fun wv HC => ?_, ?_⟩
                      ·  go_simp <;> rfl
                      simp only [Act.put, zl]
                      refine dw_val rfl rfl rfl ?_; apply Exists.intro; refine ⟨fun wv HC => ?_, ?_⟩
                      ·  go_simp <;> rfl
                      simp only [Act.put, zl]
                      refine dw_val rfl rfl rfl ?_; apply Exists.intro; refine ⟨fun wv HC => ?_, ?_⟩
                      ·  go_simp <;> rfl
                      simp only [Act.put, zl]
                      refine dw_val rfl rfl rfl ?_; apply Exists.intro; refine ⟨fun wv HC => ?_, ?_⟩
                      ·  go_simp <;> rfl
                      simp only [Act.put, zl]
                      refine dw_val rfl rfl rfl ?_; apply Exists.intro; refine ⟨fun wv HC => ?_, ?_⟩
                      · obtain ⟨f0, f1, f2, f3, f4, f5⟩ := HF.out _ HC; go_simp <;> rfl
                      simp only [Act.put, zl]
                      refine dw_val rfl rfl rfl ⟨.bool false, fun wv HC => ?_, ?_⟩
                      · have hl_ := HLK.out wv HC
                        go_simp <;> first | rfl | exact hl_ | (rw [hl_]; rfl)
                      simp only [Act.put, zl]
                      refine dw_val rfl rfl rfl ?_; apply Exists.intro; refine ⟨fun wv HC => ?_, ?_⟩
                      ·  go_simp <;> rfl
                      simp only [Act.put, zl]
                      refine dw_val rfl rfl rfl ?_; apply Exists.intro; refine ⟨fun wv HC => ?_, ?_⟩
                      ·  go_simp <;> rfl
                      simp only [Act.put, zl]
                      refine dw_val rfl rfl rfl ?_; apply Exists.intro; refine ⟨fun wv HC => ?_, ?_⟩
                      ·  go_simp <;> rfl
                      simp only [Act.put, zl]
                      refine dw_val rfl rfl rfl ?_; apply Exists.intro; refine ⟨fun wv HC => ?_, ?_⟩
                      ·  go_simp <;> rfl
                      simp only [Act.put, zl]
                      refine dw_val rfl rfl rfl ?_; apply Exists.intro; refine ⟨fun wv HC => ?_, ?_⟩
                      · obtain ⟨f0, f1, f2, f3, f4, f5⟩ := HF.out _ HC; go_simp <;> rfl
                      simp only [Act.put, zl]
                      refine dw_callR 88 (fun u _ => ∃ r : Int, u = .int .i64 r ∧ (r = 0 ↔ v = xold)) (f := 39) (args := #[.slice A4 n4 c4, .slice xA xn xc]) rfl rfl rfl rfl (fun wv => ?_) (fun wv HC hrm hD => ?_) ?_
                      · go_simp <;> rfl
                      · refine (HCR.out wv HC).mono ?_
                        rintro e w5 ⟨⟨r, rfl, hr⟩, b5⟩
                        exact ⟨_, rfl, ⟨r, rfl, hr⟩, HC.call b5, RM.below b5⟩
                      rintro x_ wx HCx ⟨r, rfl, hr⟩
                      clear HCx
                      obtain rfl : r = 0 := hr.2 HEQ.out
                      clear hr
                      simp only [Act.put, zl]
                      refine dw_val rfl rfl rfl ?_; apply Exists.intro; refine ⟨fun wv HC => ?_, ?_⟩
                      ·  go_simp <;> rfl
                      simp only [Act.put, zl]
                      refine dw_val rfl rfl rfl ?_; apply Exists.intro; refine ⟨fun wv HC => ?_, ?_⟩
                      ·  go_simp <;> rfl
                      simp only [Act.put, zl]
                      refine dw_val rfl rfl rfl ?_; apply Exists.intro; refine ⟨fun wv HC => ?_, ?_⟩
                      ·  go_simp <;> rfl
                      simp only [Act.put, zl]
                      refine dw_val rfl rfl rfl ?_; apply Exists.intro; refine ⟨fun wv HC => ?_, ?_⟩
                      ·  go_simp <;> rfl
                      simp only [Act.put, zl]
                      refine dw_val rfl rfl rfl ?_; apply Exists.intro; refine ⟨fun wv HC => ?_, ?_⟩
                      ·  go_simp <;> rfl
                      simp only [Act.put, zl]
                      refine dw_val rfl rfl rfl ?_; apply Exists.intro; refine ⟨fun wv HC => ?_, ?_⟩
                      ·  go_simp <;> rfl
                      simp only [Act.put, zl]
                      refine dw_val rfl rfl rfl ?_; apply Exists.intro; refine ⟨fun wv HC => ?_, ?_⟩
                      ·  go_simp <;> rfl
                      simp only [Act.put, zl]
                      refine dw_val rfl rfl rfl ?_; apply Exists.intro; refine ⟨fun wv HC => ?_, ?_⟩
                      · obtain ⟨f0, f1, f2, f3, f4, f5⟩ := HF.out _ HC; obtain ⟨p0, p1⟩ := HP.out _ HC; go_simp <;> rfl
                      simp only [Act.put, zl]
                      refine dw_val rfl rfl rfl ?_; apply Exists.intro; refine ⟨fun wv HC => ?_, ?_⟩
                      ·  go_simp <;> rfl
                      simp only [Act.put, zl]
                      refine dw_val rfl rfl rfl ⟨.int .i64 (j : Int), fun wv HC => ?_, ?_⟩
                      · have hw_ : wrap64 ((j : Int) + 1 - 1) = (j : Int) := by unfold wrap64; omega
                        go_simp <;> first | rfl | omega | (rw [IntKind.wrap_i64]; unfold wrap64; omega) | (rw [IntKind.wrap_i64]; omega)
                      simp only [Act.put, zl]
                      refine dw_val rfl rfl rfl ?_; apply Exists.intro; refine ⟨fun wv HC => ?_, ?_⟩
                      ·  go_simp <;> rfl
                      simp only [Act.put, zl]
                      refine dw_val rfl rfl rfl ?_; apply Exists.intro; refine ⟨fun wv HC => ?_, ?_⟩
                      ·  go_simp <;> rfl
                      simp only [Act.put, zl]
                      refine dw_val rfl rfl rfl ?_; apply Exists.intro; refine ⟨fun wv HC => ?_, ?_⟩
                      · obtain ⟨f0, f1, f2, f3, f4, f5⟩ := HF.out _ HC; obtain ⟨p0, p1⟩ := HP.out _ HC; go_simp <;> rfl
                      simp only [Act.put, zl]
                      refine dw_val rfl rfl rfl ?_; apply Exists.intro; refine ⟨fun wv HC => ?_, ?_⟩
                      ·  go_simp <;> rfl
                      simp only [Act.put, zl]
                      refine dw_val rfl rfl rfl ?_; apply Exists.intro; refine ⟨fun wv HC => ?_, ?_⟩
                      · obtain ⟨f0, f1, f2, f3, f4, f5⟩ := HF.out _ HC; obtain ⟨p0, p1⟩ := HP.out _ HC; go_simp <;> rfl
                      simp only [Act.put, zl]
                      refine dw_val rfl rfl rfl ?_; apply Exists.intro; refine ⟨fun wv HC => ?_, ?_⟩
                      ·  go_simp <;> rfl
                      simp only [Act.put, zl]
                      refine dw_val rfl rfl rfl ?_; apply Exists.intro; refine ⟨fun wv HC => ?_, ?_⟩
                      ·  go_simp <;> rfl
                      simp only [Act.put, zl]
                      refine rel_nil ?_
                      rintro wx2 HX
                      rintro _hrm _HGW
                      clear _HGW _hrm
                      rw [HKL.out] at HX
                      go_wp2_with fail
                      go_meet
                      exact ⟨by rw [HBAD.out], HX⟩
                    · have hc2 : decide (p.id ≥ xid) = false := decide_eq_false hle
                      have HBAD := hid (show (!decide (o = some xold) || decide (xid ∈ d.del.map (·.1)) || lateB (d.upd.map (·.1)) (j + 1)) = false by rw [lateB_at HPP.out HXN.out, decide_eq_false (show ¬ xid ≤ p.id from hle), hov, hv]; simp [HG.out])
                      clear hle hv
                      refine wp_region_any (by kernel_rfl) ?_
                      refine wpAny_hold 30 144 (KL) (spL [(88, fun u _ => ∃ r : Int, u = .int .i64 r ∧ (r = 0 ↔ v = xold))]) (by kernel_rfl) (by kernel_rfl) (by kernel_rfl) rfl ?_ (KN.drew) ?_
                      · exact stays_cons (fun _ _ _ _ h => h) (stays_nil _)
                      simp only [zd, Act.put, List.getElem_toArray, List.getElem_cons_zero, List.getElem_cons_succ, zl]
                      refine dw_val rfl rfl rfl ?_; apply Exists.intro; refine ⟨fun wv HC => ?_, ?_⟩
                      ·  go_simp <;> rfl
                      simp only [Act.put, zl]
                      refine dw_val rfl rfl rfl ?_; apply Exists.intro; refine ⟨fun wv HC => ?_, ?_⟩
                      ·  go_simp <;> rfl
                      simp only [Act.put, zl]
                      refine dw_val rfl rfl rfl ?_; apply Exists.intro; refine ⟨fun wv HC => ?_, ?_⟩
                      ·  go_simp <;> rfl
                      simp only [Act.put, zl]
                      refine dw_val rfl rfl rfl ?_; apply Exists.intro; refine ⟨fun wv HC => ?_, ?_⟩
                      ·  go_simp <;> rfl
                      simp only [Act.put, zl]
                      refine dw_val rfl rfl rfl ?_; apply Exists.intro; refine ⟨fun wv HC => ?_, ?_⟩
                      ·  go_simp <;> rfl
                      simp only [Act.put, zl]
                      refine dw_val rfl rfl rfl ?_; apply Exists.intro; refine ⟨fun wv HC => ?_, ?_⟩
                      · obtain ⟨f0, f1, f2, f3, f4, f5⟩ := HF.out _ HC; go_simp <;> rfl
                      simp only [Act.put, zl]
                      refine dw_val rfl rfl rfl ⟨.bool false, fun wv HC => ?_, ?_⟩
                      · have hl_ := HLK.out wv HC
                        go_simp <;> first | rfl | exact hl_ | (rw [hl_]; rfl)
                      simp only [Act.put, zl]
                      refine dw_val rfl rfl rfl ?_; apply Exists.intro; refine ⟨fun wv HC => ?_, ?_⟩
                      ·  go_simp <;> rfl
                      simp only [Act.put, zl]
                      refine dw_val rfl rfl rfl ?_; apply Exists.intro; refine ⟨fun wv HC => ?_, ?_⟩
                      ·  go_simp <;> rfl
                      simp only [Act.put, zl]
                      refine dw_val rfl rfl rfl ?_; apply Exists.intro; refine ⟨fun wv HC => ?_, ?_⟩
                      ·  go_simp <;> rfl
                      simp only [Act.put, zl]
                      refine dw_val rfl rfl rfl ?_; apply Exists.intro; refine ⟨fun wv HC => ?_, ?_⟩
                      ·  go_simp <;> rfl
                      simp only [Act.put, zl]
                      refine dw_val rfl rfl rfl ?_; apply Exists.intro; refine ⟨fun wv HC => ?_, ?_⟩
                      · obtain ⟨f0, f1, f2, f3, f4, f5⟩ := HF.out _ HC; go_simp <;> rfl
                      simp only [Act.put, zl]
                      refine dw_callR 88 (fun u _ => ∃ r : Int, u = .int .i64 r ∧ (r = 0 ↔ v = xold)) (f := 39) (args := #[.slice A4 n4 c4, .slice xA xn xc]) rfl rfl rfl rfl (fun wv => ?_) (fun wv HC hrm hD => ?_) ?_
                      · go_simp <;> rfl
                      · refine (HCR.out wv HC).mono ?_
                        rintro e w5 ⟨⟨r, rfl, hr⟩, b5⟩
                        exact ⟨_, rfl, ⟨r, rfl, hr⟩, HC.call b5, RM.below b5⟩
                      rintro x_ wx HCx ⟨r, rfl, hr⟩
                      clear HCx
                      obtain rfl : r = 0 := hr.2 HEQ.out
                      clear hr
                      simp only [Act.put, zl]
                      refine dw_val rfl rfl rfl ?_; apply Exists.intro; refine ⟨fun wv HC => ?_, ?_⟩
                      ·  go_simp <;> rfl
                      simp only [Act.put, zl]
                      refine dw_val rfl rfl rfl ?_; apply Exists.intro; refine ⟨fun wv HC => ?_, ?_⟩
                      ·  go_simp <;> rfl
                      simp only [Act.put, zl]
                      refine dw_val rfl rfl rfl ?_; apply Exists.intro; refine ⟨fun wv HC => ?_, ?_⟩
                      ·  go_simp <;> rfl
                      simp only [Act.put, zl]
                      refine dw_val rfl rfl rfl ?_; apply Exists.intro; refine ⟨fun wv HC => ?_, ?_⟩
                      ·  go_simp <;> rfl
                      simp only [Act.put, zl]
                      refine dw_val rfl rfl rfl ?_; apply Exists.intro; refine ⟨fun wv HC => ?_, ?_⟩
                      ·  go_simp <;> rfl
                      simp only [Act.put, zl]
                      refine dw_val rfl rfl rfl ?_; apply Exists.intro; refine ⟨fun wv HC => ?_, ?_⟩
                      ·  go_simp <;> rfl
                      simp only [Act.put, zl]
                      refine dw_val rfl rfl rfl ?_; apply Exists.intro; refine ⟨fun wv HC => ?_, ?_⟩
                      ·  go_simp <;> rfl
                      simp only [Act.put, zl]
                      refine dw_val rfl rfl rfl ?_; apply Exists.intro; refine ⟨fun wv HC => ?_, ?_⟩
                      · obtain ⟨f0, f1, f2, f3, f4, f5⟩ := HF.out _ HC; obtain ⟨p0, p1⟩ := HP.out _ HC; go_simp <;> rfl
                      simp only [Act.put, zl]
                      refine dw_val rfl rfl rfl ?_; apply Exists.intro; refine ⟨fun wv HC => ?_, ?_⟩
                      ·  go_simp <;> rfl
                      simp only [Act.put, zl]
                      refine dw_val rfl rfl rfl ⟨.int .i64 (j : Int), fun wv HC => ?_, ?_⟩
                      · have hw_ : wrap64 ((j : Int) + 1 - 1) = (j : Int) := by unfold wrap64; omega
                        go_simp <;> first | rfl | omega | (rw [IntKind.wrap_i64]; unfold wrap64; omega) | (rw [IntKind.wrap_i64]; omega)
                      simp only [Act.put, zl]
                      refine dw_val rfl rfl rfl ?_; apply Exists.intro; refine ⟨fun wv HC => ?_, ?_⟩
                      ·  go_simp <;> rfl
                      simp only [Act.put, zl]
                      refine dw_val rfl rfl rfl ?_; apply Exists.intro; refine ⟨fun wv HC => ?_, ?_⟩
                      ·  go_simp <;> rfl
                      simp only [Act.put, zl]
                      refine dw_val rfl rfl rfl ?_; apply Exists.intro; refine ⟨fun wv HC => ?_, ?_⟩
                      · obtain ⟨f0, f1, f2, f3, f4, f5⟩ := HF.out _ HC; obtain ⟨p0, p1⟩ := HP.out _ HC; go_simp <;> rfl
                      simp only [Act.put, zl]
                      refine dw_val rfl rfl rfl ?_; apply Exists.intro; refine ⟨fun wv HC => ?_, ?_⟩
                      ·  go_simp <;> rfl
                      simp only [Act.put, zl]
                      refine dw_val rfl rfl rfl ?_; apply Exists.intro; refine ⟨fun wv HC => ?_, ?_⟩
                      · obtain ⟨f0, f1, f2, f3, f4, f5⟩ := HF.out _ HC; obtain ⟨p0, p1⟩ := HP.out _ HC; go_simp <;> rfl
                      simp only [Act.put, zl]
                      refine dw_val rfl rfl rfl ?_; apply Exists.intro; refine ⟨fun wv HC => ?_, ?_⟩
                      ·  go_simp <;> rfl
                      simp only [Act.put, zl]
                      refine dw_val rfl rfl rfl ?_; apply Exists.intro; refine ⟨fun wv HC => ?_, ?_⟩
                      ·  go_simp <;> rfl
                      simp only [Act.put, zl]
                      refine rel_nil ?_
                      rintro wx2 HX
                      rintro _hrm _HGW
                      clear _HGW _hrm
                      rw [HKL.out] at HX
                      go_wp2_with fail
                      go_meet
                      exact ⟨by rw [HBAD.out], HX⟩
          case rest =>
            clear K4 F4
            obtain ⟨rfl, K5⟩ := hcut
            have F5 := K5.facts
            simp only [factsL, cellsF, Nat.reduceAdd, zf, zl] at F5
            cases hb : (!decide (o = some xold) || decide (xid ∈ d.del.map (·.1)) || lateB (d.upd.map (·.1)) k)
            · have hb2 : (getR t.rs xid = some xold ∧ xid ∉ d.del.map (·.1)) ∧ lateB (d.upd.map (·.1)) k = false := by
                rw [← HO.out]
                simpa only [Bool.or_eq_false_iff, Bool.not_eq_false', decide_eq_true_eq, decide_eq_false_iff_not] using hb
              have HN := hid (show ∀ u ∈ d.upd.take (k + 1), (u.1, u.2.1) ∈ t.rs from by
                rw [List.take_add_one, HXX.out, Option.toList_some]
                exact okSnoc HIN.out ((row_get hval.out).2 hb2.1.1))
              have HN3 := hid (show ∀ u ∈ d.upd.take (k + 1), u.1 ∉ d.del.map (·.1) from by
                rw [List.take_add_one, HXX.out, Option.toList_some]
                exact okSnoc HGN.out hb2.1.2)
              have HN2 := hid (pw_snoc HAS.out HXN.out (lateB_no hb2.2 HXN.out))
              clear hb hb2
              go_wp2_with fail
              have K7 := K5.drop ((List.sublist_cons_self _ _).trans ((List.sublist_cons_self _ _).trans (List.sublist_cons_self _ _)))
              go_roundw
              case rel => exact ⟨k + 1, by omega, by first | rfl | go_num, HN, HN3, HN2, K7⟩
              case measure => simp [intOf]; omega
            · have HN := hid (show soundD t d = false from by
                rw [Bool.or_eq_true, Bool.or_eq_true, Bool.not_eq_true', decide_eq_false_iff_not, decide_eq_true_eq] at hb
                rcases hb with (hb | hb) | hb
                · exact sound_no2 hval.out HXX.out (by rw [HO.out] at hb; exact hb)
                · exact sound_gone HXX.out hb
                · exact sound_upd (lateB_asc hb HXN.out))
              clear hb
              go_wp2_with fail
              go_ret
              exact ⟨by rw [HN.out] <;> rfl, K5.below⟩
        · obtain rfl : nu = k := by omega
          have hd : decide ((nu : Int) < (nu : Int)) = false := by simp
          have hle : d.upd.length ≤ nu := by rw [← HUR.out, List.length_map, HUL.out]; exact Nat.le_refl _
          have HUD := hid (show ∀ u ∈ d.upd, (u.1, u.2.1) ∈ t.rs from by
            have h := HIN.out
            rwa [List.take_of_length_le hle] at h)
          have HUG := hid (show ∀ u ∈ d.upd, u.1 ∉ d.del.map (·.1) from by
            have h := HGN.out
            rwa [List.take_of_length_le hle] at h)
          have HUA := hid (show (d.upd.map (·.1)).Pairwise (· < ·) from by
            have h := HAS.out
            rwa [List.take_of_length_le (by rw [List.length_map]; exact hle)] at h)
          clear hle HIN HGN HAS
          have F := H.facts
          simp only [factsL, cellsF, Nat.reduceAdd, zf, zl] at F
          go_wp2_with fail
          go_loopw [111] (fun iv wr => ∃ k : Nat, k ≤ ni ∧ iv = .int .i64 k ∧ Hid (∀ r ∈ d.ins.take k, t.nx ≤ r.1) ∧ Hid (((d.ins.map (·.1)).take k).Pairwise (· < ·)) ∧ Hold M none w wr [.ob gm (MSet 4 intFam gm nd (fun z => z ∈ d.del.map (·.1))), .cst g3 41 #[.string d.nm, .slice I ni ci, .slice D nd cd, .slice U nu cu], .cst g2 27 #[.string t.nm, .slice tA tn tc, .int .i64 t.nx, .slice tB tm td], .ro (RwsIn tB tm lt), .ro (RwsIn I ni li), .ro (RwsIn D nd ld), .ro (PrsIn U nu lu)]) (fun iv _ => ni - (intOf iv).toNat)
          case atStart => exact ⟨0, by omega, rfl, hid (fun r hr => by simp at hr), hid (by simp), H⟩
          case round =>
            clear H F
            obtain ⟨k, hk, rfl, HIN, HAS, H⟩ := hrel
            by_cases hlt : k < ni
            · have hd : decide ((k : Int) < (ni : Int)) = true := by simp; omega
              have i0 : (0 : Int) ≤ (k : Int) := by omega
              have i1 : (k : Int) < (ni : Int) := by omega
              obtain ⟨x, hx⟩ := get_of HIL.out hlt
              obtain ⟨bb, oo, rfl, hbb, c0, c1, _⟩ := (H.ro 4 rfl).now.at_ hx
              have HXX := hid (show d.ins[k]? = some x.row by rw [← HIR.out, List.getElem?_map, hx]; rfl)
              obtain ⟨xid, xA, xn, xc, xvs⟩ := x
              dsimp only at *
              have HXN := hid (show (d.ins.map (·.1))[k]? = some xid from ids_at HXX.out)
              clear hx
              have K3 := H.alloc_cst #[.int .i64 xid, .slice xA xn xc] 53
              have F3 := K3.facts
              simp only [factsL, cellsF, Nat.reduceAdd, zf, zl] at F3
              clear H
              go_wp2_with fail
              obtain ⟨gx, hgx⟩ : ∃ g, g = wr.heap.size := ⟨_, rfl⟩
              rw [← hgx] at K3 F3 ⊢
              have HGX := hid hgx
              clear hgx c0 c1
              generalize World.alloc wr _ = w3 at K3 F3 ⊢
              go_cut [136] (fun s wx => s = .bool (decide (xid < t.nx) || lateB (d.ins.map (·.1)) k) ∧ Hold M none w wx [.cst gx 53 #[.int .i64 xid, .slice xA xn xc], .ob gm (MSet 4 intFam gm nd (fun z => z ∈ d.del.map (·.1))), .cst g3 41 #[.string d.nm, .slice (some ⟨bb, oo, none⟩) ni ci, .slice D nd cd, .slice U nu cu], .cst g2 27 #[.string t.nm, .slice tA tn tc, .int .i64 t.nx, .slice tB tm td], .ro (RwsIn tB tm lt), .ro (RwsIn (some ⟨bb, oo, none⟩) ni li), .ro (RwsIn D nd ld), .ro (PrsIn U nu lu)])
              case first =>
                clear F3
                obtain ⟨KL, hKL, KN⟩ := K3.name
                have HF : Hid (∀ wv, Hold M none w wv KL → wv.cell? ⟨gx, 0, none⟩ = some (.int .i64 xid) ∧ gx < wv.heap.size ∧ wv.cell? ⟨g3, 1, none⟩ = some (.slice (some ⟨bb, oo, none⟩) ni ci) ∧ g3 < wv.heap.size ∧ wv.cell? ⟨g2, 2, none⟩ = some (.int .i64 t.nx) ∧ g2 < wv.heap.size) := hid fun wv HC => by
                  rw [hKL] at HC
                  have y1 := HC.cst_ 0 rfl
                  have y2 := HC.cst_ 2 rfl
                  have y3 := HC.cst_ 3 rfl
                  exact ⟨cell_of_row _ _ 0 _ _ _ y1, Blk.lt y1, cell_of_row _ _ 1 _ _ _ y2, Blk.lt y2, cell_of_row _ _ 2 _ _ _ y3, Blk.lt y3⟩
                have HKL := hid hKL
                clear hKL
                by_cases hlo : xid < t.nx
                · have hc0 : decide (xid < t.nx) = true := decide_eq_true hlo
                  have HBAD := hid (show (decide (xid < t.nx) || lateB (d.ins.map (·.1)) k) = true by rw [hc0]; rfl)
                  clear hlo
                  refine wp_region_any (by kernel_rfl) ?_
                  refine wpAny_hold 20 144 (KL) (spL []) (by kernel_rfl) (by kernel_rfl) (by kernel_rfl) rfl ?_ (KN.drew) ?_
                  · exact stays_nil _
                  simp only [zd, Act.put, List.getElem_toArray, List.getElem_cons_zero, List.getElem_cons_succ, zl]
                  refine dw_val rfl rfl rfl ?_; apply Exists.intro; refine ⟨fun wv HC => ?_, ?_⟩
                  ·  go_simp <;> rfl
                  simp only [Act.put, zl]
                  refine dw_val rfl rfl rfl ?_; apply Exists.intro; refine ⟨fun wv HC => ?_, ?_⟩
                  · obtain ⟨f0, f1, f2, f3, f4, f5⟩ := HF.out _ HC; go_simp <;> rfl
                  simp only [Act.put, zl]
                  refine dw_val rfl rfl rfl ?_; apply Exists.intro; refine ⟨fun wv HC => ?_, ?_⟩
                  ·  go_simp <;> rfl
                  simp only [Act.put, zl]
                  refine dw_val rfl rfl rfl ?_; apply Exists.intro; refine ⟨fun wv HC => ?_, ?_⟩
                  · obtain ⟨f0, f1, f2, f3, f4, f5⟩ := HF.out _ HC; go_simp <;> rfl
                  simp only [Act.put, zl]
                  refine dw_val rfl rfl rfl ?_; apply Exists.intro; refine ⟨fun wv HC => ?_, ?_⟩
                  ·  go_simp <;> rfl
                  simp only [Act.put, zl]
                  refine dw_val rfl rfl rfl ?_; apply Exists.intro; refine ⟨fun wv HC => ?_, ?_⟩
                  ·  go_simp <;> rfl
                  simp only [Act.put, zl]
                  refine dw_skip rfl rfl rfl ?_
                  simp only [Act.put, zl]
                  refine dw_skip rfl rfl rfl ?_
                  simp only [Act.put, zl]
                  refine dw_skip rfl rfl rfl ?_
                  simp only [Act.put, zl]
                  refine dw_skip rfl rfl rfl ?_
                  simp only [Act.put, zl]
                  refine dw_skip rfl rfl rfl ?_
                  simp only [Act.put, zl]
                  refine dw_skip rfl rfl rfl ?_
                  simp only [Act.put, zl]
                  refine dw_skip rfl rfl rfl ?_
                  simp only [Act.put, zl]
                  refine dw_skip rfl rfl rfl ?_
                  simp only [Act.put, zl]
                  refine dw_skip rfl rfl rfl ?_
                  simp only [Act.put, zl]
                  refine dw_skip rfl rfl rfl ?_
                  simp only [Act.put, zl]
                  refine dw_skip rfl rfl rfl ?_
                  simp only [Act.put, zl]
                  refine dw_skip rfl rfl rfl ?_
                  simp only [Act.put, zl]
                  refine dw_skip rfl rfl rfl ?_
                  simp only [Act.put, zl]
                  refine dw_skip rfl rfl rfl ?_
                  simp only [Act.put, zl]
                  refine rel_nil ?_
                  rintro wx2 HX
                  rintro _hrm _HGW
                  clear _HGW _hrm
                  rw [HKL.out] at HX
                  go_wp2_with fail
                  go_meet
                  exact ⟨by rw [HBAD.out], HX⟩
                have hc0 : decide (xid < t.nx) = false := decide_eq_false hlo
                by_cases hk0 : k = 0
                · obtain rfl : k = 0 := hk0
                  have HBAD := hid (show (decide (xid < t.nx) || lateB (d.ins.map (·.1)) 0) = false by rw [hc0]; rfl)
                  clear hlo
                  refine wp_region_any (by kernel_rfl) ?_
                  refine wpAny_hold 20 144 (KL) (spL []) (by kernel_rfl) (by kernel_rfl) (by kernel_rfl) rfl ?_ (KN.drew) ?_
                  · exact stays_nil _
                  simp only [zd, Act.put, List.getElem_toArray, List.getElem_cons_zero, List.getElem_cons_succ, zl]
                  refine dw_val rfl rfl rfl ?_; apply Exists.intro; refine ⟨fun wv HC => ?_, ?_⟩
                  ·  go_simp <;> rfl
                  simp only [Act.put, zl]
                  refine dw_val rfl rfl rfl ?_; apply Exists.intro; refine ⟨fun wv HC => ?_, ?_⟩
                  · obtain ⟨f0, f1, f2, f3, f4, f5⟩ := HF.out _ HC; go_simp <;> rfl
                  simp only [Act.put, zl]
                  refine dw_val rfl rfl rfl ?_; apply Exists.intro; refine ⟨fun wv HC => ?_, ?_⟩
                  ·  go_simp <;> rfl
                  simp only [Act.put, zl]
                  refine dw_val rfl rfl rfl ?_; apply Exists.intro; refine ⟨fun wv HC => ?_, ?_⟩
                  · obtain ⟨f0, f1, f2, f3, f4, f5⟩ := HF.out _ HC; go_simp <;> rfl
                  simp only [Act.put, zl]
                  refine dw_val rfl rfl rfl ?_; apply Exists.intro; refine ⟨fun wv HC => ?_, ?_⟩
                  ·  go_simp <;> rfl
                  simp only [Act.put, zl]
                  refine dw_val rfl rfl rfl ?_; apply Exists.intro; refine ⟨fun wv HC => ?_, ?_⟩
                  ·  go_simp <;> rfl
                  simp only [Act.put, zl]
                  refine dw_val rfl rfl rfl ?_; apply Exists.intro; refine ⟨fun wv HC => ?_, ?_⟩
                  ·  go_simp <;> rfl
                  simp only [Act.put, zl]
                  refine dw_val rfl rfl rfl ?_; apply Exists.intro; refine ⟨fun wv HC => ?_, ?_⟩
                  ·  go_simp <;> rfl
                  simp only [Act.put, zl]
                  refine dw_val rfl rfl rfl ?_; apply Exists.intro; refine ⟨fun wv HC => ?_, ?_⟩
                  ·  go_simp <;> rfl
                  simp only [Act.put, zl]
                  refine dw_skip rfl rfl rfl ?_
                  simp only [Act.put, zl]
                  refine dw_skip rfl rfl rfl ?_
                  simp only [Act.put, zl]
                  refine dw_skip rfl rfl rfl ?_
                  simp only [Act.put, zl]
                  refine dw_skip rfl rfl rfl ?_
                  simp only [Act.put, zl]
                  refine dw_skip rfl rfl rfl ?_
                  simp only [Act.put, zl]
                  refine dw_skip rfl rfl rfl ?_
                  simp only [Act.put, zl]
                  refine dw_skip rfl rfl rfl ?_
                  simp only [Act.put, zl]
                  refine dw_skip rfl rfl rfl ?_
                  simp only [Act.put, zl]
                  refine dw_skip rfl rfl rfl ?_
                  simp only [Act.put, zl]
                  refine dw_skip rfl rfl rfl ?_
                  simp only [Act.put, zl]
                  refine dw_val rfl rfl rfl ?_; apply Exists.intro; refine ⟨fun wv HC => ?_, ?_⟩
                  ·  go_simp <;> rfl
                  simp only [Act.put, zl]
                  refine rel_nil ?_
                  rintro wx2 HX
                  rintro _hrm _HGW
                  clear _HGW _hrm
                  rw [HKL.out] at HX
                  go_wp2_with fail
                  go_meet
                  exact ⟨by rw [HBAD.out], HX⟩
                obtain ⟨j, rfl⟩ : ∃ j, k = j + 1 := ⟨k - 1, by omega⟩
                have hc1 : decide (((j + 1 : Nat) : Int) > 0) = true := by rw [decide_eq_true_iff]; omega
                have hc3 : decide ((0 : Int) < (j : Int) + 1) = true := by rw [decide_eq_true_iff]; omega
                obtain ⟨p, hp⟩ := get_of HIL.out (show j < ni by omega)
                have HPP := hid (show (d.ins.map (·.1))[j]? = some p.id by rw [← HIR.out, List.map_map, List.getElem?_map, hp]; rfl)
                have HP : Hid (∀ wv, Hold M none w wv KL → wv.cell? ⟨bb, oo + j * 2, none⟩ = some (.int .i64 p.id) ∧ bb < wv.heap.size) := hid fun wv HC => by
                  rw [HKL.out] at HC
                  obtain ⟨b', o', e', h3, h4, _⟩ := (HC.ro 5 rfl).now.at_ hp
                  obtain ⟨rfl, rfl⟩ : bb = b' ∧ oo = o' := by injection e' with e'; injection e' with e1 e2; exact ⟨e1, e2⟩
                  exact ⟨h4, h3⟩
                have j0 : (0 : Int) ≤ (j : Int) := by omega
                have j1 : (j : Int) < (ni : Int) := by omega
                clear hp hk0 hlo
                by_cases hle : p.id ≥ xid
                · have hc2 : decide (p.id ≥ xid) = true := decide_eq_true hle
                  have HBAD := hid (show (decide (xid < t.nx) || lateB (d.ins.map (·.1)) (j + 1)) = true by rw [lateB_at HPP.out HXN.out, decide_eq_true (show xid ≤ p.id from hle)]; simp)
                  clear hle
                  refine wp_region_any (by kernel_rfl) ?_
                  refine wpAny_hold 20 144 (KL) (spL []) (by kernel_rfl) (by kernel_rfl) (by kernel_rfl) rfl ?_ (KN.drew) ?_
                  · exact stays_nil _
                  simp only [zd, Act.put, List.getElem_toArray, List.getElem_cons_zero, List.getElem_cons_succ, zl]
                  refine dw_val rfl rfl rfl ?_; apply Exists.intro; refine ⟨fun wv HC => ?_, ?_⟩
                  ·  go_simp <;> rfl
                  simp only [Act.put, zl]
                  refine dw_val rfl rfl rfl ?_; apply Exists.intro; refine ⟨fun wv HC => ?_, ?_⟩
                  · obtain ⟨f0, f1, f2, f3, f4, f5⟩ := HF.out _ HC; go_simp <;> rfl
                  simp only [Act.put, zl]
                  refine dw_val rfl rfl rfl ?_; apply Exists.intro; refine ⟨fun wv HC => ?_, ?_⟩
                  ·  go_simp <;> rfl
                  simp only [Act.put, zl]
                  refine dw_val rfl rfl rfl ?_; apply Exists.intro; refine ⟨fun wv HC => ?_, ?_⟩
                  · obtain ⟨f0, f1, f2, f3, f4, f5⟩ := HF.out _ HC; go_simp <;> rfl
                  simp only [Act.put, zl]
                  refine dw_val rfl rfl rfl ?_; apply Exists.intro; refine ⟨fun wv HC => ?_, ?_⟩
                  ·  go_simp <;> rfl
                  simp only [Act.put, zl]
                  refine dw_val rfl rfl rfl ?_; apply Exists.intro; refine ⟨fun wv HC => ?_, ?_⟩
                  ·  go_simp <;> rfl
                  simp only [Act.put, zl]
                  refine dw_val rfl rfl rfl ?_; apply Exists.intro; refine ⟨fun wv HC => ?_, ?_⟩
                  ·  go_simp <;> rfl
                  simp only [Act.put, zl]
                  refine dw_val rfl rfl rfl ?_; apply Exists.intro; refine ⟨fun wv HC => ?_, ?_⟩
                  ·  go_simp <;> rfl
                  simp only [Act.put, zl]
                  refine dw_val rfl rfl rfl ?_; apply Exists.intro; refine ⟨fun wv HC => ?_, ?_⟩
                  ·  go_simp <;> rfl
                  simp only [Act.put, zl]
                  refine dw_val rfl rfl rfl ?_; apply Exists.intro; refine ⟨fun wv HC => ?_, ?_⟩
                  ·  go_simp <;> rfl
                  simp only [Act.put, zl]
                  refine dw_val rfl rfl rfl ?_; apply Exists.intro; refine ⟨fun wv HC => ?_, ?_⟩
                  · obtain ⟨f0, f1, f2, f3, f4, f5⟩ := HF.out _ HC; obtain ⟨p0, p1⟩ := HP.out _ HC; go_simp <;> rfl
                  simp only [Act.put, zl]
                  refine dw_val rfl rfl rfl ?_; apply Exists.intro; refine ⟨fun wv HC => ?_, ?_⟩
                  ·  go_simp <;> rfl
                  simp only [Act.put, zl]
                  refine dw_val rfl rfl rfl ⟨.int .i64 (j : Int), fun wv HC => ?_, ?_⟩
                  · have hw_ : wrap64 ((j : Int) + 1 - 1) = (j : Int) := by unfold wrap64; omega
                    go_simp <;> first | rfl | omega | (rw [IntKind.wrap_i64]; unfold wrap64; omega) | (rw [IntKind.wrap_i64]; omega)
                  simp only [Act.put, zl]
                  refine dw_val rfl rfl rfl ?_; apply Exists.intro; refine ⟨fun wv HC => ?_, ?_⟩
                  ·  go_simp <;> rfl
                  simp only [Act.put, zl]
                  refine dw_val rfl rfl rfl ?_; apply Exists.intro; refine ⟨fun wv HC => ?_, ?_⟩
                  ·  go_simp <;> rfl
                  simp only [Act.put, zl]
                  refine dw_val rfl rfl rfl ?_; apply Exists.intro; refine ⟨fun wv HC => ?_, ?_⟩
                  · obtain ⟨f0, f1, f2, f3, f4, f5⟩ := HF.out _ HC; obtain ⟨p0, p1⟩ := HP.out _ HC; go_simp <;> rfl
                  simp only [Act.put, zl]
                  refine dw_val rfl rfl rfl ?_; apply Exists.intro; refine ⟨fun wv HC => ?_, ?_⟩
                  ·  go_simp <;> rfl
                  simp only [Act.put, zl]
                  refine dw_val rfl rfl rfl ?_; apply Exists.intro; refine ⟨fun wv HC => ?_, ?_⟩
                  · obtain ⟨f0, f1, f2, f3, f4, f5⟩ := HF.out _ HC; obtain ⟨p0, p1⟩ := HP.out _ HC; go_simp <;> rfl
                  simp only [Act.put, zl]
                  refine dw_val rfl rfl rfl ?_; apply Exists.intro; refine ⟨fun wv HC => ?_, ?_⟩
                  ·  go_simp <;> rfl
                  simp only [Act.put, zl]
                  refine dw_val rfl rfl rfl ?_; apply Exists.intro; refine ⟨fun wv HC => ?_, ?_⟩
                  ·  go_simp <;> rfl
                  simp only [Act.put, zl]
                  refine rel_nil ?_
                  rintro wx2 HX
                  rintro _hrm _HGW
                  clear _HGW _hrm
                  rw [HKL.out] at HX
                  go_wp2_with fail
                  go_meet
                  exact ⟨by rw [HBAD.out], HX⟩
                · have hc2 : decide (p.id ≥ xid) = false := decide_eq_false hle
                  have HBAD := hid (show (decide (xid < t.nx) || lateB (d.ins.map (·.1)) (j + 1)) = false by rw [lateB_at HPP.out HXN.out, decide_eq_false (show ¬ xid ≤ p.id from hle), hc0]; rfl)
                  clear hle
                  refine wp_region_any (by kernel_rfl) ?_
                  refine wpAny_hold 20 144 (KL) (spL []) (by kernel_rfl) (by kernel_rfl) (by kernel_rfl) rfl ?_ (KN.drew) ?_
                  · exact stays_nil _
                  simp only [zd, Act.put, List.getElem_toArray, List.getElem_cons_zero, List.getElem_cons_succ, zl]
                  refine dw_val rfl rfl rfl ?_; apply Exists.intro; refine ⟨fun wv HC => ?_, ?_⟩
                  ·  go_simp <;> rfl
                  simp only [Act.put, zl]
                  refine dw_val rfl rfl rfl ?_; apply Exists.intro; refine ⟨fun wv HC => ?_, ?_⟩
                  · obtain ⟨f0, f1, f2, f3, f4, f5⟩ := HF.out _ HC; go_simp <;> rfl
                  simp only [Act.put, zl]
                  refine dw_val rfl rfl rfl ?_; apply Exists.intro; refine ⟨fun wv HC => ?_, ?_⟩
                  ·  go_simp <;> rfl
                  simp only [Act.put, zl]
                  refine dw_val rfl rfl rfl ?_; apply Exists.intro; refine ⟨fun wv HC => ?_, ?_⟩
                  · obtain ⟨f0, f1, f2, f3, f4, f5⟩ := HF.out _ HC; go_simp <;> rfl
                  simp only [Act.put, zl]
                  refine dw_val rfl rfl rfl ?_; apply Exists.intro; refine ⟨fun wv HC => ?_, ?_⟩
                  ·  go_simp <;> rfl
                  simp only [Act.put, zl]
                  refine dw_val rfl rfl rfl ?_; apply Exists.intro; refine ⟨fun wv HC => ?_, ?_⟩
                  ·  go_simp <;> rfl
                  simp only [Act.put, zl]
                  refine dw_val rfl rfl rfl ?_; apply Exists.intro; refine ⟨fun wv HC => ?_, ?_⟩
                  ·  go_simp <;> rfl
                  simp only [Act.put, zl]
                  refine dw_val rfl rfl rfl ?_; apply Exists.intro; refine ⟨fun wv HC => ?_, ?_⟩
                  ·  go_simp <;> rfl
                  simp only [Act.put, zl]
                  refine dw_val rfl rfl rfl ?_; apply Exists.intro; refine ⟨fun wv HC => ?_, ?_⟩
                  ·  go_simp <;> rfl
                  simp only [Act.put, zl]
                  refine dw_val rfl rfl rfl ?_; apply Exists.intro; refine ⟨fun wv HC => ?_, ?_⟩
                  ·  go_simp <;> rfl
                  simp only [Act.put, zl]
                  refine dw_val rfl rfl rfl ?_; apply Exists.intro; refine ⟨fun wv HC => ?_, ?_⟩
                  · obtain ⟨f0, f1, f2, f3, f4, f5⟩ := HF.out _ HC; obtain ⟨p0, p1⟩ := HP.out _ HC; go_simp <;> rfl
                  simp only [Act.put, zl]
                  refine dw_val rfl rfl rfl ?_; apply Exists.intro; refine ⟨fun wv HC => ?_, ?_⟩
                  ·  go_simp <;> rfl
                  simp only [Act.put, zl]
                  refine dw_val rfl rfl rfl ⟨.int .i64 (j : Int), fun wv HC => ?_, ?_⟩
                  · have hw_ : wrap64 ((j : Int) + 1 - 1) = (j : Int) := by unfold wrap64; omega
                    go_simp <;> first | rfl | omega | (rw [IntKind.wrap_i64]; unfold wrap64; omega) | (rw [IntKind.wrap_i64]; omega)
                  simp only [Act.put, zl]
                  refine dw_val rfl rfl rfl ?_; apply Exists.intro; refine ⟨fun wv HC => ?_, ?_⟩
                  ·  go_simp <;> rfl
                  simp only [Act.put, zl]
                  refine dw_val rfl rfl rfl ?_; apply Exists.intro; refine ⟨fun wv HC => ?_, ?_⟩
                  ·  go_simp <;> rfl
                  simp only [Act.put, zl]
                  refine dw_val rfl rfl rfl ?_; apply Exists.intro; refine ⟨fun wv HC => ?_, ?_⟩
                  · obtain ⟨f0, f1, f2, f3, f4, f5⟩ := HF.out _ HC; obtain ⟨p0, p1⟩ := HP.out _ HC; go_simp <;> rfl
                  simp only [Act.put, zl]
                  refine dw_val rfl rfl rfl ?_; apply Exists.intro; refine ⟨fun wv HC => ?_, ?_⟩
                  ·  go_simp <;> rfl
                  simp only [Act.put, zl]
                  refine dw_val rfl rfl rfl ?_; apply Exists.intro; refine ⟨fun wv HC => ?_, ?_⟩
                  · obtain ⟨f0, f1, f2, f3, f4, f5⟩ := HF.out _ HC; obtain ⟨p0, p1⟩ := HP.out _ HC; go_simp <;> rfl
                  simp only [Act.put, zl]
                  refine dw_val rfl rfl rfl ?_; apply Exists.intro; refine ⟨fun wv HC => ?_, ?_⟩
                  ·  go_simp <;> rfl
                  simp only [Act.put, zl]
                  refine dw_val rfl rfl rfl ?_; apply Exists.intro; refine ⟨fun wv HC => ?_, ?_⟩
                  ·  go_simp <;> rfl
                  simp only [Act.put, zl]
                  refine rel_nil ?_
                  rintro wx2 HX
                  rintro _hrm _HGW
                  clear _HGW _hrm
                  rw [HKL.out] at HX
                  go_wp2_with fail
                  go_meet
                  exact ⟨by rw [HBAD.out], HX⟩
              case rest =>
                clear K3 F3
                obtain ⟨rfl, K5⟩ := hcut
                cases hb : (decide (xid < t.nx) || lateB (d.ins.map (·.1)) k)
                · rw [Bool.or_eq_false_iff, decide_eq_false_iff_not] at hb
                  have HN := hid (show ∀ r ∈ d.ins.take (k + 1), t.nx ≤ r.1 from by
                    rw [List.take_add_one, HXX.out, Option.toList_some]
                    exact okSnoc HIN.out (by have := hb.1; show t.nx ≤ xid; omega))
                  have HN2 := hid (pw_snoc HAS.out HXN.out (lateB_no hb.2 HXN.out))
                  clear hb
                  go_wp2_with fail
                  have K7 := K5.drop (List.sublist_cons_self _ _)
                  go_roundw
                  case rel => exact ⟨k + 1, by omega, by first | rfl | go_num, HN, HN2, K7⟩
                  case measure => simp [intOf]; omega
                · have HN := hid (show soundD t d = false from by
                    rw [Bool.or_eq_true, decide_eq_true_eq] at hb
                    rcases hb with hb | hb
                    · exact sound_low HXX.out hb HIN.out
                    · exact sound_ins (lateB_asc hb HXN.out))
                  clear hb
                  go_wp2_with fail
                  go_ret
                  exact ⟨by rw [HN.out] <;> rfl, K5.below⟩
            · obtain rfl : ni = k := by omega
              have hd : decide ((ni : Int) < (ni : Int)) = false := by simp
              have hle : d.ins.length ≤ ni := by rw [← HIR.out, List.length_map, HIL.out]; exact Nat.le_refl _
              have HN := hid (show soundD t d = decide (d.nm = t.nm) from sound_end HAA.out HUA.out (by
                have h := HAS.out
                rwa [List.take_of_length_le (by rw [List.length_map]; exact hle)] at h) HAD.out HUD.out (by
                have h := HIN.out
                rwa [List.take_of_length_le hle] at h) HUG.out)
              clear hle
              have F := H.facts
              simp only [factsL, cellsF, Nat.reduceAdd, zf, zl] at F
              by_cases hnm : d.nm = t.nm
              · have h1 : (d.nm.toList == t.nm.toList) = true := by simp [hnm]
                have HN2 := hid (show soundD t d = true by rw [HN.out]; exact decide_eq_true hnm)
                clear hnm
                go_wp2_with fail
                go_ret
                exact ⟨by rw [HN2.out] <;> rfl, H.below⟩
              · have h1 : (d.nm.toList == t.nm.toList) = false := by rw [beq_eq_false_iff_ne]; exact fun h => hnm (bytesEq h)
                have HN2 := hid (show soundD t d = false by rw [HN.out]; exact decide_eq_false hnm)
                clear hnm
                go_wp2_with fail
                go_ret
                exact ⟨by rw [HN2.out] <;> rfl, H.below⟩
end Go.Proofs.YtjpgbhakkfgecaaDoor

namespace Go.Proofs.YtjpgbhakkfgecaaDoor
open Go.RowKit
set_option linter.unusedVariables false
set_option linter.unusedSimpArgs false

def updF (us : List Upd) (id : Int) (v : List Vl) : List Vl := us.foldl (fun a u => if u.1 = id then u.2.2 else a) v
theorem updF_hit {us : List Upd} {j : Nat} {u : Upd} {id : Int} {v : List Vl} (hu : us[j]? = some u) (h : u.1 = id) : updF (us.take (j + 1)) id v = u.2.2 := by
  unfold updF
  rw [List.take_add_one, hu, Option.toList_some, List.foldl_append]
  simp [h]
theorem updF_miss {us : List Upd} {j : Nat} {u : Upd} {id : Int} {v : List Vl} (hu : us[j]? = some u) (h : ¬ u.1 = id) : updF (us.take (j + 1)) id v = updF (us.take j) id v := by
  unfold updF
  rw [List.take_add_one, hu, Option.toList_some, List.foldl_append]
  simp [h]
theorem updF_none {id : Int} : ∀ {us : List Upd} (v : List Vl), (∀ u ∈ us, u.1 ≠ id) → updF us id v = v
  | [], _, _ => rfl
  | u :: us, v, h => by
    have h1 := h u (List.mem_cons_self ..)
    show updF us id (if u.1 = id then u.2.2 else v) = v
    rw [if_neg h1]
    exact updF_none v fun x hx => h x (List.mem_cons_of_mem _ hx)
theorem updF_find : ∀ {us : List Upd}, (us.map (·.1)).Pairwise (· < ·) → ∀ (id : Int) (v : List Vl), updF us id v = (findU us id).getD v
  | [], _, _, _ => rfl
  | u :: us, h, id, v => by
    rw [List.map_cons, List.pairwise_cons] at h
    show updF us id (if u.1 = id then u.2.2 else v) = (findU (u :: us) id).getD v
    unfold findU
    rw [List.find?_cons]
    by_cases hu : u.1 = id
    · rw [if_pos hu, show (u.1 == id) = true by simpa using hu]
      rw [updF_none _ fun x hx e => by have := h.1 x.1 (List.mem_map_of_mem hx); omega]
      rfl
    · rw [if_neg hu, show (u.1 == id) = false by simpa using hu]
      exact updF_find h.2 id v
theorem sound_out {t : Tb} {d : Dl} (h : soundD t d = true) : (d.ins.map (·.1)).Pairwise (· < ·) ∧ (d.upd.map (·.1)).Pairwise (· < ·) ∧ ∀ r ∈ d.ins, t.nx ≤ r.1 := by
  unfold soundD ordD ascB at h
  simp only [Bool.and_eq_true, decide_eq_true_eq] at h
  obtain ⟨⟨⟨⟨⟨⟨h1, h2⟩, h3⟩, h4⟩, h5⟩, h6⟩, h7⟩ := h
  refine ⟨h1, h3, fun r hr => ?_⟩
  unfold fstD at h5
  split at h5
  · rename_i he; rw [he] at hr; cases hr
  · rename_i r0 rest he
    rw [decide_eq_true_eq] at h5
    rw [he, List.map_cons, List.pairwise_cons] at h1
    rw [he] at hr
    rcases List.mem_cons.1 hr with e | e
    · subst e; exact h5
    · have := h1.1 r.1 (List.mem_map_of_mem e); omega
theorem wrap_one {x : Int} (h : I64 x) (k : x < 2147483648) : wrap64 (x + 1) = x + 1 := by
  obtain ⟨h1, h2⟩ := h
  unfold wrap64
  omega

set_option maxHeartbeats 8000000 in
set_option maxRecDepth 100000 in
theorem rapl8_any (M : Nat → Prop) (w : World) (hM : ∀ b, M b → b < w.heap.size) (va vd : Value) (t : Tb) (d : Dl) (hT : TbAt w M va t) (hD : DlAt w M vd d) (hst : t.nm.size ≤ maxLen) (hct : ∀ x ∈ t.cs, x.name.size ≤ maxLen) (hrt : t.rs.length ≤ 4398046511104) (hi : d.ins.length ≤ 1000000) (hde : d.del.length ≤ 4398046511104) (hup : d.upd.length ≤ 4398046511104) (hvi : ∀ r ∈ d.ins, r.2.length ≤ 4398046511104) (hvu : ∀ u ∈ d.upd, u.2.2.length ≤ 4398046511104) :
    Calls Tryd.prog 57 #[va, vd] w fun e w' => ApRet w M (applyD t d) e w' := by
  obtain ⟨tA, tn, tc, tB, tm, td, lt, rfl, a1, a2, a3, a4, a5, a6, a7, a8⟩ := hT
  obtain ⟨I, ni, ci, D, nd, cd, U, nu, cu, li, ld, lu, rfl, i1, i2, i3, r1, r2, r3, o1, o2, o3, e1, e2, e3⟩ := hD
  have HTL := hid (show lt.length = tm from a6.now.len)
  have HIL := hid (show li.length = ni from r1.now.len)
  have HDL := hid (show ld.length = nd from r2.now.len)
  have HUL := hid (show lu.length = nu from r3.now.len)
  have HTR := hid a8
  have HIR := hid e1
  have HDR := hid e2
  have HUR := hid e3
  have HTO := hid a7
  have HIO := hid o1
  have HDO := hid o2
  have HUO := hid o3
  have HTE := hid a6.now
  have HTC := hid (show t.cs.length = tn from cols_n a5.now)
  have HIN6 : Hid (∀ x ∈ li, x.n ≤ 4398046511104) := hid fun x hx => by
    have h1 := (r1.now.2 x hx).len
    have h2 := hvi x.row (by rw [← e1]; exact List.mem_map_of_mem hx)
    simp only [Rw.row] at h2
    omega
  have HUN : Hid (∀ x ∈ lu, x.nn ≤ 4398046511104) := hid fun x hx => by
    have h1 := (r3.now.2 x hx).2.len
    have h2 := hvu x.upd (by rw [← e3]; exact List.mem_map_of_mem hx)
    simp only [Pr.upd] at h2
    omega
  have htm : tm ≤ 4398046511104 := by have := HTL.out; have h := congrArg List.length a8; rw [List.length_map] at h; omega
  have hni : ni ≤ 1000000 := by have := HIL.out; have h := congrArg List.length e1; rw [List.length_map] at h; omega
  have hnd : nd ≤ 4398046511104 := by have := HDL.out; have h := congrArg List.length e2; rw [List.length_map] at h; omega
  have hnu : nu ≤ 4398046511104 := by have := HUL.out; have h := congrArg List.length e3; rw [List.length_map] at h; omega
  have K0 := (((((((((Hold.start M w hM).add (r3.less (by simp [Mut]))).add (r2.less (by simp [Mut, Hp.foot]))).add (r1.less (by simp [Mut, Hp.foot]))).add (a6.less (by simp [Mut, Hp.foot]))).add (a5.less (by simp [Mut, Hp.foot]))).alloc_cst #[.string t.nm, .slice tA tn tc, .int .i64 t.nx, .slice tB tm td] 27).alloc_cst #[.string d.nm, .slice I ni ci, .slice D nd cd, .slice U nu cu] 41).alloc #[.string ⟨#[]⟩, .slice none 0 0, .int .i64 0, .slice none 0 0] 27)
  simp only [World.size_alloc] at K0
  have F0 := K0.facts
  simp only [factsL, cellsF, Nat.reduceAdd, zf, zl] at F0
  clear a5 a6 a7 a8 r1 r2 r3 o1 o2 o3 e1 e2 e3
  go_enter Tryd.func57, Tryd.ntmps57
  go_wp2_with fail
  obtain ⟨g2, hg2⟩ : ∃ g, g = w.heap.size := ⟨_, rfl⟩
  obtain ⟨g3, hg3⟩ : ∃ g, g = g2 + 1 := ⟨_, rfl⟩
  obtain ⟨g4, hg4⟩ : ∃ g, g = g3 + 1 := ⟨_, rfl⟩
  rw [← hg2, ← hg3, ← hg4] at K0 ⊢
  clear F0
  generalize ((w.alloc _).alloc _).alloc _ = w1 at K0 ⊢
  have HGX0 := hid hg2
  clear hg2 hg3 hg4
  have hv := rtvalid_any _ _ K0.mutLt t.nm tA tn tc t.cs t.nx tB tm td lt (K0.ro 3 rfl) (K0.ro 4 rfl) (by omega) (by omega) HTO.out hst hct
  rw [HTR.out] at hv
  refine hv.mono ?_
  clear hv
  rintro e w2 ⟨rfl, b1⟩
  have K1 := K0.call b1
  clear K0 b1
  have F1 := K1.facts
  simp only [factsL, cellsF, Nat.reduceAdd, zf, zl] at F1
  cases hv : tabB t.nm t.cs t.nx t.rs
  · have HN := hid (applyD_1 (d := d) hv)
    clear hv
    have KN := (((K1.store 0 rfl 0 (.string ⟨#[]⟩)).store 0 rfl 1 (.slice none 0 0)).store 0 rfl 2 (.int .i64 0)).store 0 rfl 3 (.slice none 0 0)
    go_wp2_with fail
    exact bodyPost_ret (v := .tuple #[.agg #[.string ⟨#[]⟩, .slice none 0 0, .int .i64 0, .slice none 0 0], .bool false]) (by simp [results, Tryd.results57, go_sem, F1]) rfl ⟨_, by rw [HN.out], by rw [HN.out]; exact tbAt_zero, KN.below⟩
  have HV := hid hv
  clear hv
  go_wp2_with fail
  refine (rsound_any _ _ K1.mutLt _ _ t d ⟨tA, tn, tc, tB, tm, td, lt, rfl, a1, a2, a3, a4, K1.ro 3 rfl, K1.ro 4 rfl, HTO.out, HTR.out⟩ ⟨I, ni, ci, D, nd, cd, U, nu, cu, li, ld, lu, rfl, i1, i2, i3, K1.ro 5 rfl, K1.ro 6 rfl, K1.ro 7 rfl, HIO.out, HDO.out, HUO.out, HIR.out, HDR.out, HUR.out⟩ HV hi hde hup).mono ?_
  rintro e w3 ⟨rfl, b2⟩
  have K2 := K1.call b2
  clear K1 b2 F1
  have F2 := K2.facts
  simp only [factsL, cellsF, Nat.reduceAdd, zf, zl] at F2
  cases hs : soundD t d
  · have HN := hid (show applyD t d = (false, zeroT) by rw [applyD_sound, hs, HV.out]; rfl)
    clear hs
    have KN := (((K2.store 0 rfl 0 (.string ⟨#[]⟩)).store 0 rfl 1 (.slice none 0 0)).store 0 rfl 2 (.int .i64 0)).store 0 rfl 3 (.slice none 0 0)
    go_wp2_with fail
    exact bodyPost_ret (v := .tuple #[.agg #[.string ⟨#[]⟩, .slice none 0 0, .int .i64 0, .slice none 0 0], .bool false]) (by simp [results, Tryd.results57, go_sem, F2]) rfl ⟨_, by rw [HN.out], by rw [HN.out]; exact tbAt_zero, KN.below⟩
  have HS := hid hs
  have HSO := hid (sound_out hs)
  clear hs
  have htn6 : tn ≤ 6 := by have := tabB_cols HV.out; have := HTC.out; omega
  have htm1 : tm ≤ 100 := by have := (tabB_rows HV.out).1; have h := congrArg List.length HTR.out; rw [List.length_map] at h; have := HTL.out; omega
  have HSH := hid (rw_short HTE.out (by rw [HTR.out]; exact HV.out))
  clear htm hrt
  go_wp2_with fail
  obtain ⟨KL, hKL, KN⟩ := K2.name
  have HFF : Hid (∀ wv, Hold M none w wv KL → wv.cell? ⟨g2, 0, none⟩ = some (.string t.nm) ∧ wv.cell? ⟨g2, 1, none⟩ = some (.slice tA tn tc) ∧ wv.cell? ⟨g2, 2, none⟩ = some (.int .i64 t.nx) ∧ wv.cell? ⟨g2, 3, none⟩ = some (.slice tB tm td) ∧ g2 < wv.heap.size) := hid fun wv HC => by
    rw [hKL] at HC
    have y0 := HC.cst_ 2 rfl
    exact ⟨cell_of_row _ _ 0 _ _ _ y0, cell_of_row _ _ 1 _ _ _ y0, cell_of_row _ _ 2 _ _ _ y0, cell_of_row _ _ 3 _ _ _ y0, Blk.lt y0⟩
  have HRX : Hid (∀ wv, Hold M none w wv KL → Ro wv (Mut M KL) (ColsIn tA tn t.cs) ∧ Ro wv (Mut M KL) (RwsIn tB tm lt)) := hid fun wv HC => by
    rw [hKL] at HC ⊢
    exact ⟨HC.ro 3 rfl, HC.ro 4 rfl⟩
  have HKL := hid hKL
  clear hKL K2 F2
  obtain ⟨Ha, hHa⟩ : ∃ Ha, Ha = w3.drew.heap.size := ⟨_, rfl⟩
  have HHa := hid hHa
  clear hHa
  refine wp_region_any (by kernel_rfl) ?_
  refine wpAny_hold 7 111 (KL) (spL [(27, TcSlot (Mut M KL) t.nm t.cs t.nx), (6, NewSlot (Mut M KL) Ha 27 #[.string ⟨#[]⟩, .slice none 0 0, .int .i64 0, .slice none 0 0])]) (by kernel_rfl) (by kernel_rfl) (by kernel_rfl) rfl ?_ (KN.drew) ?_
  · exact stays_cons tcSlot_mono (stays_cons newSlot_mono (stays_nil _))
  simp only [zd, Act.put, List.getElem_toArray, List.getElem_cons_zero, List.getElem_cons_succ, zl]
  refine dw_val rfl rfl rfl ?_; apply Exists.intro; refine ⟨fun wv HC => ?_, ?_⟩
  · obtain ⟨f0, f1, f2, f3, f4⟩ := HFF.out _ HC; go_simp <;> rfl
  simp only [Act.put, zl]
  refine dw_callR 27 (TcSlot (Mut M KL) t.nm t.cs t.nx) (f := 86) (args := #[.agg #[.string t.nm, .slice tA tn tc, .int .i64 t.nx, .slice tB tm td]]) rfl rfl rfl rfl (fun wv => ?_) (fun wv HC hrm hD => ?_) ?_
  · go_simp <;> rfl
  · refine (rtcopy_any _ wv HC.mutLt t.nm tA tn tc t.cs t.nx tB tm td lt (HRX.out _ HC).1 (HRX.out _ HC).2 (by omega) (by omega) (fun r hr => by have := HSH.out r hr; omega)).mono ?_
    rintro e w5 ⟨A5, n5, c5, B5, m5, d5, rfl, h51, h52, h53, b5⟩
    exact ⟨_, rfl, ⟨A5, n5, c5, B5, m5, d5, rfl, h51, h52, h53⟩, HC.call b5, RM.below b5⟩
  rintro x_ wx HCx ⟨oA, on, oc, B5, m5, d5, rfl, h51, h52, h53⟩
  simp only [Act.put, zl]
  have HOC := hid (And.intro h51 h52)
  clear HCx h53 h51 h52
  refine dw_val rfl rfl rfl ⟨.agg #[.string t.nm, .slice oA on oc], fun wv HC => ?_, ?_⟩
  · go_simp <;> first | rfl | kernel_rfl
  simp only [Act.put, zl]
  refine dw_val rfl rfl rfl ?_; apply Exists.intro; refine ⟨fun wv HC => ?_, ?_⟩
  ·  go_simp <;> rfl
  simp only [Act.put, zl]
  refine dw_val rfl rfl rfl ?_; apply Exists.intro; refine ⟨fun wv HC => ?_, ?_⟩
  · obtain ⟨f0, f1, f2, f3, f4⟩ := HFF.out _ HC; go_simp <;> rfl
  simp only [Act.put, zl]
  refine dw_val rfl rfl rfl ⟨.agg #[.string t.nm, .slice oA on oc, .int .i64 t.nx, .slice none 0 0], fun wv HC => ?_, ?_⟩
  · go_simp <;> first | rfl | kernel_rfl
  simp only [Act.put, zl]
  refine dw_new #[.string ⟨#[]⟩, .slice none 0 0, .int .i64 0, .slice none 0 0] 27 6 (NewSlot (Mut M KL) Ha 27 #[.string ⟨#[]⟩, .slice none 0 0, .int .i64 0, .slice none 0 0]) (fun g => .pointer (some ⟨g, 0, none⟩)) rfl rfl rfl rfl (fun wv => ?_) (fun wv HC hrm hD hro => ?_) ?_
  · go_simp <;> rfl
  · exact ⟨_, rfl, by have := hrm.1; rw [HHa.out]; exact this, hro _ HC.mutLt⟩
  rintro g6 wg HCg hsl
  simp only [Act.put, zl]
  clear hsl HCg
  refine rel_nil ?_
  rintro wx1 HX
  rintro _hrm HGW
  have htc : TcSlot (Mut M KL) t.nm t.cs t.nx (.agg #[.string t.nm, .slice oA on oc, .int .i64 t.nx, .slice B5 m5 d5]) wx1 := (GW_on (d := 27) rfl).1 (HGW 1 _ rfl (by omega))
  have hns : NewSlot (Mut M KL) Ha 27 #[.string ⟨#[]⟩, .slice none 0 0, .int .i64 0, .slice none 0 0] (.pointer (some ⟨g6, 0, none⟩)) wx1 := (GW_on (d := 6) rfl).1 (HGW 6 _ rfl (by omega))
  clear HGW
  obtain ⟨gq, hgq, hgH, hgB⟩ := hns
  obtain rfl : g6 = gq := by injection hgq with hgq; injection hgq with hgq; injection hgq
  clear hgq
  rw [HHa.out] at hgH
  have HB := Hold.addFreshBlk KN.drew HX _hrm hgH hgB.now
  obtain ⟨A6, n6, c6, B6, m6, d6, e6, -, -, r6⟩ := htc
  obtain ⟨rfl, rfl, rfl⟩ : oA = A6 ∧ on = n6 ∧ oc = c6 := by
    injection e6 with e6
    simp only [Array.mk.injEq, List.cons.injEq, Value.slice.injEq, and_true, true_and] at e6
    exact e6.1
  have r7 : Ro wx1 (Mut M (.blk g6 27 #[.string ⟨#[]⟩, .slice none 0 0, .int .i64 0, .slice none 0 0] :: KL)) (ColsIn oA on t.cs) := (r6.colsOff hgB.now).less fun b hb => (mut_cons.1 hb).elim (fun hf => .inr (by have hf : some g6 = some b := hf; injection hf with hf; exact hf.symm)) .inl
  have K0 := HB.add r7
  rw [HKL.out] at K0
  have FB := K0.facts
  simp only [factsL, cellsF, Nat.reduceAdd, zf, zl] at FB
  clear hgB hgH HX _hrm HHa KN HFF HRX HKL HB e6 r6 r7
  have K1 := (((K0.store 1 rfl 0 (.string t.nm)).store 1 rfl 1 (.slice oA on oc)).store 1 rfl 2 (.int .i64 t.nx)).store 1 rfl 3 (.slice none 0 0)
  simp only [List.set_cons_zero, List.set_cons_succ, List.setIfInBounds_toArray] at K1
  have KM := (K1.add (ro_vals_nil _ _)).nil 53 2
  have FM := KM.facts
  simp only [factsL, cellsF, Nat.reduceAdd, zf, zl] at FM
  have NM := KM.nes
  simp only [World.size_alloc, nesL, neF, List.set_cons_zero, List.set_cons_succ, and_true, true_and] at NM
  clear K0 K1
  go_wp2_with fail
  generalize (((wx1.setCell _ _).setCell _ _).setCell _ _).setCell _ _ = w4 at KM ⊢
  clear FB FM NM
  go_loopw [35] (fun iv wr => ∃ (k q cq : Nat) (O : Option Addr) (lo : List Rw), k ≤ tm ∧ iv = .int .i64 k ∧ q ≤ k ∧ Hid (lo.map Rw.row = keepL d (t.rs.take k)) ∧ Hid (∀ r ∈ lo, r.ok) ∧ Hold M none w wr [.own 53 2 (.slice O q cq) q (rwCells lo), .ro (ValsIn lo), .ro (ColsIn oA on t.cs), .blk g6 27 #[.string t.nm, .slice oA on oc, .int .i64 t.nx, .slice O q cq], .blk g4 27 #[.string ⟨#[]⟩, .slice none 0 0, .int .i64 0, .slice none 0 0], .cst g3 41 #[.string d.nm, .slice I ni ci, .slice D nd cd, .slice U nu cu], .cst g2 27 #[.string t.nm, .slice tA tn tc, .int .i64 t.nx, .slice tB tm td], .ro (ColsIn tA tn t.cs), .ro (RwsIn tB tm lt), .ro (RwsIn I ni li), .ro (RwsIn D nd ld), .ro (PrsIn U nu lu)]) (fun iv _ => tm - (intOf iv).toNat)
  case atStart => exact ⟨0, 0, 0, none, [], by omega, rfl, by omega, hid rfl, hid (fun r hr => nomatch hr), KM⟩
  case round =>
    clear KM
    obtain ⟨k, q, cq, O, lo, hk, rfl, hq, HLO, HOK, H⟩ := hrel
    by_cases hlt : k < tm
    · have hd : decide ((k : Int) < (tm : Int)) = true := by simp; omega
      have i0 : (0 : Int) ≤ (k : Int) := by omega
      have i1 : (k : Int) < (tm : Int) := by omega
      obtain ⟨x, hx⟩ := get_of HTL.out hlt
      have hxv : Ro wr _ (VlsIn x.A x.n x.vs) := (H.ro 8 rfl).imp fun w2 h2 => h2.2 x (List.mem_of_getElem? hx)
      obtain ⟨bb, oo, rfl, hbb, c0, c1, _⟩ := (H.ro 8 rfl).now.at_ hx
      have HXX := hid (show t.rs[k]? = some x.row by rw [← HTR.out, List.getElem?_map, hx]; rfl)
      have HXO := hid (HTO.out x (List.mem_of_getElem? hx))
      have hxn6 := HSH.out x (List.mem_of_getElem? hx)
      obtain ⟨xid, xA, xn, xc, xvs⟩ := x
      dsimp only at *
      clear hx
      have K3 := (H.add hxv).alloc #[.int .i64 xid, .slice xA xn xc] 53
      clear hxv H
      have F3 := K3.facts
      simp only [factsL, cellsF, Nat.reduceAdd, zf, zl] at F3
      go_wp2_with fail
      obtain ⟨gx, hgx⟩ : ∃ g, g = wr.heap.size := ⟨_, rfl⟩
      rw [← hgx] at K3 F3 ⊢
      have HGX := hid hgx
      clear hgx c0 c1
      generalize World.alloc wr _ = w5 at K3 F3 ⊢
      refine (rcopyrow_any _ _ K3.mutLt xid xA xn xc xvs (K3.ro 1 rfl) (by omega)).mono ?_
      rintro e w6 ⟨cA, cn, cc, rfl, h60, h61, h62, r6, b6⟩
      have K4 := (K3.call b6).add r6
      clear K3 F3 b6 r6
      have K5 := K4.drop (List.Sublist.cons_cons _ (List.Sublist.cons_cons _ (List.sublist_cons_self _ _)))
      clear K4
      have F5 := K5.facts
      simp only [factsL, cellsF, Nat.reduceAdd, zf, zl] at F5
      have N5 := K5.nes
      simp only [World.size_alloc, nesL, neF, List.set_cons_zero, List.set_cons_succ, and_true, true_and] at N5
      have K6 := (K5.store 1 rfl 0 (.int .i64 xid)).store 1 rfl 1 (.slice cA cn cc)
      simp only [List.set_cons_zero, List.set_cons_succ, List.setIfInBounds_toArray] at K6
      have HC6 := hid (And.intro h60 (And.intro h61 h62))
      clear K5 h60 h61 h62
      go_wp2_with fail
      generalize (w6.setCell _ _).setCell _ _ = w7 at K6 ⊢
      clear F5 N5
      go_loopw [9, 44] (fun gv iv wq => ∃ j : Nat, j ≤ nd ∧ gv = .bool ((d.del.take j).any fun y => decide (y.1 = xid)) ∧ iv = .int .i64 j ∧ Hold M none w wq [.ro (VlsIn cA cn xvs), .blk gx 53 #[.int .i64 xid, .slice cA cn cc], .own 53 2 (.slice O q cq) q (rwCells lo), .ro (ValsIn lo), .ro (ColsIn oA on t.cs), .blk g6 27 #[.string t.nm, .slice oA on oc, .int .i64 t.nx, .slice O q cq], .blk g4 27 #[.string ⟨#[]⟩, .slice none 0 0, .int .i64 0, .slice none 0 0], .cst g3 41 #[.string d.nm, .slice I ni ci, .slice D nd cd, .slice U nu cu], .cst g2 27 #[.string t.nm, .slice tA tn tc, .int .i64 t.nx, .slice (some ⟨bb, oo, none⟩) tm td], .ro (ColsIn tA tn t.cs), .ro (RwsIn (some ⟨bb, oo, none⟩) tm lt), .ro (RwsIn I ni li), .ro (RwsIn D nd ld), .ro (PrsIn U nu lu)]) (fun _ iv _ => nd - (intOf iv).toNat)
      case atStart => exact ⟨0, by omega, rfl, rfl, K6⟩
      case round =>
        clear K6
        obtain ⟨j, hj, rfl, rfl, H⟩ := hrel
        by_cases hjl : j < nd
        · have hdj : decide ((j : Int) < (nd : Int)) = true := by simp; omega
          have j0 : (0 : Int) ≤ (j : Int) := by omega
          have j1 : (j : Int) < (nd : Int) := by omega
          obtain ⟨y, hy⟩ := get_of HDL.out hjl
          obtain ⟨bd, od, rfl, hbd, y0, y1, _⟩ := (H.ro 12 rfl).now.at_ hy
          have HYY := hid (show d.del[j]? = some y.row by rw [← HDR.out, List.getElem?_map, hy]; rfl)
          clear hy
          have K7 := H.alloc_cst #[.int .i64 y.id, .slice y.A y.n y.c] 53
          have F7 := K7.facts
          simp only [factsL, cellsF, Nat.reduceAdd, zf, zl] at F7
          clear H
          have HTK := hid (show ((d.del.take (j + 1)).any fun z => decide (z.1 = xid)) = (((d.del.take j).any fun z => decide (z.1 = xid)) || decide (y.id = xid)) by
            rw [List.take_add_one, HYY.out, Option.toList_some, List.any_append]
            simp [Rw.row])
          cases hga : (d.del.take j).any fun z => decide (z.1 = xid)
          · by_cases hye : y.id = xid
            · have h1 : (y.id == xid) = true := by simp [hye]
              have HT2 := hid (show ((d.del.take (j + 1)).any fun z => decide (z.1 = xid)) = true by rw [HTK.out, hga, decide_eq_true hye]; rfl)
              clear hye hga
              go_wp2_with fail
              go_roundw
              case rel => exact ⟨j + 1, by omega, by rw [HT2.out], by go_num, K7.drop (List.sublist_cons_self _ _)⟩
              case measure => simp [intOf]; omega
            · have h1 : (y.id == xid) = false := by simpa using hye
              have HT2 := hid (show ((d.del.take (j + 1)).any fun z => decide (z.1 = xid)) = false by rw [HTK.out, hga, decide_eq_false hye]; rfl)
              clear hye hga
              go_wp2_with fail
              go_roundw
              case rel => exact ⟨j + 1, by omega, by rw [HT2.out], by go_num, K7.drop (List.sublist_cons_self _ _)⟩
              case measure => simp [intOf]; omega
          · have HT2 := hid (show ((d.del.take (j + 1)).any fun z => decide (z.1 = xid)) = true by rw [HTK.out, hga]; rfl)
            clear hga
            go_wp2_with fail
            go_roundw
            case rel => exact ⟨j + 1, by omega, by rw [HT2.out], by go_num, K7.drop (List.sublist_cons_self _ _)⟩
            case measure => simp [intOf]; omega
        · obtain rfl : nd = j := by omega
          have hdj : decide ((nd : Int) < (nd : Int)) = false := by simp
          obtain ⟨ga, hga⟩ : ∃ b, b = d.del.any fun y => decide (y.1 = xid) := ⟨_, rfl⟩
          rw [List.take_of_length_le (by rw [← HDR.out, List.length_map, HDL.out]; exact Nat.le_refl _), ← hga]
          have HGA := hid hga
          clear hga
          have KX := H
          have FX_ := KX.facts
          simp only [factsL, cellsF, Nat.reduceAdd, zf, zl] at FX_
          clear H
          go_wp2_with fail
          go_loopw [60] (fun iv wq => ∃ (j : Nat) (cA : Option Addr) (cn cc : Nat) (cur : List Vl), j ≤ nu ∧ iv = .int .i64 j ∧ Hid (cur = updF ((d.upd).take j) xid xvs) ∧ Hid (cn = cur.length ∧ cn ≤ cc ∧ cc ≤ 9223372036854775807) ∧ Hid (∀ v ∈ cur, v.ok) ∧ Hold M none w wq [.ro (VlsIn cA cn cur), .blk gx 53 #[.int .i64 xid, .slice cA cn cc], .own 53 2 (.slice O q cq) q (rwCells lo), .ro (ValsIn lo), .ro (ColsIn oA on t.cs), .blk g6 27 #[.string t.nm, .slice oA on oc, .int .i64 t.nx, .slice O q cq], .blk g4 27 #[.string ⟨#[]⟩, .slice none 0 0, .int .i64 0, .slice none 0 0], .cst g3 41 #[.string d.nm, .slice I ni ci, .slice D nd cd, .slice U nu cu], .cst g2 27 #[.string t.nm, .slice tA tn tc, .int .i64 t.nx, .slice (some ⟨bb, oo, none⟩) tm td], .ro (ColsIn tA tn t.cs), .ro (RwsIn (some ⟨bb, oo, none⟩) tm lt), .ro (RwsIn I ni li), .ro (RwsIn D nd ld), .ro (PrsIn U nu lu)]) (fun iv _ => nu - (intOf iv).toNat)
          case atStart => exact ⟨0, cA, cn, cc, xvs, by omega, rfl, hid rfl, HC6, hid HXO.out.vs, KX⟩
          case round =>
            clear KX FX_ HC6
            obtain ⟨j, cA, cn, cc, cur, hj, rfl, HCU, HC6, HCO, H⟩ := hrel
            by_cases hjl : j < nu
            · have hdj : decide ((j : Int) < (nu : Int)) = true := by simp; omega
              have j0 : (0 : Int) ≤ (j : Int) := by omega
              have j1 : (j : Int) < (nu : Int) := by omega
              obtain ⟨y, hy⟩ := get_of HUL.out hjl
              have hyv : Ro wr _ (VlsIn y.nA y.nn y.new) := (H.ro 13 rfl).imp fun w2 h2 => (h2.2 y (List.mem_of_getElem? hy)).2
              obtain ⟨bu, ou, rfl, hbu, y0, y1, y2, _⟩ := (H.ro 13 rfl).now.at_ hy
              have HYY := hid (show d.upd[j]? = some y.upd by rw [← HUR.out, List.getElem?_map, hy]; rfl)
              have HYO := hid (HUO.out y (List.mem_of_getElem? hy))
              have hyn : y.nn ≤ 4398046511104 := HUN.out y (List.mem_of_getElem? hy)
              obtain ⟨yid, oA', on', oc', yold, yA, yn, yc, ynew⟩ := y
              dsimp only at *
              clear hy
              have K7 := (H.add hyv).alloc_cst #[.int .i64 yid, .slice oA' on' oc', .slice yA yn yc] 99
              have F7 := K7.facts
              simp only [factsL, cellsF, Nat.reduceAdd, zf, zl] at F7
              clear H hyv
              by_cases hye : yid = xid
              · have h1 : (yid == xid) = true := by simp [hye]
                have HU2 := hid (show ynew = updF (d.upd.take (j + 1)) xid xvs from (updF_hit HYY.out hye).symm)
                clear hye
                go_wp2_with fail
                refine (copyVls_any _ _ K7.mutLt yA yn yc ynew (K7.ro 1 rfl) hyn).mono ?_
                rintro e w8 ⟨zA, zn, zc, rfl, h80, h81, h82, r8, b8⟩
                have K8 := (K7.call b8).add (show Ro w8 _ (VlsIn zA zn ynew) from r8)
                clear K7 F7 b8 r8
                have K9 := K8.drop (List.Sublist.cons_cons _ (List.Sublist.cons _ (List.Sublist.cons _ (List.sublist_cons_self _ _))))
                clear K8
                have F9 := K9.facts
                simp only [factsL, cellsF, Nat.reduceAdd, zf, zl] at F9
                have N9 := K9.nes
                simp only [World.size_alloc, nesL, neF, List.set_cons_zero, List.set_cons_succ, and_true, true_and] at N9
                have K10 := K9.store 1 rfl 1 (.slice zA zn zc)
                simp only [List.set_cons_zero, List.set_cons_succ, List.setIfInBounds_toArray] at K10
                have HZ := hid (And.intro h80 (And.intro h81 h82))
                clear K9 h80 h81 h82
                go_wp2_with fail
                go_roundw
                case rel => exact ⟨j + 1, zA, zn, zc, ynew, by omega, by first | rfl | go_num, HU2, HZ, hid HYO.out.new, K10⟩
                case measure => simp [intOf]; omega
              · have h1 : (yid == xid) = false := by simpa using hye
                have HU2 := hid (show cur = updF (d.upd.take (j + 1)) xid xvs by rw [HCU.out, updF_miss HYY.out hye])
                clear hye
                have K8 := K7.drop ((List.sublist_cons_self _ _).trans (List.sublist_cons_self _ _))
                go_wp2_with fail
                go_roundw
                case rel => exact ⟨j + 1, cA, cn, cc, cur, by omega, by first | rfl | go_num, HU2, HC6, HCO, K8⟩
                case measure => simp [intOf]; omega
            · obtain rfl : nu = j := by omega
              have hdj : decide ((nu : Int) < (nu : Int)) = false := by simp
              have HC7 := hid (show cur = (findU d.upd xid).getD xvs from by
                have h := HCU.out
                rw [List.take_of_length_le (by rw [← HUR.out, List.length_map, HUL.out]; exact Nat.le_refl _)] at h
                rw [h]; exact updF_find HSO.out.2.1 _ _)
              have F := H.facts
              simp only [factsL, cellsF, Nat.reduceAdd, zf, zl] at F
              have N := H.nes
              simp only [World.size_alloc, nesL, neF, List.set_cons_zero, List.set_cons_succ, and_true, true_and] at N
              cases ga with
              | true =>
                have HBN := hid (show lo.map Rw.row = keepL d (t.rs.take (k + 1)) by rw [HLO.out]; exact (keepL_gone HXX.out HGA.out.symm).symm)
                have KZ := H.drop ((List.sublist_cons_self _ _).trans (List.sublist_cons_self _ _))
                clear H
                go_wp2_with fail
                go_roundw
                case rel => exact ⟨k + 1, q, cq, O, lo, by omega, by first | rfl | go_num, by omega, HBN, HOK, KZ⟩
                case measure => simp [intOf]; omega
              | false =>
                have HCE := hid (show rwCells lo ++ (#[Value.int .i64 xid, .slice cA cn cc]).toList = rwCells (lo ++ [⟨xid, cA, cn, cc, cur⟩]) from rwCells_snoc1 _ _ _ _ _ _)
                go_wp2_with (at_builtin; go_must (refine wpList_appH H 2 rfl Tryd.elRw #[.int .i64 xid, .slice cA cn cc] rfl (.tmp 77) (.tmp 79) rfl rfl wr.heap.size (by first | rfl | simp) rfl rfl (by intro u hu; simp at hu; rcases hu with rfl | rfl <;> rfl) (by omega) (by omega) ?_); intro C' cap' w9 hc9 hm9 KB; rw [HCE.out] at KB; simp only [List.set_cons_zero, List.set_cons_succ] at KB; (have FB := KB.facts); simp only [factsL, cellsF, Nat.reduceAdd, zf, zl] at FB)
                have KD := KB.store 5 rfl 3 (.slice (some ⟨C', 0, none⟩) (q + 1) cap')
                have KE := (KD.swapRo 3 rfl (vals_snoc (r := ⟨xid, cA, cn, cc, cur⟩) (KD.ro 3 rfl) (KD.ro 0 rfl))).drop ((List.sublist_cons_self _ _).trans (List.sublist_cons_self _ _))
                have HBN := hid (show (lo ++ [(⟨xid, cA, cn, cc, cur⟩ : Rw)]).map Rw.row = keepL d (t.rs.take (k + 1)) by rw [List.map_append, HLO.out, keepL_stay HXX.out HGA.out.symm]; exact congrArg (fun z => keepL d (t.rs.take k) ++ [(xid, z)]) HC7.out)
                have HOK2 := hid (okSnoc (P := Rw.ok) (x := (⟨xid, cA, cn, cc, cur⟩ : Rw)) HOK.out ⟨HXO.out.id, HC6.out.2.1, HC6.out.2.2, HCO.out⟩)
                go_roundw
                case rel => exact ⟨k + 1, q + 1, cap', _, _, by omega, by first | rfl | go_num, by omega, HBN, HOK2, KE⟩
                case measure => simp [intOf]; omega
    · obtain rfl : tm = k := by omega
      have hd : decide ((tm : Int) < (tm : Int)) = false := by simp
      have HLO2 := hid (show lo.map Rw.row = keepD t d from by
        have h := HLO.out
        rwa [keepL_all (by rw [← HTR.out, List.length_map, HTL.out]; exact Nat.le_refl _)] at h)
      clear HLO
      have F := H.facts
      simp only [factsL, cellsF, Nat.reduceAdd, zf, zl] at F
      go_wp2_with fail
      go_loopw [86] (fun iv wr => ∃ (k q cq : Nat) (O : Option Addr) (lo : List Rw) (nv : Int), k ≤ ni ∧ iv = .int .i64 k ∧ q ≤ tm + k ∧ Hid (nv = nxD t.nx (d.ins.take k)) ∧ Hid (∀ r ∈ d.ins.take k, r.1 < 2147483648) ∧ Hid (lo.map Rw.row = keepD t d ++ d.ins.take k) ∧ Hid (∀ r ∈ lo, r.ok) ∧ Hold M none w wr [.own 53 2 (.slice O q cq) q (rwCells lo), .ro (ValsIn lo), .ro (ColsIn oA on t.cs), .blk g6 27 #[.string t.nm, .slice oA on oc, .int .i64 nv, .slice O q cq], .blk g4 27 #[.string ⟨#[]⟩, .slice none 0 0, .int .i64 0, .slice none 0 0], .cst g3 41 #[.string d.nm, .slice I ni ci, .slice D nd cd, .slice U nu cu], .cst g2 27 #[.string t.nm, .slice tA tn tc, .int .i64 t.nx, .slice tB tm td], .ro (ColsIn tA tn t.cs), .ro (RwsIn tB tm lt), .ro (RwsIn I ni li), .ro (RwsIn D nd ld), .ro (PrsIn U nu lu)]) (fun iv _ => ni - (intOf iv).toNat)
      case atStart => exact ⟨0, q, cq, O, lo, t.nx, by omega, rfl, by omega, hid rfl, hid (fun r hr => by simp at hr), hid (by rw [HLO2.out]; simp), HOK, H⟩
      case round =>
        clear H F HLO2 HOK hq
        clear q cq O lo
        obtain ⟨k, q, cq, O, lo, nv, hk, rfl, hq, HNV, HSM, HLO, HOK, H⟩ := hrel
        by_cases hlt : k < ni
        · have hd : decide ((k : Int) < (ni : Int)) = true := by simp; omega
          have i0 : (0 : Int) ≤ (k : Int) := by omega
          have i1 : (k : Int) < (ni : Int) := by omega
          obtain ⟨x, hx⟩ := get_of HIL.out hlt
          have hxv : Ro wr _ (VlsIn x.A x.n x.vs) := (H.ro 9 rfl).imp fun w2 h2 => h2.2 x (List.mem_of_getElem? hx)
          obtain ⟨bb, oo, rfl, hbb, c0, c1, _⟩ := (H.ro 9 rfl).now.at_ hx
          have HXX := hid (show d.ins[k]? = some x.row by rw [← HIR.out, List.getElem?_map, hx]; rfl)
          have HXO := hid (HIO.out x (List.mem_of_getElem? hx))
          have hxn6 := HIN6.out x (List.mem_of_getElem? hx)
          obtain ⟨xid, xA, xn, xc, xvs⟩ := x
          dsimp only at *
          clear hx
          have KX := (H.add hxv).alloc_cst #[.int .i64 xid, .slice xA xn xc] 53
          have FX_ := KX.facts
          simp only [factsL, cellsF, Nat.reduceAdd, zf, zl] at FX_
          clear hxv H
          by_cases hbig : xid ≥ 2147483648
          · have hd2 : decide (xid ≥ 2147483648) = true := decide_eq_true hbig
            have HN := hid (applyD_big (t := t) (List.mem_of_getElem? HXX.out) (show 2147483648 ≤ xid from hbig))
            clear hbig
            have KN := (((KX.store 6 rfl 0 (.string ⟨#[]⟩)).store 6 rfl 1 (.slice none 0 0)).store 6 rfl 2 (.int .i64 0)).store 6 rfl 3 (.slice none 0 0)
            go_wp2_with fail
            exact bodyPost_ret (v := .tuple #[.agg #[.string ⟨#[]⟩, .slice none 0 0, .int .i64 0, .slice none 0 0], .bool false]) (by simp [results, Tryd.results57, go_sem, FX_]) rfl ⟨_, by rw [HN.out], by rw [HN.out]; exact tbAt_zero, KN.below⟩
          · have hd2 : decide (xid ≥ 2147483648) = false := decide_eq_false hbig
            have HXS := hid (show xid < 2147483648 by omega)
            clear hbig
            obtain ⟨KL, hKL, KN⟩ := KX.name
            have HF : Hid (∀ wv, Hold M none w wv KL → (wv.cell? ⟨g6, 3, none⟩ = some (.slice O q cq) ∧ g6 < wv.heap.size) ∧ wv.cell? ⟨wr.heap.size, 0, none⟩ = some (.int .i64 xid) ∧ wv.cell? ⟨wr.heap.size, 1, none⟩ = some (.slice xA xn xc) ∧ wr.heap.size < wv.heap.size) := hid fun wv HC => by
              rw [hKL] at HC
              have y1 := HC.blk_ 5 rfl
              have y2 := HC.cst_ 0 rfl
              exact ⟨⟨cell_of_row _ _ 3 _ _ _ y1, Blk.lt y1⟩, cell_of_row _ _ 0 _ _ _ y2, cell_of_row _ _ 1 _ _ _ y2, Blk.lt y2⟩
            have HRX : Hid (∀ wv, Hold M none w wv KL → Ro wv (Mut M KL) (VlsIn xA xn xvs)) := hid fun wv HC => by
              rw [hKL] at HC ⊢
              exact HC.ro 1 rfl
            have HKL := hid hKL
            clear hKL KX
            go_wp2_with fail
            refine wp_region_any (by kernel_rfl) ?_
            refine wpAny_hold 5 111 (KL) (spL [(97, RowSlot (Mut M KL) xid xvs), (98, RBoxSlot (Mut M KL) xid xvs)]) (by kernel_rfl) (by kernel_rfl) (by kernel_rfl) rfl ?_ (KN.drew) ?_
            · exact stays_cons rowSlot_mono (stays_cons rboxSlot_mono (stays_nil _))
            simp only [zd, Act.put, List.getElem_toArray, List.getElem_cons_zero, List.getElem_cons_succ, zl]
            refine dw_val rfl rfl rfl ?_; apply Exists.intro; refine ⟨fun wv HC => ?_, ?_⟩
            ·  go_simp <;> rfl
            simp only [Act.put, zl]
            refine dw_val rfl rfl rfl ?_; apply Exists.intro; refine ⟨fun wv HC => ?_, ?_⟩
            · obtain ⟨⟨f0, f1⟩, f2, f3, f4⟩ := HF.out _ HC; go_simp <;> rfl
            simp only [Act.put, zl]
            refine dw_val rfl rfl rfl ?_; apply Exists.intro; refine ⟨fun wv HC => ?_, ?_⟩
            · obtain ⟨⟨f0, f1⟩, f2, f3, f4⟩ := HF.out _ HC; go_simp <;> rfl
            simp only [Act.put, zl]
            refine dw_callR 97 (RowSlot (Mut M KL) xid xvs) (f := 55) (args := #[.agg #[.int .i64 xid, .slice xA xn xc]]) rfl rfl rfl rfl (fun wv => ?_) (fun wv HC hrm hD => ?_) ?_
            · go_simp <;> rfl
            · refine (rcopyrow_any _ wv HC.mutLt xid xA xn xc xvs (HRX.out _ HC) (by omega)).mono ?_
              rintro e w5 ⟨A5, n5, c5, rfl, h50, h51, h52, h53, b5⟩
              exact ⟨_, rfl, ⟨A5, n5, c5, rfl, h50, h51, h52, h53⟩, HC.call b5, RM.below b5⟩
            rintro x_ wx HCx ⟨A5, n5, c5, rfl, -, -, -, -⟩
            clear HCx
            simp only [Act.put, zl]
            refine dw_new #[.int .i64 xid, .slice A5 n5 c5] 53 98 (RBoxSlot (Mut M KL) xid xvs) (fun g => .slice (some ⟨g, 0, none⟩) 1 1) rfl rfl rfl rfl (fun wv => ?_) (fun wv HC _hrm hD hro => ?_) ?_
            · go_simp <;> rfl
            · have hsl : RowSlot (Mut M KL) xid xvs (.agg #[.int .i64 xid, .slice A5 n5 c5]) wv := deps_at hD 3 rfl (by kernel_rfl) rfl rfl
              obtain ⟨A6, n6, c6, e6, h1, h2, h3, h4⟩ := hsl
              obtain ⟨rfl, rfl, rfl⟩ : A5 = A6 ∧ n5 = n6 ∧ c5 = c6 := by
                injection e6 with e6
                simp at e6
                exact e6
              exact ⟨_, A5, n5, c5, rfl, h1, h2, h3, h4.step (by simp) (fun b hb _ => Below.heap_alloc wv _ b hb) (fun _ _ h => h), ro_block (hro _ HC.mutLt) rfl⟩
            rintro gn wg HCg hsl
            simp only [Act.put, zl]
            clear hsl HCg
            refine rel_nil ?_
            rintro wx2 HX
            rintro _hrm HGW
            have hb2 : RBoxSlot (Mut M KL) xid xvs (.slice (some ⟨gn, 0, none⟩) 1 1) wx2 := (GW_on (d := 98) rfl).1 (HGW 4 _ rfl (by omega))
            clear HGW _hrm
            obtain ⟨gq, A6, n6, c6, e6, k0_, k1_, k2_, k3_, k4_⟩ := hb2
            obtain rfl : gn = gq := by injection e6 with e6; injection e6 with e6; injection e6
            clear e6
            rw [HKL.out] at HX k3_
            have k5 := hid k4_.now
            have HK0 := hid (And.intro k0_ (And.intro k1_ k2_))
            clear k4_ k0_ k1_ k2_ HF HRX KN
            have HRS := hid (show rwCells lo ++ [.int .i64 xid, .slice A6 n6 c6] = rwCells (lo ++ [⟨xid, A6, n6, c6, xvs⟩]) from rwCells_snoc1 _ _ _ _ _ _)
            have KA := HX.add k3_
            clear HX k3_
            have FKA := KA.facts
            simp only [factsL, cellsF, Nat.reduceAdd, zf, zl] at FKA
            go_wp2_with (at_builtin; go_must (refine wpList_appAllH KA 3 rfl Tryd.elRw k5.out rfl (.tmp 95) (.tmp 98) rfl rfl rfl (by intro z hz; simp at hz; rcases hz with rfl | rfl <;> rfl) (by omega) (by omega) ?_); intro C' cap' w6 hc6 hm6 KB; rw [HRS.out] at KB; simp only [List.set_cons_zero, List.set_cons_succ] at KB; (have F3 := KB.facts); simp only [factsL, cellsF, Nat.reduceAdd, zf, zl] at F3; (have N3 := KB.nes); simp only [World.size_alloc, nesL, neF, List.set_cons_zero, List.set_cons_succ, and_true, true_and] at N3)
            have KD := KB.store 6 rfl 3 (.slice C' (q + 1) cap')
            have KE := (KD.swapRo 4 rfl (vals_snoc (r := ⟨xid, A6, n6, c6, xvs⟩) (KD.ro 4 rfl) (KD.ro 0 rfl))).drop (List.sublist_cons_self _ _)
            clear KB KD FKA k5
            have HS2 := hid (all_take HSM.out HXX.out (show xid < 2147483648 from HXS.out))
            have hmx : nxD t.nx (d.ins.take (k + 1)) = xid + 1 := nxD_step HSO.out.1 HSO.out.2.2 HXX.out HS2.out
            rw [wrap_one (x := xid) HXO.out.id HXS.out]
            have KE2 := KE.store 5 rfl 2 (.int .i64 (xid + 1))
            have HBN := hid (show (lo ++ [(⟨xid, A6, n6, c6, xvs⟩ : Rw)]).map Rw.row = keepD t d ++ d.ins.take (k + 1) by rw [List.map_append, HLO.out, List.take_add_one, HXX.out, List.append_assoc]; rfl)
            have HOK2 := hid (okSnoc (P := Rw.ok) (x := (⟨xid, A6, n6, c6, xvs⟩ : Rw)) HOK.out ⟨HXO.out.id, HK0.out.2.1, HK0.out.2.2, HXO.out.vs⟩)
            have KZ := KE2.drop (List.Sublist.cons _ (List.sublist_cons_self _ _))
            go_roundw
            case rel => exact ⟨k + 1, q + 1, cap', C', _, _, by omega, by first | rfl | go_num, by omega, hid hmx.symm, HS2, HBN, HOK2, KZ⟩
            case measure => simp [intOf]; omega
        · obtain rfl : ni = k := by omega
          have hd : decide ((ni : Int) < (ni : Int)) = false := by simp
          have HLO2 := hid (show lo.map Rw.row = keepD t d ++ d.ins from by
            have h := HLO.out
            rwa [List.take_of_length_le (by rw [← HIR.out, List.length_map, HIL.out]; exact Nat.le_refl _)] at h)
          have HNV2 := hid (show nv = nxD t.nx d.ins from by
            have h := HNV.out
            rwa [List.take_of_length_le (by rw [← HIR.out, List.length_map, HIL.out]; exact Nat.le_refl _)] at h)
          clear HLO HNV
          obtain ⟨hq1, hq2, _⟩ := own_caps (H.get 0 rfl)
          have KS := H.sealRow 0 rfl
          simp only [List.set_cons_zero] at KS
          have KR := KS.swapRo 0 rfl (show Ro _ _ (RwsIn O q lo) from (KS.ro 0 rfl).and (KS.ro 1 rfl))
          simp only [List.set_cons_zero] at KR
          clear H KS
          have F := KR.facts
          simp only [factsL, cellsF, Nat.reduceAdd, zf, zl] at F
          go_wp2_with fail
          have hv := rtvalid_any _ _ KR.mutLt t.nm oA on oc t.cs nv O q cq lo (KR.ro 2 rfl) (KR.ro 0 rfl) (by have := HOC.out; omega) (by omega) HOK.out hst hct
          rw [HLO2.out] at hv
          refine hv.mono ?_
          clear hv
          rintro e w7 ⟨rfl, b7⟩
          have K7 := KR.call b7
          clear KR b7 F
          have F := K7.facts
          simp only [factsL, cellsF, Nat.reduceAdd, zf, zl] at F
          cases hvv : tabB t.nm t.cs nv (keepD t d ++ d.ins)
          · have HN := hid (applyD_6 (t := t) (d := d) (by rw [HNV2.out] at hvv; exact hvv))
            clear hvv
            have KN := (((K7.store 4 rfl 0 (.string ⟨#[]⟩)).store 4 rfl 1 (.slice none 0 0)).store 4 rfl 2 (.int .i64 0)).store 4 rfl 3 (.slice none 0 0)
            go_wp2_with fail
            exact bodyPost_ret (v := .tuple #[.agg #[.string ⟨#[]⟩, .slice none 0 0, .int .i64 0, .slice none 0 0], .bool false]) (by simp [results, Tryd.results57, go_sem, F]) rfl ⟨_, by rw [HN.out], by rw [HN.out]; exact tbAt_zero, KN.below⟩
          · have HN := hid (show applyD t d = (true, outD t d) from by
              rw [applyD_sound, HV.out, HS.out, show tabB (outD t d).nm (outD t d).cs (outD t d).nx (outD t d).rs = true from by rw [HNV2.out] at hvv; exact hvv]
              rfl)
            clear hvv
            have KN := (((K7.store 4 rfl 0 (.string t.nm)).store 4 rfl 1 (.slice oA on oc)).store 4 rfl 2 (.int .i64 nv)).store 4 rfl 3 (.slice O q cq)
            have r1 := KN.roOut 2 rfl
            have r2 := KN.roOut 0 rfl
            have NK := K7.nes
            simp only [nesL, neF, and_true, true_and] at NK
            clear K7
            go_wp2_with fail
            exact bodyPost_ret (v := .tuple #[.agg #[.string t.nm, .slice oA on oc, .int .i64 nv, .slice O q cq], .bool true]) (by simp [results, Tryd.results57, go_sem, F, NK]) rfl ⟨_, by rw [HN.out], by rw [HN.out]; exact ⟨oA, on, oc, O, q, cq, lo, by rw [HNV2.out]; rfl, HOC.out.1, HOC.out.2, hq1, hq2, r1, r2, HOK.out, HLO2.out⟩, KN.below⟩
end Go.Proofs.YtjpgbhakkfgecaaDoor

namespace Go.Proofs.YtjpgbhakkfgecaaDoor
open Go.RowKit
set_option linter.unusedVariables false
set_option linter.unusedSimpArgs false

theorem applyD_short {t : Tb} {d : Dl} : (applyD t d).2.cs.length ≤ 6 ∧ (applyD t d).2.rs.length ≤ 100 ∧ ∀ r ∈ (applyD t d).2.rs, r.2.length ≤ 6 := by
  unfold applyD
  split
  · rename_i h
    simp only [Bool.and_eq_true] at h
    have h2 := h.2
    have h3 := tabB_cols h2
    refine ⟨h3, (tabB_rows h2).1, fun r hr => ?_⟩
    have := tabB_row h2 hr
    omega
  · exact ⟨Nat.zero_le _, Nat.zero_le _, fun r hr => nomatch hr⟩
set_option maxHeartbeats 4000000 in
set_option maxRecDepth 100000 in
theorem applies8_any (M : Nat → Prop) (w : World) (hM : ∀ b, M b → b < w.heap.size) (va vd : Value) (t : Tb) (d : Dl) (hT : TbAt w M va t) (hD : DlAt w M vd d) (hst : t.nm.size ≤ maxLen) (hct : ∀ x ∈ t.cs, x.name.size ≤ maxLen) (hrt : t.rs.length ≤ 4398046511104) (hi : d.ins.length ≤ 1000000) (hde : d.del.length ≤ 4398046511104) (hup : d.upd.length ≤ 4398046511104) (hvi : ∀ r ∈ d.ins, r.2.length ≤ 4398046511104) (hvu : ∀ u ∈ d.upd, u.2.2.length ≤ 4398046511104) :
    Calls Tryd.prog 20 #[va, vd] w fun e w' => e = .returned (.bool true) ∧ Below w.heap.size w w' := by
  obtain ⟨aA, an, ac, aB, am, ad, la, rfl, a1, a2, a3, a4, a5, a6, a7, a8⟩ := hT
  obtain ⟨I1, ni1, ci1, D1, nd1, cd1, U1, nu1, cu1, li1, ld1, lu1, rfl, q11, q12, q13, r1, r2, r3, o11, o12, o13, e11, e12, e13⟩ := hD
  have HQ := hid (And.intro a1 (And.intro a2 (And.intro a3 (And.intro a4 (And.intro a7 a8)))))
  have HD1 := hid (And.intro q11 (And.intro q12 (And.intro q13 (And.intro o11 (And.intro o12 (And.intro o13 (And.intro e11 (And.intro e12 e13))))))))
  have HB := hid (And.intro hst (And.intro hct (And.intro hrt (And.intro hi (And.intro hde (And.intro hup (And.intro hvi hvu)))))))
  have K0 := ((((((Hold.start M w hM).add (r3.less (by simp [Mut]))).add (r2.less (by simp [Mut, Hp.foot]))).add (r1.less (by simp [Mut, Hp.foot]))).add (a6.less (by simp [Mut, Hp.foot]))).add (a5.less (by simp [Mut, Hp.foot]))).alloc_cst #[.string t.nm, .slice aA an ac, .int .i64 t.nx, .slice aB am ad] 27 |>.alloc_cst #[.string d.nm, .slice I1 ni1 ci1, .slice D1 nd1 cd1, .slice U1 nu1 cu1] 41
  simp only [World.size_alloc] at K0
  have F0 := K0.facts; simp only [factsL, cellsF, Nat.reduceAdd, zf, zl] at F0
  clear a1 a2 a3 a4 a5 a6 a7 a8 q11 q12 q13 r1 r2 r3 o11 o12 o13 e11 e12 e13 hst hct hrt hi hde hup hvi hvu
  have hsh := applyD_short (t := t) (d := d)
  obtain ⟨T, hT⟩ : ∃ T, T = applyD t d := ⟨_, rfl⟩
  rw [← hT] at hsh
  have HT := hid hT
  clear hT
  obtain ⟨b, T⟩ := T
  have HSH := hid hsh
  clear hsh
  go_enter Tryd.func20, Tryd.ntmps20
  go_wp2_with fail
  clear F0
  generalize (w.alloc _).alloc _ = w0 at K0 ⊢
  have hTa : TbAt w0 (Mut M _) (.agg #[.string t.nm, .slice aA an ac, .int .i64 t.nx, .slice aB am ad]) t := ⟨aA, an, ac, aB, am, ad, la, rfl, HQ.out.1, HQ.out.2.1, HQ.out.2.2.1, HQ.out.2.2.2.1, K0.ro 2 rfl, K0.ro 3 rfl, HQ.out.2.2.2.2.1, HQ.out.2.2.2.2.2⟩
  have hDd : DlAt w0 (Mut M _) (.agg #[.string d.nm, .slice I1 ni1 ci1, .slice D1 nd1 cd1, .slice U1 nu1 cu1]) d := ⟨I1, ni1, ci1, D1, nd1, cd1, U1, nu1, cu1, li1, ld1, lu1, rfl, HD1.out.1, HD1.out.2.1, HD1.out.2.2.1, K0.ro 4 rfl, K0.ro 5 rfl, K0.ro 6 rfl, HD1.out.2.2.2.1, HD1.out.2.2.2.2.1, HD1.out.2.2.2.2.2.1, HD1.out.2.2.2.2.2.2.1, HD1.out.2.2.2.2.2.2.2.1, HD1.out.2.2.2.2.2.2.2.2⟩
  have hk := dapply_any _ _ K0.mutLt _ _ t d hTa hDd HB.out.1 HB.out.2.1 HB.out.2.2.1 HB.out.2.2.2.1 HB.out.2.2.2.2.1 HB.out.2.2.2.2.2.1 HB.out.2.2.2.2.2.2.1 HB.out.2.2.2.2.2.2.2
  rw [← HT.out] at hk
  refine hk.mono ?_
  clear hk hTa hDd
  rintro e w1 ⟨v, rfl, ⟨A6, n6, c6, B6, m6, d6, l6, rfl, h61, h62, h63, h64, r6c, r6, h67, h68⟩, b1⟩
  dsimp only at r6c h68 ⊢
  have K1 := (((K0.call b1).add r6).add (r6c.less (mut_none rfl))).alloc_cst #[.string T.nm, .slice A6 n6 c6, .int .i64 T.nx, .slice B6 m6 d6] 27
  have HX6 := hid h68
  clear K0 b1 r6 r6c h61 h62 h63 h64 h67 h68
  have F1 := K1.facts; simp only [factsL, cellsF, Nat.reduceAdd, zf, zl] at F1
  go_wp2_with fail
  obtain ⟨g5, hg⟩ : ∃ g, g = w1.heap.size := ⟨_, rfl⟩
  rw [← hg] at K1 F1 ⊢
  have HG1 := hid hg
  clear hg
  generalize World.alloc w1 _ = w1' at K1 F1 ⊢
  have hTa : TbAt w1' (Mut M _) (.agg #[.string t.nm, .slice aA an ac, .int .i64 t.nx, .slice aB am ad]) t := ⟨aA, an, ac, aB, am, ad, la, rfl, HQ.out.1, HQ.out.2.1, HQ.out.2.2.1, HQ.out.2.2.2.1, K1.ro 5 rfl, K1.ro 6 rfl, HQ.out.2.2.2.2.1, HQ.out.2.2.2.2.2⟩
  have hDd : DlAt w1' (Mut M _) (.agg #[.string d.nm, .slice I1 ni1 ci1, .slice D1 nd1 cd1, .slice U1 nu1 cu1]) d := ⟨I1, ni1, ci1, D1, nd1, cd1, U1, nu1, cu1, li1, ld1, lu1, rfl, HD1.out.1, HD1.out.2.1, HD1.out.2.2.1, K1.ro 7 rfl, K1.ro 8 rfl, K1.ro 9 rfl, HD1.out.2.2.2.1, HD1.out.2.2.2.2.1, HD1.out.2.2.2.2.2.1, HD1.out.2.2.2.2.2.2.1, HD1.out.2.2.2.2.2.2.2.1, HD1.out.2.2.2.2.2.2.2.2⟩
  have hk := rapl8_any _ _ K1.mutLt _ _ t d hTa hDd HB.out.1 HB.out.2.1 HB.out.2.2.1 HB.out.2.2.2.1 HB.out.2.2.2.2.1 HB.out.2.2.2.2.2.1 HB.out.2.2.2.2.2.2.1 HB.out.2.2.2.2.2.2.2
  rw [← HT.out] at hk
  refine hk.mono ?_
  clear hk hTa hDd
  rintro e w2 ⟨v, rfl, ⟨A7, n7, c7, B7, m7, d7, l7, rfl, h71, h72, h73, h74, r7c, r7, h77, h78⟩, b1⟩
  dsimp only at r7c h78 ⊢
  have K2 := (((K1.call b1).add r7).add (r7c.less (mut_none rfl))).alloc_cst #[.string T.nm, .slice A7 n7 c7, .int .i64 T.nx, .slice B7 m7 d7] 27
  have HX7 := hid h78
  clear K1 b1 F1 r7 r7c h71 h72 h73 h74 h77 h78
  have F2 := K2.facts; simp only [factsL, cellsF, Nat.reduceAdd, zf, zl] at F2
  have hm6 : l6.length = m6 := (K2.ro 5 rfl).now.len
  have hn6 : T.cs.length = n6 := cols_n (K2.ro 4 rfl).now
  have hs1 := HSH.out.1
  have hs2 := HSH.out.2.1
  have hs3 := congrArg List.length HX6.out
  rw [List.length_map] at hs3
  have hst := sametable_any _ T.nm A6 n6 c6 T.cs T.nx B6 m6 d6 l6 T.nm A7 n7 c7 T.cs T.nx B7 m7 d7 l7 (K2.ro 4 rfl).now (K2.ro 1 rfl).now (K2.ro 5 rfl).now (K2.ro 2 rfl).now (by omega) (by omega) (fun r hr => by
    have h1 := ((K2.ro 5 rfl).now.2 r hr).len
    have h2 := HSH.out.2.2 r.row (by rw [← HX6.out]; exact List.mem_map_of_mem hr)
    simp only [Rw.row] at h2
    omega)
  rw [decide_eq_true (show (⟨T.nm, T.cs, T.nx, l6.map Rw.row⟩ : Tb) = ⟨T.nm, T.cs, T.nx, l7.map Rw.row⟩ by rw [HX6.out, HX7.out])] at hst
  have HSS := hid hst
  clear hst hm6 hn6 hs1 hs2 hs3
  cases b
  · go_wp2_with fail
    refine HSS.out.mono ?_
    rintro e w3 ⟨rfl, b3⟩
    have K3 := K2.call b3
    go_wp2_with fail
    go_ret
    exact ⟨by first | rfl | simp, K3.below⟩
  · go_wp2_with fail
    refine HSS.out.mono ?_
    rintro e w3 ⟨rfl, b3⟩
    have K3 := K2.call b3
    go_wp2_with fail
    go_ret
    exact ⟨by first | rfl | simp, K3.below⟩
end Go.Proofs.YtjpgbhakkfgecaaDoor

namespace Go.Proofs.YtjpgbhakkfgecaaDoor
open Go.RowKit
set_option linter.unusedVariables false
set_option linter.unusedSimpArgs false
theorem own_empty {w : World} {g b0 size : Nat} {e : TypeId} (hb : b0 ≤ g) (hg : w.heap[g]? = some (.cells #[] e (0, 0))) : w.ownsRow b0 e size (.slice (some ⟨g, 0, none⟩) 0 0) 0 [] :=
  ⟨by simp, .inr ⟨g, 0, #[], rfl, hb, hg, Nat.le_refl _, Nat.zero_le _, by simp, by simp⟩⟩
theorem run_cloneEmpty {P : Program} {t e : TypeId} {size bytes : Nat} {z : Value} (hE : ElemT P t e size bytes z) (ty : TypeId) (w : World) {g b0 : Nat} (hb0 : b0 ≤ g) (hb1 : b0 ≤ w.heap.size) (hg : w.heap[g]? = some (.cells #[] e (0, 0))) {A : Option Addr} {m c : Nat} {ys : List Value} (hr : SlR size A m ys w) (h1 : ∀ u ∈ ys, u.oneCell' = true) (hq : m < 140737488355328) (hb : m * bytes ≤ 140737488355328) :
    ∃ C' cap' w', (Builtin.append_ #[t, t] ty #[.slice (some ⟨g, 0, none⟩) 0 0, .slice A m c]).run P w = .ok (.slice C' m cap') w' ∧ m ≤ cap' ∧ cap' ≤ 9223372036854775807 ∧ w'.ownsRow b0 e size (.slice C' m cap') m ys ∧ Below w.heap.size w w' := by
  obtain ⟨i0, hi1, hi2, hi3, hi4⟩ := info_parts hE.hi
  have hown := own_empty (size := size) hb0 hg
  have hz : A = none → m = 0 := fun hA => by
    rcases Nat.eq_zero_or_pos m with h0 | h0
    · exact h0
    · obtain ⟨b, o, h, _⟩ := hr.2 h0
      rw [hA] at h; cases h
  rcases A with _ | ad
  · obtain rfl := hz rfl
    have hn : ys = [] := List.eq_nil_of_length_eq_zero (by simpa using hr.1)
    subst hn
    exact ⟨some ⟨g, 0, none⟩, 0, w, run_append_self w _ t _ _ i0 size hE.ht hi1 _ _ _ hown c, by omega, by omega, hown, Below.refl _ _⟩
  · have hcells : ∀ j u, ys[j]? = some u → w.cell? (ad.add j) = some u := by
      intro j u hu
      have hpos : 0 < m := by
        rcases Nat.eq_zero_or_pos m with h0 | h0
        · have hn : ys = [] := List.eq_nil_of_length_eq_zero (by have := hr.1; rw [h0] at this; simpa using this)
          rw [hn] at hu; simp at hu
        · exact h0
      obtain ⟨b, o', hA, _, hc⟩ := hr.2 hpos
      injection hA with hA
      subst hA
      have := hc j u hu
      rwa [Addr.add_lit]
    rcases Nat.eq_zero_or_pos m with h0 | h0
    · subst h0
      have hn : ys = [] := List.eq_nil_of_length_eq_zero (by simpa using hr.1)
      subst hn
      have hrun := run_append_room_cells (P := P) (w := w) t ty e i0 hE.ht hi1 g 0 0 0 ad 0 c [] (by simp) (fun j u hu => by simp at hu) (fun u hu => nomatch hu) (by omega) (fun j hj => by simp at hj) (fun j hj => by simp at hj)
      exact ⟨some ⟨g, 0, none⟩, 0, w, hrun, by omega, by omega, hown, Below.refl _ _⟩
    · obtain ⟨v', w', hrun, h2, h3, _, h5⟩ := run_append_own_at (P := P) w b0 t ty e i0 z size bytes hE.ht hi1 hi2 hi3 hi4 hE.hzs hE.hsz _ 0 [] hown ad m c ys hr.1 hcells h1 (by unfold maxLen; omega) (by rw [Nat.zero_add]; exact hb) hb1
      rw [Nat.zero_add, List.nil_append] at h2
      obtain ⟨C', cap', rfl⟩ := own_form h2
      have hc := own_caps h2
      have hgr := run_append_grow (P := P) w t ty e i0 z hE.ht hi1 hi2 ⟨g, 0, none⟩ 0 0 [] (by simp) (fun j v hv => by simp at hv) ad m c ys (by rw [hi3]; exact hr.1) hcells (by omega) (by omega) (growslice_fits (by omega) (by rw [hi4, Nat.zero_add]; exact hb))
      have hgr2 := hrun.symm.trans hgr
      injection hgr2 with _ hw
      subst hw
      exact ⟨C', cap', _, hrun, hc.1, hc.2.1, h2, ⟨rfl, rfl, rfl, by simp, fun k hk => heap_alloc_old w.drew _ hk⟩⟩
section
variable {P : Program} {M : Nat → Prop} {row : Option Nat} {w0 w1 : World} {L : List Hp} {sp : SpW} {F : Act → Prop} {S0 : Array Bool}
variable {ops : Array Oper} {o : Oper} {rest : List Oper} {a : Act} {k : Nat}
theorem dw_cloneE {t e : TypeId} {size bytes : Nat} {z : Value} (hE : ElemT P t e size bytes z) (d : Tmp) (V : Value → World → Prop) (hS : S0.getD k false = false) (hw : Region.wanted o (yielded ops a.tmps) = true) (hd : o.dst = some d) (hsp : sp d = some V)
    (s x : Operand) (ho : o.op = .call { callee := .builtin .append, args := #[s, x], argTypes := #[t, t] }) {g b0 : Nat} (hs : a.eval s = .slice (some ⟨g, 0, none⟩) 0 0) {A : Option Addr} {m c : Nat} {ys : List Value} (hx : a.eval x = .slice A m c) (h1 : ∀ u ∈ ys, u.oneCell' = true) (hq : m < 140737488355328) (hb : m * bytes ≤ 140737488355328)
    (hb0 : b0 ≤ w1.heap.size) (hg : ∀ w, Hold M row w0 w L → Deps ops (GW sp) o a w → b0 ≤ g ∧ w.heap[g]? = some (.cells #[] e (0, 0))) (hr : ∀ w, Hold M row w0 w L → Deps ops (GW sp) o a w → SlR size A m ys w)
    (hV : ∀ C' cap' w w', Hold M row w0 w L → RM (Mut M L) w1 w → Hold M row w0 w' L → m ≤ cap' → cap' ≤ 9223372036854775807 → w'.ownsRow b0 e size (.slice C' m cap') m ys → V (.slice C' m cap') w')
    (hn : ∀ u w, Hold M row w0 w L → V u w → wpRel P ops (HC M row w0 w1 L) (GW sp) (RM (Mut M L)) S0 F (k + 1) rest (a.put (some d) u)) : wpRel P ops (HC M row w0 w1 L) (GW sp) (RM (Mut M L)) S0 F k (o :: rest) a := by
  refine rel_step hS hw d hd (fun w hC hD => ?_) fun u w hC hu => hn u w hC.1 ((GW_on hsp).1 hu)
  obtain ⟨hb2, hg2⟩ := hg w hC.1 hD
  obtain ⟨C', cap', w', hrun, c1, c2, ho2, hbl⟩ := run_cloneEmpty hE o.type w hb2 (Nat.le_trans hb0 hC.2.1) hg2 (hr w hC.1 hD) (c := c) h1 hq hb
  have hH := hC.1.call hbl
  refine ⟨.slice C' m cap', w', ?_, (GW_on hsp).2 (hV C' cap' w w' hC.1 hC.2 hH c1 c2 ho2), ⟨hH, hC.2.trans (RM.below hbl)⟩, RM.below hbl⟩
  unfold execOp
  simp only [ho, resolve, invoke, builtin, Sem.run_bind, Sem.run_pure, Result.andThen_ok, List.map_toArray, List.map_cons, List.map_nil, hs, hx, hrun]
end
/-- an empty literal's slot -/
def EmptySl (M : Nat → Prop) (b0 : Nat) (t : TypeId) (u : Value) (w : World) : Prop := ∃ g : Nat, u = .slice (some ⟨g, 0, none⟩) 0 0 ∧ b0 ≤ g ∧ Ro w M (fun w => w.heap[g]? = some (.cells #[] t (0, 0)))
theorem emptySl_mono {M : Nat → Prop} {b0 : Nat} {t : TypeId} (u : Value) (w w' : World) (hr : RM M w w') (h : EmptySl M b0 t u w) : EmptySl M b0 t u w' := by
  obtain ⟨g, h1, h2, h3⟩ := h
  exact ⟨g, h1, h2, hr.ro h3⟩
/-- a list's slot, as it stands in memory -/
def StSl (M : Nat → Prop) (size : Nat) (xs : List Value) (u : Value) (w : World) : Prop := ∃ g n : Nat, u = .slice (some ⟨g, 0, none⟩) n n ∧ Ro w M (SlR size (some ⟨g, 0, none⟩) n xs)
theorem stSl_mono {M : Nat → Prop} {size : Nat} {xs : List Value} (u : Value) (w w' : World) (hr : RM M w w') (h : StSl M size xs u w) : StSl M size xs u w' := by
  obtain ⟨g, n, h1, h2⟩ := h
  exact ⟨g, n, h1, hr.ro h2⟩
end Go.Proofs.YtjpgbhakkfgecaaDoor

namespace Go.Proofs.YtjpgbhakkfgecaaDoor
open Go.RowKit
set_option linter.unusedVariables false
set_option linter.unusedSimpArgs false

theorem prVals_new {U : Option Addr} {nu : Nat} {us : List Pr} {w : World} (h : PrsIn U nu us w) (r : Int) : PrVals (us ++ [⟨r, none, 0, 0, [], none, 0, 0, []⟩]) w := fun p hp => by
  rcases List.mem_append.1 hp with hp | hp
  · exact h.2 p hp
  · simp at hp; subst hp; exact ⟨Rd.none_, Rd.none_⟩
theorem prOk_new {r : Int} (h : I64 r) : Pr.ok ⟨r, none, 0, 0, [], none, 0, 0, []⟩ := ⟨h, Nat.le_refl _, Nat.zero_le _, Nat.le_refl _, Nat.zero_le _, fun v hv => (nomatch hv), fun v hv => (nomatch hv)⟩
theorem prOk_snoc {l : List Pr} {p : Pr} (h : ∀ q ∈ l, q.ok) (k : p.ok) : ∀ q ∈ l ++ [p], q.ok := prs_ok_app h (fun q hq => by simp at hq; subst hq; exact k)
end Go.Proofs.YtjpgbhakkfgecaaDoor

namespace Go.Proofs.YtjpgbhakkfgecaaDoor
open Go.RowKit
set_option linter.unusedVariables false
set_option linter.unusedSimpArgs false

/-- Some difference in memory. -/
def SomeDl (w : World) (T : Nat) (M : Nat → Prop) (e : Ending) (w' : World) : Prop :=
  ∃ (v : Value) (d : Dl), e = .returned v ∧ DlAt w' M v d ∧ (d.ins.length ≤ 2000 ∧ d.del.length ≤ 2000 ∧ d.upd.length ≤ 2000) ∧ (∀ r ∈ d.ins, r.2.length ≤ 1000) ∧ (∀ u ∈ d.upd, u.2.2.length ≤ 1000) ∧ Tp w' T ∧ w.grownBy w' (some T)
theorem someDl_of {M : Nat → Prop} {T : Nat} {w w' : World} {nm : ByteArray} {I D U : Option Addr} {ni ci nd cd nu cu : Nat} {li ld : List Rw} {lu : List Pr} (h1 : ni ≤ ci ∧ ci ≤ 9223372036854775807) (h2 : nd ≤ cd ∧ cd ≤ 9223372036854775807) (h3 : nu ≤ cu ∧ cu ≤ 9223372036854775807) (hi : ∀ s ∈ li, s.ok) (hd : ∀ s ∈ ld, s.ok) (hu : ∀ p ∈ lu, p.ok)
    (h5 : ni ≤ 2000 ∧ nd ≤ 2000 ∧ nu ≤ 2000) (h6 : ∀ r ∈ li, r.vs.length ≤ 1000) (h7 : ∀ p ∈ lu, p.new.length ≤ 1000) (r1 : Ro w' M (RwsIn I ni li)) (r2 : Ro w' M (RwsIn D nd ld)) (r3 : Ro w' M (PrsIn U nu lu)) (ht : Tp w' T) (hg : w.grownBy w' (some T)) : SomeDl w T M (.returned (.agg #[.string nm, .slice I ni ci, .slice D nd cd, .slice U nu cu])) w' := by
  have l1 : li.length = ni := r1.now.len
  have l2 : ld.length = nd := r2.now.len
  have l3 : lu.length = nu := r3.now.len
  refine ⟨_, ⟨nm, li.map Rw.row, ld.map Rw.row, lu.map Pr.upd⟩, rfl, ⟨I, ni, ci, D, nd, cd, U, nu, cu, li, ld, lu, rfl, h1, h2, h3, r1, r2, r3, hi, hd, hu, rfl, rfl, rfl⟩, ⟨by rw [List.length_map]; omega, by rw [List.length_map]; omega, by rw [List.length_map]; omega⟩, fun r hr => ?_, fun u hu => ?_, ht, hg⟩
  · obtain ⟨x, hx, rfl⟩ := List.mem_map.1 hr
    exact h6 x hx
  · obtain ⟨x, hx, rfl⟩ := List.mem_map.1 hu
    exact h7 x hx
theorem rwCells_one (l : List Rw) : ∀ u ∈ rwCells l, u.oneCell' = true := fun u hu => by
  unfold rwCells at hu
  rw [List.mem_flatMap] at hu
  obtain ⟨x, _, hx⟩ := hu
  simp only [Rw.cells, List.mem_cons, List.not_mem_nil, or_false] at hx
  rcases hx with rfl | rfl <;> rfl
theorem rw_ok_snoc {l : List Rw} {x : Rw} (h : ∀ r ∈ l, r.ok) (k : x.ok) : ∀ r ∈ l ++ [x], r.ok := okSnoc h k
theorem rw_len_snoc {l : List Rw} {x : Rw} (h : ∀ r ∈ l, r.vs.length ≤ 1000) (k : x.vs.length ≤ 1000) : ∀ r ∈ l ++ [x], r.vs.length ≤ 1000 := okSnoc h k
theorem pr_len_snoc {l : List Pr} {x : Pr} (h : ∀ r ∈ l, r.new.length ≤ 1000) (k : x.new.length ≤ 1000) : ∀ r ∈ l ++ [x], r.new.length ≤ 1000 := okSnoc h k
theorem rw_ok_cons {l : List Rw} {x : Rw} (h : ∀ r ∈ l, r.ok) (k : x.ok) : ∀ r ∈ x :: l, r.ok := fun r hr => by
  rcases List.mem_cons.1 hr with rfl | hr
  · exact k
  · exact h r hr
theorem rw_len_cons {l : List Rw} {x : Rw} (h : ∀ r ∈ l, r.vs.length ≤ 1000) (k : x.vs.length ≤ 1000) : ∀ r ∈ x :: l, r.vs.length ≤ 1000 := fun r hr => by
  rcases List.mem_cons.1 hr with rfl | hr
  · exact k
  · exact h r hr
theorem rwVals_new {A : Option Addr} {n : Nat} {l : List Rw} {x : Rw} {w : World} (h : RwsIn A n l w) (k : VlsIn x.A x.n x.vs w) : ValsIn (l ++ [x]) w := fun r hr => by
  rcases List.mem_append.1 hr with hr | hr
  · exact h.2 r hr
  · simp at hr; subst hr; exact k
theorem rwVals_cons {A : Option Addr} {n : Nat} {l : List Rw} {x : Rw} {w : World} (h : RwsIn A n l w) (k : VlsIn x.A x.n x.vs w) : ValsIn (x :: l) w := fun r hr => by
  rcases List.mem_cons.1 hr with rfl | hr
  · exact k
  · exact h.2 r hr
theorem rwOk_new {r : Int} (h : I64 r) : Rw.ok ⟨r, none, 0, 0, []⟩ := ⟨h, Nat.le_refl _, Nat.zero_le _, fun v hv => (nomatch hv)⟩
theorem rwOk_two {r : Int} (h : I64 r) {g : Nat} : Rw.ok ⟨r, some ⟨g, 0, none⟩, 2, 2, [⟨0, 0, ⟨#[]⟩⟩, ⟨0, 0, ⟨#[]⟩⟩]⟩ := ⟨h, Nat.le_refl _, by show (2 : Nat) ≤ _; omega, fun v hv => by
  simp at hv
  subst hv
  exact ⟨by unfold I64; decide, by unfold I64; decide, Nat.zero_le _⟩⟩
theorem prVals_two {A : Option Addr} {n : Nat} {l : List Pr} {id : Int} {B : Option Addr} {m c : Nat} {vs : List Vl} {w : World} (h : PrsIn A n l w) (k : VlsIn B m vs w) : PrVals (l ++ [⟨id, B, m, c, vs, B, m, c, vs⟩]) w := fun r hr => by
  rcases List.mem_append.1 hr with hr | hr
  · exact h.2 r hr
  · simp at hr; subst hr; exact ⟨k, k⟩

set_option maxHeartbeats 8000000 in
set_option maxRecDepth 100000 in
theorem dspoil_any (M : Nat → Prop) (T : Nat) (w : World) (hM : ∀ b, M b → b < w.heap.size) (ht : Tp w T) (hMT : ∀ b, M b → T ≤ b) (v : Value) (d : Dl) (hV : DlAt w (Mut M [.tp T]) v d) (hn1 : d.ins.length ≤ 200) (hn2 : d.del.length ≤ 200) (hn3 : d.upd.length ≤ 200) (hl1 : ∀ r ∈ d.ins, r.2.length ≤ 1000) (hl2 : ∀ r ∈ d.del, r.2.length ≤ 1000) (hl3 : ∀ u ∈ d.upd, u.2.2.length ≤ 1000) :
    Calls Tryd.prog 21 #[.pointer (some ⟨T, 0, none⟩), v] w fun e w' => SomeDl w T M e w' := by
  obtain ⟨I, ni, ci, D, nd, cd, U, nu, cu, li, ld, lu, rfl, h1, h2, h3, hI, hD, hU, hoi, hod, hou, e1, e2, e3⟩ := hV
  have HB1 := hid h1
  have HB2 := hid h2
  have HB3 := hid h3
  have HOI := hid hoi
  have HOD := hid hod
  have HOU := hid hou
  have HDL := hid (show ld.length = nd from hD.now.len)
  have hni : ni ≤ 200 := by have h : li.length = ni := hI.now.len; have := congrArg List.length e1; rw [List.length_map] at this; omega
  have hnd : nd ≤ 200 := by have h : ld.length = nd := hD.now.len; have := congrArg List.length e2; rw [List.length_map] at this; omega
  have hnu : nu ≤ 200 := by have h : lu.length = nu := hU.now.len; have := congrArg List.length e3; rw [List.length_map] at this; omega
  have HSH := hid (show (ni ≤ 2000 ∧ nd ≤ 2000 ∧ nu ≤ 2000) ∧ (∀ r ∈ li, r.vs.length ≤ 1000) ∧ ∀ p ∈ lu, p.new.length ≤ 1000 from ⟨⟨by omega, by omega, by omega⟩, fun r hr => hl1 r.row (by rw [← e1]; exact List.mem_map_of_mem hr), fun p hp => hl3 p.upd (by rw [← e3]; exact List.mem_map_of_mem hp)⟩)
  have HSH3 := hid HSH.out.2.2
  have HSD := hid (show ∀ r ∈ ld, r.vs.length ≤ 1000 from fun r hr => hl2 r.row (by rw [← e2]; exact List.mem_map_of_mem hr))
  have K0 := (((((Hold.startT M w T hM ht hMT).add hU).add (hD.less (mut_none rfl))).add ((hI.less (mut_none rfl)).less (mut_none rfl))).alloc #[.string d.nm, .slice I ni ci, .slice D nd cd, .slice U nu cu] 41).alloc #[.string ⟨#[]⟩, .slice none 0 0, .slice none 0 0, .slice none 0 0] 41
  simp only [World.size_alloc] at K0
  have F0 := K0.facts
  simp only [factsL, cellsF, Nat.reduceAdd, zf, zl] at F0
  clear hI hD hU h1 h2 h3 hoi hod hou e1 e2 e3 hn1 hn2 hn3 hl1 hl2 hl3
  go_enter Tryd.func21, Tryd.ntmps21
  obtain ⟨g3, hg3⟩ : ∃ g3, g3 = w.heap.size := ⟨_, rfl⟩
  obtain ⟨g4, hg4⟩ : ∃ g4, g4 = g3 + 1 := ⟨_, rfl⟩
  go_wp2_with fail
  rw [← hg3, ← hg4] at K0 ⊢
  clear F0
  generalize (w.alloc _).alloc _ = w1 at K0 ⊢
  have HGX0 := hid hg3
  clear hg3 hg4
  refine (next_any T 6 _ (K0.tp_ 5 rfl) (by omega) (by omega)).mono ?_
  rintro e w2 ⟨z, rfl, z0, z1, t2, g2⟩
  have K2 := Hold.callT K0 5 rfl g2 t2
  clear K0 g2 t2
  have F2 := K2.facts
  simp only [factsL, cellsF, Nat.reduceAdd, zf, zl] at F2
  have NK := K2.nes
  simp only [nesL, neF, and_true, true_and] at NK
  obtain rfl | rfl | rfl | rfl | rfl | rfl : z = 0 ∨ z = 1 ∨ z = 2 ∨ z = 3 ∨ z = 4 ∨ z = 5 := by omega
  · skip
    have K3 := K2.store 1 rfl 0 (.string ⟨#[120]⟩)
    simp only [List.set_cons_zero, List.set_cons_succ, List.setIfInBounds_toArray] at K3
    go_wp2_with fail
    have KN := (((K3.store 0 rfl 0 (.string ⟨#[120]⟩)).store 0 rfl 1 (.slice I ni ci)).store 0 rfl 2 (.slice D nd cd)).store 0 rfl 3 (.slice U nu cu)
    exact bodyPost_ret (v := .agg #[.string ⟨#[120]⟩, .slice I ni ci, .slice D nd cd, .slice U nu cu]) (by simp [results, Tryd.results21, go_sem, F2, NK]) rfl (someDl_of HB1.out HB2.out HB3.out HOI.out HOD.out HOU.out HSH.out.1 HSH.out.2.1 HSH.out.2.2 (KN.roOut 2 rfl) (KN.roOut 3 rfl) (KN.roOut 4 rfl) (KN.tp_ 5 rfl) KN.grow)
  · skip
    have KE := K2.alloc_own #[] 53 2 0 (by unfold maxLen; omega) rfl
    have k5 := hid (KE.ro 3 rfl).now.1
    clear K2
    have FE := KE.facts
    simp only [factsL, cellsF, Nat.reduceAdd, zf, zl] at FE
    go_wp2_with (at_builtin; go_must (refine wpList_appAllH KE 0 rfl Tryd.elRw k5.out rfl (.tmp 36) (.tmp 38) rfl rfl rfl (rwCells_one _) (by omega) (by omega) ?_); intro C' cap' w6 hc6 hm6 KB; (try simp only [Nat.zero_add] at hc6 KB ⊢); simp only [Nat.zero_add, List.nil_append, List.set_cons_zero, List.set_cons_succ] at KB; (have FB := KB.facts); simp only [factsL, cellsF, Nat.reduceAdd, zf, zl] at FB)
    refine (next_any T 20 _ (KB.tp_ 6 rfl) (by omega) (by omega)).mono ?_
    rintro e w3 ⟨r, rfl, r0, r1, t3, g3'⟩
    have K3 := Hold.callT KB 6 rfl g3' t3
    clear KB g3' t3 FB FE k5
    have F3 := K3.facts
    simp only [factsL, cellsF, Nat.reduceAdd, zf, zl] at F3
    go_wp2_with (at_builtin; have KZ := K3.alloc_cst #[.int .i64 0, .int .i64 0, .string ⟨#[]⟩, .int .i64 0, .int .i64 0, .string ⟨#[]⟩] 71; have HCE := hid (show rwCells li ++ (#[Value.int .i64 r, .slice (some ⟨w3.heap.size, 0, none⟩) 2 2]).toList = rwCells (li ++ [⟨r, some ⟨w3.heap.size, 0, none⟩, 2, 2, [⟨0, 0, ⟨#[]⟩⟩, ⟨0, 0, ⟨#[]⟩⟩]⟩]) from rwCells_snoc1 _ _ _ _ _ _); go_must (refine wpList_appH KZ 1 rfl Tryd.elRw #[.int .i64 r, .slice (some ⟨w3.heap.size, 0, none⟩) 2 2] rfl (.tmp 39) (.tmp 46) rfl rfl (w3.heap.size + 1) (by first | rfl | simp) rfl rfl (by intro u hu; simp at hu; rcases hu with rfl | rfl <;> rfl) (by omega) (by omega) ?_); intro g9 cap9 w9 hc9 hm9 KC; rw [HCE.out] at KC; simp only [List.set_cons_zero, List.set_cons_succ] at KC; (have FC := KC.facts); simp only [factsL, cellsF, Nat.reduceAdd, zf, zl] at FC)
    have KD := KC.store 3 rfl 1 (.slice (some ⟨g9, 0, none⟩) (ni + 1) cap9)
    have hzr : Ro _ _ (VlsIn (some ⟨w3.heap.size, 0, none⟩) 2 [⟨0, 0, ⟨#[]⟩⟩, ⟨0, 0, ⟨#[]⟩⟩]) := ro_block (t := 71) (cs := #[.int .i64 0, .int .i64 0, .string ⟨#[]⟩, .int .i64 0, .int .i64 0, .string ⟨#[]⟩]) (KD.get 0 rfl) rfl
    replace KD := KD.add hzr
    clear hzr
    have KS := KD.sealRow 2 rfl
    simp only [List.set_cons_zero, List.set_cons_succ, List.setIfInBounds_toArray] at KS
    have KN := (((KS.store 3 rfl 0 (.string d.nm)).store 3 rfl 1 (.slice (some ⟨g9, 0, none⟩) (ni + 1) cap9)).store 3 rfl 2 (.slice D nd cd)).store 3 rfl 3 (.slice U nu cu)
    exact bodyPost_ret (v := .agg #[.string d.nm, .slice (some ⟨g9, 0, none⟩) (ni + 1) cap9, .slice D nd cd, .slice U nu cu]) (by simp [results, Tryd.results21, go_sem, FC, NK]) rfl (someDl_of ⟨hc9, hm9⟩ HB2.out HB3.out (rw_ok_snoc HOI.out (rwOk_two (by unfold I64; omega))) HOD.out HOU.out ⟨by omega, by omega, by omega⟩ (rw_len_snoc HSH.out.2.1 (by show (2 : Nat) ≤ 1000; omega)) HSH.out.2.2 ((KN.roOut 2 rfl).and (((KN.roOut 5 rfl).and (KN.roOut 0 rfl)).imp fun w h => rwVals_new h.1 h.2)) (KN.roOut 6 rfl) (KN.roOut 7 rfl) (KN.tp_ 8 rfl) KN.grow)
  · skip
    have KE := K2.alloc_own #[] 53 2 0 (by unfold maxLen; omega) rfl
    have k5 := hid (KE.ro 4 rfl).now.1
    clear K2
    have FE := KE.facts
    simp only [factsL, cellsF, Nat.reduceAdd, zf, zl] at FE
    go_wp2_with (at_builtin; go_must (refine wpList_appAllH KE 0 rfl Tryd.elRw k5.out rfl (.tmp 51) (.tmp 53) rfl rfl rfl (rwCells_one _) (by omega) (by omega) ?_); intro C' cap' w6 hc6 hm6 KB; (try simp only [Nat.zero_add] at hc6 KB ⊢); simp only [Nat.zero_add, List.nil_append, List.set_cons_zero, List.set_cons_succ] at KB; (have FB := KB.facts); simp only [factsL, cellsF, Nat.reduceAdd, zf, zl] at FB)
    refine (next_any T 9 _ (KB.tp_ 6 rfl) (by omega) (by omega)).mono ?_
    rintro e w3 ⟨r, rfl, r0, r1, t3, g3'⟩
    have K3 := Hold.callT KB 6 rfl g3' t3
    clear KB g3' t3 FB FE k5
    have F3 := K3.facts
    simp only [factsL, cellsF, Nat.reduceAdd, zf, zl] at F3
    have HCE := hid (show rwCells ld ++ (#[Value.int .i64 r, .slice none 0 0]).toList = rwCells (ld ++ [⟨r, none, 0, 0, []⟩]) from rwCells_snoc1 _ _ _ _ _ _)
    go_wp2_with (at_builtin; go_must (refine wpList_appH K3 0 rfl Tryd.elRw #[.int .i64 r, .slice none 0 0] rfl (.tmp 54) (.tmp 58) rfl rfl _ rfl rfl rfl (by intro u hu; simp at hu; rcases hu with rfl | rfl <;> rfl) (by omega) (by omega) ?_); intro g9 cap9 w9 hc9 hm9 KC; rw [HCE.out] at KC; simp only [List.set_cons_zero, List.set_cons_succ] at KC; (have FC := KC.facts); simp only [factsL, cellsF, Nat.reduceAdd, zf, zl] at FC)
    have KD := KC.store 2 rfl 2 (.slice (some ⟨g9, 0, none⟩) (nd + 1) cap9)
    have KS := KD.sealRow 0 rfl
    simp only [List.set_cons_zero, List.set_cons_succ, List.setIfInBounds_toArray] at KS
    have KN := (((KS.store 1 rfl 0 (.string d.nm)).store 1 rfl 1 (.slice I ni ci)).store 1 rfl 2 (.slice (some ⟨g9, 0, none⟩) (nd + 1) cap9)).store 1 rfl 3 (.slice U nu cu)
    exact bodyPost_ret (v := .agg #[.string d.nm, .slice I ni ci, .slice (some ⟨g9, 0, none⟩) (nd + 1) cap9, .slice U nu cu]) (by simp [results, Tryd.results21, go_sem, FC, NK]) rfl (someDl_of HB1.out ⟨hc9, hm9⟩ HB3.out HOI.out (rw_ok_snoc HOD.out (rwOk_new (by unfold I64; omega))) HOU.out ⟨by omega, by omega, by omega⟩ HSH.out.2.1 HSH.out.2.2 (KN.roOut 3 rfl) ((KN.roOut 0 rfl).and ((KN.roOut 4 rfl).imp fun w h => rwVals_new h Rd.none_)) (KN.roOut 5 rfl) (KN.tp_ 6 rfl) KN.grow)
  · skip
    have KE := K2.alloc_own #[] 99 3 0 (by unfold maxLen; omega) rfl
    have k5 := hid (KE.ro 5 rfl).now.1
    clear K2
    have FE := KE.facts
    simp only [factsL, cellsF, Nat.reduceAdd, zf, zl] at FE
    go_wp2_with (at_builtin; go_must (refine wpList_appAllH KE 0 rfl Tryd.elPr k5.out rfl (.tmp 63) (.tmp 65) rfl rfl rfl (prCells_one _) (by omega) (by omega) ?_); intro C' cap' w6 hc6 hm6 KB; (try simp only [Nat.zero_add] at hc6 KB ⊢); simp only [Nat.zero_add, List.nil_append, List.set_cons_zero, List.set_cons_succ] at KB; (have FB := KB.facts); simp only [factsL, cellsF, Nat.reduceAdd, zf, zl] at FB)
    refine (next_any T 9 _ (KB.tp_ 6 rfl) (by omega) (by omega)).mono ?_
    rintro e w3 ⟨r, rfl, r0, r1, t3, g3'⟩
    have K3 := Hold.callT KB 6 rfl g3' t3
    clear KB g3' t3 FB FE k5
    have F3 := K3.facts
    simp only [factsL, cellsF, Nat.reduceAdd, zf, zl] at F3
    have HCE := hid (show prCells lu ++ (#[Value.int .i64 r, .slice none 0 0, .slice none 0 0]).toList = prCells (lu ++ [⟨r, none, 0, 0, [], none, 0, 0, []⟩]) by simp [prCells, Pr.cells])
    go_wp2_with (at_builtin; go_must (refine wpList_appH K3 0 rfl Tryd.elPr #[.int .i64 r, .slice none 0 0, .slice none 0 0] rfl (.tmp 66) (.tmp 70) rfl rfl _ rfl rfl rfl (by intro u hu; simp at hu; rcases hu with rfl | rfl | rfl <;> rfl) (by omega) (by omega) ?_); intro g9 cap9 w9 hc9 hm9 KC; rw [HCE.out] at KC; simp only [List.set_cons_zero, List.set_cons_succ] at KC; (have FC := KC.facts); simp only [factsL, cellsF, Nat.reduceAdd, zf, zl] at FC)
    have KD := KC.store 2 rfl 3 (.slice (some ⟨g9, 0, none⟩) (nu + 1) cap9)
    have KS := KD.sealRow 0 rfl
    simp only [List.set_cons_zero, List.set_cons_succ, List.setIfInBounds_toArray] at KS
    have KN := (((KS.store 1 rfl 0 (.string d.nm)).store 1 rfl 1 (.slice I ni ci)).store 1 rfl 2 (.slice D nd cd)).store 1 rfl 3 (.slice (some ⟨g9, 0, none⟩) (nu + 1) cap9)
    exact bodyPost_ret (v := .agg #[.string d.nm, .slice I ni ci, .slice D nd cd, .slice (some ⟨g9, 0, none⟩) (nu + 1) cap9]) (by simp [results, Tryd.results21, go_sem, FC, NK]) rfl (someDl_of HB1.out HB2.out ⟨hc9, hm9⟩ HOI.out HOD.out (prOk_snoc HOU.out (prOk_new (by unfold I64; omega))) ⟨by omega, by omega, by omega⟩ HSH.out.2.1 (pr_len_snoc HSH.out.2.2 (Nat.zero_le _)) (KN.roOut 3 rfl) (KN.roOut 4 rfl) ((KN.roOut 0 rfl).and ((KN.roOut 5 rfl).imp fun w h => prVals_new h r)) (KN.tp_ 6 rfl) KN.grow)
  · skip
    have KE := K2.alloc_own #[.int .i64 9223372036854775807, .slice none 0 0] 53 2 1 (by unfold maxLen; omega) rfl
    have k5 := hid (KE.ro 3 rfl).now.1
    clear K2
    have FE := KE.facts
    simp only [factsL, cellsF, Nat.reduceAdd, zf, zl] at FE
    have HCE := hid (show (#[Value.int .i64 9223372036854775807, .slice none 0 0]).toList ++ rwCells li = rwCells (⟨9223372036854775807, none, 0, 0, []⟩ :: li) by simp [rwCells, Rw.cells])
    go_wp2_with (at_builtin; go_must (refine wpList_appAllH KE 0 rfl Tryd.elRw k5.out rfl (.tmp 76) (.tmp 78) rfl rfl rfl (rwCells_one _) (by omega) (by omega) ?_); intro C' cap' w6 hc6 hm6 KB; rw [HCE.out] at KB; simp only [List.set_cons_zero, List.set_cons_succ] at KB; (have FB := KB.facts); simp only [factsL, cellsF, Nat.reduceAdd, zf, zl] at FB)
    have KD := KB.store 2 rfl 1 (.slice C' (1 + ni) cap')
    have KS := KD.sealRow 0 rfl
    simp only [List.set_cons_zero, List.set_cons_succ, List.setIfInBounds_toArray] at KS
    have KN := (((KS.store 1 rfl 0 (.string d.nm)).store 1 rfl 1 (.slice C' (1 + ni) cap')).store 1 rfl 2 (.slice D nd cd)).store 1 rfl 3 (.slice U nu cu)
    exact bodyPost_ret (v := .agg #[.string d.nm, .slice C' (1 + ni) cap', .slice D nd cd, .slice U nu cu]) (by simp [results, Tryd.results21, go_sem, FB, NK]) rfl (someDl_of ⟨hc6, hm6⟩ HB2.out HB3.out (rw_ok_cons HOI.out (rwOk_new (by unfold I64; omega))) HOD.out HOU.out ⟨by omega, by omega, by omega⟩ (rw_len_cons HSH.out.2.1 (Nat.zero_le _)) HSH.out.2.2 ((KN.roOut 0 rfl).and ((KN.roOut 3 rfl).imp fun w h => rwVals_cons h Rd.none_)) (KN.roOut 4 rfl) (KN.roOut 5 rfl) (KN.tp_ 6 rfl) KN.grow)
  · skip
    have KU : Hold M (some T) w w2 [.ro (PrsIn U nu lu), .blk g4 41 #[.string ⟨#[]⟩, .slice none 0 0, .slice none 0 0, .slice none 0 0], .blk g3 41 #[.string d.nm, .slice I ni ci, .slice D nd cd, .slice U nu cu], .ro (RwsIn I ni li), .ro (RwsIn D nd ld), .tp T] := (K2.add (K2.ro 4 rfl)).drop (List.Sublist.cons_cons _ (List.Sublist.cons_cons _ (List.Sublist.cons_cons _ (List.Sublist.cons_cons _ (List.Sublist.cons_cons _ (List.sublist_cons_self _ _))))))
    clear K2
    go_wp2_with fail
    go_loopw [12] (fun iv wr => ∃ (k q cq : Nat) (UA : Option Addr) (up : List Pr), k ≤ nd ∧ iv = .int .i64 k ∧ q ≤ nu + k ∧ Hid (q ≤ cq ∧ cq ≤ 9223372036854775807) ∧ Hid (∀ p ∈ up, p.ok) ∧ Hid (∀ p ∈ up, p.new.length ≤ 1000) ∧ Hold M (some T) w wr [.ro (PrsIn UA q up), .blk g4 41 #[.string ⟨#[]⟩, .slice none 0 0, .slice none 0 0, .slice none 0 0], .blk g3 41 #[.string d.nm, .slice I ni ci, .slice D nd cd, .slice UA q cq], .ro (RwsIn I ni li), .ro (RwsIn D nd ld), .tp T]) (fun iv _ => nd - (intOf iv).toNat)
    case atStart => exact ⟨0, nu, cu, U, lu, by omega, rfl, by omega, HB3, HOU, HSH3, KU⟩
    case round =>
      clear KU F2 NK
      obtain ⟨k, q, cq, UA, up, hk, rfl, hq, HQ, HOQ, HSQ, H⟩ := hrel
      by_cases hlt : k < nd
      · have hd : decide ((k : Int) < (nd : Int)) = true := by simp; omega
        have i0 : (0 : Int) ≤ (k : Int) := by omega
        have i1 : (k : Int) < (nd : Int) := by omega
        obtain ⟨x, hx⟩ := get_of HDL.out hlt
        have hxv : Ro wr _ (VlsIn x.A x.n x.vs) := (H.ro 4 rfl).imp fun w2 h2 => h2.2 x (List.mem_of_getElem? hx)
        obtain ⟨bb, oo, rfl, hbb, c0, c1, _⟩ := (H.ro 4 rfl).now.at_ hx
        have HXO := hid (HOD.out x (List.mem_of_getElem? hx))
        have HXS := hid (HSD.out x (List.mem_of_getElem? hx))
        obtain ⟨xid, xA, xn, xc, xvs⟩ := x
        dsimp only at *
        clear hx
        have K3 := (H.add hxv).alloc_cst #[.int .i64 xid, .slice xA xn xc] 53
        clear hxv H
        have HPL := hid (show (prCells up).length = q * 3 from by rw [prCells_len, (K3.ro 2 rfl).now.len])
        have F3 := K3.facts
        simp only [factsL, cellsF, Nat.reduceAdd, zf, zl] at F3
        go_wp2_with fail
        obtain ⟨gx, hgx⟩ : ∃ g, g = wr.heap.size := ⟨_, rfl⟩
        rw [← hgx] at K3 F3 ⊢
        have HGX := hid hgx
        clear hgx c0 c1
        generalize World.alloc wr _ = w3 at K3 F3 ⊢
        obtain ⟨KL, hKL, KN⟩ := K3.name
        have HF : Hid (∀ wv, Hold M (some T) w wv KL → wv.cell? ⟨gx, 0, none⟩ = some (.int .i64 xid) ∧ wv.cell? ⟨gx, 1, none⟩ = some (.slice xA xn xc) ∧ gx < wv.heap.size ∧ wv.cell? ⟨g3, 3, none⟩ = some (.slice UA q cq) ∧ g3 < wv.heap.size) := hid fun wv HC => by
          rw [hKL] at HC
          have y1 := HC.cst_ 0 rfl
          have y2 := HC.blk_ 4 rfl
          exact ⟨cell_of_row _ _ 0 _ _ _ y1, cell_of_row _ _ 1 _ _ _ y1, Blk.lt y1, cell_of_row _ _ 3 _ _ _ y2, Blk.lt y2⟩
        have HUS : Hid (∀ wv, Hold M (some T) w wv KL → SlR 3 UA q (prCells up) wv) := hid fun wv HC => by
          rw [hKL] at HC
          exact (HC.ro 2 rfl).now.1
        have HKL := hid hKL
        clear hKL K3 F3
        obtain ⟨Hs, hHs⟩ : ∃ Hs, Hs = w3.drew.heap.size := ⟨_, rfl⟩
        have HHS := hid hHs
        have hMH : ∀ b, Mut M KL b → b < Hs := by rw [hHs]; exact KN.drew.mutLt
        clear hHs
        refine wp_region_any (by kernel_rfl) ?_
        refine wpAny_hold 12 82 (KL) (spL [(16, EmptySl (Mut M KL) Hs 99), (19, OwnSl 99 3 Hs (prCells up)), (27, StSl (Mut M KL) 3 [.int .i64 xid, .slice xA xn xc, .slice xA xn xc])]) (by kernel_rfl) (by kernel_rfl) (by kernel_rfl) rfl ?_ (KN.drew) ?_
        · exact stays_cons emptySl_mono (stays_cons (ownSl_mono hMH) (stays_cons stSl_mono (stays_nil _)))
        simp only [zd, Act.put, List.getElem_toArray, List.getElem_cons_zero, List.getElem_cons_succ, zl]
        refine dw_new #[] 99 16 (EmptySl (Mut M KL) Hs 99) (fun g => .slice (some ⟨g, 0, none⟩) 0 0) rfl rfl rfl rfl (fun wv => ?_) (fun wv HC hrm hD hro => ?_) ?_
        · go_simp <;> rfl
        · exact ⟨_, rfl, by have := hrm.1; rw [HHS.out]; exact this, hro _ HC.mutLt⟩
        rintro g11 wg HCg hsl
        simp only [Act.put, zl]
        clear hsl HCg
        refine dw_val rfl rfl rfl ?_; apply Exists.intro; refine ⟨fun wv HC => ?_, ?_⟩
        ·  go_simp <;> rfl
        simp only [Act.put, zl]
        refine dw_val rfl rfl rfl ?_; apply Exists.intro; refine ⟨fun wv HC => ?_, ?_⟩
        · obtain ⟨f0, f1, f2, f3, f4⟩ := HF.out _ HC; go_simp <;> rfl
        simp only [Act.put, zl]
        refine dw_cloneE Tryd.elPr 19 (OwnSl 99 3 Hs (prCells up)) rfl rfl rfl rfl (.tmp 16) (.tmp 18) rfl (g := g11) (b0 := Hs) rfl (A := UA) (m := q) (c := cq) (ys := prCells up) rfl (prCells_one _) (by omega) (by omega) (by rw [HHS.out]; exact Nat.le_refl _) (fun wv HC hD => ?_) (fun wv HC hD => HUS.out _ HC) (fun C9 c9 wv wv' HC hrm HC' q1 q2 ho => ⟨C9, q, c9, rfl, by rw [HPL.out], q1, q2, ho⟩) ?_
        · have hsl : EmptySl (Mut M KL) Hs 99 (.slice (some ⟨g11, 0, none⟩) 0 0) wv := deps_at hD 0 rfl (by kernel_rfl) rfl rfl
          obtain ⟨gq, e6, h1, h2⟩ := hsl
          obtain rfl : g11 = gq := by injection e6 with e6; injection e6 with e6; injection e6
          exact ⟨h1, h2.now⟩
        rintro u wx HCx ⟨A80, n80, c80, rfl, hn80, -, -, -⟩
        obtain rfl : q = n80 := by rw [HPL.out] at hn80; omega
        clear HCx hn80
        simp only [Act.put, zl]
        refine dw_val rfl rfl rfl ?_; apply Exists.intro; refine ⟨fun wv HC => ?_, ?_⟩
        ·  go_simp <;> rfl
        simp only [Act.put, zl]
        refine dw_val rfl rfl rfl ?_; apply Exists.intro; refine ⟨fun wv HC => ?_, ?_⟩
        · obtain ⟨f0, f1, f2, f3, f4⟩ := HF.out _ HC; go_simp <;> rfl
        simp only [Act.put, zl]
        refine dw_val rfl rfl rfl ?_; apply Exists.intro; refine ⟨fun wv HC => ?_, ?_⟩
        ·  go_simp <;> rfl
        simp only [Act.put, zl]
        refine dw_val rfl rfl rfl ?_; apply Exists.intro; refine ⟨fun wv HC => ?_, ?_⟩
        · obtain ⟨f0, f1, f2, f3, f4⟩ := HF.out _ HC; go_simp <;> rfl
        simp only [Act.put, zl]
        refine dw_val rfl rfl rfl ?_; apply Exists.intro; refine ⟨fun wv HC => ?_, ?_⟩
        ·  go_simp <;> rfl
        simp only [Act.put, zl]
        refine dw_val rfl rfl rfl ?_; apply Exists.intro; refine ⟨fun wv HC => ?_, ?_⟩
        · obtain ⟨f0, f1, f2, f3, f4⟩ := HF.out _ HC; go_simp <;> rfl
        simp only [Act.put, zl]
        refine dw_val rfl rfl rfl ?_; apply Exists.intro; refine ⟨fun wv HC => ?_, ?_⟩
        ·  go_simp <;> rfl
        simp only [Act.put, zl]
        refine dw_new #[.int .i64 xid, .slice xA xn xc, .slice xA xn xc] 99 27 (StSl (Mut M KL) 3 [.int .i64 xid, .slice xA xn xc, .slice xA xn xc]) (fun g => .slice (some ⟨g, 0, none⟩) 1 1) rfl rfl rfl rfl (fun wv => ?_) (fun wv HC _hrm hD hro => ?_) ?_
        · go_simp <;> rfl
        · exact ⟨_, 1, rfl, ro_block (hro _ HC.mutLt) rfl⟩
        rintro g19 wg HCg hsl
        simp only [Act.put, zl]
        clear hsl HCg
        refine rel_nil ?_
        rintro wx2 HX
        rintro _hrm HGW
        have ho70 : OwnSl 99 3 Hs (prCells up) (.slice A80 q c80) wx2 := (GW_on (d := 19) rfl).1 (HGW 3 _ rfl (by omega))
        have hb76 : StSl (Mut M KL) 3 [.int .i64 xid, .slice xA xn xc, .slice xA xn xc] (.slice (some ⟨g19, 0, none⟩) 1 1) wx2 := (GW_on (d := 27) rfl).1 (HGW 11 _ rfl (by omega))
        clear HGW
        obtain ⟨gq, nq, e6, k4_⟩ := hb76
        obtain ⟨rfl, rfl⟩ : g19 = gq ∧ 1 = nq := by injection e6 with h1 h2; injection h1 with h1; injection h1 with h1; exact ⟨h1, h2⟩
        obtain ⟨A6, n6, c6, e7, hn6, hc61, hc62, ho6⟩ := ho70
        obtain ⟨rfl, rfl, rfl⟩ : A80 = A6 ∧ q = n6 ∧ c80 = c6 := by injection e7 with h1 h2 h3; exact ⟨h1, h2, h3⟩
        clear e6 e7 hn6
        have k5 := hid k4_.now
        rw [HHS.out] at ho6
        have KA := Hold.addOwn KN.drew HX _hrm ho6
        rw [HKL.out] at KA
        clear HX _hrm ho6 k4_ HF HUS KN hMH HHS
        have FKA := KA.facts
        simp only [factsL, cellsF, Nat.reduceAdd, zf, zl] at FKA
        have HCE := hid (show prCells up ++ [.int .i64 xid, .slice xA xn xc, .slice xA xn xc] = prCells (up ++ [⟨xid, xA, xn, xc, xvs, xA, xn, xc, xvs⟩]) by simp [prCells, Pr.cells])
        go_wp2_with (at_builtin; go_must (refine wpList_appAllH KA 0 rfl Tryd.elPr k5.out rfl (.tmp 19) (.tmp 27) rfl rfl rfl (by intro u hu; simp at hu; rcases hu with rfl | rfl | rfl <;> rfl) (by omega) (by omega) ?_); intro C' cap' w6 hc6 hm6 KB; rw [HCE.out] at KB; simp only [List.set_cons_zero, List.set_cons_succ] at KB; (have F3 := KB.facts); simp only [factsL, cellsF, Nat.reduceAdd, zf, zl] at F3)
        have KD := KB.store 5 rfl 3 (.slice C' (q + 1) cap')
        have KS := KD.sealRow 0 rfl
        simp only [List.set_cons_zero, List.set_cons_succ, List.setIfInBounds_toArray] at KS
        have KP := (KS.add (show Ro _ _ (PrsIn C' (q + 1) (up ++ [⟨xid, xA, xn, xc, xvs, xA, xn, xc, xvs⟩])) from (KS.ro 0 rfl).and (((KS.ro 3 rfl).and (KS.ro 2 rfl)).imp fun w h => prVals_two h.1 h.2))).drop (List.Sublist.cons_cons _ (List.Sublist.cons _ (List.Sublist.cons _ (List.Sublist.cons _ (List.sublist_cons_self _ _)))))
        go_roundw
        case rel => exact ⟨k + 1, q + 1, cap', C', _, by omega, by first | rfl | go_num, by omega, hid ⟨hc6, hm6⟩, hid (prOk_snoc HOQ.out ⟨HXO.out.id, HXO.out.nc, HXO.out.c, HXO.out.nc, HXO.out.c, HXO.out.vs, HXO.out.vs⟩), hid (okSnoc HSQ.out HXS.out), KP⟩
        case measure => simp [intOf]; omega
      · obtain rfl : nd = k := by omega
        have hd : decide ((nd : Int) < (nd : Int)) = false := by simp
        have F := H.facts
        simp only [factsL, cellsF, Nat.reduceAdd, zf, zl] at F
        have NK := H.nes
        simp only [nesL, neF, and_true, true_and] at NK
        have HUL2 := hid (H.ro 0 rfl).now.len
        go_wp2_with fail
        have KN := (((H.store 1 rfl 0 (.string d.nm)).store 1 rfl 1 (.slice I ni ci)).store 1 rfl 2 (.slice D nd cd)).store 1 rfl 3 (.slice UA q cq)
        exact bodyPost_ret (v := .agg #[.string d.nm, .slice I ni ci, .slice D nd cd, .slice UA q cq]) (by simp [results, Tryd.results21, go_sem, F, NK]) rfl (someDl_of HB1.out HB2.out HQ.out HOI.out HOD.out HOQ.out ⟨by have := HSH.out.1; omega, by have := HSH.out.1; omega, by have := HUL2.out; omega⟩ HSH.out.2.1 HSQ.out (KN.roOut 3 rfl) (KN.roOut 4 rfl) (KN.roOut 0 rfl) (KN.tp_ 5 rfl) KN.grow)
end Go.Proofs.YtjpgbhakkfgecaaDoor

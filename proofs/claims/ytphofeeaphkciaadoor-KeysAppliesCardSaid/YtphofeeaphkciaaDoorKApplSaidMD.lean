/- KFits: keys.fits. -/
import Derived.Test.YtphofeeaphkciaaDoorKApplSaidMC
import Derived.Test.YtphofeeaphkciaaDoorKApplSaidMB
namespace Go.Proofs.YtphofeeaphkciaaDoor
open Go.RowKit
set_option linter.unusedVariables false
set_option linter.unusedSimpArgs false

/-- A change drawn. -/
def DrawnChg (w : World) (T : Nat) (M : Nat → Prop) (m : Nat) (e : Ending) (w' : World) : Prop :=
  ∃ (v : Value) (ins : List (List Vl)) (dels : List Int) (us : List Upd), e = .returned v ∧ ChgSlot M ins dels us v w' ∧ ins.length ≤ 3 ∧ dels.length ≤ m ∧ us.length ≤ m ∧ Tp w' T ∧ w.grownBy w' (some T)
def PrVals (l : List Pr) (w : World) : Prop := ∀ p ∈ l, VlsIn p.oA p.on p.old w ∧ VlsIn p.nA p.nn p.new w
def SlVals (l : List Sl) (w : World) : Prop := ∀ r ∈ l, VlsIn r.A r.n r.vs w
theorem sls_snoc {M : Nat → Prop} {w : World} {rs : List Sl} {r : Sl} (h : Ro w M (SlVals rs)) (k : Ro w M (VlsIn r.A r.n r.vs)) : Ro w M (SlVals (rs ++ [r])) := fun w2 h1 h2 x hx => by
  rcases List.mem_append.1 hx with hx | hx
  · exact h w2 h1 h2 x hx
  · simp at hx; subst hx; exact k w2 h1 h2
theorem sls_ok_snoc {l : List Sl} {x : Sl} (h : ∀ s ∈ l, s.ok) (k : x.ok) : ∀ s ∈ l ++ [x], s.ok := fun s hs => by
  rcases List.mem_append.1 hs with hs | hs
  · exact h s hs
  · simp at hs; subst hs; exact k
theorem prVals_app {M : Nat → Prop} {w : World} {a b : List Pr} (h : Ro w M (PrVals a)) (k : Ro w M (PrVals b)) : Ro w M (PrVals (a ++ b)) := fun w2 h1 h2 x hx => by
  rcases List.mem_append.1 hx with hx | hx
  · exact h w2 h1 h2 x hx
  · exact k w2 h1 h2 x hx
theorem prs_ok_app {a b : List Pr} (h : ∀ p ∈ a, p.ok) (k : ∀ p ∈ b, p.ok) : ∀ p ∈ a ++ b, p.ok := fun p hp => by
  rcases List.mem_append.1 hp with hp | hp
  · exact h p hp
  · exact k p hp
theorem prCells_one (l : List Pr) : ∀ u ∈ prCells l, u.oneCell' = true := fun u hu => by
  unfold prCells at hu
  rw [List.mem_flatMap] at hu
  obtain ⟨x, _, hx⟩ := hu
  simp only [Pr.cells, List.mem_cons, List.not_mem_nil, or_false] at hx
  rcases hx with rfl | rfl | rfl <;> rfl
theorem validB_k {k i : Int} {s : ByteArray} (h : validB k i s = true) : I64 k := by
  unfold validB at h
  unfold I64
  split at h
  · omega
  · split at h
    · omega
    · split at h
      · omega
      · split at h
        · omega
        · cases h
theorem Hold.renVl {M : Nat → Prop} {row : Option Nat} {w0 w : World} {L : List Hp} {e : TypeId} {v : Value} {n : Nat} {vs vs' : List Vl} (he : vs' = vs) (h : Hold M row w0 w (.own e 3 v n (vlCells vs) :: L)) : Hold M row w0 w (.own e 3 v n (vlCells vs') :: L) := by subst he; exact h
theorem Tryd.elPr : ElemT Tryd.prog 47 56 3 56 (.agg #[.int .i64 0, .slice none 0 0, .slice none 0 0]) := ⟨Tryd.underlying47, by kernel_rfl, rfl, by omega⟩
theorem Tryd.elSlc : ElemT Tryd.prog 46 52 1 24 (.slice none 0 0) := ⟨Tryd.underlying46, by kernel_rfl, rfl, by omega⟩
set_option maxHeartbeats 8000000 in
set_option maxRecDepth 100000 in
theorem chgof_any (M : Nat → Prop) (T : Nat) (w : World) (hM : ∀ b, M b → b < w.heap.size) (ht : Tp w T) (hMT : ∀ b, M b → T ≤ b) (nm : ByteArray) (A : Option Addr) (n c : Nat) (cs : List Col) (nx : Int) (B : Option Addr) (m d : Nat) (l : List Rw) (hD : Ro w (Mut M [.tp T]) (ColsIn A n cs)) (hE : Ro w (Mut M [.tp T]) (RwsIn B m l)) (hW : Ro w (Mut M [.tp T]) Wds) (hT : 1 < T)
    (hn1 : 1 ≤ n) (hn : n ≤ 1000) (hm : m ≤ 1000) (hok : ∀ x ∈ cs, ColOk x) (hfit : ∀ r ∈ l, r.vs.length = n) (hrok : ∀ r ∈ l, r.ok) : Calls Tryd.prog 23 #[.pointer (some ⟨T, 0, none⟩), .agg #[.string nm, .slice A n c, .int .i64 nx, .slice B m d]] w fun e w' => DrawnChg w T M m e w' := by
  have HL := hid (cols_n hD.now)
  have HLM := hid hE.now.len
  have HOKC := hid hok
  have HFIT := hid hfit
  have HROK := hid hrok
  clear hok hfit hrok
  have K0 := (((((((((Hold.startT M w T hM ht hMT).add hE).add (hD.less (mut_none rfl))).add ((hW.less (mut_none rfl)).less (mut_none rfl))).alloc_cst #[.string nm, .slice A n c, .int .i64 nx, .slice B m d] 32).alloc #[.slice none 0 0, .slice none 0 0, .slice none 0 0] 49).alloc #[.slice none 0 0, .slice none 0 0, .slice none 0 0] 49).add (show Ro _ _ (PrVals []) from fun _ _ _ r hr => nomatch hr)).nil 56 3).nil 3 1
  simp only [World.size_alloc] at K0
  clear hD hE hW
  go_enter Tryd.func23, Tryd.ntmps23
  go_wp2_with fail
  obtain ⟨gx, hgx⟩ : ∃ gx, gx = w.heap.size := ⟨_, rfl⟩
  obtain ⟨g4, hg4⟩ : ∃ g4, g4 = gx + 1 := ⟨_, rfl⟩
  obtain ⟨g5, hg5⟩ : ∃ g5, g5 = g4 + 1 := ⟨_, rfl⟩
  rw [← hgx, ← hg4, ← hg5] at K0 ⊢
  generalize ((w.alloc _).alloc _).alloc _ = w1 at K0 ⊢
  have HGX := hid hgx
  clear hgx hg4 hg5
  go_loopw [14] (fun iv wr => ∃ (j dn dc un uc : Nat) (D U : Option Addr) (dels : List Int) (ps : List Pr), j ≤ m ∧ iv = .int .i64 j ∧ dn ≤ j ∧ un ≤ j ∧ Hid (∀ p ∈ ps, p.ok) ∧ Hold M (some T) w wr [.own 3 1 (.slice D dn dc) dn (iCells dels), .own 56 3 (.slice U un uc) un (prCells ps), .ro (PrVals ps), .blk g5 49 #[.slice none 0 0, .slice D dn dc, .slice U un uc], .blk g4 49 #[.slice none 0 0, .slice none 0 0, .slice none 0 0], .cst gx 32 #[.string nm, .slice A n c, .int .i64 nx, .slice B m d], .ro Wds, .ro (ColsIn A n cs), .ro (RwsIn B m l), .tp T]) (fun iv _ => m - (intOf iv).toNat)
  case atStart => exact ⟨0, 0, 0, 0, 0, none, none, [], [], by omega, rfl, by omega, by omega, hid (fun p hp => nomatch hp), K0⟩
  case round =>
    clear K0
    obtain ⟨j, dn, dc, un, uc, D, U, dels, ps, hj, rfl, hdn, hun, HPS, H⟩ := hrel
    by_cases hlt : j < m
    · have hd : decide ((j : Int) < (m : Int)) = true := by simp; omega
      have j0 : (0 : Int) ≤ (j : Int) := by omega
      have j1 : (j : Int) < (m : Int) := by omega
      obtain ⟨x, hx⟩ := get_of HLM.out hlt
      obtain ⟨b, o, rfl, hb, c0, c1, hxv⟩ := (H.ro 8 rfl).now.at_ hx
      have HXO := hid (HROK.out x (List.mem_of_getElem? hx))
      have HXL := hid (HFIT.out x (List.mem_of_getElem? hx))
      have hxr : Ro wr _ (VlsIn x.A x.n x.vs) := (H.ro 8 rfl).imp fun w2 h2 => h2.2 x (List.mem_of_getElem? hx)
      obtain ⟨xid, xA, xn, xc, xvs⟩ := x
      dsimp only at *
      obtain rfl : n = xn := by have h1 := hxv.len; have h2 := HXL.out; omega
      obtain ⟨v0, hv0⟩ := get_of HXL.out (show 0 < n by omega)
      obtain ⟨bx, ox, rfl, rx⟩ := hxr.vlsAt hv0
      have HV0 := hid (HXO.out.vs v0 (List.mem_of_getElem? hv0))
      simp only [Nat.zero_mul, Nat.add_zero] at rx
      clear hx hxv hv0
      have K1 := ((H.add hxr).add (rx.less (mut_none rfl))).alloc_cst #[.int .i64 xid, .slice (some ⟨bx, ox, none⟩) n xc] 54
      clear H hxr rx
      obtain ⟨gr, hgr⟩ : ∃ gr, gr = wr.heap.size := ⟨_, rfl⟩
      rw [← hgr] at K1
      go_wp2_with fail
      rw [← hgr]
      clear hgr c0 c1
      refine (next_any T 4 _ (K1.tp_ 12 rfl) (by omega) (by omega)).mono ?_
      rintro e w2 ⟨z, rfl, z0, z1, t2, g2⟩
      have K2 := Hold.callT K1 12 rfl g2 t2
      clear K1 g2 t2
      have F2 := K2.facts
      simp only [World.size_alloc, World.size_drew, factsL, cellsF, Nat.reduceAdd, List.toList_toArray, List.set_cons_zero, List.set_cons_succ, List.setIfInBounds_toArray, and_true, true_and] at F2
      obtain rfl | rfl | hz : z = 0 ∨ z = 1 ∨ 2 ≤ z := by omega
      · have HCE := hid (show iCells dels ++ (#[Value.int .i64 xid]).toList = iCells (dels ++ [xid]) by simp [iCells])
        go_wp2_with (at_builtin; go_must (refine wpList_appH K2 3 rfl Tryd.elIntK #[.int .i64 xid] rfl (.tmp 23) (.tmp 26) rfl rfl _ rfl rfl rfl (by intro u hu; simp at hu; rcases hu with rfl; rfl) (by omega) (by omega) ?_); intro g9 cap9 w9 hc9 hm9 KB; rw [HCE.out] at KB; simp only [List.set_cons_zero, List.set_cons_succ] at KB; (have FB := KB.facts); simp only [World.size_alloc, World.size_drew, factsL, cellsF, Nat.reduceAdd, List.toList_toArray, List.set_cons_zero, List.set_cons_succ, List.setIfInBounds_toArray, and_true, true_and] at FB)
        have KC := (KB.store 6 rfl 1 (.slice (some ⟨g9, 0, none⟩) (dn + 1) cap9)).drop (List.Sublist.cons _ (List.Sublist.cons _ (List.Sublist.cons _ (List.Sublist.refl _))))
        go_roundw
        case rel => exact ⟨j + 1, dn + 1, cap9, un, uc, _, U, dels ++ [xid], ps, by omega, by first | rfl | go_num, by omega, by omega, HPS, KC⟩
        case measure => simp [intOf]; omega
      · skip
        go_wp2_with fail
        refine (trow_any (Mut M _) T _ K2.mutLt (K2.tp_ 12 rfl) (K2.get 12 rfl).2 nm A n c cs ((K2.ro 10 rfl).less (mut_tp (i := 12) rfl)) ((K2.ro 9 rfl).less (mut_tp (i := 12) rfl)) hT hn HOKC.out).mono ?_
        rintro e w4 ⟨Ar, nr, cr, vs, rfl, hnr, hvr, hfr, ho, t4, g4'⟩
        have K3 := Hold.addOwn K2 (Hold.callT K2 12 rfl g4' t4) (RM.grown g4' (.inr ⟨_, List.mem_of_getElem? (i := 12) rfl, rfl⟩)) ho
        obtain rfl : n = nr := by have h1 := fitsAll_len hfr; have h2 := HL.out; omega
        have hcr := own_caps (K3.get 0 rfl)
        replace hcr := And.intro hcr.1 hcr.2.1
        have HVS := hid (show vs.length = n ∧ ∀ v ∈ vs, v.ok from ⟨hnr.symm, hvr⟩)
        obtain ⟨ga, rfl⟩ : ∃ ga, Ar = some ⟨ga, 0, none⟩ := by
          rcases own_addr (K3.get 0 rfl) with ⟨_, h, _⟩ | ⟨g, h, _⟩
          · omega
          · exact ⟨g, h⟩
        clear K2 ho t4 g4' hnr hvr hfr F2
        have F3 := K3.facts
        simp only [World.size_alloc, World.size_drew, factsL, cellsF, Nat.reduceAdd, List.toList_toArray, List.set_cons_zero, List.set_cons_succ, List.setIfInBounds_toArray, and_true, true_and] at F3
        go_wp2_with fail
        refine (bool_any T 2 _ (K3.tp_ 13 rfl) (by omega) (by omega)).mono ?_
        rintro e wb ⟨bb, rfl, tb, gb⟩
        have K4 := Hold.callT K3 13 rfl gb tb
        clear K3 gb tb
        have F4 := K4.facts
        simp only [World.size_alloc, World.size_drew, factsL, cellsF, Nat.reduceAdd, List.toList_toArray, List.set_cons_zero, List.set_cons_succ, List.setIfInBounds_toArray, and_true, true_and] at F4
        cases bb
        · skip
          have KE8 := K4
          clear K4
          go_wp2_with fail
          refine (bool_any T 8 _ (KE8.tp_ 13 rfl) (by omega) (by omega)).mono ?_
          rintro e wb ⟨bb, rfl, tb, gb⟩
          have KF8 := Hold.callT KE8 13 rfl gb tb
          clear KE8 gb tb
          have FF8 := KF8.facts
          simp only [World.size_alloc, World.size_drew, factsL, cellsF, Nat.reduceAdd, List.toList_toArray, List.set_cons_zero, List.set_cons_succ, List.setIfInBounds_toArray, and_true, true_and] at FF8
          cases bb
          · skip
            have KV := KF8
            clear KF8
            go_wp2_with fail
            refine (bool_any T 12 _ (KV.tp_ 13 rfl) (by omega) (by omega)).mono ?_
            rintro e wb ⟨bb, rfl, tb, gb⟩
            have KP := Hold.callT KV 13 rfl gb tb
            clear KV gb tb
            have FP := KP.facts
            simp only [World.size_alloc, World.size_drew, factsL, cellsF, Nat.reduceAdd, List.toList_toArray, List.set_cons_zero, List.set_cons_succ, List.setIfInBounds_toArray, and_true, true_and] at FP
            cases bb
            · skip
              have KC := KP
              clear KP
              have KS := KC.sealRow 0 rfl
              simp only [List.set_cons_zero] at KS
              obtain ⟨KL, hKL, KN⟩ := KS.name
              have HF : Hid (∀ wv, Hold M (some T) w wv KL → (wv.cell? ⟨g5, 0, none⟩ = some (.slice none 0 0) ∧ wv.cell? ⟨g5, 1, none⟩ = some (.slice D dn dc) ∧ wv.cell? ⟨g5, 2, none⟩ = some (.slice U un uc) ∧ g5 < wv.heap.size) ∧ wv.cell? ⟨gr, 0, none⟩ = some (.int .i64 xid) ∧ wv.cell? ⟨gr, 1, none⟩ = some (.slice (some ⟨bx, ox, none⟩) n xc) ∧ gr < wv.heap.size) := hid fun wv HC => by
                rw [hKL] at HC
                have y1 := HC.blk_ 7 rfl
                have y2 := HC.cst_ 1 rfl
                exact ⟨⟨cell_of_row _ _ 0 _ _ _ y1, cell_of_row _ _ 1 _ _ _ y1, cell_of_row _ _ 2 _ _ _ y1, Blk.lt y1⟩, cell_of_row _ _ 0 _ _ _ y2, cell_of_row _ _ 1 _ _ _ y2, Blk.lt y2⟩
              have HRX : Hid (∀ wv, Hold M (some T) w wv KL → Ro wv (Mut M KL) (VlsIn (some ⟨bx, ox, none⟩) n xvs) ∧ Ro wv (Mut M KL) (VlsIn (some ⟨ga, 0, none⟩) n vs)) := hid fun wv HC => by
                rw [hKL] at HC ⊢
                exact ⟨HC.ro 3 rfl, HC.ro 0 rfl⟩
              have HKL := hid hKL
              clear hKL KS KC
              go_wp2_with fail
              refine wp_region_any (by kernel_rfl) ?_
              refine wpAny_hold 10 98 (KL) (spL [(64, VlsSlot (Mut M KL) xvs), (66, PrSlot (Mut M KL) (xid, xvs, vs)), (67, PrsSlot (Mut M KL) [(xid, xvs, vs)])]) (by kernel_rfl) (by kernel_rfl) (by kernel_rfl) rfl ?_ (KN.drew) ?_
              · exact stays_cons vlsSlot_mono (stays_cons prSlot_mono (stays_cons prsSlot_mono (stays_nil _)))
              simp only [List.take_succ_cons, List.take_zero, List.drop_succ_cons, List.drop_zero, Act.put, List.getElem_toArray, List.getElem_cons_zero, List.getElem_cons_succ, List.setIfInBounds_toArray, List.set_cons_succ, List.set_cons_zero]
              refine dw_val rfl rfl rfl ?_; apply Exists.intro; refine ⟨fun wv HC => ?_, ?_⟩
              ·  go_simp <;> rfl
              simp only [Act.put, List.setIfInBounds_toArray, List.set_cons_succ, List.set_cons_zero]
              refine dw_val rfl rfl rfl ?_; apply Exists.intro; refine ⟨fun wv HC => ?_, ?_⟩
              · obtain ⟨⟨f0, f1, f2, f3⟩, f4, f5, f6⟩ := HF.out _ HC; go_simp <;> rfl
              simp only [Act.put, List.setIfInBounds_toArray, List.set_cons_succ, List.set_cons_zero]
              refine dw_val rfl rfl rfl ?_; apply Exists.intro; refine ⟨fun wv HC => ?_, ?_⟩
              ·  go_simp <;> rfl
              simp only [Act.put, List.setIfInBounds_toArray, List.set_cons_succ, List.set_cons_zero]
              refine dw_val rfl rfl rfl ?_; apply Exists.intro; refine ⟨fun wv HC => ?_, ?_⟩
              · obtain ⟨⟨f0, f1, f2, f3⟩, f4, f5, f6⟩ := HF.out _ HC; go_simp <;> rfl
              simp only [Act.put, List.setIfInBounds_toArray, List.set_cons_succ, List.set_cons_zero]
              refine dw_val rfl rfl rfl ?_; apply Exists.intro; refine ⟨fun wv HC => ?_, ?_⟩
              ·  go_simp <;> rfl
              simp only [Act.put, List.setIfInBounds_toArray, List.set_cons_succ, List.set_cons_zero]
              refine dw_val rfl rfl rfl ?_; apply Exists.intro; refine ⟨fun wv HC => ?_, ?_⟩
              · obtain ⟨⟨f0, f1, f2, f3⟩, f4, f5, f6⟩ := HF.out _ HC; go_simp <;> rfl
              simp only [Act.put, List.setIfInBounds_toArray, List.set_cons_succ, List.set_cons_zero]
              refine dw_clone Tryd.elVl 64 (VlsSlot (Mut M KL) xvs) rfl rfl rfl rfl (.const (.slice none 0 0)) (.tmp 63) rfl rfl (A := some ⟨bx, ox, none⟩) (m := n) (c := xc) (ys := vlCells xvs) rfl (one_vls _) (by omega) (by omega) (fun wv HC hD => ((HRX.out _ HC).1).now) (fun C9 c9 wv HC q1 q2 hro => ⟨C9, n, c9, rfl, HXL.out.symm, q1, q2, hro⟩) ?_
              rintro u wx HCx ⟨A64, n64, c64, rfl, -, -, -, -⟩
              clear HCx
              simp only [Act.put, List.setIfInBounds_toArray, List.set_cons_succ, List.set_cons_zero]
              refine dw_val rfl rfl rfl ?_; apply Exists.intro; refine ⟨fun wv HC => ?_, ?_⟩
              ·  go_simp <;> rfl
              simp only [Act.put, List.setIfInBounds_toArray, List.set_cons_succ, List.set_cons_zero]
              refine dw_valC 66 (PrSlot (Mut M KL) (xid, xvs, vs)) rfl rfl rfl rfl (.agg #[.int .i64 xid, .slice A64 n64 c64, .slice (some ⟨ga, 0, none⟩) n cr]) (fun wv HC => ?_) (fun wv HC hD => ?_) ?_
              · go_simp <;> rfl
              · have ha : VlsSlot (Mut M KL) xvs (.slice A64 n64 c64) wv := deps_at hD 6 rfl (by kernel_rfl) rfl rfl
                exact prSlot_of HXO.out.id HXO.out.vs HVS.out.2 ha ⟨_, n, cr, rfl, HVS.out.1.symm, hcr.1, hcr.2, (HRX.out _ HC).2⟩
              simp only [Act.put, List.setIfInBounds_toArray, List.set_cons_succ, List.set_cons_zero]
              refine dw_new #[.int .i64 xid, .slice A64 n64 c64, .slice (some ⟨ga, 0, none⟩) n cr] 56 67 (PrsSlot (Mut M KL) [(xid, xvs, vs)]) (fun g => .slice (some ⟨g, 0, none⟩) 1 1) rfl rfl rfl rfl (fun wv => ?_) (fun wv HC _hrm hD hro => ?_) ?_
              · go_simp <;> rfl
              · have hrr := RM.alloc (Mut M KL) wv (.cells #[.int .i64 xid, .slice A64 n64 c64, .slice (some ⟨ga, 0, none⟩) n cr] 56)
                have h0 : PrSlot (Mut M KL) (xid, xvs, vs) (.agg #[.int .i64 xid, .slice A64 n64 c64, .slice (some ⟨ga, 0, none⟩) n cr]) wv := deps_at hD 8 rfl (by kernel_rfl) rfl rfl
                replace h0 := prSlot_mono _ _ _ hrr h0
                exact prsSlot_one (hro _ HC.mutLt) (fun i j k e1 => Value.agg.inj e1) h0
              rintro g67 wg HCg hsl
              simp only [Act.put, List.setIfInBounds_toArray, List.set_cons_succ, List.set_cons_zero]
              clear hsl HCg
              refine rel_nil ?_
              rintro wx5 HX5
              rintro _hrm HGW
              have hb2 : PrsSlot (Mut M KL) [(xid, xvs, vs)] (.slice (some ⟨g67, 0, none⟩) 1 1) wx5 := (GW_on (d := 67) rfl).1 (HGW 9 _ rfl (by omega))
              clear HGW _hrm
              obtain ⟨Aq, nq, cq, pq, heq, -, -, hpm, hpok, hpr⟩ := hb2
              obtain ⟨rfl, rfl, rfl⟩ : some ⟨g67, 0, none⟩ = Aq ∧ 1 = nq ∧ 1 = cq := by injection heq with h1 h2 h3; exact ⟨h1, h2, h3⟩
              clear heq
              rw [HKL.out] at HX5 hpr
              have HPO := hid (prs_ok_app HPS.out hpok)
              have HPE := hid (show prCells ps ++ prCells pq = prCells (ps ++ pq) by simp [prCells])
              have KA := HX5.add (hpr.imp fun w h => (h.2 : PrVals pq w))
              have k5 := hid ((hpr.imp fun w h => h.1).now)
              clear HX5 hpr hpm hpok HF HRX KN
              have FA := KA.facts
              simp only [World.size_alloc, World.size_drew, factsL, cellsF, Nat.reduceAdd, List.toList_toArray, List.set_cons_zero, List.set_cons_succ, List.setIfInBounds_toArray, and_true, true_and] at FA
              go_wp2_with (at_builtin; go_must (refine wpList_appAllH KA 6 rfl Tryd.elPr k5.out rfl (.tmp 59) (.tmp 67) rfl rfl rfl (prCells_one pq) (by omega) (by omega) ?_); intro C' cap' w6 hc6 hm6 KB; rw [HPE.out] at KB; simp only [List.set_cons_zero, List.set_cons_succ] at KB; (have FB := KB.facts); simp only [World.size_alloc, World.size_drew, factsL, cellsF, Nat.reduceAdd, List.toList_toArray, List.set_cons_zero, List.set_cons_succ, List.setIfInBounds_toArray, and_true, true_and] at FB)
              have KD := KB.store 8 rfl 2 (.slice C' (un + 1) cap')
              have KE := (KD.swapRo 7 rfl (prVals_app (KD.ro 7 rfl) (KD.ro 0 rfl))).drop (List.Sublist.cons _ (List.Sublist.cons _ (List.Sublist.cons _ (List.Sublist.cons _ (List.Sublist.cons _ (List.Sublist.refl _))))))
              go_wp2_with fail
              go_roundw
              case rel => exact ⟨j + 1, dn, dc, un + 1, cap', D, C', dels, ps ++ pq, by omega, by first | rfl | go_num, by omega, by omega, HPO, KE⟩
              case measure => simp [intOf]; omega
            · skip
              go_wp2_with fail
              refine (next_any T (n : Int) _ (KP.tp_ 13 rfl) (by omega) (by omega)).mono ?_
              rintro e wc ⟨q, rfl, q0, q1, tc, gc⟩
              obtain ⟨q, rfl⟩ := Int.eq_ofNat_of_zero_le q0
              have KQ := Hold.callT KP 13 rfl gc tc
              clear KP gc tc FP
              have FQ := KQ.facts
              simp only [World.size_alloc, World.size_drew, factsL, cellsF, Nat.reduceAdd, List.toList_toArray, List.set_cons_zero, List.set_cons_succ, List.setIfInBounds_toArray, and_true, true_and] at FQ
              go_wp2_with fail
              refine (value_any T _ (KQ.tp_ 13 rfl) (KQ.ro 10 rfl).now hT).mono ?_
              rintro e wd ⟨kv, iv, sv, rfl, hv, hsv, hiv, td, _, gd⟩
              have KR := Hold.callT KQ 13 rfl gd td
              clear KQ gd td FQ
              have HQL := hid (show q < vs.length by have := HVS.out.1; omega)
              obtain ⟨uq, huq⟩ : ∃ uq, vs[q]? = some uq := ⟨_, List.getElem?_eq_getElem HQL.out⟩
              obtain ⟨⟨z0, z1, z2⟩, ⟨z3, z4, z5⟩, z6⟩ := own_vl (KR.get 0 rfl) huq
              clear huq
              have KC := KR.putVl 0 rfl q HQL.out ⟨kv, iv, sv⟩
              simp only [List.set_cons_zero] at KC
              have HVS := hid (show (vs.set q ⟨kv, iv, sv⟩).length = n ∧ ∀ v ∈ vs.set q ⟨kv, iv, sv⟩, v.ok from ⟨by rw [List.length_set]; exact HVS.out.1, oks_set HVS.out.2 ⟨validB_k hv, hiv, by show sv.size ≤ maxLen; unfold maxLen; omega⟩⟩)
              clear hv KR
              generalize vs.set q ⟨kv, iv, sv⟩ = vs at HVS KC
              have FC := KC.facts
              simp only [World.size_alloc, World.size_drew, factsL, cellsF, Nat.reduceAdd, List.toList_toArray, List.set_cons_zero, List.set_cons_succ, List.setIfInBounds_toArray, and_true, true_and] at FC
              have KS := KC.sealRow 0 rfl
              simp only [List.set_cons_zero] at KS
              obtain ⟨KL, hKL, KN⟩ := KS.name
              have HF : Hid (∀ wv, Hold M (some T) w wv KL → (wv.cell? ⟨g5, 0, none⟩ = some (.slice none 0 0) ∧ wv.cell? ⟨g5, 1, none⟩ = some (.slice D dn dc) ∧ wv.cell? ⟨g5, 2, none⟩ = some (.slice U un uc) ∧ g5 < wv.heap.size) ∧ wv.cell? ⟨gr, 0, none⟩ = some (.int .i64 xid) ∧ wv.cell? ⟨gr, 1, none⟩ = some (.slice (some ⟨bx, ox, none⟩) n xc) ∧ gr < wv.heap.size) := hid fun wv HC => by
                rw [hKL] at HC
                have y1 := HC.blk_ 7 rfl
                have y2 := HC.cst_ 1 rfl
                exact ⟨⟨cell_of_row _ _ 0 _ _ _ y1, cell_of_row _ _ 1 _ _ _ y1, cell_of_row _ _ 2 _ _ _ y1, Blk.lt y1⟩, cell_of_row _ _ 0 _ _ _ y2, cell_of_row _ _ 1 _ _ _ y2, Blk.lt y2⟩
              have HRX : Hid (∀ wv, Hold M (some T) w wv KL → Ro wv (Mut M KL) (VlsIn (some ⟨bx, ox, none⟩) n xvs) ∧ Ro wv (Mut M KL) (VlsIn (some ⟨ga, 0, none⟩) n vs)) := hid fun wv HC => by
                rw [hKL] at HC ⊢
                exact ⟨HC.ro 3 rfl, HC.ro 0 rfl⟩
              have HKL := hid hKL
              clear hKL KS KC
              go_wp2_with fail
              refine wp_region_any (by kernel_rfl) ?_
              refine wpAny_hold 10 98 (KL) (spL [(64, VlsSlot (Mut M KL) xvs), (66, PrSlot (Mut M KL) (xid, xvs, vs)), (67, PrsSlot (Mut M KL) [(xid, xvs, vs)])]) (by kernel_rfl) (by kernel_rfl) (by kernel_rfl) rfl ?_ (KN.drew) ?_
              · exact stays_cons vlsSlot_mono (stays_cons prSlot_mono (stays_cons prsSlot_mono (stays_nil _)))
              simp only [List.take_succ_cons, List.take_zero, List.drop_succ_cons, List.drop_zero, Act.put, List.getElem_toArray, List.getElem_cons_zero, List.getElem_cons_succ, List.setIfInBounds_toArray, List.set_cons_succ, List.set_cons_zero]
              refine dw_val rfl rfl rfl ?_; apply Exists.intro; refine ⟨fun wv HC => ?_, ?_⟩
              ·  go_simp <;> rfl
              simp only [Act.put, List.setIfInBounds_toArray, List.set_cons_succ, List.set_cons_zero]
              refine dw_val rfl rfl rfl ?_; apply Exists.intro; refine ⟨fun wv HC => ?_, ?_⟩
              · obtain ⟨⟨f0, f1, f2, f3⟩, f4, f5, f6⟩ := HF.out _ HC; go_simp <;> rfl
              simp only [Act.put, List.setIfInBounds_toArray, List.set_cons_succ, List.set_cons_zero]
              refine dw_val rfl rfl rfl ?_; apply Exists.intro; refine ⟨fun wv HC => ?_, ?_⟩
              ·  go_simp <;> rfl
              simp only [Act.put, List.setIfInBounds_toArray, List.set_cons_succ, List.set_cons_zero]
              refine dw_val rfl rfl rfl ?_; apply Exists.intro; refine ⟨fun wv HC => ?_, ?_⟩
              · obtain ⟨⟨f0, f1, f2, f3⟩, f4, f5, f6⟩ := HF.out _ HC; go_simp <;> rfl
              simp only [Act.put, List.setIfInBounds_toArray, List.set_cons_succ, List.set_cons_zero]
              refine dw_val rfl rfl rfl ?_; apply Exists.intro; refine ⟨fun wv HC => ?_, ?_⟩
              ·  go_simp <;> rfl
              simp only [Act.put, List.setIfInBounds_toArray, List.set_cons_succ, List.set_cons_zero]
              refine dw_val rfl rfl rfl ?_; apply Exists.intro; refine ⟨fun wv HC => ?_, ?_⟩
              · obtain ⟨⟨f0, f1, f2, f3⟩, f4, f5, f6⟩ := HF.out _ HC; go_simp <;> rfl
              simp only [Act.put, List.setIfInBounds_toArray, List.set_cons_succ, List.set_cons_zero]
              refine dw_clone Tryd.elVl 64 (VlsSlot (Mut M KL) xvs) rfl rfl rfl rfl (.const (.slice none 0 0)) (.tmp 63) rfl rfl (A := some ⟨bx, ox, none⟩) (m := n) (c := xc) (ys := vlCells xvs) rfl (one_vls _) (by omega) (by omega) (fun wv HC hD => ((HRX.out _ HC).1).now) (fun C9 c9 wv HC q1 q2 hro => ⟨C9, n, c9, rfl, HXL.out.symm, q1, q2, hro⟩) ?_
              rintro u wx HCx ⟨A64, n64, c64, rfl, -, -, -, -⟩
              clear HCx
              simp only [Act.put, List.setIfInBounds_toArray, List.set_cons_succ, List.set_cons_zero]
              refine dw_val rfl rfl rfl ?_; apply Exists.intro; refine ⟨fun wv HC => ?_, ?_⟩
              ·  go_simp <;> rfl
              simp only [Act.put, List.setIfInBounds_toArray, List.set_cons_succ, List.set_cons_zero]
              refine dw_valC 66 (PrSlot (Mut M KL) (xid, xvs, vs)) rfl rfl rfl rfl (.agg #[.int .i64 xid, .slice A64 n64 c64, .slice (some ⟨ga, 0, none⟩) n cr]) (fun wv HC => ?_) (fun wv HC hD => ?_) ?_
              · go_simp <;> rfl
              · have ha : VlsSlot (Mut M KL) xvs (.slice A64 n64 c64) wv := deps_at hD 6 rfl (by kernel_rfl) rfl rfl
                exact prSlot_of HXO.out.id HXO.out.vs HVS.out.2 ha ⟨_, n, cr, rfl, HVS.out.1.symm, hcr.1, hcr.2, (HRX.out _ HC).2⟩
              simp only [Act.put, List.setIfInBounds_toArray, List.set_cons_succ, List.set_cons_zero]
              refine dw_new #[.int .i64 xid, .slice A64 n64 c64, .slice (some ⟨ga, 0, none⟩) n cr] 56 67 (PrsSlot (Mut M KL) [(xid, xvs, vs)]) (fun g => .slice (some ⟨g, 0, none⟩) 1 1) rfl rfl rfl rfl (fun wv => ?_) (fun wv HC _hrm hD hro => ?_) ?_
              · go_simp <;> rfl
              · have hrr := RM.alloc (Mut M KL) wv (.cells #[.int .i64 xid, .slice A64 n64 c64, .slice (some ⟨ga, 0, none⟩) n cr] 56)
                have h0 : PrSlot (Mut M KL) (xid, xvs, vs) (.agg #[.int .i64 xid, .slice A64 n64 c64, .slice (some ⟨ga, 0, none⟩) n cr]) wv := deps_at hD 8 rfl (by kernel_rfl) rfl rfl
                replace h0 := prSlot_mono _ _ _ hrr h0
                exact prsSlot_one (hro _ HC.mutLt) (fun i j k e1 => Value.agg.inj e1) h0
              rintro g67 wg HCg hsl
              simp only [Act.put, List.setIfInBounds_toArray, List.set_cons_succ, List.set_cons_zero]
              clear hsl HCg
              refine rel_nil ?_
              rintro wx5 HX5
              rintro _hrm HGW
              have hb2 : PrsSlot (Mut M KL) [(xid, xvs, vs)] (.slice (some ⟨g67, 0, none⟩) 1 1) wx5 := (GW_on (d := 67) rfl).1 (HGW 9 _ rfl (by omega))
              clear HGW _hrm
              obtain ⟨Aq, nq, cq, pq, heq, -, -, hpm, hpok, hpr⟩ := hb2
              obtain ⟨rfl, rfl, rfl⟩ : some ⟨g67, 0, none⟩ = Aq ∧ 1 = nq ∧ 1 = cq := by injection heq with h1 h2 h3; exact ⟨h1, h2, h3⟩
              clear heq
              rw [HKL.out] at HX5 hpr
              have HPO := hid (prs_ok_app HPS.out hpok)
              have HPE := hid (show prCells ps ++ prCells pq = prCells (ps ++ pq) by simp [prCells])
              have KA := HX5.add (hpr.imp fun w h => (h.2 : PrVals pq w))
              have k5 := hid ((hpr.imp fun w h => h.1).now)
              clear HX5 hpr hpm hpok HF HRX KN
              have FA := KA.facts
              simp only [World.size_alloc, World.size_drew, factsL, cellsF, Nat.reduceAdd, List.toList_toArray, List.set_cons_zero, List.set_cons_succ, List.setIfInBounds_toArray, and_true, true_and] at FA
              go_wp2_with (at_builtin; go_must (refine wpList_appAllH KA 6 rfl Tryd.elPr k5.out rfl (.tmp 59) (.tmp 67) rfl rfl rfl (prCells_one pq) (by omega) (by omega) ?_); intro C' cap' w6 hc6 hm6 KB; rw [HPE.out] at KB; simp only [List.set_cons_zero, List.set_cons_succ] at KB; (have FB := KB.facts); simp only [World.size_alloc, World.size_drew, factsL, cellsF, Nat.reduceAdd, List.toList_toArray, List.set_cons_zero, List.set_cons_succ, List.setIfInBounds_toArray, and_true, true_and] at FB)
              have KD := KB.store 8 rfl 2 (.slice C' (un + 1) cap')
              have KE := (KD.swapRo 7 rfl (prVals_app (KD.ro 7 rfl) (KD.ro 0 rfl))).drop (List.Sublist.cons _ (List.Sublist.cons _ (List.Sublist.cons _ (List.Sublist.cons _ (List.Sublist.cons _ (List.Sublist.refl _))))))
              go_wp2_with fail
              go_roundw
              case rel => exact ⟨j + 1, dn, dc, un + 1, cap', D, C', dels, ps ++ pq, by omega, by first | rfl | go_num, by omega, by omega, HPO, KE⟩
              case measure => simp [intOf]; omega
          · skip
            have KN := KF8.nil 88 3
            have k5 := hid ((KF8.ro 3 rfl).now)
            go_wp2_with (at_builtin; go_must (refine wpList_appAllH KN 0 rfl Tryd.elVl k5.out rfl (.const (.slice none 0 0)) (.tmp 46) rfl rfl rfl (one_vls _) (by omega) (by omega) ?_); intro C9 cap9 w9 hc9 hm9 KB; (try simp only [Nat.zero_add] at hc9 ⊢); simp only [Nat.zero_add, List.nil_append, List.set_cons_zero, List.set_cons_succ] at KB; (have FB := KB.facts); simp only [World.size_alloc, World.size_drew, factsL, cellsF, Nat.reduceAdd, List.toList_toArray, List.set_cons_zero, List.set_cons_succ, List.setIfInBounds_toArray, and_true, true_and] at FB)
            have KV := KB.drop (List.Sublist.cons_cons _ (List.sublist_cons_self _ _))
            obtain ⟨ga, rfl⟩ : ∃ ga, C9 = some ⟨ga, 0, none⟩ := by
              rcases own_addr (KV.get 0 rfl) with ⟨_, h, _⟩ | ⟨g, h, _⟩
              · omega
              · exact ⟨g, h⟩
            obtain ⟨vs, hvs⟩ : ∃ vs, vs = xvs := ⟨_, rfl⟩
            have HVS := hid (show vs.length = n ∧ ∀ v ∈ vs, v.ok by rw [hvs]; exact ⟨HXL.out, HXO.out.vs⟩)
            replace KV := Hold.renVl hvs KV
            clear hvs KB FB KN KF8 FF8 k5
            obtain ⟨cr, rfl⟩ : ∃ cr, cr = cap9 := ⟨_, rfl⟩
            have hcr := And.intro hc9 hm9
            have FV := KV.facts
            simp only [World.size_alloc, World.size_drew, factsL, cellsF, Nat.reduceAdd, List.toList_toArray, List.set_cons_zero, List.set_cons_succ, List.setIfInBounds_toArray, and_true, true_and] at FV
            go_wp2_with fail
            refine (bool_any T 12 _ (KV.tp_ 13 rfl) (by omega) (by omega)).mono ?_
            rintro e wb ⟨bb, rfl, tb, gb⟩
            have KP := Hold.callT KV 13 rfl gb tb
            clear KV gb tb
            have FP := KP.facts
            simp only [World.size_alloc, World.size_drew, factsL, cellsF, Nat.reduceAdd, List.toList_toArray, List.set_cons_zero, List.set_cons_succ, List.setIfInBounds_toArray, and_true, true_and] at FP
            cases bb
            · skip
              have KC := KP
              clear KP
              have KS := KC.sealRow 0 rfl
              simp only [List.set_cons_zero] at KS
              obtain ⟨KL, hKL, KN⟩ := KS.name
              have HF : Hid (∀ wv, Hold M (some T) w wv KL → (wv.cell? ⟨g5, 0, none⟩ = some (.slice none 0 0) ∧ wv.cell? ⟨g5, 1, none⟩ = some (.slice D dn dc) ∧ wv.cell? ⟨g5, 2, none⟩ = some (.slice U un uc) ∧ g5 < wv.heap.size) ∧ wv.cell? ⟨gr, 0, none⟩ = some (.int .i64 xid) ∧ wv.cell? ⟨gr, 1, none⟩ = some (.slice (some ⟨bx, ox, none⟩) n xc) ∧ gr < wv.heap.size) := hid fun wv HC => by
                rw [hKL] at HC
                have y1 := HC.blk_ 7 rfl
                have y2 := HC.cst_ 1 rfl
                exact ⟨⟨cell_of_row _ _ 0 _ _ _ y1, cell_of_row _ _ 1 _ _ _ y1, cell_of_row _ _ 2 _ _ _ y1, Blk.lt y1⟩, cell_of_row _ _ 0 _ _ _ y2, cell_of_row _ _ 1 _ _ _ y2, Blk.lt y2⟩
              have HRX : Hid (∀ wv, Hold M (some T) w wv KL → Ro wv (Mut M KL) (VlsIn (some ⟨bx, ox, none⟩) n xvs) ∧ Ro wv (Mut M KL) (VlsIn (some ⟨ga, 0, none⟩) n vs)) := hid fun wv HC => by
                rw [hKL] at HC ⊢
                exact ⟨HC.ro 3 rfl, HC.ro 0 rfl⟩
              have HKL := hid hKL
              clear hKL KS KC
              go_wp2_with fail
              refine wp_region_any (by kernel_rfl) ?_
              refine wpAny_hold 10 98 (KL) (spL [(64, VlsSlot (Mut M KL) xvs), (66, PrSlot (Mut M KL) (xid, xvs, vs)), (67, PrsSlot (Mut M KL) [(xid, xvs, vs)])]) (by kernel_rfl) (by kernel_rfl) (by kernel_rfl) rfl ?_ (KN.drew) ?_
              · exact stays_cons vlsSlot_mono (stays_cons prSlot_mono (stays_cons prsSlot_mono (stays_nil _)))
              simp only [List.take_succ_cons, List.take_zero, List.drop_succ_cons, List.drop_zero, Act.put, List.getElem_toArray, List.getElem_cons_zero, List.getElem_cons_succ, List.setIfInBounds_toArray, List.set_cons_succ, List.set_cons_zero]
              refine dw_val rfl rfl rfl ?_; apply Exists.intro; refine ⟨fun wv HC => ?_, ?_⟩
              ·  go_simp <;> rfl
              simp only [Act.put, List.setIfInBounds_toArray, List.set_cons_succ, List.set_cons_zero]
              refine dw_val rfl rfl rfl ?_; apply Exists.intro; refine ⟨fun wv HC => ?_, ?_⟩
              · obtain ⟨⟨f0, f1, f2, f3⟩, f4, f5, f6⟩ := HF.out _ HC; go_simp <;> rfl
              simp only [Act.put, List.setIfInBounds_toArray, List.set_cons_succ, List.set_cons_zero]
              refine dw_val rfl rfl rfl ?_; apply Exists.intro; refine ⟨fun wv HC => ?_, ?_⟩
              ·  go_simp <;> rfl
              simp only [Act.put, List.setIfInBounds_toArray, List.set_cons_succ, List.set_cons_zero]
              refine dw_val rfl rfl rfl ?_; apply Exists.intro; refine ⟨fun wv HC => ?_, ?_⟩
              · obtain ⟨⟨f0, f1, f2, f3⟩, f4, f5, f6⟩ := HF.out _ HC; go_simp <;> rfl
              simp only [Act.put, List.setIfInBounds_toArray, List.set_cons_succ, List.set_cons_zero]
              refine dw_val rfl rfl rfl ?_; apply Exists.intro; refine ⟨fun wv HC => ?_, ?_⟩
              ·  go_simp <;> rfl
              simp only [Act.put, List.setIfInBounds_toArray, List.set_cons_succ, List.set_cons_zero]
              refine dw_val rfl rfl rfl ?_; apply Exists.intro; refine ⟨fun wv HC => ?_, ?_⟩
              · obtain ⟨⟨f0, f1, f2, f3⟩, f4, f5, f6⟩ := HF.out _ HC; go_simp <;> rfl
              simp only [Act.put, List.setIfInBounds_toArray, List.set_cons_succ, List.set_cons_zero]
              refine dw_clone Tryd.elVl 64 (VlsSlot (Mut M KL) xvs) rfl rfl rfl rfl (.const (.slice none 0 0)) (.tmp 63) rfl rfl (A := some ⟨bx, ox, none⟩) (m := n) (c := xc) (ys := vlCells xvs) rfl (one_vls _) (by omega) (by omega) (fun wv HC hD => ((HRX.out _ HC).1).now) (fun C9 c9 wv HC q1 q2 hro => ⟨C9, n, c9, rfl, HXL.out.symm, q1, q2, hro⟩) ?_
              rintro u wx HCx ⟨A64, n64, c64, rfl, -, -, -, -⟩
              clear HCx
              simp only [Act.put, List.setIfInBounds_toArray, List.set_cons_succ, List.set_cons_zero]
              refine dw_val rfl rfl rfl ?_; apply Exists.intro; refine ⟨fun wv HC => ?_, ?_⟩
              ·  go_simp <;> rfl
              simp only [Act.put, List.setIfInBounds_toArray, List.set_cons_succ, List.set_cons_zero]
              refine dw_valC 66 (PrSlot (Mut M KL) (xid, xvs, vs)) rfl rfl rfl rfl (.agg #[.int .i64 xid, .slice A64 n64 c64, .slice (some ⟨ga, 0, none⟩) n cr]) (fun wv HC => ?_) (fun wv HC hD => ?_) ?_
              · go_simp <;> rfl
              · have ha : VlsSlot (Mut M KL) xvs (.slice A64 n64 c64) wv := deps_at hD 6 rfl (by kernel_rfl) rfl rfl
                exact prSlot_of HXO.out.id HXO.out.vs HVS.out.2 ha ⟨_, n, cr, rfl, HVS.out.1.symm, hcr.1, hcr.2, (HRX.out _ HC).2⟩
              simp only [Act.put, List.setIfInBounds_toArray, List.set_cons_succ, List.set_cons_zero]
              refine dw_new #[.int .i64 xid, .slice A64 n64 c64, .slice (some ⟨ga, 0, none⟩) n cr] 56 67 (PrsSlot (Mut M KL) [(xid, xvs, vs)]) (fun g => .slice (some ⟨g, 0, none⟩) 1 1) rfl rfl rfl rfl (fun wv => ?_) (fun wv HC _hrm hD hro => ?_) ?_
              · go_simp <;> rfl
              · have hrr := RM.alloc (Mut M KL) wv (.cells #[.int .i64 xid, .slice A64 n64 c64, .slice (some ⟨ga, 0, none⟩) n cr] 56)
                have h0 : PrSlot (Mut M KL) (xid, xvs, vs) (.agg #[.int .i64 xid, .slice A64 n64 c64, .slice (some ⟨ga, 0, none⟩) n cr]) wv := deps_at hD 8 rfl (by kernel_rfl) rfl rfl
                replace h0 := prSlot_mono _ _ _ hrr h0
                exact prsSlot_one (hro _ HC.mutLt) (fun i j k e1 => Value.agg.inj e1) h0
              rintro g67 wg HCg hsl
              simp only [Act.put, List.setIfInBounds_toArray, List.set_cons_succ, List.set_cons_zero]
              clear hsl HCg
              refine rel_nil ?_
              rintro wx5 HX5
              rintro _hrm HGW
              have hb2 : PrsSlot (Mut M KL) [(xid, xvs, vs)] (.slice (some ⟨g67, 0, none⟩) 1 1) wx5 := (GW_on (d := 67) rfl).1 (HGW 9 _ rfl (by omega))
              clear HGW _hrm
              obtain ⟨Aq, nq, cq, pq, heq, -, -, hpm, hpok, hpr⟩ := hb2
              obtain ⟨rfl, rfl, rfl⟩ : some ⟨g67, 0, none⟩ = Aq ∧ 1 = nq ∧ 1 = cq := by injection heq with h1 h2 h3; exact ⟨h1, h2, h3⟩
              clear heq
              rw [HKL.out] at HX5 hpr
              have HPO := hid (prs_ok_app HPS.out hpok)
              have HPE := hid (show prCells ps ++ prCells pq = prCells (ps ++ pq) by simp [prCells])
              have KA := HX5.add (hpr.imp fun w h => (h.2 : PrVals pq w))
              have k5 := hid ((hpr.imp fun w h => h.1).now)
              clear HX5 hpr hpm hpok HF HRX KN
              have FA := KA.facts
              simp only [World.size_alloc, World.size_drew, factsL, cellsF, Nat.reduceAdd, List.toList_toArray, List.set_cons_zero, List.set_cons_succ, List.setIfInBounds_toArray, and_true, true_and] at FA
              go_wp2_with (at_builtin; go_must (refine wpList_appAllH KA 6 rfl Tryd.elPr k5.out rfl (.tmp 59) (.tmp 67) rfl rfl rfl (prCells_one pq) (by omega) (by omega) ?_); intro C' cap' w6 hc6 hm6 KB; rw [HPE.out] at KB; simp only [List.set_cons_zero, List.set_cons_succ] at KB; (have FB := KB.facts); simp only [World.size_alloc, World.size_drew, factsL, cellsF, Nat.reduceAdd, List.toList_toArray, List.set_cons_zero, List.set_cons_succ, List.setIfInBounds_toArray, and_true, true_and] at FB)
              have KD := KB.store 8 rfl 2 (.slice C' (un + 1) cap')
              have KE := (KD.swapRo 7 rfl (prVals_app (KD.ro 7 rfl) (KD.ro 0 rfl))).drop (List.Sublist.cons _ (List.Sublist.cons _ (List.Sublist.cons _ (List.Sublist.cons _ (List.Sublist.cons _ (List.Sublist.refl _))))))
              go_wp2_with fail
              go_roundw
              case rel => exact ⟨j + 1, dn, dc, un + 1, cap', D, C', dels, ps ++ pq, by omega, by first | rfl | go_num, by omega, by omega, HPO, KE⟩
              case measure => simp [intOf]; omega
            · skip
              go_wp2_with fail
              refine (next_any T (n : Int) _ (KP.tp_ 13 rfl) (by omega) (by omega)).mono ?_
              rintro e wc ⟨q, rfl, q0, q1, tc, gc⟩
              obtain ⟨q, rfl⟩ := Int.eq_ofNat_of_zero_le q0
              have KQ := Hold.callT KP 13 rfl gc tc
              clear KP gc tc FP
              have FQ := KQ.facts
              simp only [World.size_alloc, World.size_drew, factsL, cellsF, Nat.reduceAdd, List.toList_toArray, List.set_cons_zero, List.set_cons_succ, List.setIfInBounds_toArray, and_true, true_and] at FQ
              go_wp2_with fail
              refine (value_any T _ (KQ.tp_ 13 rfl) (KQ.ro 10 rfl).now hT).mono ?_
              rintro e wd ⟨kv, iv, sv, rfl, hv, hsv, hiv, td, _, gd⟩
              have KR := Hold.callT KQ 13 rfl gd td
              clear KQ gd td FQ
              have HQL := hid (show q < vs.length by have := HVS.out.1; omega)
              obtain ⟨uq, huq⟩ : ∃ uq, vs[q]? = some uq := ⟨_, List.getElem?_eq_getElem HQL.out⟩
              obtain ⟨⟨z0, z1, z2⟩, ⟨z3, z4, z5⟩, z6⟩ := own_vl (KR.get 0 rfl) huq
              clear huq
              have KC := KR.putVl 0 rfl q HQL.out ⟨kv, iv, sv⟩
              simp only [List.set_cons_zero] at KC
              have HVS := hid (show (vs.set q ⟨kv, iv, sv⟩).length = n ∧ ∀ v ∈ vs.set q ⟨kv, iv, sv⟩, v.ok from ⟨by rw [List.length_set]; exact HVS.out.1, oks_set HVS.out.2 ⟨validB_k hv, hiv, by show sv.size ≤ maxLen; unfold maxLen; omega⟩⟩)
              clear hv KR
              generalize vs.set q ⟨kv, iv, sv⟩ = vs at HVS KC
              have FC := KC.facts
              simp only [World.size_alloc, World.size_drew, factsL, cellsF, Nat.reduceAdd, List.toList_toArray, List.set_cons_zero, List.set_cons_succ, List.setIfInBounds_toArray, and_true, true_and] at FC
              have KS := KC.sealRow 0 rfl
              simp only [List.set_cons_zero] at KS
              obtain ⟨KL, hKL, KN⟩ := KS.name
              have HF : Hid (∀ wv, Hold M (some T) w wv KL → (wv.cell? ⟨g5, 0, none⟩ = some (.slice none 0 0) ∧ wv.cell? ⟨g5, 1, none⟩ = some (.slice D dn dc) ∧ wv.cell? ⟨g5, 2, none⟩ = some (.slice U un uc) ∧ g5 < wv.heap.size) ∧ wv.cell? ⟨gr, 0, none⟩ = some (.int .i64 xid) ∧ wv.cell? ⟨gr, 1, none⟩ = some (.slice (some ⟨bx, ox, none⟩) n xc) ∧ gr < wv.heap.size) := hid fun wv HC => by
                rw [hKL] at HC
                have y1 := HC.blk_ 7 rfl
                have y2 := HC.cst_ 1 rfl
                exact ⟨⟨cell_of_row _ _ 0 _ _ _ y1, cell_of_row _ _ 1 _ _ _ y1, cell_of_row _ _ 2 _ _ _ y1, Blk.lt y1⟩, cell_of_row _ _ 0 _ _ _ y2, cell_of_row _ _ 1 _ _ _ y2, Blk.lt y2⟩
              have HRX : Hid (∀ wv, Hold M (some T) w wv KL → Ro wv (Mut M KL) (VlsIn (some ⟨bx, ox, none⟩) n xvs) ∧ Ro wv (Mut M KL) (VlsIn (some ⟨ga, 0, none⟩) n vs)) := hid fun wv HC => by
                rw [hKL] at HC ⊢
                exact ⟨HC.ro 3 rfl, HC.ro 0 rfl⟩
              have HKL := hid hKL
              clear hKL KS KC
              go_wp2_with fail
              refine wp_region_any (by kernel_rfl) ?_
              refine wpAny_hold 10 98 (KL) (spL [(64, VlsSlot (Mut M KL) xvs), (66, PrSlot (Mut M KL) (xid, xvs, vs)), (67, PrsSlot (Mut M KL) [(xid, xvs, vs)])]) (by kernel_rfl) (by kernel_rfl) (by kernel_rfl) rfl ?_ (KN.drew) ?_
              · exact stays_cons vlsSlot_mono (stays_cons prSlot_mono (stays_cons prsSlot_mono (stays_nil _)))
              simp only [List.take_succ_cons, List.take_zero, List.drop_succ_cons, List.drop_zero, Act.put, List.getElem_toArray, List.getElem_cons_zero, List.getElem_cons_succ, List.setIfInBounds_toArray, List.set_cons_succ, List.set_cons_zero]
              refine dw_val rfl rfl rfl ?_; apply Exists.intro; refine ⟨fun wv HC => ?_, ?_⟩
              ·  go_simp <;> rfl
              simp only [Act.put, List.setIfInBounds_toArray, List.set_cons_succ, List.set_cons_zero]
              refine dw_val rfl rfl rfl ?_; apply Exists.intro; refine ⟨fun wv HC => ?_, ?_⟩
              · obtain ⟨⟨f0, f1, f2, f3⟩, f4, f5, f6⟩ := HF.out _ HC; go_simp <;> rfl
              simp only [Act.put, List.setIfInBounds_toArray, List.set_cons_succ, List.set_cons_zero]
              refine dw_val rfl rfl rfl ?_; apply Exists.intro; refine ⟨fun wv HC => ?_, ?_⟩
              ·  go_simp <;> rfl
              simp only [Act.put, List.setIfInBounds_toArray, List.set_cons_succ, List.set_cons_zero]
              refine dw_val rfl rfl rfl ?_; apply Exists.intro; refine ⟨fun wv HC => ?_, ?_⟩
              · obtain ⟨⟨f0, f1, f2, f3⟩, f4, f5, f6⟩ := HF.out _ HC; go_simp <;> rfl
              simp only [Act.put, List.setIfInBounds_toArray, List.set_cons_succ, List.set_cons_zero]
              refine dw_val rfl rfl rfl ?_; apply Exists.intro; refine ⟨fun wv HC => ?_, ?_⟩
              ·  go_simp <;> rfl
              simp only [Act.put, List.setIfInBounds_toArray, List.set_cons_succ, List.set_cons_zero]
              refine dw_val rfl rfl rfl ?_; apply Exists.intro; refine ⟨fun wv HC => ?_, ?_⟩
              · obtain ⟨⟨f0, f1, f2, f3⟩, f4, f5, f6⟩ := HF.out _ HC; go_simp <;> rfl
              simp only [Act.put, List.setIfInBounds_toArray, List.set_cons_succ, List.set_cons_zero]
              refine dw_clone Tryd.elVl 64 (VlsSlot (Mut M KL) xvs) rfl rfl rfl rfl (.const (.slice none 0 0)) (.tmp 63) rfl rfl (A := some ⟨bx, ox, none⟩) (m := n) (c := xc) (ys := vlCells xvs) rfl (one_vls _) (by omega) (by omega) (fun wv HC hD => ((HRX.out _ HC).1).now) (fun C9 c9 wv HC q1 q2 hro => ⟨C9, n, c9, rfl, HXL.out.symm, q1, q2, hro⟩) ?_
              rintro u wx HCx ⟨A64, n64, c64, rfl, -, -, -, -⟩
              clear HCx
              simp only [Act.put, List.setIfInBounds_toArray, List.set_cons_succ, List.set_cons_zero]
              refine dw_val rfl rfl rfl ?_; apply Exists.intro; refine ⟨fun wv HC => ?_, ?_⟩
              ·  go_simp <;> rfl
              simp only [Act.put, List.setIfInBounds_toArray, List.set_cons_succ, List.set_cons_zero]
              refine dw_valC 66 (PrSlot (Mut M KL) (xid, xvs, vs)) rfl rfl rfl rfl (.agg #[.int .i64 xid, .slice A64 n64 c64, .slice (some ⟨ga, 0, none⟩) n cr]) (fun wv HC => ?_) (fun wv HC hD => ?_) ?_
              · go_simp <;> rfl
              · have ha : VlsSlot (Mut M KL) xvs (.slice A64 n64 c64) wv := deps_at hD 6 rfl (by kernel_rfl) rfl rfl
                exact prSlot_of HXO.out.id HXO.out.vs HVS.out.2 ha ⟨_, n, cr, rfl, HVS.out.1.symm, hcr.1, hcr.2, (HRX.out _ HC).2⟩
              simp only [Act.put, List.setIfInBounds_toArray, List.set_cons_succ, List.set_cons_zero]
              refine dw_new #[.int .i64 xid, .slice A64 n64 c64, .slice (some ⟨ga, 0, none⟩) n cr] 56 67 (PrsSlot (Mut M KL) [(xid, xvs, vs)]) (fun g => .slice (some ⟨g, 0, none⟩) 1 1) rfl rfl rfl rfl (fun wv => ?_) (fun wv HC _hrm hD hro => ?_) ?_
              · go_simp <;> rfl
              · have hrr := RM.alloc (Mut M KL) wv (.cells #[.int .i64 xid, .slice A64 n64 c64, .slice (some ⟨ga, 0, none⟩) n cr] 56)
                have h0 : PrSlot (Mut M KL) (xid, xvs, vs) (.agg #[.int .i64 xid, .slice A64 n64 c64, .slice (some ⟨ga, 0, none⟩) n cr]) wv := deps_at hD 8 rfl (by kernel_rfl) rfl rfl
                replace h0 := prSlot_mono _ _ _ hrr h0
                exact prsSlot_one (hro _ HC.mutLt) (fun i j k e1 => Value.agg.inj e1) h0
              rintro g67 wg HCg hsl
              simp only [Act.put, List.setIfInBounds_toArray, List.set_cons_succ, List.set_cons_zero]
              clear hsl HCg
              refine rel_nil ?_
              rintro wx5 HX5
              rintro _hrm HGW
              have hb2 : PrsSlot (Mut M KL) [(xid, xvs, vs)] (.slice (some ⟨g67, 0, none⟩) 1 1) wx5 := (GW_on (d := 67) rfl).1 (HGW 9 _ rfl (by omega))
              clear HGW _hrm
              obtain ⟨Aq, nq, cq, pq, heq, -, -, hpm, hpok, hpr⟩ := hb2
              obtain ⟨rfl, rfl, rfl⟩ : some ⟨g67, 0, none⟩ = Aq ∧ 1 = nq ∧ 1 = cq := by injection heq with h1 h2 h3; exact ⟨h1, h2, h3⟩
              clear heq
              rw [HKL.out] at HX5 hpr
              have HPO := hid (prs_ok_app HPS.out hpok)
              have HPE := hid (show prCells ps ++ prCells pq = prCells (ps ++ pq) by simp [prCells])
              have KA := HX5.add (hpr.imp fun w h => (h.2 : PrVals pq w))
              have k5 := hid ((hpr.imp fun w h => h.1).now)
              clear HX5 hpr hpm hpok HF HRX KN
              have FA := KA.facts
              simp only [World.size_alloc, World.size_drew, factsL, cellsF, Nat.reduceAdd, List.toList_toArray, List.set_cons_zero, List.set_cons_succ, List.setIfInBounds_toArray, and_true, true_and] at FA
              go_wp2_with (at_builtin; go_must (refine wpList_appAllH KA 6 rfl Tryd.elPr k5.out rfl (.tmp 59) (.tmp 67) rfl rfl rfl (prCells_one pq) (by omega) (by omega) ?_); intro C' cap' w6 hc6 hm6 KB; rw [HPE.out] at KB; simp only [List.set_cons_zero, List.set_cons_succ] at KB; (have FB := KB.facts); simp only [World.size_alloc, World.size_drew, factsL, cellsF, Nat.reduceAdd, List.toList_toArray, List.set_cons_zero, List.set_cons_succ, List.setIfInBounds_toArray, and_true, true_and] at FB)
              have KD := KB.store 8 rfl 2 (.slice C' (un + 1) cap')
              have KE := (KD.swapRo 7 rfl (prVals_app (KD.ro 7 rfl) (KD.ro 0 rfl))).drop (List.Sublist.cons _ (List.Sublist.cons _ (List.Sublist.cons _ (List.Sublist.cons _ (List.Sublist.cons _ (List.Sublist.refl _))))))
              go_wp2_with fail
              go_roundw
              case rel => exact ⟨j + 1, dn, dc, un + 1, cap', D, C', dels, ps ++ pq, by omega, by first | rfl | go_num, by omega, by omega, HPO, KE⟩
              case measure => simp [intOf]; omega
        · skip
          obtain ⟨uq, huq⟩ : ∃ uq, vs[0]? = some uq := ⟨_, List.getElem?_eq_getElem (by have := HVS.out.1; omega)⟩
          obtain ⟨⟨y0, y1, y2⟩, ⟨y3, y4, y5⟩, y6⟩ := own_vl (K4.get 0 rfl) huq
          have ⟨x0, x1, x2, x3⟩ := (K4.ro 2 rfl).now
          clear huq
          have KE8 := K4.putVl 0 rfl 0 (by have := HVS.out.1; omega) v0
          simp only [Nat.zero_mul, Nat.zero_add, List.set_cons_zero] at KE8 y0 y1 y2 y3 y4 y5
          have HVS := hid (show (vs.set 0 v0).length = n ∧ ∀ v ∈ vs.set 0 v0, v.ok from ⟨by rw [List.length_set]; exact HVS.out.1, oks_set HVS.out.2 HV0.out⟩)
          generalize vs.set 0 v0 = vs at HVS KE8
          clear K4
          have FE8 := KE8.facts
          simp only [World.size_alloc, World.size_drew, factsL, cellsF, Nat.reduceAdd, List.toList_toArray, List.set_cons_zero, List.set_cons_succ, List.setIfInBounds_toArray, and_true, true_and] at FE8
          go_wp2_with fail
          refine (bool_any T 8 _ (KE8.tp_ 13 rfl) (by omega) (by omega)).mono ?_
          rintro e wb ⟨bb, rfl, tb, gb⟩
          have KF8 := Hold.callT KE8 13 rfl gb tb
          clear KE8 gb tb
          have FF8 := KF8.facts
          simp only [World.size_alloc, World.size_drew, factsL, cellsF, Nat.reduceAdd, List.toList_toArray, List.set_cons_zero, List.set_cons_succ, List.setIfInBounds_toArray, and_true, true_and] at FF8
          cases bb
          · skip
            have KV := KF8
            clear KF8
            go_wp2_with fail
            refine (bool_any T 12 _ (KV.tp_ 13 rfl) (by omega) (by omega)).mono ?_
            rintro e wb ⟨bb, rfl, tb, gb⟩
            have KP := Hold.callT KV 13 rfl gb tb
            clear KV gb tb
            have FP := KP.facts
            simp only [World.size_alloc, World.size_drew, factsL, cellsF, Nat.reduceAdd, List.toList_toArray, List.set_cons_zero, List.set_cons_succ, List.setIfInBounds_toArray, and_true, true_and] at FP
            cases bb
            · skip
              have KC := KP
              clear KP
              have KS := KC.sealRow 0 rfl
              simp only [List.set_cons_zero] at KS
              obtain ⟨KL, hKL, KN⟩ := KS.name
              have HF : Hid (∀ wv, Hold M (some T) w wv KL → (wv.cell? ⟨g5, 0, none⟩ = some (.slice none 0 0) ∧ wv.cell? ⟨g5, 1, none⟩ = some (.slice D dn dc) ∧ wv.cell? ⟨g5, 2, none⟩ = some (.slice U un uc) ∧ g5 < wv.heap.size) ∧ wv.cell? ⟨gr, 0, none⟩ = some (.int .i64 xid) ∧ wv.cell? ⟨gr, 1, none⟩ = some (.slice (some ⟨bx, ox, none⟩) n xc) ∧ gr < wv.heap.size) := hid fun wv HC => by
                rw [hKL] at HC
                have y1 := HC.blk_ 7 rfl
                have y2 := HC.cst_ 1 rfl
                exact ⟨⟨cell_of_row _ _ 0 _ _ _ y1, cell_of_row _ _ 1 _ _ _ y1, cell_of_row _ _ 2 _ _ _ y1, Blk.lt y1⟩, cell_of_row _ _ 0 _ _ _ y2, cell_of_row _ _ 1 _ _ _ y2, Blk.lt y2⟩
              have HRX : Hid (∀ wv, Hold M (some T) w wv KL → Ro wv (Mut M KL) (VlsIn (some ⟨bx, ox, none⟩) n xvs) ∧ Ro wv (Mut M KL) (VlsIn (some ⟨ga, 0, none⟩) n vs)) := hid fun wv HC => by
                rw [hKL] at HC ⊢
                exact ⟨HC.ro 3 rfl, HC.ro 0 rfl⟩
              have HKL := hid hKL
              clear hKL KS KC
              go_wp2_with fail
              refine wp_region_any (by kernel_rfl) ?_
              refine wpAny_hold 10 98 (KL) (spL [(64, VlsSlot (Mut M KL) xvs), (66, PrSlot (Mut M KL) (xid, xvs, vs)), (67, PrsSlot (Mut M KL) [(xid, xvs, vs)])]) (by kernel_rfl) (by kernel_rfl) (by kernel_rfl) rfl ?_ (KN.drew) ?_
              · exact stays_cons vlsSlot_mono (stays_cons prSlot_mono (stays_cons prsSlot_mono (stays_nil _)))
              simp only [List.take_succ_cons, List.take_zero, List.drop_succ_cons, List.drop_zero, Act.put, List.getElem_toArray, List.getElem_cons_zero, List.getElem_cons_succ, List.setIfInBounds_toArray, List.set_cons_succ, List.set_cons_zero]
              refine dw_val rfl rfl rfl ?_; apply Exists.intro; refine ⟨fun wv HC => ?_, ?_⟩
              ·  go_simp <;> rfl
              simp only [Act.put, List.setIfInBounds_toArray, List.set_cons_succ, List.set_cons_zero]
              refine dw_val rfl rfl rfl ?_; apply Exists.intro; refine ⟨fun wv HC => ?_, ?_⟩
              · obtain ⟨⟨f0, f1, f2, f3⟩, f4, f5, f6⟩ := HF.out _ HC; go_simp <;> rfl
              simp only [Act.put, List.setIfInBounds_toArray, List.set_cons_succ, List.set_cons_zero]
              refine dw_val rfl rfl rfl ?_; apply Exists.intro; refine ⟨fun wv HC => ?_, ?_⟩
              ·  go_simp <;> rfl
              simp only [Act.put, List.setIfInBounds_toArray, List.set_cons_succ, List.set_cons_zero]
              refine dw_val rfl rfl rfl ?_; apply Exists.intro; refine ⟨fun wv HC => ?_, ?_⟩
              · obtain ⟨⟨f0, f1, f2, f3⟩, f4, f5, f6⟩ := HF.out _ HC; go_simp <;> rfl
              simp only [Act.put, List.setIfInBounds_toArray, List.set_cons_succ, List.set_cons_zero]
              refine dw_val rfl rfl rfl ?_; apply Exists.intro; refine ⟨fun wv HC => ?_, ?_⟩
              ·  go_simp <;> rfl
              simp only [Act.put, List.setIfInBounds_toArray, List.set_cons_succ, List.set_cons_zero]
              refine dw_val rfl rfl rfl ?_; apply Exists.intro; refine ⟨fun wv HC => ?_, ?_⟩
              · obtain ⟨⟨f0, f1, f2, f3⟩, f4, f5, f6⟩ := HF.out _ HC; go_simp <;> rfl
              simp only [Act.put, List.setIfInBounds_toArray, List.set_cons_succ, List.set_cons_zero]
              refine dw_clone Tryd.elVl 64 (VlsSlot (Mut M KL) xvs) rfl rfl rfl rfl (.const (.slice none 0 0)) (.tmp 63) rfl rfl (A := some ⟨bx, ox, none⟩) (m := n) (c := xc) (ys := vlCells xvs) rfl (one_vls _) (by omega) (by omega) (fun wv HC hD => ((HRX.out _ HC).1).now) (fun C9 c9 wv HC q1 q2 hro => ⟨C9, n, c9, rfl, HXL.out.symm, q1, q2, hro⟩) ?_
              rintro u wx HCx ⟨A64, n64, c64, rfl, -, -, -, -⟩
              clear HCx
              simp only [Act.put, List.setIfInBounds_toArray, List.set_cons_succ, List.set_cons_zero]
              refine dw_val rfl rfl rfl ?_; apply Exists.intro; refine ⟨fun wv HC => ?_, ?_⟩
              ·  go_simp <;> rfl
              simp only [Act.put, List.setIfInBounds_toArray, List.set_cons_succ, List.set_cons_zero]
              refine dw_valC 66 (PrSlot (Mut M KL) (xid, xvs, vs)) rfl rfl rfl rfl (.agg #[.int .i64 xid, .slice A64 n64 c64, .slice (some ⟨ga, 0, none⟩) n cr]) (fun wv HC => ?_) (fun wv HC hD => ?_) ?_
              · go_simp <;> rfl
              · have ha : VlsSlot (Mut M KL) xvs (.slice A64 n64 c64) wv := deps_at hD 6 rfl (by kernel_rfl) rfl rfl
                exact prSlot_of HXO.out.id HXO.out.vs HVS.out.2 ha ⟨_, n, cr, rfl, HVS.out.1.symm, hcr.1, hcr.2, (HRX.out _ HC).2⟩
              simp only [Act.put, List.setIfInBounds_toArray, List.set_cons_succ, List.set_cons_zero]
              refine dw_new #[.int .i64 xid, .slice A64 n64 c64, .slice (some ⟨ga, 0, none⟩) n cr] 56 67 (PrsSlot (Mut M KL) [(xid, xvs, vs)]) (fun g => .slice (some ⟨g, 0, none⟩) 1 1) rfl rfl rfl rfl (fun wv => ?_) (fun wv HC _hrm hD hro => ?_) ?_
              · go_simp <;> rfl
              · have hrr := RM.alloc (Mut M KL) wv (.cells #[.int .i64 xid, .slice A64 n64 c64, .slice (some ⟨ga, 0, none⟩) n cr] 56)
                have h0 : PrSlot (Mut M KL) (xid, xvs, vs) (.agg #[.int .i64 xid, .slice A64 n64 c64, .slice (some ⟨ga, 0, none⟩) n cr]) wv := deps_at hD 8 rfl (by kernel_rfl) rfl rfl
                replace h0 := prSlot_mono _ _ _ hrr h0
                exact prsSlot_one (hro _ HC.mutLt) (fun i j k e1 => Value.agg.inj e1) h0
              rintro g67 wg HCg hsl
              simp only [Act.put, List.setIfInBounds_toArray, List.set_cons_succ, List.set_cons_zero]
              clear hsl HCg
              refine rel_nil ?_
              rintro wx5 HX5
              rintro _hrm HGW
              have hb2 : PrsSlot (Mut M KL) [(xid, xvs, vs)] (.slice (some ⟨g67, 0, none⟩) 1 1) wx5 := (GW_on (d := 67) rfl).1 (HGW 9 _ rfl (by omega))
              clear HGW _hrm
              obtain ⟨Aq, nq, cq, pq, heq, -, -, hpm, hpok, hpr⟩ := hb2
              obtain ⟨rfl, rfl, rfl⟩ : some ⟨g67, 0, none⟩ = Aq ∧ 1 = nq ∧ 1 = cq := by injection heq with h1 h2 h3; exact ⟨h1, h2, h3⟩
              clear heq
              rw [HKL.out] at HX5 hpr
              have HPO := hid (prs_ok_app HPS.out hpok)
              have HPE := hid (show prCells ps ++ prCells pq = prCells (ps ++ pq) by simp [prCells])
              have KA := HX5.add (hpr.imp fun w h => (h.2 : PrVals pq w))
              have k5 := hid ((hpr.imp fun w h => h.1).now)
              clear HX5 hpr hpm hpok HF HRX KN
              have FA := KA.facts
              simp only [World.size_alloc, World.size_drew, factsL, cellsF, Nat.reduceAdd, List.toList_toArray, List.set_cons_zero, List.set_cons_succ, List.setIfInBounds_toArray, and_true, true_and] at FA
              go_wp2_with (at_builtin; go_must (refine wpList_appAllH KA 6 rfl Tryd.elPr k5.out rfl (.tmp 59) (.tmp 67) rfl rfl rfl (prCells_one pq) (by omega) (by omega) ?_); intro C' cap' w6 hc6 hm6 KB; rw [HPE.out] at KB; simp only [List.set_cons_zero, List.set_cons_succ] at KB; (have FB := KB.facts); simp only [World.size_alloc, World.size_drew, factsL, cellsF, Nat.reduceAdd, List.toList_toArray, List.set_cons_zero, List.set_cons_succ, List.setIfInBounds_toArray, and_true, true_and] at FB)
              have KD := KB.store 8 rfl 2 (.slice C' (un + 1) cap')
              have KE := (KD.swapRo 7 rfl (prVals_app (KD.ro 7 rfl) (KD.ro 0 rfl))).drop (List.Sublist.cons _ (List.Sublist.cons _ (List.Sublist.cons _ (List.Sublist.cons _ (List.Sublist.cons _ (List.Sublist.refl _))))))
              go_wp2_with fail
              go_roundw
              case rel => exact ⟨j + 1, dn, dc, un + 1, cap', D, C', dels, ps ++ pq, by omega, by first | rfl | go_num, by omega, by omega, HPO, KE⟩
              case measure => simp [intOf]; omega
            · skip
              go_wp2_with fail
              refine (next_any T (n : Int) _ (KP.tp_ 13 rfl) (by omega) (by omega)).mono ?_
              rintro e wc ⟨q, rfl, q0, q1, tc, gc⟩
              obtain ⟨q, rfl⟩ := Int.eq_ofNat_of_zero_le q0
              have KQ := Hold.callT KP 13 rfl gc tc
              clear KP gc tc FP
              have FQ := KQ.facts
              simp only [World.size_alloc, World.size_drew, factsL, cellsF, Nat.reduceAdd, List.toList_toArray, List.set_cons_zero, List.set_cons_succ, List.setIfInBounds_toArray, and_true, true_and] at FQ
              go_wp2_with fail
              refine (value_any T _ (KQ.tp_ 13 rfl) (KQ.ro 10 rfl).now hT).mono ?_
              rintro e wd ⟨kv, iv, sv, rfl, hv, hsv, hiv, td, _, gd⟩
              have KR := Hold.callT KQ 13 rfl gd td
              clear KQ gd td FQ
              have HQL := hid (show q < vs.length by have := HVS.out.1; omega)
              obtain ⟨uq, huq⟩ : ∃ uq, vs[q]? = some uq := ⟨_, List.getElem?_eq_getElem HQL.out⟩
              obtain ⟨⟨z0, z1, z2⟩, ⟨z3, z4, z5⟩, z6⟩ := own_vl (KR.get 0 rfl) huq
              clear huq
              have KC := KR.putVl 0 rfl q HQL.out ⟨kv, iv, sv⟩
              simp only [List.set_cons_zero] at KC
              have HVS := hid (show (vs.set q ⟨kv, iv, sv⟩).length = n ∧ ∀ v ∈ vs.set q ⟨kv, iv, sv⟩, v.ok from ⟨by rw [List.length_set]; exact HVS.out.1, oks_set HVS.out.2 ⟨validB_k hv, hiv, by show sv.size ≤ maxLen; unfold maxLen; omega⟩⟩)
              clear hv KR
              generalize vs.set q ⟨kv, iv, sv⟩ = vs at HVS KC
              have FC := KC.facts
              simp only [World.size_alloc, World.size_drew, factsL, cellsF, Nat.reduceAdd, List.toList_toArray, List.set_cons_zero, List.set_cons_succ, List.setIfInBounds_toArray, and_true, true_and] at FC
              have KS := KC.sealRow 0 rfl
              simp only [List.set_cons_zero] at KS
              obtain ⟨KL, hKL, KN⟩ := KS.name
              have HF : Hid (∀ wv, Hold M (some T) w wv KL → (wv.cell? ⟨g5, 0, none⟩ = some (.slice none 0 0) ∧ wv.cell? ⟨g5, 1, none⟩ = some (.slice D dn dc) ∧ wv.cell? ⟨g5, 2, none⟩ = some (.slice U un uc) ∧ g5 < wv.heap.size) ∧ wv.cell? ⟨gr, 0, none⟩ = some (.int .i64 xid) ∧ wv.cell? ⟨gr, 1, none⟩ = some (.slice (some ⟨bx, ox, none⟩) n xc) ∧ gr < wv.heap.size) := hid fun wv HC => by
                rw [hKL] at HC
                have y1 := HC.blk_ 7 rfl
                have y2 := HC.cst_ 1 rfl
                exact ⟨⟨cell_of_row _ _ 0 _ _ _ y1, cell_of_row _ _ 1 _ _ _ y1, cell_of_row _ _ 2 _ _ _ y1, Blk.lt y1⟩, cell_of_row _ _ 0 _ _ _ y2, cell_of_row _ _ 1 _ _ _ y2, Blk.lt y2⟩
              have HRX : Hid (∀ wv, Hold M (some T) w wv KL → Ro wv (Mut M KL) (VlsIn (some ⟨bx, ox, none⟩) n xvs) ∧ Ro wv (Mut M KL) (VlsIn (some ⟨ga, 0, none⟩) n vs)) := hid fun wv HC => by
                rw [hKL] at HC ⊢
                exact ⟨HC.ro 3 rfl, HC.ro 0 rfl⟩
              have HKL := hid hKL
              clear hKL KS KC
              go_wp2_with fail
              refine wp_region_any (by kernel_rfl) ?_
              refine wpAny_hold 10 98 (KL) (spL [(64, VlsSlot (Mut M KL) xvs), (66, PrSlot (Mut M KL) (xid, xvs, vs)), (67, PrsSlot (Mut M KL) [(xid, xvs, vs)])]) (by kernel_rfl) (by kernel_rfl) (by kernel_rfl) rfl ?_ (KN.drew) ?_
              · exact stays_cons vlsSlot_mono (stays_cons prSlot_mono (stays_cons prsSlot_mono (stays_nil _)))
              simp only [List.take_succ_cons, List.take_zero, List.drop_succ_cons, List.drop_zero, Act.put, List.getElem_toArray, List.getElem_cons_zero, List.getElem_cons_succ, List.setIfInBounds_toArray, List.set_cons_succ, List.set_cons_zero]
              refine dw_val rfl rfl rfl ?_; apply Exists.intro; refine ⟨fun wv HC => ?_, ?_⟩
              ·  go_simp <;> rfl
              simp only [Act.put, List.setIfInBounds_toArray, List.set_cons_succ, List.set_cons_zero]
              refine dw_val rfl rfl rfl ?_; apply Exists.intro; refine ⟨fun wv HC => ?_, ?_⟩
              · obtain ⟨⟨f0, f1, f2, f3⟩, f4, f5, f6⟩ := HF.out _ HC; go_simp <;> rfl
              simp only [Act.put, List.setIfInBounds_toArray, List.set_cons_succ, List.set_cons_zero]
              refine dw_val rfl rfl rfl ?_; apply Exists.intro; refine ⟨fun wv HC => ?_, ?_⟩
              ·  go_simp <;> rfl
              simp only [Act.put, List.setIfInBounds_toArray, List.set_cons_succ, List.set_cons_zero]
              refine dw_val rfl rfl rfl ?_; apply Exists.intro; refine ⟨fun wv HC => ?_, ?_⟩
              · obtain ⟨⟨f0, f1, f2, f3⟩, f4, f5, f6⟩ := HF.out _ HC; go_simp <;> rfl
              simp only [Act.put, List.setIfInBounds_toArray, List.set_cons_succ, List.set_cons_zero]
              refine dw_val rfl rfl rfl ?_; apply Exists.intro; refine ⟨fun wv HC => ?_, ?_⟩
              ·  go_simp <;> rfl
              simp only [Act.put, List.setIfInBounds_toArray, List.set_cons_succ, List.set_cons_zero]
              refine dw_val rfl rfl rfl ?_; apply Exists.intro; refine ⟨fun wv HC => ?_, ?_⟩
              · obtain ⟨⟨f0, f1, f2, f3⟩, f4, f5, f6⟩ := HF.out _ HC; go_simp <;> rfl
              simp only [Act.put, List.setIfInBounds_toArray, List.set_cons_succ, List.set_cons_zero]
              refine dw_clone Tryd.elVl 64 (VlsSlot (Mut M KL) xvs) rfl rfl rfl rfl (.const (.slice none 0 0)) (.tmp 63) rfl rfl (A := some ⟨bx, ox, none⟩) (m := n) (c := xc) (ys := vlCells xvs) rfl (one_vls _) (by omega) (by omega) (fun wv HC hD => ((HRX.out _ HC).1).now) (fun C9 c9 wv HC q1 q2 hro => ⟨C9, n, c9, rfl, HXL.out.symm, q1, q2, hro⟩) ?_
              rintro u wx HCx ⟨A64, n64, c64, rfl, -, -, -, -⟩
              clear HCx
              simp only [Act.put, List.setIfInBounds_toArray, List.set_cons_succ, List.set_cons_zero]
              refine dw_val rfl rfl rfl ?_; apply Exists.intro; refine ⟨fun wv HC => ?_, ?_⟩
              ·  go_simp <;> rfl
              simp only [Act.put, List.setIfInBounds_toArray, List.set_cons_succ, List.set_cons_zero]
              refine dw_valC 66 (PrSlot (Mut M KL) (xid, xvs, vs)) rfl rfl rfl rfl (.agg #[.int .i64 xid, .slice A64 n64 c64, .slice (some ⟨ga, 0, none⟩) n cr]) (fun wv HC => ?_) (fun wv HC hD => ?_) ?_
              · go_simp <;> rfl
              · have ha : VlsSlot (Mut M KL) xvs (.slice A64 n64 c64) wv := deps_at hD 6 rfl (by kernel_rfl) rfl rfl
                exact prSlot_of HXO.out.id HXO.out.vs HVS.out.2 ha ⟨_, n, cr, rfl, HVS.out.1.symm, hcr.1, hcr.2, (HRX.out _ HC).2⟩
              simp only [Act.put, List.setIfInBounds_toArray, List.set_cons_succ, List.set_cons_zero]
              refine dw_new #[.int .i64 xid, .slice A64 n64 c64, .slice (some ⟨ga, 0, none⟩) n cr] 56 67 (PrsSlot (Mut M KL) [(xid, xvs, vs)]) (fun g => .slice (some ⟨g, 0, none⟩) 1 1) rfl rfl rfl rfl (fun wv => ?_) (fun wv HC _hrm hD hro => ?_) ?_
              · go_simp <;> rfl
              · have hrr := RM.alloc (Mut M KL) wv (.cells #[.int .i64 xid, .slice A64 n64 c64, .slice (some ⟨ga, 0, none⟩) n cr] 56)
                have h0 : PrSlot (Mut M KL) (xid, xvs, vs) (.agg #[.int .i64 xid, .slice A64 n64 c64, .slice (some ⟨ga, 0, none⟩) n cr]) wv := deps_at hD 8 rfl (by kernel_rfl) rfl rfl
                replace h0 := prSlot_mono _ _ _ hrr h0
                exact prsSlot_one (hro _ HC.mutLt) (fun i j k e1 => Value.agg.inj e1) h0
              rintro g67 wg HCg hsl
              simp only [Act.put, List.setIfInBounds_toArray, List.set_cons_succ, List.set_cons_zero]
              clear hsl HCg
              refine rel_nil ?_
              rintro wx5 HX5
              rintro _hrm HGW
              have hb2 : PrsSlot (Mut M KL) [(xid, xvs, vs)] (.slice (some ⟨g67, 0, none⟩) 1 1) wx5 := (GW_on (d := 67) rfl).1 (HGW 9 _ rfl (by omega))
              clear HGW _hrm
              obtain ⟨Aq, nq, cq, pq, heq, -, -, hpm, hpok, hpr⟩ := hb2
              obtain ⟨rfl, rfl, rfl⟩ : some ⟨g67, 0, none⟩ = Aq ∧ 1 = nq ∧ 1 = cq := by injection heq with h1 h2 h3; exact ⟨h1, h2, h3⟩
              clear heq
              rw [HKL.out] at HX5 hpr
              have HPO := hid (prs_ok_app HPS.out hpok)
              have HPE := hid (show prCells ps ++ prCells pq = prCells (ps ++ pq) by simp [prCells])
              have KA := HX5.add (hpr.imp fun w h => (h.2 : PrVals pq w))
              have k5 := hid ((hpr.imp fun w h => h.1).now)
              clear HX5 hpr hpm hpok HF HRX KN
              have FA := KA.facts
              simp only [World.size_alloc, World.size_drew, factsL, cellsF, Nat.reduceAdd, List.toList_toArray, List.set_cons_zero, List.set_cons_succ, List.setIfInBounds_toArray, and_true, true_and] at FA
              go_wp2_with (at_builtin; go_must (refine wpList_appAllH KA 6 rfl Tryd.elPr k5.out rfl (.tmp 59) (.tmp 67) rfl rfl rfl (prCells_one pq) (by omega) (by omega) ?_); intro C' cap' w6 hc6 hm6 KB; rw [HPE.out] at KB; simp only [List.set_cons_zero, List.set_cons_succ] at KB; (have FB := KB.facts); simp only [World.size_alloc, World.size_drew, factsL, cellsF, Nat.reduceAdd, List.toList_toArray, List.set_cons_zero, List.set_cons_succ, List.setIfInBounds_toArray, and_true, true_and] at FB)
              have KD := KB.store 8 rfl 2 (.slice C' (un + 1) cap')
              have KE := (KD.swapRo 7 rfl (prVals_app (KD.ro 7 rfl) (KD.ro 0 rfl))).drop (List.Sublist.cons _ (List.Sublist.cons _ (List.Sublist.cons _ (List.Sublist.cons _ (List.Sublist.cons _ (List.Sublist.refl _))))))
              go_wp2_with fail
              go_roundw
              case rel => exact ⟨j + 1, dn, dc, un + 1, cap', D, C', dels, ps ++ pq, by omega, by first | rfl | go_num, by omega, by omega, HPO, KE⟩
              case measure => simp [intOf]; omega
          · skip
            have KN := KF8.nil 88 3
            have k5 := hid ((KF8.ro 3 rfl).now)
            go_wp2_with (at_builtin; go_must (refine wpList_appAllH KN 0 rfl Tryd.elVl k5.out rfl (.const (.slice none 0 0)) (.tmp 46) rfl rfl rfl (one_vls _) (by omega) (by omega) ?_); intro C9 cap9 w9 hc9 hm9 KB; (try simp only [Nat.zero_add] at hc9 ⊢); simp only [Nat.zero_add, List.nil_append, List.set_cons_zero, List.set_cons_succ] at KB; (have FB := KB.facts); simp only [World.size_alloc, World.size_drew, factsL, cellsF, Nat.reduceAdd, List.toList_toArray, List.set_cons_zero, List.set_cons_succ, List.setIfInBounds_toArray, and_true, true_and] at FB)
            have KV := KB.drop (List.Sublist.cons_cons _ (List.sublist_cons_self _ _))
            obtain ⟨ga, rfl⟩ : ∃ ga, C9 = some ⟨ga, 0, none⟩ := by
              rcases own_addr (KV.get 0 rfl) with ⟨_, h, _⟩ | ⟨g, h, _⟩
              · omega
              · exact ⟨g, h⟩
            obtain ⟨vs, hvs⟩ : ∃ vs, vs = xvs := ⟨_, rfl⟩
            have HVS := hid (show vs.length = n ∧ ∀ v ∈ vs, v.ok by rw [hvs]; exact ⟨HXL.out, HXO.out.vs⟩)
            replace KV := Hold.renVl hvs KV
            clear hvs KB FB KN KF8 FF8 k5
            obtain ⟨cr, rfl⟩ : ∃ cr, cr = cap9 := ⟨_, rfl⟩
            have hcr := And.intro hc9 hm9
            have FV := KV.facts
            simp only [World.size_alloc, World.size_drew, factsL, cellsF, Nat.reduceAdd, List.toList_toArray, List.set_cons_zero, List.set_cons_succ, List.setIfInBounds_toArray, and_true, true_and] at FV
            go_wp2_with fail
            refine (bool_any T 12 _ (KV.tp_ 13 rfl) (by omega) (by omega)).mono ?_
            rintro e wb ⟨bb, rfl, tb, gb⟩
            have KP := Hold.callT KV 13 rfl gb tb
            clear KV gb tb
            have FP := KP.facts
            simp only [World.size_alloc, World.size_drew, factsL, cellsF, Nat.reduceAdd, List.toList_toArray, List.set_cons_zero, List.set_cons_succ, List.setIfInBounds_toArray, and_true, true_and] at FP
            cases bb
            · skip
              have KC := KP
              clear KP
              have KS := KC.sealRow 0 rfl
              simp only [List.set_cons_zero] at KS
              obtain ⟨KL, hKL, KN⟩ := KS.name
              have HF : Hid (∀ wv, Hold M (some T) w wv KL → (wv.cell? ⟨g5, 0, none⟩ = some (.slice none 0 0) ∧ wv.cell? ⟨g5, 1, none⟩ = some (.slice D dn dc) ∧ wv.cell? ⟨g5, 2, none⟩ = some (.slice U un uc) ∧ g5 < wv.heap.size) ∧ wv.cell? ⟨gr, 0, none⟩ = some (.int .i64 xid) ∧ wv.cell? ⟨gr, 1, none⟩ = some (.slice (some ⟨bx, ox, none⟩) n xc) ∧ gr < wv.heap.size) := hid fun wv HC => by
                rw [hKL] at HC
                have y1 := HC.blk_ 7 rfl
                have y2 := HC.cst_ 1 rfl
                exact ⟨⟨cell_of_row _ _ 0 _ _ _ y1, cell_of_row _ _ 1 _ _ _ y1, cell_of_row _ _ 2 _ _ _ y1, Blk.lt y1⟩, cell_of_row _ _ 0 _ _ _ y2, cell_of_row _ _ 1 _ _ _ y2, Blk.lt y2⟩
              have HRX : Hid (∀ wv, Hold M (some T) w wv KL → Ro wv (Mut M KL) (VlsIn (some ⟨bx, ox, none⟩) n xvs) ∧ Ro wv (Mut M KL) (VlsIn (some ⟨ga, 0, none⟩) n vs)) := hid fun wv HC => by
                rw [hKL] at HC ⊢
                exact ⟨HC.ro 3 rfl, HC.ro 0 rfl⟩
              have HKL := hid hKL
              clear hKL KS KC
              go_wp2_with fail
              refine wp_region_any (by kernel_rfl) ?_
              refine wpAny_hold 10 98 (KL) (spL [(64, VlsSlot (Mut M KL) xvs), (66, PrSlot (Mut M KL) (xid, xvs, vs)), (67, PrsSlot (Mut M KL) [(xid, xvs, vs)])]) (by kernel_rfl) (by kernel_rfl) (by kernel_rfl) rfl ?_ (KN.drew) ?_
              · exact stays_cons vlsSlot_mono (stays_cons prSlot_mono (stays_cons prsSlot_mono (stays_nil _)))
              simp only [List.take_succ_cons, List.take_zero, List.drop_succ_cons, List.drop_zero, Act.put, List.getElem_toArray, List.getElem_cons_zero, List.getElem_cons_succ, List.setIfInBounds_toArray, List.set_cons_succ, List.set_cons_zero]
              refine dw_val rfl rfl rfl ?_; apply Exists.intro; refine ⟨fun wv HC => ?_, ?_⟩
              ·  go_simp <;> rfl
              simp only [Act.put, List.setIfInBounds_toArray, List.set_cons_succ, List.set_cons_zero]
              refine dw_val rfl rfl rfl ?_; apply Exists.intro; refine ⟨fun wv HC => ?_, ?_⟩
              · obtain ⟨⟨f0, f1, f2, f3⟩, f4, f5, f6⟩ := HF.out _ HC; go_simp <;> rfl
              simp only [Act.put, List.setIfInBounds_toArray, List.set_cons_succ, List.set_cons_zero]
              refine dw_val rfl rfl rfl ?_; apply Exists.intro; refine ⟨fun wv HC => ?_, ?_⟩
              ·  go_simp <;> rfl
              simp only [Act.put, List.setIfInBounds_toArray, List.set_cons_succ, List.set_cons_zero]
              refine dw_val rfl rfl rfl ?_; apply Exists.intro; refine ⟨fun wv HC => ?_, ?_⟩
              · obtain ⟨⟨f0, f1, f2, f3⟩, f4, f5, f6⟩ := HF.out _ HC; go_simp <;> rfl
              simp only [Act.put, List.setIfInBounds_toArray, List.set_cons_succ, List.set_cons_zero]
              refine dw_val rfl rfl rfl ?_; apply Exists.intro; refine ⟨fun wv HC => ?_, ?_⟩
              ·  go_simp <;> rfl
              simp only [Act.put, List.setIfInBounds_toArray, List.set_cons_succ, List.set_cons_zero]
              refine dw_val rfl rfl rfl ?_; apply Exists.intro; refine ⟨fun wv HC => ?_, ?_⟩
              · obtain ⟨⟨f0, f1, f2, f3⟩, f4, f5, f6⟩ := HF.out _ HC; go_simp <;> rfl
              simp only [Act.put, List.setIfInBounds_toArray, List.set_cons_succ, List.set_cons_zero]
              refine dw_clone Tryd.elVl 64 (VlsSlot (Mut M KL) xvs) rfl rfl rfl rfl (.const (.slice none 0 0)) (.tmp 63) rfl rfl (A := some ⟨bx, ox, none⟩) (m := n) (c := xc) (ys := vlCells xvs) rfl (one_vls _) (by omega) (by omega) (fun wv HC hD => ((HRX.out _ HC).1).now) (fun C9 c9 wv HC q1 q2 hro => ⟨C9, n, c9, rfl, HXL.out.symm, q1, q2, hro⟩) ?_
              rintro u wx HCx ⟨A64, n64, c64, rfl, -, -, -, -⟩
              clear HCx
              simp only [Act.put, List.setIfInBounds_toArray, List.set_cons_succ, List.set_cons_zero]
              refine dw_val rfl rfl rfl ?_; apply Exists.intro; refine ⟨fun wv HC => ?_, ?_⟩
              ·  go_simp <;> rfl
              simp only [Act.put, List.setIfInBounds_toArray, List.set_cons_succ, List.set_cons_zero]
              refine dw_valC 66 (PrSlot (Mut M KL) (xid, xvs, vs)) rfl rfl rfl rfl (.agg #[.int .i64 xid, .slice A64 n64 c64, .slice (some ⟨ga, 0, none⟩) n cr]) (fun wv HC => ?_) (fun wv HC hD => ?_) ?_
              · go_simp <;> rfl
              · have ha : VlsSlot (Mut M KL) xvs (.slice A64 n64 c64) wv := deps_at hD 6 rfl (by kernel_rfl) rfl rfl
                exact prSlot_of HXO.out.id HXO.out.vs HVS.out.2 ha ⟨_, n, cr, rfl, HVS.out.1.symm, hcr.1, hcr.2, (HRX.out _ HC).2⟩
              simp only [Act.put, List.setIfInBounds_toArray, List.set_cons_succ, List.set_cons_zero]
              refine dw_new #[.int .i64 xid, .slice A64 n64 c64, .slice (some ⟨ga, 0, none⟩) n cr] 56 67 (PrsSlot (Mut M KL) [(xid, xvs, vs)]) (fun g => .slice (some ⟨g, 0, none⟩) 1 1) rfl rfl rfl rfl (fun wv => ?_) (fun wv HC _hrm hD hro => ?_) ?_
              · go_simp <;> rfl
              · have hrr := RM.alloc (Mut M KL) wv (.cells #[.int .i64 xid, .slice A64 n64 c64, .slice (some ⟨ga, 0, none⟩) n cr] 56)
                have h0 : PrSlot (Mut M KL) (xid, xvs, vs) (.agg #[.int .i64 xid, .slice A64 n64 c64, .slice (some ⟨ga, 0, none⟩) n cr]) wv := deps_at hD 8 rfl (by kernel_rfl) rfl rfl
                replace h0 := prSlot_mono _ _ _ hrr h0
                exact prsSlot_one (hro _ HC.mutLt) (fun i j k e1 => Value.agg.inj e1) h0
              rintro g67 wg HCg hsl
              simp only [Act.put, List.setIfInBounds_toArray, List.set_cons_succ, List.set_cons_zero]
              clear hsl HCg
              refine rel_nil ?_
              rintro wx5 HX5
              rintro _hrm HGW
              have hb2 : PrsSlot (Mut M KL) [(xid, xvs, vs)] (.slice (some ⟨g67, 0, none⟩) 1 1) wx5 := (GW_on (d := 67) rfl).1 (HGW 9 _ rfl (by omega))
              clear HGW _hrm
              obtain ⟨Aq, nq, cq, pq, heq, -, -, hpm, hpok, hpr⟩ := hb2
              obtain ⟨rfl, rfl, rfl⟩ : some ⟨g67, 0, none⟩ = Aq ∧ 1 = nq ∧ 1 = cq := by injection heq with h1 h2 h3; exact ⟨h1, h2, h3⟩
              clear heq
              rw [HKL.out] at HX5 hpr
              have HPO := hid (prs_ok_app HPS.out hpok)
              have HPE := hid (show prCells ps ++ prCells pq = prCells (ps ++ pq) by simp [prCells])
              have KA := HX5.add (hpr.imp fun w h => (h.2 : PrVals pq w))
              have k5 := hid ((hpr.imp fun w h => h.1).now)
              clear HX5 hpr hpm hpok HF HRX KN
              have FA := KA.facts
              simp only [World.size_alloc, World.size_drew, factsL, cellsF, Nat.reduceAdd, List.toList_toArray, List.set_cons_zero, List.set_cons_succ, List.setIfInBounds_toArray, and_true, true_and] at FA
              go_wp2_with (at_builtin; go_must (refine wpList_appAllH KA 6 rfl Tryd.elPr k5.out rfl (.tmp 59) (.tmp 67) rfl rfl rfl (prCells_one pq) (by omega) (by omega) ?_); intro C' cap' w6 hc6 hm6 KB; rw [HPE.out] at KB; simp only [List.set_cons_zero, List.set_cons_succ] at KB; (have FB := KB.facts); simp only [World.size_alloc, World.size_drew, factsL, cellsF, Nat.reduceAdd, List.toList_toArray, List.set_cons_zero, List.set_cons_succ, List.setIfInBounds_toArray, and_true, true_and] at FB)
              have KD := KB.store 8 rfl 2 (.slice C' (un + 1) cap')
              have KE := (KD.swapRo 7 rfl (prVals_app (KD.ro 7 rfl) (KD.ro 0 rfl))).drop (List.Sublist.cons _ (List.Sublist.cons _ (List.Sublist.cons _ (List.Sublist.cons _ (List.Sublist.cons _ (List.Sublist.refl _))))))
              go_wp2_with fail
              go_roundw
              case rel => exact ⟨j + 1, dn, dc, un + 1, cap', D, C', dels, ps ++ pq, by omega, by first | rfl | go_num, by omega, by omega, HPO, KE⟩
              case measure => simp [intOf]; omega
            · skip
              go_wp2_with fail
              refine (next_any T (n : Int) _ (KP.tp_ 13 rfl) (by omega) (by omega)).mono ?_
              rintro e wc ⟨q, rfl, q0, q1, tc, gc⟩
              obtain ⟨q, rfl⟩ := Int.eq_ofNat_of_zero_le q0
              have KQ := Hold.callT KP 13 rfl gc tc
              clear KP gc tc FP
              have FQ := KQ.facts
              simp only [World.size_alloc, World.size_drew, factsL, cellsF, Nat.reduceAdd, List.toList_toArray, List.set_cons_zero, List.set_cons_succ, List.setIfInBounds_toArray, and_true, true_and] at FQ
              go_wp2_with fail
              refine (value_any T _ (KQ.tp_ 13 rfl) (KQ.ro 10 rfl).now hT).mono ?_
              rintro e wd ⟨kv, iv, sv, rfl, hv, hsv, hiv, td, _, gd⟩
              have KR := Hold.callT KQ 13 rfl gd td
              clear KQ gd td FQ
              have HQL := hid (show q < vs.length by have := HVS.out.1; omega)
              obtain ⟨uq, huq⟩ : ∃ uq, vs[q]? = some uq := ⟨_, List.getElem?_eq_getElem HQL.out⟩
              obtain ⟨⟨z0, z1, z2⟩, ⟨z3, z4, z5⟩, z6⟩ := own_vl (KR.get 0 rfl) huq
              clear huq
              have KC := KR.putVl 0 rfl q HQL.out ⟨kv, iv, sv⟩
              simp only [List.set_cons_zero] at KC
              have HVS := hid (show (vs.set q ⟨kv, iv, sv⟩).length = n ∧ ∀ v ∈ vs.set q ⟨kv, iv, sv⟩, v.ok from ⟨by rw [List.length_set]; exact HVS.out.1, oks_set HVS.out.2 ⟨validB_k hv, hiv, by show sv.size ≤ maxLen; unfold maxLen; omega⟩⟩)
              clear hv KR
              generalize vs.set q ⟨kv, iv, sv⟩ = vs at HVS KC
              have FC := KC.facts
              simp only [World.size_alloc, World.size_drew, factsL, cellsF, Nat.reduceAdd, List.toList_toArray, List.set_cons_zero, List.set_cons_succ, List.setIfInBounds_toArray, and_true, true_and] at FC
              have KS := KC.sealRow 0 rfl
              simp only [List.set_cons_zero] at KS
              obtain ⟨KL, hKL, KN⟩ := KS.name
              have HF : Hid (∀ wv, Hold M (some T) w wv KL → (wv.cell? ⟨g5, 0, none⟩ = some (.slice none 0 0) ∧ wv.cell? ⟨g5, 1, none⟩ = some (.slice D dn dc) ∧ wv.cell? ⟨g5, 2, none⟩ = some (.slice U un uc) ∧ g5 < wv.heap.size) ∧ wv.cell? ⟨gr, 0, none⟩ = some (.int .i64 xid) ∧ wv.cell? ⟨gr, 1, none⟩ = some (.slice (some ⟨bx, ox, none⟩) n xc) ∧ gr < wv.heap.size) := hid fun wv HC => by
                rw [hKL] at HC
                have y1 := HC.blk_ 7 rfl
                have y2 := HC.cst_ 1 rfl
                exact ⟨⟨cell_of_row _ _ 0 _ _ _ y1, cell_of_row _ _ 1 _ _ _ y1, cell_of_row _ _ 2 _ _ _ y1, Blk.lt y1⟩, cell_of_row _ _ 0 _ _ _ y2, cell_of_row _ _ 1 _ _ _ y2, Blk.lt y2⟩
              have HRX : Hid (∀ wv, Hold M (some T) w wv KL → Ro wv (Mut M KL) (VlsIn (some ⟨bx, ox, none⟩) n xvs) ∧ Ro wv (Mut M KL) (VlsIn (some ⟨ga, 0, none⟩) n vs)) := hid fun wv HC => by
                rw [hKL] at HC ⊢
                exact ⟨HC.ro 3 rfl, HC.ro 0 rfl⟩
              have HKL := hid hKL
              clear hKL KS KC
              go_wp2_with fail
              refine wp_region_any (by kernel_rfl) ?_
              refine wpAny_hold 10 98 (KL) (spL [(64, VlsSlot (Mut M KL) xvs), (66, PrSlot (Mut M KL) (xid, xvs, vs)), (67, PrsSlot (Mut M KL) [(xid, xvs, vs)])]) (by kernel_rfl) (by kernel_rfl) (by kernel_rfl) rfl ?_ (KN.drew) ?_
              · exact stays_cons vlsSlot_mono (stays_cons prSlot_mono (stays_cons prsSlot_mono (stays_nil _)))
              simp only [List.take_succ_cons, List.take_zero, List.drop_succ_cons, List.drop_zero, Act.put, List.getElem_toArray, List.getElem_cons_zero, List.getElem_cons_succ, List.setIfInBounds_toArray, List.set_cons_succ, List.set_cons_zero]
              refine dw_val rfl rfl rfl ?_; apply Exists.intro; refine ⟨fun wv HC => ?_, ?_⟩
              ·  go_simp <;> rfl
              simp only [Act.put, List.setIfInBounds_toArray, List.set_cons_succ, List.set_cons_zero]
              refine dw_val rfl rfl rfl ?_; apply Exists.intro; refine ⟨fun wv HC => ?_, ?_⟩
              · obtain ⟨⟨f0, f1, f2, f3⟩, f4, f5, f6⟩ := HF.out _ HC; go_simp <;> rfl
              simp only [Act.put, List.setIfInBounds_toArray, List.set_cons_succ, List.set_cons_zero]
              refine dw_val rfl rfl rfl ?_; apply Exists.intro; refine ⟨fun wv HC => ?_, ?_⟩
              ·  go_simp <;> rfl
              simp only [Act.put, List.setIfInBounds_toArray, List.set_cons_succ, List.set_cons_zero]
              refine dw_val rfl rfl rfl ?_; apply Exists.intro; refine ⟨fun wv HC => ?_, ?_⟩
              · obtain ⟨⟨f0, f1, f2, f3⟩, f4, f5, f6⟩ := HF.out _ HC; go_simp <;> rfl
              simp only [Act.put, List.setIfInBounds_toArray, List.set_cons_succ, List.set_cons_zero]
              refine dw_val rfl rfl rfl ?_; apply Exists.intro; refine ⟨fun wv HC => ?_, ?_⟩
              ·  go_simp <;> rfl
              simp only [Act.put, List.setIfInBounds_toArray, List.set_cons_succ, List.set_cons_zero]
              refine dw_val rfl rfl rfl ?_; apply Exists.intro; refine ⟨fun wv HC => ?_, ?_⟩
              · obtain ⟨⟨f0, f1, f2, f3⟩, f4, f5, f6⟩ := HF.out _ HC; go_simp <;> rfl
              simp only [Act.put, List.setIfInBounds_toArray, List.set_cons_succ, List.set_cons_zero]
              refine dw_clone Tryd.elVl 64 (VlsSlot (Mut M KL) xvs) rfl rfl rfl rfl (.const (.slice none 0 0)) (.tmp 63) rfl rfl (A := some ⟨bx, ox, none⟩) (m := n) (c := xc) (ys := vlCells xvs) rfl (one_vls _) (by omega) (by omega) (fun wv HC hD => ((HRX.out _ HC).1).now) (fun C9 c9 wv HC q1 q2 hro => ⟨C9, n, c9, rfl, HXL.out.symm, q1, q2, hro⟩) ?_
              rintro u wx HCx ⟨A64, n64, c64, rfl, -, -, -, -⟩
              clear HCx
              simp only [Act.put, List.setIfInBounds_toArray, List.set_cons_succ, List.set_cons_zero]
              refine dw_val rfl rfl rfl ?_; apply Exists.intro; refine ⟨fun wv HC => ?_, ?_⟩
              ·  go_simp <;> rfl
              simp only [Act.put, List.setIfInBounds_toArray, List.set_cons_succ, List.set_cons_zero]
              refine dw_valC 66 (PrSlot (Mut M KL) (xid, xvs, vs)) rfl rfl rfl rfl (.agg #[.int .i64 xid, .slice A64 n64 c64, .slice (some ⟨ga, 0, none⟩) n cr]) (fun wv HC => ?_) (fun wv HC hD => ?_) ?_
              · go_simp <;> rfl
              · have ha : VlsSlot (Mut M KL) xvs (.slice A64 n64 c64) wv := deps_at hD 6 rfl (by kernel_rfl) rfl rfl
                exact prSlot_of HXO.out.id HXO.out.vs HVS.out.2 ha ⟨_, n, cr, rfl, HVS.out.1.symm, hcr.1, hcr.2, (HRX.out _ HC).2⟩
              simp only [Act.put, List.setIfInBounds_toArray, List.set_cons_succ, List.set_cons_zero]
              refine dw_new #[.int .i64 xid, .slice A64 n64 c64, .slice (some ⟨ga, 0, none⟩) n cr] 56 67 (PrsSlot (Mut M KL) [(xid, xvs, vs)]) (fun g => .slice (some ⟨g, 0, none⟩) 1 1) rfl rfl rfl rfl (fun wv => ?_) (fun wv HC _hrm hD hro => ?_) ?_
              · go_simp <;> rfl
              · have hrr := RM.alloc (Mut M KL) wv (.cells #[.int .i64 xid, .slice A64 n64 c64, .slice (some ⟨ga, 0, none⟩) n cr] 56)
                have h0 : PrSlot (Mut M KL) (xid, xvs, vs) (.agg #[.int .i64 xid, .slice A64 n64 c64, .slice (some ⟨ga, 0, none⟩) n cr]) wv := deps_at hD 8 rfl (by kernel_rfl) rfl rfl
                replace h0 := prSlot_mono _ _ _ hrr h0
                exact prsSlot_one (hro _ HC.mutLt) (fun i j k e1 => Value.agg.inj e1) h0
              rintro g67 wg HCg hsl
              simp only [Act.put, List.setIfInBounds_toArray, List.set_cons_succ, List.set_cons_zero]
              clear hsl HCg
              refine rel_nil ?_
              rintro wx5 HX5
              rintro _hrm HGW
              have hb2 : PrsSlot (Mut M KL) [(xid, xvs, vs)] (.slice (some ⟨g67, 0, none⟩) 1 1) wx5 := (GW_on (d := 67) rfl).1 (HGW 9 _ rfl (by omega))
              clear HGW _hrm
              obtain ⟨Aq, nq, cq, pq, heq, -, -, hpm, hpok, hpr⟩ := hb2
              obtain ⟨rfl, rfl, rfl⟩ : some ⟨g67, 0, none⟩ = Aq ∧ 1 = nq ∧ 1 = cq := by injection heq with h1 h2 h3; exact ⟨h1, h2, h3⟩
              clear heq
              rw [HKL.out] at HX5 hpr
              have HPO := hid (prs_ok_app HPS.out hpok)
              have HPE := hid (show prCells ps ++ prCells pq = prCells (ps ++ pq) by simp [prCells])
              have KA := HX5.add (hpr.imp fun w h => (h.2 : PrVals pq w))
              have k5 := hid ((hpr.imp fun w h => h.1).now)
              clear HX5 hpr hpm hpok HF HRX KN
              have FA := KA.facts
              simp only [World.size_alloc, World.size_drew, factsL, cellsF, Nat.reduceAdd, List.toList_toArray, List.set_cons_zero, List.set_cons_succ, List.setIfInBounds_toArray, and_true, true_and] at FA
              go_wp2_with (at_builtin; go_must (refine wpList_appAllH KA 6 rfl Tryd.elPr k5.out rfl (.tmp 59) (.tmp 67) rfl rfl rfl (prCells_one pq) (by omega) (by omega) ?_); intro C' cap' w6 hc6 hm6 KB; rw [HPE.out] at KB; simp only [List.set_cons_zero, List.set_cons_succ] at KB; (have FB := KB.facts); simp only [World.size_alloc, World.size_drew, factsL, cellsF, Nat.reduceAdd, List.toList_toArray, List.set_cons_zero, List.set_cons_succ, List.setIfInBounds_toArray, and_true, true_and] at FB)
              have KD := KB.store 8 rfl 2 (.slice C' (un + 1) cap')
              have KE := (KD.swapRo 7 rfl (prVals_app (KD.ro 7 rfl) (KD.ro 0 rfl))).drop (List.Sublist.cons _ (List.Sublist.cons _ (List.Sublist.cons _ (List.Sublist.cons _ (List.Sublist.cons _ (List.Sublist.refl _))))))
              go_wp2_with fail
              go_roundw
              case rel => exact ⟨j + 1, dn, dc, un + 1, cap', D, C', dels, ps ++ pq, by omega, by first | rfl | go_num, by omega, by omega, HPO, KE⟩
              case measure => simp [intOf]; omega
      · have z2 : (z == 0) = false := by rw [beq_eq_false_iff_ne]; omega
        have z3 : (z == 1) = false := by rw [beq_eq_false_iff_ne]; omega
        go_wp2_with fail
        have KC := K2.drop (List.Sublist.cons _ (List.Sublist.cons _ (List.Sublist.cons _ (List.Sublist.refl _))))
        go_roundw
        case rel => exact ⟨j + 1, dn, dc, un, uc, _, U, dels, ps, by omega, by first | rfl | go_num, by omega, by omega, HPS, KC⟩
        case measure => simp [intOf]; omega
    · obtain rfl : m = j := by omega
      have hd : decide ((m : Int) < (m : Int)) = false := by simp
      clear hlt
      obtain ⟨hdc1, hdc2, _⟩ := own_caps (H.get 0 rfl)
      obtain ⟨huc1, huc2, _⟩ := own_caps (H.get 1 rfl)
      have KS := H.sealRow 0 rfl
      simp only [List.set_cons_zero] at KS
      have KS2 := KS.sealRow 1 rfl
      simp only [List.set_cons_zero, List.set_cons_succ] at KS2
      clear H KS
      go_wp2_with fail
      refine (next_any T 4 _ (KS2.tp_ 9 rfl) (by omega) (by omega)).mono ?_
      rintro e w3 ⟨i0, rfl, i00, i01, t3, g3⟩
      obtain ⟨i0, rfl⟩ := Int.eq_ofNat_of_zero_le i00
      have K2 := ((Hold.callT KS2 9 rfl g3 t3).add (show Ro _ _ (SlVals []) from fun _ _ _ r hr => nomatch hr)).nil 52 1
      have hi0 : i0 ≤ 3 := by omega
      clear KS2 g3 t3 i00 i01
      go_wp2_with fail
      clear hd
      go_loopw [9] (fun iv wr => ∃ (i k ic : Nat) (I : Option Addr) (si : List Sl), iv = .int .i64 i ∧ i + k ≤ 3 ∧ Hid (∀ s ∈ si, s.ok) ∧ Hold M (some T) w wr [.own 52 1 (.slice I k ic) k (slCells si), .ro (SlVals si), .ro (SlR 1 D dn (iCells dels)), .ro (SlR 3 U un (prCells ps)), .ro (PrVals ps), .blk g5 49 #[.slice I k ic, .slice D dn dc, .slice U un uc], .blk g4 49 #[.slice none 0 0, .slice none 0 0, .slice none 0 0], .cst gx 32 #[.string nm, .slice A n c, .int .i64 nx, .slice B m d], .ro Wds, .ro (ColsIn A n cs), .ro (RwsIn B m l), .tp T]) (fun iv _ => (intOf iv).toNat)
      case atStart => exact ⟨i0, 0, 0, none, [], rfl, by omega, hid (fun s hs => nomatch hs), K2⟩
      case round =>
        clear K2 hi0
        obtain ⟨i, k, ic, I, si, rfl, hik, HSI, H⟩ := hrel
        by_cases hlt : 0 < i
        · obtain ⟨i, rfl⟩ : ∃ i', i = i' + 1 := ⟨i - 1, by omega⟩
          have hd : decide (((i + 1 : Nat) : Int) > 0) = true := by rw [decide_eq_true_iff]; omega
          clear hlt
          have FH := H.facts
          simp only [World.size_alloc, World.size_drew, factsL, cellsF, Nat.reduceAdd, List.toList_toArray, List.set_cons_zero, List.set_cons_succ, List.setIfInBounds_toArray, and_true, true_and] at FH
          go_wp2_with fail
          refine (trow_any (Mut M _) T _ H.mutLt (H.tp_ 11 rfl) (H.get 11 rfl).2 nm A n c cs ((H.ro 9 rfl).less (mut_tp (i := 11) rfl)) ((H.ro 8 rfl).less (mut_tp (i := 11) rfl)) hT hn HOKC.out).mono ?_
          rintro e w4 ⟨Ar, nr, cr, vs, rfl, hnr, hvr, hfr, ho, t4, g4'⟩
          have KV := Hold.addOwn H (Hold.callT H 11 rfl g4' t4) (RM.grown g4' (.inr ⟨_, List.mem_of_getElem? (i := 11) rfl, rfl⟩)) ho
          obtain rfl : n = nr := by have h1 := fitsAll_len hfr; have h2 := HL.out; omega
          have hcr := own_caps (KV.get 0 rfl)
          replace hcr := And.intro hcr.1 hcr.2.1
          have HVS := hid (show vs.length = n ∧ ∀ v ∈ vs, v.ok from ⟨hnr.symm, hvr⟩)
          obtain ⟨ga, rfl⟩ : ∃ ga, Ar = some ⟨ga, 0, none⟩ := by
            rcases own_addr (KV.get 0 rfl) with ⟨_, h, _⟩ | ⟨g, h, _⟩
            · omega
            · exact ⟨g, h⟩
          clear H ho t4 g4' hnr hvr hfr FH
          have FV := KV.facts
          simp only [World.size_alloc, World.size_drew, factsL, cellsF, Nat.reduceAdd, List.toList_toArray, List.set_cons_zero, List.set_cons_succ, List.setIfInBounds_toArray, and_true, true_and] at FV
          go_wp2_with fail
          refine (bool_any T 12 _ (KV.tp_ 12 rfl) (by omega) (by omega)).mono ?_
          rintro e wb ⟨bb, rfl, tb, gb⟩
          have KP := Hold.callT KV 12 rfl gb tb
          clear KV gb tb
          have FP := KP.facts
          simp only [World.size_alloc, World.size_drew, factsL, cellsF, Nat.reduceAdd, List.toList_toArray, List.set_cons_zero, List.set_cons_succ, List.setIfInBounds_toArray, and_true, true_and] at FP
          cases bb
          · skip
            have KC := KP
            clear KP
            have KS := KC.sealRow 0 rfl
            simp only [List.set_cons_zero] at KS
            have HCE := hid (show slCells si ++ (#[Value.slice (some ⟨ga, 0, none⟩) n cr]).toList = slCells (si ++ [⟨some ⟨ga, 0, none⟩, n, cr, vs⟩]) by simp [slCells, Sl.cells])
            have HSO := hid (sls_ok_snoc HSI.out (x := ⟨some ⟨ga, 0, none⟩, n, cr, vs⟩) ⟨hcr.1, hcr.2, HVS.out.2⟩)
            clear KC
            have FS := KS.facts
            simp only [World.size_alloc, World.size_drew, factsL, cellsF, Nat.reduceAdd, List.toList_toArray, List.set_cons_zero, List.set_cons_succ, List.setIfInBounds_toArray, and_true, true_and] at FS
            go_wp2_with (at_builtin; go_must (refine wpList_appH KS 1 rfl Tryd.elSlc #[.slice (some ⟨ga, 0, none⟩) n cr] rfl (.tmp 92) (.tmp 94) rfl rfl _ (by first | rfl | simp [World.setCell]) rfl rfl (by intro u hu; simp at hu; rcases hu with rfl; rfl) (by omega) (by omega) ?_); intro g9 cap9 w9 hc9 hm9 KB; rw [HCE.out] at KB; simp only [List.set_cons_zero, List.set_cons_succ] at KB; (have FB := KB.facts); simp only [World.size_alloc, World.size_drew, factsL, cellsF, Nat.reduceAdd, List.toList_toArray, List.set_cons_zero, List.set_cons_succ, List.setIfInBounds_toArray, and_true, true_and] at FB)
            have KD := KB.store 6 rfl 0 (.slice (some ⟨g9, 0, none⟩) (k + 1) cap9)
            have KE := (KD.swapRo 2 rfl (sls_snoc (r := ⟨some ⟨ga, 0, none⟩, n, cr, vs⟩) (KD.ro 2 rfl) (KD.ro 0 rfl))).drop (List.sublist_cons_self _ _)
            go_roundw
            case rel => exact ⟨i, k + 1, cap9, _, _, by first | rfl | go_num, by omega, HSO, KE⟩
            case measure => simp [intOf] <;> omega
          · skip
            go_wp2_with fail
            refine (next_any T (n : Int) _ (KP.tp_ 12 rfl) (by omega) (by omega)).mono ?_
            rintro e wc ⟨q, rfl, q0, q1, tc, gc⟩
            obtain ⟨q, rfl⟩ := Int.eq_ofNat_of_zero_le q0
            have KQ := Hold.callT KP 12 rfl gc tc
            clear KP gc tc FP
            have FQ := KQ.facts
            simp only [World.size_alloc, World.size_drew, factsL, cellsF, Nat.reduceAdd, List.toList_toArray, List.set_cons_zero, List.set_cons_succ, List.setIfInBounds_toArray, and_true, true_and] at FQ
            go_wp2_with fail
            refine (value_any T _ (KQ.tp_ 12 rfl) (KQ.ro 9 rfl).now hT).mono ?_
            rintro e wd ⟨kv, iv, sv, rfl, hv, hsv, hiv, td, _, gd⟩
            have KR := Hold.callT KQ 12 rfl gd td
            clear KQ gd td FQ
            have HQL := hid (show q < vs.length by have := HVS.out.1; omega)
            obtain ⟨uq, huq⟩ : ∃ uq, vs[q]? = some uq := ⟨_, List.getElem?_eq_getElem HQL.out⟩
            obtain ⟨⟨z0, z1, z2⟩, ⟨z3, z4, z5⟩, z6⟩ := own_vl (KR.get 0 rfl) huq
            clear huq
            have KC := KR.putVl 0 rfl q HQL.out ⟨kv, iv, sv⟩
            simp only [List.set_cons_zero] at KC
            have HVS := hid (show (vs.set q ⟨kv, iv, sv⟩).length = n ∧ ∀ v ∈ vs.set q ⟨kv, iv, sv⟩, v.ok from ⟨by rw [List.length_set]; exact HVS.out.1, oks_set HVS.out.2 ⟨validB_k hv, hiv, by show sv.size ≤ maxLen; unfold maxLen; omega⟩⟩)
            clear hv KR
            generalize vs.set q ⟨kv, iv, sv⟩ = vs at HVS KC
            have FC := KC.facts
            simp only [World.size_alloc, World.size_drew, factsL, cellsF, Nat.reduceAdd, List.toList_toArray, List.set_cons_zero, List.set_cons_succ, List.setIfInBounds_toArray, and_true, true_and] at FC
            have KS := KC.sealRow 0 rfl
            simp only [List.set_cons_zero] at KS
            have HCE := hid (show slCells si ++ (#[Value.slice (some ⟨ga, 0, none⟩) n cr]).toList = slCells (si ++ [⟨some ⟨ga, 0, none⟩, n, cr, vs⟩]) by simp [slCells, Sl.cells])
            have HSO := hid (sls_ok_snoc HSI.out (x := ⟨some ⟨ga, 0, none⟩, n, cr, vs⟩) ⟨hcr.1, hcr.2, HVS.out.2⟩)
            clear KC
            have FS := KS.facts
            simp only [World.size_alloc, World.size_drew, factsL, cellsF, Nat.reduceAdd, List.toList_toArray, List.set_cons_zero, List.set_cons_succ, List.setIfInBounds_toArray, and_true, true_and] at FS
            go_wp2_with (at_builtin; go_must (refine wpList_appH KS 1 rfl Tryd.elSlc #[.slice (some ⟨ga, 0, none⟩) n cr] rfl (.tmp 92) (.tmp 94) rfl rfl _ (by first | rfl | simp [World.setCell]) rfl rfl (by intro u hu; simp at hu; rcases hu with rfl; rfl) (by omega) (by omega) ?_); intro g9 cap9 w9 hc9 hm9 KB; rw [HCE.out] at KB; simp only [List.set_cons_zero, List.set_cons_succ] at KB; (have FB := KB.facts); simp only [World.size_alloc, World.size_drew, factsL, cellsF, Nat.reduceAdd, List.toList_toArray, List.set_cons_zero, List.set_cons_succ, List.setIfInBounds_toArray, and_true, true_and] at FB)
            have KD := KB.store 6 rfl 0 (.slice (some ⟨g9, 0, none⟩) (k + 1) cap9)
            have KE := (KD.swapRo 2 rfl (sls_snoc (r := ⟨some ⟨ga, 0, none⟩, n, cr, vs⟩) (KD.ro 2 rfl) (KD.ro 0 rfl))).drop (List.sublist_cons_self _ _)
            go_roundw
            case rel => exact ⟨i, k + 1, cap9, _, _, by first | rfl | go_num, by omega, HSO, KE⟩
            case measure => simp [intOf] <;> omega
        · obtain rfl : i = 0 := by omega
          have hd : decide (((0 : Nat) : Int) > 0) = false := by decide
          have F := H.facts
          simp only [World.size_alloc, World.size_drew, factsL, cellsF, Nat.reduceAdd, List.toList_toArray, List.set_cons_zero, List.set_cons_succ, List.setIfInBounds_toArray, and_true, true_and] at F
          obtain ⟨hic1, hic2, _⟩ := own_caps (H.get 0 rfl)
          have KS := H.sealRow 0 rfl
          simp only [List.set_cons_zero] at KS
          have KN := ((KS.store 6 rfl 0 (.slice I k ic)).store 6 rfl 1 (.slice D dn dc)).store 6 rfl 2 (.slice U un uc)
          have r0 := KN.roOut 0 rfl
          have r1 := KN.roOut 1 rfl
          have r2 := KN.roOut 2 rfl
          have r3 := KN.roOut 3 rfl
          have r4 := KN.roOut 4 rfl
          clear KS
          have HI := hid (show si.length = k by have h := (show Rd _ _ _ _ _ _ from r0.now).1; rw [slCells_len] at h; omega)
          have HDL := hid (show dels.length = dn by have h := (show Rd _ _ _ _ _ _ from r2.now).1; rw [iCells_len] at h; omega)
          have HUL := hid (show ps.length = un by have h := (show Rd _ _ _ _ _ _ from r3.now).1; rw [prCells_len] at h; omega)
          go_wp2_with fail
          exact bodyPost_ret (v := .agg #[.slice I k ic, .slice D dn dc, .slice U un uc]) (by simp [results, Tryd.results23, go_sem, F]) rfl ⟨_, si.map Sl.vs, dels, ps.map Pr.upd, rfl, chgSlot_of ⟨I, k, ic, si, rfl, hic1, hic2, rfl, HSI.out, r0.and r1⟩ ⟨D, dn, dc, rfl, hdc1, hdc2, r2⟩ ⟨U, un, uc, ps, rfl, huc1, huc2, rfl, HPS.out, r3.and r4⟩, by rw [List.length_map, HI.out]; omega, by rw [HDL.out]; omega, by rw [List.length_map, HUL.out]; omega, KN.tp_ 11 rfl, KN.grow⟩
end Go.Proofs.YtphofeeaphkciaaDoor

namespace Go.Proofs.YtphofeeaphkciaaDoor
open Go.RowKit
set_option linter.unusedVariables false
set_option linter.unusedSimpArgs false

def OneName (s : ByteArray) : Prop := s = ⟨#[116]⟩ ∨ s = ⟨#[117]⟩ ∨ s = ⟨#[108, 111, 103]⟩
def DrawnName (w : World) (T : Nat) (e : Ending) (w' : World) : Prop := ∃ s : ByteArray, e = .returned (.string s) ∧ OneName s ∧ Tp w' T ∧ w.grownBy w' (some T)
set_option maxHeartbeats 1000000 in
theorem tname_any (M : Nat → Prop) (T : Nat) (w : World) (hM : ∀ b, M b → b < w.heap.size) (ht : Tp w T) (hMT : ∀ b, M b → T ≤ b) : Calls Tryd.prog 19 #[.pointer (some ⟨T, 0, none⟩)] w fun e w' => DrawnName w T e w' := by
  have K0 := (Hold.startT M w T hM ht hMT).alloc_cst #[.string ⟨#[116]⟩, .string ⟨#[117]⟩, .string ⟨#[108, 111, 103]⟩] 9
  go_enter Tryd.func19, Tryd.ntmps19
  go_wp2_with fail
  refine (next_any T 3 _ (K0.tp_ 1 rfl) (by omega) (by omega)).mono ?_
  rintro e w1 ⟨r, rfl, r0, r1, t1, g1⟩
  have K1 := Hold.callT K0 1 rfl g1 t1
  have F1 := K1.facts
  simp only [World.size_alloc, World.size_drew, factsL, cellsF, Nat.reduceAdd, List.toList_toArray, List.set_cons_zero, List.set_cons_succ, List.setIfInBounds_toArray, and_true, true_and] at F1
  clear K0 g1 t1
  obtain ⟨r, rfl⟩ := Int.eq_ofNat_of_zero_le r0
  obtain rfl | rfl | rfl : r = 0 ∨ r = 1 ∨ r = 2 := by omega
  · go_wp2_with fail
    go_ret
    exact ⟨_, rfl, .inl rfl, K1.tp_ 1 rfl, K1.grow⟩
  · go_wp2_with fail
    go_ret
    exact ⟨_, rfl, .inr (.inl rfl), K1.tp_ 1 rfl, K1.grow⟩
  · go_wp2_with fail
    go_ret
    exact ⟨_, rfl, .inr (.inr rfl), K1.tp_ 1 rfl, K1.grow⟩
/-- what is known of a schema of the three -/
structure SchOk (nm : ByteArray) (cs : List Col) : Prop where
  val : schemaB nm cs = true
  col : ∀ x ∈ cs, ColOk x
  key : KeyOne cs
  len : 1 ≤ cs.length ∧ cs.length ≤ 4
  nm : nm.size ≤ maxLen
  cs : ∀ x ∈ cs, x.name.size ≤ maxLen
def keyOneB (cs : List Col) : Bool := (List.range cs.length).all fun i => match cs[i]? with | some c => !c.key || findB Col.key cs == (i : Int) | none => true
theorem keyOne_of {cs : List Col} (h : keyOneB cs = true) : KeyOne cs := fun i c hc hk => by
  have h1 := List.all_eq_true.1 h i (List.mem_range.2 (List.getElem?_eq_some_iff.1 hc).1)
  simp only [hc, hk, Bool.not_true, Bool.false_or, beq_iff_eq] at h1
  exact h1
def colOkB (c : Col) : Bool := c.ty == 1 || c.ty == 2 || c.ty == 3
def schOkB (nm : ByteArray) (cs : List Col) : Bool := schemaB nm cs && cs.all colOkB && keyOneB cs && decide (1 ≤ cs.length) && decide (cs.length ≤ 4) && decide (nm.size ≤ 100) && cs.all fun x => decide (x.name.size ≤ 100)
theorem schOk_of {nm : ByteArray} {cs : List Col} (h : schOkB nm cs = true) : SchOk nm cs := by
  unfold schOkB at h
  simp only [Bool.and_eq_true, decide_eq_true_eq] at h
  obtain ⟨⟨⟨⟨⟨⟨h1, h2⟩, h3⟩, h4⟩, h5⟩, h6⟩, h7⟩ := h
  refine ⟨h1, fun x hx => ?_, keyOne_of h3, ⟨h4, h5⟩, by unfold maxLen; omega, fun x hx => ?_⟩
  · have := List.all_eq_true.1 h2 x hx
    simpa [colOkB, ColOk, or_assoc] using this
  · have := List.all_eq_true.1 h7 x hx
    simp only [decide_eq_true_eq] at this
    unfold maxLen; omega
theorem schOk_t : schOkB (schemaOf ⟨#[116]⟩).1 (schemaOf ⟨#[116]⟩).2 = true := by decide +kernel
theorem schOk_u : schOkB (schemaOf ⟨#[117]⟩).1 (schemaOf ⟨#[117]⟩).2 = true := by decide +kernel
theorem schOk_log : schOkB (schemaOf ⟨#[108, 111, 103]⟩).1 (schemaOf ⟨#[108, 111, 103]⟩).2 = true := by decide +kernel
theorem schOk_name {s : ByteArray} (h : OneName s) : SchOk (schemaOf s).1 (schemaOf s).2 := by
  rcases h with rfl | rfl | rfl
  · exact schOk_of schOk_t
  · exact schOk_of schOk_u
  · exact schOk_of schOk_log
end Go.Proofs.YtphofeeaphkciaaDoor

namespace Go.Proofs.YtphofeeaphkciaaDoor
open Go.RowKit
set_option linter.unusedVariables false
set_option linter.unusedSimpArgs false

/-- the first reason why one of some rows does not fit -/
def firstE (cs : List Col) : List (List Vl) → Int
  | [] => 0
  | v :: r => if fitsT cs v = 0 then firstE cs r else fitsT cs v
def fitsC (cs : List Col) (news ins : List (List Vl)) : Int := if firstE cs news = 0 then firstE cs ins else firstE cs news
theorem firstE_good {cs : List Col} {l : List (List Vl)} {k : Nat} {v : List Vl} (hx : l[k]? = some v) (h : fitsT cs v = 0) : firstE cs (l.drop k) = firstE cs (l.drop (k + 1)) := by rw [drop_cons hx, firstE, if_pos h]
theorem firstE_bad {cs : List Col} {l : List (List Vl)} {k : Nat} {v : List Vl} (hx : l[k]? = some v) (h : fitsT cs v ≠ 0) : firstE cs (l.drop k) = fitsT cs v := by rw [drop_cons hx, firstE, if_neg h]
theorem firstE_end {cs : List Col} {l : List (List Vl)} {k : Nat} (h : l.length ≤ k) : firstE cs (l.drop k) = 0 := by rw [List.drop_of_length_le h]; rfl
set_option maxHeartbeats 2000000 in
set_option maxRecDepth 100000 in
theorem kfits_any (M : Nat → Prop) (w : World) (hM : ∀ b, M b → b < w.heap.size) (nm : ByteArray) (A : Option Addr) (n c : Nat) (cs : List Col) (nx x3 : Value) (I : Option Addr) (ni ci : Nat) (ins : List Sl) (xd : Value) (U : Option Addr) (nu cu : Nat) (us : List Pr)
    (hC : Ro w M (SlR 4 A n (colCells cs))) (hI : Ro w M (SlsIn I ni ins)) (hU : Ro w M (PrsIn U nu us)) (hn : n ≤ 9223372036854775807) (hni : ni ≤ 9223372036854775807) (hnu : nu ≤ 1000000000000) (hoi : ∀ s ∈ ins, s.ok) (hou : ∀ u ∈ us, u.ok) :
    Calls Tryd.prog 57 #[.agg #[.string nm, .slice A n c, nx, x3], .agg #[.slice I ni ci, xd, .slice U nu cu]] w fun e w' => e = .returned (.int .i64 (fitsC cs (us.map Pr.new) (ins.map Sl.vs))) ∧ Below w.heap.size w w' := by
  have HUL := hid hU.now.len
  have HIL := hid hI.now.len
  have K0 := (((((Hold.start M w hM).add (hU.less (by simp [Mut]))).add (hI.less (by simp [Mut, Hp.foot]))).add (hC.less (by simp [Mut, Hp.foot]))).alloc_cst #[.string nm, .slice A n c, nx, x3] 32).alloc_cst #[.slice I ni ci, xd, .slice U nu cu] 49
  rw [World.size_alloc] at K0
  have F0 := K0.facts
  simp only [World.size_alloc, World.size_drew, factsL, cellsF, Nat.reduceAdd, List.toList_toArray, List.set_cons_zero, List.set_cons_succ, List.setIfInBounds_toArray, and_true, true_and] at F0
  clear hC hI hU
  go_enter Tryd.func57, Tryd.ntmps57
  go_wp2_with fail
  clear F0
  go_loopw [14] (fun iv wr => ∃ (j : Nat), j ≤ nu ∧ iv = .int .i64 j ∧ Hid (firstE cs (us.map Pr.new) = firstE cs ((us.map Pr.new).drop j)) ∧ Hold M none w wr [.cst (w.heap.size + 1) 49 #[.slice I ni ci, xd, .slice U nu cu], .cst w.heap.size 32 #[.string nm, .slice A n c, nx, x3], .ro (SlR 4 A n (colCells cs)), .ro (SlsIn I ni ins), .ro (PrsIn U nu us)]) (fun iv _ => nu - (intOf iv).toNat)
  case atStart => exact ⟨0, by omega, rfl, hid rfl, K0⟩
  case round =>
    clear K0
    obtain ⟨j, hj, rfl, HS, H⟩ := hrel
    by_cases hlt : j < nu
    · have hdd : decide ((j : Int) < (nu : Int)) = true := by simp; omega
      have j0 : (0 : Int) ≤ (j : Int) := by omega
      obtain ⟨u, hu⟩ := get_of HUL.out hlt
      obtain ⟨b, o, rfl, hb, c0, c1, c2, _⟩ := (H.ro 4 rfl).now.at_ hu
      have HX := hid (show (us.map Pr.new)[j]? = some u.new by simp [hu])
      have HUM := hid (List.mem_of_getElem? hu)
      have huok := hou u HUM.out
      have K1 := H.alloc_cst #[.int .i64 u.id, .slice u.oA u.on u.oc, .slice u.nA u.nn u.nc] 56
      clear hu
      have F1 := K1.facts
      simp only [World.size_alloc, World.size_drew, factsL, cellsF, Nat.reduceAdd, List.toList_toArray, List.set_cons_zero, List.set_cons_succ, List.setIfInBounds_toArray, and_true, true_and] at F1
      have hVR : Ro _ (Mut M _) (VlsIn u.nA u.nn u.new) := (K1.ro 5 rfl).imp fun w2 h2 => (h2.2 u HUM.out).2
      go_wp2_with fail
      refine (tfits_any _ _ K1.mutLt nm A n c cs u.nA u.nn u.nc u.new (K1.ro 3 rfl) hVR hn (Nat.le_trans huok.nc huok.nc2) huok.new).mono ?_
      rintro e w3 ⟨rfl, b3⟩
      have K3 := (K1.call b3).drop (List.sublist_cons_self _ _)
      clear K1 F1 b3 hVR H
      by_cases hz : fitsT cs u.new = 0
      · have HN := hid (show firstE cs (us.map Pr.new) = firstE cs ((us.map Pr.new).drop (j + 1)) by rw [HS.out]; exact firstE_good HX.out hz)
        rw [hz]
        clear hz
        go_wp2_with fail
        go_roundw
        case rel => exact ⟨j + 1, by omega, by go_num, HN, K3⟩
        case measure => simp [intOf]; omega
      · have hz2 : (fitsT cs u.new != 0) = true := by simp [hz]
        have HN := hid (show fitsC cs (us.map Pr.new) (ins.map Sl.vs) = fitsT cs u.new by unfold fitsC; rw [HS.out, firstE_bad HX.out hz, if_neg hz])
        clear hz
        go_wp2_with fail
        go_ret
        exact ⟨by rw [HN.out] <;> rfl, K3.below⟩
    · obtain rfl : j = nu := by omega
      have hdd : decide ((j : Int) < (j : Int)) = false := by simp
      have HF := hid (show fitsC cs (us.map Pr.new) (ins.map Sl.vs) = firstE cs (ins.map Sl.vs) by unfold fitsC; rw [HS.out, firstE_end (by rw [List.length_map, HUL.out]; exact Nat.le_refl _), if_pos rfl])
      have F5 := H.facts
      simp only [World.size_alloc, World.size_drew, factsL, cellsF, Nat.reduceAdd, List.toList_toArray, List.set_cons_zero, List.set_cons_succ, List.setIfInBounds_toArray, and_true, true_and] at F5
      go_wp2_with fail
      clear F5
      go_loopw [30] (fun iv wr => ∃ (k : Nat), k ≤ ni ∧ iv = .int .i64 k ∧ Hid (firstE cs (ins.map Sl.vs) = firstE cs ((ins.map Sl.vs).drop k)) ∧ Hold M none w wr [.cst (w.heap.size + 1) 49 #[.slice I ni ci, xd, .slice U j cu], .cst w.heap.size 32 #[.string nm, .slice A n c, nx, x3], .ro (SlR 4 A n (colCells cs)), .ro (SlsIn I ni ins), .ro (PrsIn U j us)]) (fun iv _ => ni - (intOf iv).toNat)
      case atStart => exact ⟨0, by omega, rfl, hid rfl, H⟩
      case round =>
        clear H
        obtain ⟨k, hk, rfl, HS2, H⟩ := hrel
        by_cases hlt2 : k < ni
        · have hdd2 : decide ((k : Int) < (ni : Int)) = true := by simp; omega
          have k0 : (0 : Int) ≤ (k : Int) := by omega
          obtain ⟨s, hx⟩ := get_of HIL.out hlt2
          obtain ⟨b, o, rfl, hb, c0, _⟩ := (H.ro 3 rfl).now.at_ hx
          have HX := hid (show (ins.map Sl.vs)[k]? = some s.vs by simp [hx])
          have HSM := hid (List.mem_of_getElem? hx)
          have hsok := hoi s HSM.out
          clear hx
          have F1 := H.facts
          simp only [World.size_alloc, World.size_drew, factsL, cellsF, Nat.reduceAdd, List.toList_toArray, List.set_cons_zero, List.set_cons_succ, List.setIfInBounds_toArray, and_true, true_and] at F1
          have hVR : Ro _ (Mut M _) (VlsIn s.A s.n s.vs) := (H.ro 3 rfl).imp fun w2 h2 => h2.2 s HSM.out
          go_wp2_with fail
          refine (tfits_any _ _ H.mutLt nm A n c cs s.A s.n s.c s.vs (H.ro 2 rfl) hVR hn (Nat.le_trans hsok.nc hsok.c) hsok.vs).mono ?_
          rintro e w3 ⟨rfl, b3⟩
          have K3 := H.call b3
          clear F1 b3 hVR H
          by_cases hz : fitsT cs s.vs = 0
          · have HN := hid (show firstE cs (ins.map Sl.vs) = firstE cs ((ins.map Sl.vs).drop (k + 1)) by rw [HS2.out]; exact firstE_good HX.out hz)
            rw [hz]
            clear hz
            go_wp2_with fail
            go_roundw
            case rel => exact ⟨k + 1, by omega, by go_num, HN, K3⟩
            case measure => simp [intOf]; omega
          · have hz2 : (fitsT cs s.vs != 0) = true := by simp [hz]
            have HN := hid (show fitsC cs (us.map Pr.new) (ins.map Sl.vs) = fitsT cs s.vs by rw [HF.out, HS2.out, firstE_bad HX.out hz])
            clear hz
            go_wp2_with fail
            go_ret
            exact ⟨by rw [HN.out] <;> rfl, K3.below⟩
        · obtain rfl : k = ni := by omega
          have hdd2 : decide ((k : Int) < (k : Int)) = false := by simp
          have HN := hid (show fitsC cs (us.map Pr.new) (ins.map Sl.vs) = 0 by rw [HF.out, HS2.out, firstE_end (by rw [List.length_map, HIL.out]; exact Nat.le_refl _)])
          go_wp2_with fail
          go_ret
          exact ⟨by rw [HN.out] <;> rfl, H.below⟩
end Go.Proofs.YtphofeeaphkciaaDoor

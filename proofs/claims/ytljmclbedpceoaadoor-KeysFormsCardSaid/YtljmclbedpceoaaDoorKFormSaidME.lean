/- CmpRows: the reference's comparisons of values and rows: 0 says equal. -/
import Derived.Test.YtljmclbedpceoaaDoorKFormSaidMC
import Derived.Test.YtljmclbedpceoaaDoorKFormSaidMD
import Derived.Test.YtljmclbedpceoaaDoorKFormSaidMA
import Derived.Test.YtljmclbedpceoaaDoorKFormSaidMB
import Derived.Shelf.Small.Strs
import Derived.Ground.NamesProg
namespace Go.Proofs.YtljmclbedpceoaaDoor
open Go.RowKit
set_option linter.unusedVariables false
set_option linter.unusedSimpArgs false

/-- A change drawn. -/
def DrawnChg (w : World) (T : Nat) (M : Nat → Prop) (m : Nat) (e : Ending) (w' : World) : Prop :=
  ∃ (v : Value) (ins : List (List Vl)) (dels : List Int) (us : List Upd), e = .returned v ∧ ChgSlot M ins dels us v w' ∧ ins.length ≤ 3 ∧ dels.length ≤ m ∧ us.length ≤ m ∧ Tp w' T ∧ w.grownBy w' (some T)
def PrVals (l : List Pr) (w : World) : Prop := ∀ p ∈ l, VlsIn p.oA p.on p.old w ∧ VlsIn p.nA p.nn p.new w
def SlVals (l : List Sl) (w : World) : Prop := ∀ r ∈ l, VlsIn r.A r.n r.vs w
theorem sls_snoc {M : Nat → Prop} {w : World} {rs : List Sl} {r : Sl} (h : Ro w M (SlVals rs)) (k : Ro w M (VlsIn r.A r.n r.vs)) : Ro w M (SlVals (rs ++ [r])) := fun w2 h1 h2 x hx => by
  rcases List.mem_append.1 hx with hx | hx
  · exact h w2 h1 h2 x hx
  · simp at hx; subst hx; exact k w2 h1 h2
theorem sls_ok_snoc {l : List Sl} {x : Sl} (h : ∀ s ∈ l, s.ok) (k : x.ok) : ∀ s ∈ l ++ [x], s.ok := fun s hs => by
  rcases List.mem_append.1 hs with hs | hs
  · exact h s hs
  · simp at hs; subst hs; exact k
theorem prVals_app {M : Nat → Prop} {w : World} {a b : List Pr} (h : Ro w M (PrVals a)) (k : Ro w M (PrVals b)) : Ro w M (PrVals (a ++ b)) := fun w2 h1 h2 x hx => by
  rcases List.mem_append.1 hx with hx | hx
  · exact h w2 h1 h2 x hx
  · exact k w2 h1 h2 x hx
theorem prs_ok_app {a b : List Pr} (h : ∀ p ∈ a, p.ok) (k : ∀ p ∈ b, p.ok) : ∀ p ∈ a ++ b, p.ok := fun p hp => by
  rcases List.mem_append.1 hp with hp | hp
  · exact h p hp
  · exact k p hp
theorem prCells_one (l : List Pr) : ∀ u ∈ prCells l, u.oneCell' = true := fun u hu => by
  unfold prCells at hu
  rw [List.mem_flatMap] at hu
  obtain ⟨x, _, hx⟩ := hu
  simp only [Pr.cells, List.mem_cons, List.not_mem_nil, or_false] at hx
  rcases hx with rfl | rfl | rfl <;> rfl
theorem validB_k {k i : Int} {s : ByteArray} (h : validB k i s = true) : I64 k := by
  unfold validB at h
  unfold I64
  split at h
  · omega
  · split at h
    · omega
    · split at h
      · omega
      · split at h
        · omega
        · cases h
theorem Hold.renVl {M : Nat → Prop} {row : Option Nat} {w0 w : World} {L : List Hp} {e : TypeId} {v : Value} {n : Nat} {vs vs' : List Vl} (he : vs' = vs) (h : Hold M row w0 w (.own e 3 v n (vlCells vs) :: L)) : Hold M row w0 w (.own e 3 v n (vlCells vs') :: L) := by subst he; exact h
theorem Tryd.elPr : ElemT Tryd.prog 45 99 3 56 (.agg #[.int .i64 0, .slice none 0 0, .slice none 0 0]) := ⟨Tryd.underlying45, by kernel_rfl, rfl, by omega⟩
theorem Tryd.elSlc : ElemT Tryd.prog 25 27 1 24 (.slice none 0 0) := ⟨Tryd.underlying25, by kernel_rfl, rfl, by omega⟩
set_option maxHeartbeats 8000000 in
set_option maxRecDepth 100000 in
theorem chgof_any (M : Nat → Prop) (T : Nat) (w : World) (hM : ∀ b, M b → b < w.heap.size) (ht : Tp w T) (hMT : ∀ b, M b → T ≤ b) (nm : ByteArray) (A : Option Addr) (n c : Nat) (cs : List Col) (nx : Int) (B : Option Addr) (m d : Nat) (l : List Rw) (hD : Ro w (Mut M [.tp T]) (ColsIn A n cs)) (hE : Ro w (Mut M [.tp T]) (RwsIn B m l)) (hW : Ro w (Mut M [.tp T]) Wds) (hT : 1 < T)
    (hn1 : 1 ≤ n) (hn : n ≤ 1000) (hm : m ≤ 1000) (hok : ∀ x ∈ cs, ColOk x) (hfit : ∀ r ∈ l, r.vs.length = n) (hrok : ∀ r ∈ l, r.ok) : Calls Tryd.prog 28 #[.pointer (some ⟨T, 0, none⟩), .agg #[.string nm, .slice A n c, .int .i64 nx, .slice B m d]] w fun e w' => DrawnChg w T M m e w' := by
  have HL := hid (cols_n hD.now)
  have HLM := hid hE.now.len
  have HOKC := hid hok
  have HFIT := hid hfit
  have HROK := hid hrok
  clear hok hfit hrok
  have K0 := (((((((((Hold.startT M w T hM ht hMT).add hE).add (hD.less (mut_none rfl))).add ((hW.less (mut_none rfl)).less (mut_none rfl))).alloc_cst #[.string nm, .slice A n c, .int .i64 nx, .slice B m d] 40).alloc #[.slice none 0 0, .slice none 0 0, .slice none 0 0] 54).alloc #[.slice none 0 0, .slice none 0 0, .slice none 0 0] 54).add (show Ro _ _ (PrVals []) from fun _ _ _ r hr => nomatch hr)).nil 99 3).nil 3 1
  simp only [World.size_alloc] at K0
  clear hD hE hW
  go_enter Tryd.func28, Tryd.ntmps28
  go_wp2_with fail
  obtain ⟨gx, hgx⟩ : ∃ gx, gx = w.heap.size := ⟨_, rfl⟩
  obtain ⟨g4, hg4⟩ : ∃ g4, g4 = gx + 1 := ⟨_, rfl⟩
  obtain ⟨g5, hg5⟩ : ∃ g5, g5 = g4 + 1 := ⟨_, rfl⟩
  rw [← hgx, ← hg4, ← hg5] at K0 ⊢
  generalize ((w.alloc _).alloc _).alloc _ = w1 at K0 ⊢
  have HGX := hid hgx
  clear hgx hg4 hg5
  go_loopw [14] (fun iv wr => ∃ (j dn dc un uc : Nat) (D U : Option Addr) (dels : List Int) (ps : List Pr), j ≤ m ∧ iv = .int .i64 j ∧ dn ≤ j ∧ un ≤ j ∧ Hid (∀ p ∈ ps, p.ok) ∧ Hold M (some T) w wr [.own 3 1 (.slice D dn dc) dn (iCells dels), .own 99 3 (.slice U un uc) un (prCells ps), .ro (PrVals ps), .blk g5 54 #[.slice none 0 0, .slice D dn dc, .slice U un uc], .blk g4 54 #[.slice none 0 0, .slice none 0 0, .slice none 0 0], .cst gx 40 #[.string nm, .slice A n c, .int .i64 nx, .slice B m d], .ro Wds, .ro (ColsIn A n cs), .ro (RwsIn B m l), .tp T]) (fun iv _ => m - (intOf iv).toNat)
  case atStart => exact ⟨0, 0, 0, 0, 0, none, none, [], [], by omega, rfl, by omega, by omega, hid (fun p hp => nomatch hp), K0⟩
  case round =>
    clear K0
    obtain ⟨j, dn, dc, un, uc, D, U, dels, ps, hj, rfl, hdn, hun, HPS, H⟩ := hrel
    by_cases hlt : j < m
    · have hd : decide ((j : Int) < (m : Int)) = true := by simp; omega
      have j0 : (0 : Int) ≤ (j : Int) := by omega
      have j1 : (j : Int) < (m : Int) := by omega
      obtain ⟨x, hx⟩ := get_of HLM.out hlt
      obtain ⟨b, o, rfl, hb, c0, c1, hxv⟩ := (H.ro 8 rfl).now.at_ hx
      have HXO := hid (HROK.out x (List.mem_of_getElem? hx))
      have HXL := hid (HFIT.out x (List.mem_of_getElem? hx))
      have hxr : Ro wr _ (VlsIn x.A x.n x.vs) := (H.ro 8 rfl).imp fun w2 h2 => h2.2 x (List.mem_of_getElem? hx)
      obtain ⟨xid, xA, xn, xc, xvs⟩ := x
      dsimp only at *
      obtain rfl : n = xn := by have h1 := hxv.len; have h2 := HXL.out; omega
      obtain ⟨v0, hv0⟩ := get_of HXL.out (show 0 < n by omega)
      obtain ⟨bx, ox, rfl, rx⟩ := hxr.vlsAt hv0
      have HV0 := hid (HXO.out.vs v0 (List.mem_of_getElem? hv0))
      simp only [Nat.zero_mul, Nat.add_zero] at rx
      clear hx hxv hv0
      have K1 := ((H.add hxr).add (rx.less (mut_none rfl))).alloc_cst #[.int .i64 xid, .slice (some ⟨bx, ox, none⟩) n xc] 61
      clear H hxr rx
      obtain ⟨gr, hgr⟩ : ∃ gr, gr = wr.heap.size := ⟨_, rfl⟩
      rw [← hgr] at K1
      go_wp2_with fail
      rw [← hgr]
      clear hgr c0 c1
      refine (next_any T 4 _ (K1.tp_ 12 rfl) (by omega) (by omega)).mono ?_
      rintro e w2 ⟨z, rfl, z0, z1, t2, g2⟩
      have K2 := Hold.callT K1 12 rfl g2 t2
      clear K1 g2 t2
      have F2 := K2.facts
      simp only [World.size_alloc, World.size_drew, factsL, cellsF, Nat.reduceAdd, List.toList_toArray, List.set_cons_zero, List.set_cons_succ, List.setIfInBounds_toArray, and_true, true_and] at F2
      obtain rfl | rfl | hz : z = 0 ∨ z = 1 ∨ 2 ≤ z := by omega
      · have HCE := hid (show iCells dels ++ (#[Value.int .i64 xid]).toList = iCells (dels ++ [xid]) by simp [iCells])
        go_wp2_with (at_builtin; go_must (refine wpList_appH K2 3 rfl Tryd.elIntK #[.int .i64 xid] rfl (.tmp 23) (.tmp 26) rfl rfl _ rfl rfl rfl (by intro u hu; simp at hu; rcases hu with rfl; rfl) (by omega) (by omega) ?_); intro g9 cap9 w9 hc9 hm9 KB; rw [HCE.out] at KB; simp only [List.set_cons_zero, List.set_cons_succ] at KB; (have FB := KB.facts); simp only [World.size_alloc, World.size_drew, factsL, cellsF, Nat.reduceAdd, List.toList_toArray, List.set_cons_zero, List.set_cons_succ, List.setIfInBounds_toArray, and_true, true_and] at FB)
        have KC := (KB.store 6 rfl 1 (.slice (some ⟨g9, 0, none⟩) (dn + 1) cap9)).drop (List.Sublist.cons _ (List.Sublist.cons _ (List.Sublist.cons _ (List.Sublist.refl _))))
        go_roundw
        case rel => exact ⟨j + 1, dn + 1, cap9, un, uc, _, U, dels ++ [xid], ps, by omega, by first | rfl | go_num, by omega, by omega, HPS, KC⟩
        case measure => simp [intOf]; omega
      · skip
        go_wp2_with fail
        refine (trow_any (Mut M _) T _ K2.mutLt (K2.tp_ 12 rfl) (K2.get 12 rfl).2 nm A n c cs ((K2.ro 10 rfl).less (mut_tp (i := 12) rfl)) ((K2.ro 9 rfl).less (mut_tp (i := 12) rfl)) hT hn HOKC.out).mono ?_
        rintro e w4 ⟨Ar, nr, cr, vs, rfl, hnr, hvr, hfr, ho, t4, g4'⟩
        have K3 := Hold.addOwn K2 (Hold.callT K2 12 rfl g4' t4) (RM.grown g4' (.inr ⟨_, List.mem_of_getElem? (i := 12) rfl, rfl⟩)) ho
        obtain rfl : n = nr := by have h1 := fitsAll_len hfr; have h2 := HL.out; omega
        have hcr := own_caps (K3.get 0 rfl)
        replace hcr := And.intro hcr.1 hcr.2.1
        have HVS := hid (show vs.length = n ∧ ∀ v ∈ vs, v.ok from ⟨hnr.symm, hvr⟩)
        obtain ⟨ga, rfl⟩ : ∃ ga, Ar = some ⟨ga, 0, none⟩ := by
          rcases own_addr (K3.get 0 rfl) with ⟨_, h, _⟩ | ⟨g, h, _⟩
          · omega
          · exact ⟨g, h⟩
        clear K2 ho t4 g4' hnr hvr hfr F2
        have F3 := K3.facts
        simp only [World.size_alloc, World.size_drew, factsL, cellsF, Nat.reduceAdd, List.toList_toArray, List.set_cons_zero, List.set_cons_succ, List.setIfInBounds_toArray, and_true, true_and] at F3
        go_wp2_with fail
        refine (bool_any T 2 _ (K3.tp_ 13 rfl) (by omega) (by omega)).mono ?_
        rintro e wb ⟨bb, rfl, tb, gb⟩
        have K4 := Hold.callT K3 13 rfl gb tb
        clear K3 gb tb
        have F4 := K4.facts
        simp only [World.size_alloc, World.size_drew, factsL, cellsF, Nat.reduceAdd, List.toList_toArray, List.set_cons_zero, List.set_cons_succ, List.setIfInBounds_toArray, and_true, true_and] at F4
        cases bb
        · skip
          have KE8 := K4
          clear K4
          go_wp2_with fail
          refine (bool_any T 8 _ (KE8.tp_ 13 rfl) (by omega) (by omega)).mono ?_
          rintro e wb ⟨bb, rfl, tb, gb⟩
          have KF8 := Hold.callT KE8 13 rfl gb tb
          clear KE8 gb tb
          have FF8 := KF8.facts
          simp only [World.size_alloc, World.size_drew, factsL, cellsF, Nat.reduceAdd, List.toList_toArray, List.set_cons_zero, List.set_cons_succ, List.setIfInBounds_toArray, and_true, true_and] at FF8
          cases bb
          · skip
            have KV := KF8
            clear KF8
            go_wp2_with fail
            refine (bool_any T 12 _ (KV.tp_ 13 rfl) (by omega) (by omega)).mono ?_
            rintro e wb ⟨bb, rfl, tb, gb⟩
            have KP := Hold.callT KV 13 rfl gb tb
            clear KV gb tb
            have FP := KP.facts
            simp only [World.size_alloc, World.size_drew, factsL, cellsF, Nat.reduceAdd, List.toList_toArray, List.set_cons_zero, List.set_cons_succ, List.setIfInBounds_toArray, and_true, true_and] at FP
            cases bb
            · skip
              have KC := KP
              clear KP
              have KS := KC.sealRow 0 rfl
              simp only [List.set_cons_zero] at KS
              obtain ⟨KL, hKL, KN⟩ := KS.name
              have HF : Hid (∀ wv, Hold M (some T) w wv KL → (wv.cell? ⟨g5, 0, none⟩ = some (.slice none 0 0) ∧ wv.cell? ⟨g5, 1, none⟩ = some (.slice D dn dc) ∧ wv.cell? ⟨g5, 2, none⟩ = some (.slice U un uc) ∧ g5 < wv.heap.size) ∧ wv.cell? ⟨gr, 0, none⟩ = some (.int .i64 xid) ∧ wv.cell? ⟨gr, 1, none⟩ = some (.slice (some ⟨bx, ox, none⟩) n xc) ∧ gr < wv.heap.size) := hid fun wv HC => by
                rw [hKL] at HC
                have y1 := HC.blk_ 7 rfl
                have y2 := HC.cst_ 1 rfl
                exact ⟨⟨cell_of_row _ _ 0 _ _ _ y1, cell_of_row _ _ 1 _ _ _ y1, cell_of_row _ _ 2 _ _ _ y1, Blk.lt y1⟩, cell_of_row _ _ 0 _ _ _ y2, cell_of_row _ _ 1 _ _ _ y2, Blk.lt y2⟩
              have HRX : Hid (∀ wv, Hold M (some T) w wv KL → Ro wv (Mut M KL) (VlsIn (some ⟨bx, ox, none⟩) n xvs) ∧ Ro wv (Mut M KL) (VlsIn (some ⟨ga, 0, none⟩) n vs)) := hid fun wv HC => by
                rw [hKL] at HC ⊢
                exact ⟨HC.ro 3 rfl, HC.ro 0 rfl⟩
              have HKL := hid hKL
              clear hKL KS KC
              go_wp2_with fail
              refine wp_region_any (by kernel_rfl) ?_
              refine wpAny_hold 10 98 (KL) (spL [(64, VlsSlot (Mut M KL) xvs), (66, PrSlot (Mut M KL) (xid, xvs, vs)), (67, PrsSlot (Mut M KL) [(xid, xvs, vs)])]) (by kernel_rfl) (by kernel_rfl) (by kernel_rfl) rfl ?_ (KN.drew) ?_
              · exact stays_cons vlsSlot_mono (stays_cons prSlot_mono (stays_cons prsSlot_mono (stays_nil _)))
              simp only [List.take_succ_cons, List.take_zero, List.drop_succ_cons, List.drop_zero, Act.put, List.getElem_toArray, List.getElem_cons_zero, List.getElem_cons_succ, List.setIfInBounds_toArray, List.set_cons_succ, List.set_cons_zero]
              refine dw_val rfl rfl rfl ?_; apply Exists.intro; refine ⟨fun wv HC => ?_, ?_⟩
              ·  go_simp <;> rfl
              simp only [Act.put, List.setIfInBounds_toArray, List.set_cons_succ, List.set_cons_zero]
              refine dw_val rfl rfl rfl ?_; apply Exists.intro; refine ⟨fun wv HC => ?_, ?_⟩
              · obtain ⟨⟨f0, f1, f2, f3⟩, f4, f5, f6⟩ := HF.out _ HC; go_simp <;> rfl
              simp only [Act.put, List.setIfInBounds_toArray, List.set_cons_succ, List.set_cons_zero]
              refine dw_val rfl rfl rfl ?_; apply Exists.intro; refine ⟨fun wv HC => ?_, ?_⟩
              ·  go_simp <;> rfl
              simp only [Act.put, List.setIfInBounds_toArray, List.set_cons_succ, List.set_cons_zero]
              refine dw_val rfl rfl rfl ?_; apply Exists.intro; refine ⟨fun wv HC => ?_, ?_⟩
              · obtain ⟨⟨f0, f1, f2, f3⟩, f4, f5, f6⟩ := HF.out _ HC; go_simp <;> rfl
              simp only [Act.put, List.setIfInBounds_toArray, List.set_cons_succ, List.set_cons_zero]
              refine dw_val rfl rfl rfl ?_; apply Exists.intro; refine ⟨fun wv HC => ?_, ?_⟩
              ·  go_simp <;> rfl
              simp only [Act.put, List.setIfInBounds_toArray, List.set_cons_succ, List.set_cons_zero]
              refine dw_val rfl rfl rfl ?_; apply Exists.intro; refine ⟨fun wv HC => ?_, ?_⟩
              · obtain ⟨⟨f0, f1, f2, f3⟩, f4, f5, f6⟩ := HF.out _ HC; go_simp <;> rfl
              simp only [Act.put, List.setIfInBounds_toArray, List.set_cons_succ, List.set_cons_zero]
              refine dw_clone Tryd.elVl 64 (VlsSlot (Mut M KL) xvs) rfl rfl rfl rfl (.const (.slice none 0 0)) (.tmp 63) rfl rfl (A := some ⟨bx, ox, none⟩) (m := n) (c := xc) (ys := vlCells xvs) rfl (one_vls _) (by omega) (by omega) (fun wv HC hD => ((HRX.out _ HC).1).now) (fun C9 c9 wv HC q1 q2 hro => ⟨C9, n, c9, rfl, HXL.out.symm, q1, q2, hro⟩) ?_
              rintro u wx HCx ⟨A64, n64, c64, rfl, -, -, -, -⟩
              clear HCx
              simp only [Act.put, List.setIfInBounds_toArray, List.set_cons_succ, List.set_cons_zero]
              refine dw_val rfl rfl rfl ?_; apply Exists.intro; refine ⟨fun wv HC => ?_, ?_⟩
              ·  go_simp <;> rfl
              simp only [Act.put, List.setIfInBounds_toArray, List.set_cons_succ, List.set_cons_zero]
              refine dw_valC 66 (PrSlot (Mut M KL) (xid, xvs, vs)) rfl rfl rfl rfl (.agg #[.int .i64 xid, .slice A64 n64 c64, .slice (some ⟨ga, 0, none⟩) n cr]) (fun wv HC => ?_) (fun wv HC hD => ?_) ?_
              · go_simp <;> rfl
              · have ha : VlsSlot (Mut M KL) xvs (.slice A64 n64 c64) wv := deps_at hD 6 rfl (by kernel_rfl) rfl rfl
                exact prSlot_of HXO.out.id HXO.out.vs HVS.out.2 ha ⟨_, n, cr, rfl, HVS.out.1.symm, hcr.1, hcr.2, (HRX.out _ HC).2⟩
              simp only [Act.put, List.setIfInBounds_toArray, List.set_cons_succ, List.set_cons_zero]
              refine dw_new #[.int .i64 xid, .slice A64 n64 c64, .slice (some ⟨ga, 0, none⟩) n cr] 99 67 (PrsSlot (Mut M KL) [(xid, xvs, vs)]) (fun g => .slice (some ⟨g, 0, none⟩) 1 1) rfl rfl rfl rfl (fun wv => ?_) (fun wv HC _hrm hD hro => ?_) ?_
              · go_simp <;> rfl
              · have hrr := RM.alloc (Mut M KL) wv (.cells #[.int .i64 xid, .slice A64 n64 c64, .slice (some ⟨ga, 0, none⟩) n cr] 99)
                have h0 : PrSlot (Mut M KL) (xid, xvs, vs) (.agg #[.int .i64 xid, .slice A64 n64 c64, .slice (some ⟨ga, 0, none⟩) n cr]) wv := deps_at hD 8 rfl (by kernel_rfl) rfl rfl
                replace h0 := prSlot_mono _ _ _ hrr h0
                exact prsSlot_one (hro _ HC.mutLt) (fun i j k e1 => Value.agg.inj e1) h0
              rintro g67 wg HCg hsl
              simp only [Act.put, List.setIfInBounds_toArray, List.set_cons_succ, List.set_cons_zero]
              clear hsl HCg
              refine rel_nil ?_
              rintro wx5 HX5
              rintro _hrm HGW
              have hb2 : PrsSlot (Mut M KL) [(xid, xvs, vs)] (.slice (some ⟨g67, 0, none⟩) 1 1) wx5 := (GW_on (d := 67) rfl).1 (HGW 9 _ rfl (by omega))
              clear HGW _hrm
              obtain ⟨Aq, nq, cq, pq, heq, -, -, hpm, hpok, hpr⟩ := hb2
              obtain ⟨rfl, rfl, rfl⟩ : some ⟨g67, 0, none⟩ = Aq ∧ 1 = nq ∧ 1 = cq := by injection heq with h1 h2 h3; exact ⟨h1, h2, h3⟩
              clear heq
              rw [HKL.out] at HX5 hpr
              have HPO := hid (prs_ok_app HPS.out hpok)
              have HPE := hid (show prCells ps ++ prCells pq = prCells (ps ++ pq) by simp [prCells])
              have KA := HX5.add (hpr.imp fun w h => (h.2 : PrVals pq w))
              have k5 := hid ((hpr.imp fun w h => h.1).now)
              clear HX5 hpr hpm hpok HF HRX KN
              have FA := KA.facts
              simp only [World.size_alloc, World.size_drew, factsL, cellsF, Nat.reduceAdd, List.toList_toArray, List.set_cons_zero, List.set_cons_succ, List.setIfInBounds_toArray, and_true, true_and] at FA
              go_wp2_with (at_builtin; go_must (refine wpList_appAllH KA 6 rfl Tryd.elPr k5.out rfl (.tmp 59) (.tmp 67) rfl rfl rfl (prCells_one pq) (by omega) (by omega) ?_); intro C' cap' w6 hc6 hm6 KB; rw [HPE.out] at KB; simp only [List.set_cons_zero, List.set_cons_succ] at KB; (have FB := KB.facts); simp only [World.size_alloc, World.size_drew, factsL, cellsF, Nat.reduceAdd, List.toList_toArray, List.set_cons_zero, List.set_cons_succ, List.setIfInBounds_toArray, and_true, true_and] at FB)
              have KD := KB.store 8 rfl 2 (.slice C' (un + 1) cap')
              have KE := (KD.swapRo 7 rfl (prVals_app (KD.ro 7 rfl) (KD.ro 0 rfl))).drop (List.Sublist.cons _ (List.Sublist.cons _ (List.Sublist.cons _ (List.Sublist.cons _ (List.Sublist.cons _ (List.Sublist.refl _))))))
              go_wp2_with fail
              go_roundw
              case rel => exact ⟨j + 1, dn, dc, un + 1, cap', D, C', dels, ps ++ pq, by omega, by first | rfl | go_num, by omega, by omega, HPO, KE⟩
              case measure => simp [intOf]; omega
            · skip
              go_wp2_with fail
              refine (next_any T (n : Int) _ (KP.tp_ 13 rfl) (by omega) (by omega)).mono ?_
              rintro e wc ⟨q, rfl, q0, q1, tc, gc⟩
              obtain ⟨q, rfl⟩ := Int.eq_ofNat_of_zero_le q0
              have KQ := Hold.callT KP 13 rfl gc tc
              clear KP gc tc FP
              have FQ := KQ.facts
              simp only [World.size_alloc, World.size_drew, factsL, cellsF, Nat.reduceAdd, List.toList_toArray, List.set_cons_zero, List.set_cons_succ, List.setIfInBounds_toArray, and_true, true_and] at FQ
              go_wp2_with fail
              refine (value_any T _ (KQ.tp_ 13 rfl) (KQ.ro 10 rfl).now hT).mono ?_
              rintro e wd ⟨kv, iv, sv, rfl, hv, hsv, hiv, td, _, gd⟩
              have KR := Hold.callT KQ 13 rfl gd td
              clear KQ gd td FQ
              have HQL := hid (show q < vs.length by have := HVS.out.1; omega)
              obtain ⟨uq, huq⟩ : ∃ uq, vs[q]? = some uq := ⟨_, List.getElem?_eq_getElem HQL.out⟩
              obtain ⟨⟨z0, z1, z2⟩, ⟨z3, z4, z5⟩, z6⟩ := own_vl (KR.get 0 rfl) huq
              clear huq
              have KC := KR.putVl 0 rfl q HQL.out ⟨kv, iv, sv⟩
              simp only [List.set_cons_zero] at KC
              have HVS := hid (show (vs.set q ⟨kv, iv, sv⟩).length = n ∧ ∀ v ∈ vs.set q ⟨kv, iv, sv⟩, v.ok from ⟨by rw [List.length_set]; exact HVS.out.1, oks_set HVS.out.2 ⟨validB_k hv, hiv, by show sv.size ≤ maxLen; unfold maxLen; omega⟩⟩)
              clear hv KR
              generalize vs.set q ⟨kv, iv, sv⟩ = vs at HVS KC
              have FC := KC.facts
              simp only [World.size_alloc, World.size_drew, factsL, cellsF, Nat.reduceAdd, List.toList_toArray, List.set_cons_zero, List.set_cons_succ, List.setIfInBounds_toArray, and_true, true_and] at FC
              have KS := KC.sealRow 0 rfl
              simp only [List.set_cons_zero] at KS
              obtain ⟨KL, hKL, KN⟩ := KS.name
              have HF : Hid (∀ wv, Hold M (some T) w wv KL → (wv.cell? ⟨g5, 0, none⟩ = some (.slice none 0 0) ∧ wv.cell? ⟨g5, 1, none⟩ = some (.slice D dn dc) ∧ wv.cell? ⟨g5, 2, none⟩ = some (.slice U un uc) ∧ g5 < wv.heap.size) ∧ wv.cell? ⟨gr, 0, none⟩ = some (.int .i64 xid) ∧ wv.cell? ⟨gr, 1, none⟩ = some (.slice (some ⟨bx, ox, none⟩) n xc) ∧ gr < wv.heap.size) := hid fun wv HC => by
                rw [hKL] at HC
                have y1 := HC.blk_ 7 rfl
                have y2 := HC.cst_ 1 rfl
                exact ⟨⟨cell_of_row _ _ 0 _ _ _ y1, cell_of_row _ _ 1 _ _ _ y1, cell_of_row _ _ 2 _ _ _ y1, Blk.lt y1⟩, cell_of_row _ _ 0 _ _ _ y2, cell_of_row _ _ 1 _ _ _ y2, Blk.lt y2⟩
              have HRX : Hid (∀ wv, Hold M (some T) w wv KL → Ro wv (Mut M KL) (VlsIn (some ⟨bx, ox, none⟩) n xvs) ∧ Ro wv (Mut M KL) (VlsIn (some ⟨ga, 0, none⟩) n vs)) := hid fun wv HC => by
                rw [hKL] at HC ⊢
                exact ⟨HC.ro 3 rfl, HC.ro 0 rfl⟩
              have HKL := hid hKL
              clear hKL KS KC
              go_wp2_with fail
              refine wp_region_any (by kernel_rfl) ?_
              refine wpAny_hold 10 98 (KL) (spL [(64, VlsSlot (Mut M KL) xvs), (66, PrSlot (Mut M KL) (xid, xvs, vs)), (67, PrsSlot (Mut M KL) [(xid, xvs, vs)])]) (by kernel_rfl) (by kernel_rfl) (by kernel_rfl) rfl ?_ (KN.drew) ?_
              · exact stays_cons vlsSlot_mono (stays_cons prSlot_mono (stays_cons prsSlot_mono (stays_nil _)))
              simp only [List.take_succ_cons, List.take_zero, List.drop_succ_cons, List.drop_zero, Act.put, List.getElem_toArray, List.getElem_cons_zero, List.getElem_cons_succ, List.setIfInBounds_toArray, List.set_cons_succ, List.set_cons_zero]
              refine dw_val rfl rfl rfl ?_; apply Exists.intro; refine ⟨fun wv HC => ?_, ?_⟩
              ·  go_simp <;> rfl
              simp only [Act.put, List.setIfInBounds_toArray, List.set_cons_succ, List.set_cons_zero]
              refine dw_val rfl rfl rfl ?_; apply Exists.intro; refine ⟨fun wv HC => ?_, ?_⟩
              · obtain ⟨⟨f0, f1, f2, f3⟩, f4, f5, f6⟩ := HF.out _ HC; go_simp <;> rfl
              simp only [Act.put, List.setIfInBounds_toArray, List.set_cons_succ, List.set_cons_zero]
              refine dw_val rfl rfl rfl ?_; apply Exists.intro; refine ⟨fun wv HC => ?_, ?_⟩
              ·  go_simp <;> rfl
              simp only [Act.put, List.setIfInBounds_toArray, List.set_cons_succ, List.set_cons_zero]
              refine dw_val rfl rfl rfl ?_; apply Exists.intro; refine ⟨fun wv HC => ?_, ?_⟩
              · obtain ⟨⟨f0, f1, f2, f3⟩, f4, f5, f6⟩ := HF.out _ HC; go_simp <;> rfl
              simp only [Act.put, List.setIfInBounds_toArray, List.set_cons_succ, List.set_cons_zero]
              refine dw_val rfl rfl rfl ?_; apply Exists.intro; refine ⟨fun wv HC => ?_, ?_⟩
              ·  go_simp <;> rfl
              simp only [Act.put, List.setIfInBounds_toArray, List.set_cons_succ, List.set_cons_zero]
              refine dw_val rfl rfl rfl ?_; apply Exists.intro; refine ⟨fun wv HC => ?_, ?_⟩
              · obtain ⟨⟨f0, f1, f2, f3⟩, f4, f5, f6⟩ := HF.out _ HC; go_simp <;> rfl
              simp only [Act.put, List.setIfInBounds_toArray, List.set_cons_succ, List.set_cons_zero]
              refine dw_clone Tryd.elVl 64 (VlsSlot (Mut M KL) xvs) rfl rfl rfl rfl (.const (.slice none 0 0)) (.tmp 63) rfl rfl (A := some ⟨bx, ox, none⟩) (m := n) (c := xc) (ys := vlCells xvs) rfl (one_vls _) (by omega) (by omega) (fun wv HC hD => ((HRX.out _ HC).1).now) (fun C9 c9 wv HC q1 q2 hro => ⟨C9, n, c9, rfl, HXL.out.symm, q1, q2, hro⟩) ?_
              rintro u wx HCx ⟨A64, n64, c64, rfl, -, -, -, -⟩
              clear HCx
              simp only [Act.put, List.setIfInBounds_toArray, List.set_cons_succ, List.set_cons_zero]
              refine dw_val rfl rfl rfl ?_; apply Exists.intro; refine ⟨fun wv HC => ?_, ?_⟩
              ·  go_simp <;> rfl
              simp only [Act.put, List.setIfInBounds_toArray, List.set_cons_succ, List.set_cons_zero]
              refine dw_valC 66 (PrSlot (Mut M KL) (xid, xvs, vs)) rfl rfl rfl rfl (.agg #[.int .i64 xid, .slice A64 n64 c64, .slice (some ⟨ga, 0, none⟩) n cr]) (fun wv HC => ?_) (fun wv HC hD => ?_) ?_
              · go_simp <;> rfl
              · have ha : VlsSlot (Mut M KL) xvs (.slice A64 n64 c64) wv := deps_at hD 6 rfl (by kernel_rfl) rfl rfl
                exact prSlot_of HXO.out.id HXO.out.vs HVS.out.2 ha ⟨_, n, cr, rfl, HVS.out.1.symm, hcr.1, hcr.2, (HRX.out _ HC).2⟩
              simp only [Act.put, List.setIfInBounds_toArray, List.set_cons_succ, List.set_cons_zero]
              refine dw_new #[.int .i64 xid, .slice A64 n64 c64, .slice (some ⟨ga, 0, none⟩) n cr] 99 67 (PrsSlot (Mut M KL) [(xid, xvs, vs)]) (fun g => .slice (some ⟨g, 0, none⟩) 1 1) rfl rfl rfl rfl (fun wv => ?_) (fun wv HC _hrm hD hro => ?_) ?_
              · go_simp <;> rfl
              · have hrr := RM.alloc (Mut M KL) wv (.cells #[.int .i64 xid, .slice A64 n64 c64, .slice (some ⟨ga, 0, none⟩) n cr] 99)
                have h0 : PrSlot (Mut M KL) (xid, xvs, vs) (.agg #[.int .i64 xid, .slice A64 n64 c64, .slice (some ⟨ga, 0, none⟩) n cr]) wv := deps_at hD 8 rfl (by kernel_rfl) rfl rfl
                replace h0 := prSlot_mono _ _ _ hrr h0
                exact prsSlot_one (hro _ HC.mutLt) (fun i j k e1 => Value.agg.inj e1) h0
              rintro g67 wg HCg hsl
              simp only [Act.put, List.setIfInBounds_toArray, List.set_cons_succ, List.set_cons_zero]
              clear hsl HCg
              refine rel_nil ?_
              rintro wx5 HX5
              rintro _hrm HGW
              have hb2 : PrsSlot (Mut M KL) [(xid, xvs, vs)] (.slice (some ⟨g67, 0, none⟩) 1 1) wx5 := (GW_on (d := 67) rfl).1 (HGW 9 _ rfl (by omega))
              clear HGW _hrm
              obtain ⟨Aq, nq, cq, pq, heq, -, -, hpm, hpok, hpr⟩ := hb2
              obtain ⟨rfl, rfl, rfl⟩ : some ⟨g67, 0, none⟩ = Aq ∧ 1 = nq ∧ 1 = cq := by injection heq with h1 h2 h3; exact ⟨h1, h2, h3⟩
              clear heq
              rw [HKL.out] at HX5 hpr
              have HPO := hid (prs_ok_app HPS.out hpok)
              have HPE := hid (show prCells ps ++ prCells pq = prCells (ps ++ pq) by simp [prCells])
              have KA := HX5.add (hpr.imp fun w h => (h.2 : PrVals pq w))
              have k5 := hid ((hpr.imp fun w h => h.1).now)
              clear HX5 hpr hpm hpok HF HRX KN
              have FA := KA.facts
              simp only [World.size_alloc, World.size_drew, factsL, cellsF, Nat.reduceAdd, List.toList_toArray, List.set_cons_zero, List.set_cons_succ, List.setIfInBounds_toArray, and_true, true_and] at FA
              go_wp2_with (at_builtin; go_must (refine wpList_appAllH KA 6 rfl Tryd.elPr k5.out rfl (.tmp 59) (.tmp 67) rfl rfl rfl (prCells_one pq) (by omega) (by omega) ?_); intro C' cap' w6 hc6 hm6 KB; rw [HPE.out] at KB; simp only [List.set_cons_zero, List.set_cons_succ] at KB; (have FB := KB.facts); simp only [World.size_alloc, World.size_drew, factsL, cellsF, Nat.reduceAdd, List.toList_toArray, List.set_cons_zero, List.set_cons_succ, List.setIfInBounds_toArray, and_true, true_and] at FB)
              have KD := KB.store 8 rfl 2 (.slice C' (un + 1) cap')
              have KE := (KD.swapRo 7 rfl (prVals_app (KD.ro 7 rfl) (KD.ro 0 rfl))).drop (List.Sublist.cons _ (List.Sublist.cons _ (List.Sublist.cons _ (List.Sublist.cons _ (List.Sublist.cons _ (List.Sublist.refl _))))))
              go_wp2_with fail
              go_roundw
              case rel => exact ⟨j + 1, dn, dc, un + 1, cap', D, C', dels, ps ++ pq, by omega, by first | rfl | go_num, by omega, by omega, HPO, KE⟩
              case measure => simp [intOf]; omega
          · skip
            have KN := KF8.nil 66 3
            have k5 := hid ((KF8.ro 3 rfl).now)
            go_wp2_with (at_builtin; go_must (refine wpList_appAllH KN 0 rfl Tryd.elVl k5.out rfl (.const (.slice none 0 0)) (.tmp 46) rfl rfl rfl (one_vls _) (by omega) (by omega) ?_); intro C9 cap9 w9 hc9 hm9 KB; (try simp only [Nat.zero_add] at hc9 ⊢); simp only [Nat.zero_add, List.nil_append, List.set_cons_zero, List.set_cons_succ] at KB; (have FB := KB.facts); simp only [World.size_alloc, World.size_drew, factsL, cellsF, Nat.reduceAdd, List.toList_toArray, List.set_cons_zero, List.set_cons_succ, List.setIfInBounds_toArray, and_true, true_and] at FB)
            have KV := KB.drop (List.Sublist.cons_cons _ (List.sublist_cons_self _ _))
            obtain ⟨ga, rfl⟩ : ∃ ga, C9 = some ⟨ga, 0, none⟩ := by
              rcases own_addr (KV.get 0 rfl) with ⟨_, h, _⟩ | ⟨g, h, _⟩
              · omega
              · exact ⟨g, h⟩
            obtain ⟨vs, hvs⟩ : ∃ vs, vs = xvs := ⟨_, rfl⟩
            have HVS := hid (show vs.length = n ∧ ∀ v ∈ vs, v.ok by rw [hvs]; exact ⟨HXL.out, HXO.out.vs⟩)
            replace KV := Hold.renVl hvs KV
            clear hvs KB FB KN KF8 FF8 k5
            obtain ⟨cr, rfl⟩ : ∃ cr, cr = cap9 := ⟨_, rfl⟩
            have hcr := And.intro hc9 hm9
            have FV := KV.facts
            simp only [World.size_alloc, World.size_drew, factsL, cellsF, Nat.reduceAdd, List.toList_toArray, List.set_cons_zero, List.set_cons_succ, List.setIfInBounds_toArray, and_true, true_and] at FV
            go_wp2_with fail
            refine (bool_any T 12 _ (KV.tp_ 13 rfl) (by omega) (by omega)).mono ?_
            rintro e wb ⟨bb, rfl, tb, gb⟩
            have KP := Hold.callT KV 13 rfl gb tb
            clear KV gb tb
            have FP := KP.facts
            simp only [World.size_alloc, World.size_drew, factsL, cellsF, Nat.reduceAdd, List.toList_toArray, List.set_cons_zero, List.set_cons_succ, List.setIfInBounds_toArray, and_true, true_and] at FP
            cases bb
            · skip
              have KC := KP
              clear KP
              have KS := KC.sealRow 0 rfl
              simp only [List.set_cons_zero] at KS
              obtain ⟨KL, hKL, KN⟩ := KS.name
              have HF : Hid (∀ wv, Hold M (some T) w wv KL → (wv.cell? ⟨g5, 0, none⟩ = some (.slice none 0 0) ∧ wv.cell? ⟨g5, 1, none⟩ = some (.slice D dn dc) ∧ wv.cell? ⟨g5, 2, none⟩ = some (.slice U un uc) ∧ g5 < wv.heap.size) ∧ wv.cell? ⟨gr, 0, none⟩ = some (.int .i64 xid) ∧ wv.cell? ⟨gr, 1, none⟩ = some (.slice (some ⟨bx, ox, none⟩) n xc) ∧ gr < wv.heap.size) := hid fun wv HC => by
                rw [hKL] at HC
                have y1 := HC.blk_ 7 rfl
                have y2 := HC.cst_ 1 rfl
                exact ⟨⟨cell_of_row _ _ 0 _ _ _ y1, cell_of_row _ _ 1 _ _ _ y1, cell_of_row _ _ 2 _ _ _ y1, Blk.lt y1⟩, cell_of_row _ _ 0 _ _ _ y2, cell_of_row _ _ 1 _ _ _ y2, Blk.lt y2⟩
              have HRX : Hid (∀ wv, Hold M (some T) w wv KL → Ro wv (Mut M KL) (VlsIn (some ⟨bx, ox, none⟩) n xvs) ∧ Ro wv (Mut M KL) (VlsIn (some ⟨ga, 0, none⟩) n vs)) := hid fun wv HC => by
                rw [hKL] at HC ⊢
                exact ⟨HC.ro 3 rfl, HC.ro 0 rfl⟩
              have HKL := hid hKL
              clear hKL KS KC
              go_wp2_with fail
              refine wp_region_any (by kernel_rfl) ?_
              refine wpAny_hold 10 98 (KL) (spL [(64, VlsSlot (Mut M KL) xvs), (66, PrSlot (Mut M KL) (xid, xvs, vs)), (67, PrsSlot (Mut M KL) [(xid, xvs, vs)])]) (by kernel_rfl) (by kernel_rfl) (by kernel_rfl) rfl ?_ (KN.drew) ?_
              · exact stays_cons vlsSlot_mono (stays_cons prSlot_mono (stays_cons prsSlot_mono (stays_nil _)))
              simp only [List.take_succ_cons, List.take_zero, List.drop_succ_cons, List.drop_zero, Act.put, List.getElem_toArray, List.getElem_cons_zero, List.getElem_cons_succ, List.setIfInBounds_toArray, List.set_cons_succ, List.set_cons_zero]
              refine dw_val rfl rfl rfl ?_; apply Exists.intro; refine ⟨fun wv HC => ?_, ?_⟩
              ·  go_simp <;> rfl
              simp only [Act.put, List.setIfInBounds_toArray, List.set_cons_succ, List.set_cons_zero]
              refine dw_val rfl rfl rfl ?_; apply Exists.intro; refine ⟨fun wv HC => ?_, ?_⟩
              · obtain ⟨⟨f0, f1, f2, f3⟩, f4, f5, f6⟩ := HF.out _ HC; go_simp <;> rfl
              simp only [Act.put, List.setIfInBounds_toArray, List.set_cons_succ, List.set_cons_zero]
              refine dw_val rfl rfl rfl ?_; apply Exists.intro; refine ⟨fun wv HC => ?_, ?_⟩
              ·  go_simp <;> rfl
              simp only [Act.put, List.setIfInBounds_toArray, List.set_cons_succ, List.set_cons_zero]
              refine dw_val rfl rfl rfl ?_; apply Exists.intro; refine ⟨fun wv HC => ?_, ?_⟩
              · obtain ⟨⟨f0, f1, f2, f3⟩, f4, f5, f6⟩ := HF.out _ HC; go_simp <;> rfl
              simp only [Act.put, List.setIfInBounds_toArray, List.set_cons_succ, List.set_cons_zero]
              refine dw_val rfl rfl rfl ?_; apply Exists.intro; refine ⟨fun wv HC => ?_, ?_⟩
              ·  go_simp <;> rfl
              simp only [Act.put, List.setIfInBounds_toArray, List.set_cons_succ, List.set_cons_zero]
              refine dw_val rfl rfl rfl ?_; apply Exists.intro; refine ⟨fun wv HC => ?_, ?_⟩
              · obtain ⟨⟨f0, f1, f2, f3⟩, f4, f5, f6⟩ := HF.out _ HC; go_simp <;> rfl
              simp only [Act.put, List.setIfInBounds_toArray, List.set_cons_succ, List.set_cons_zero]
              refine dw_clone Tryd.elVl 64 (VlsSlot (Mut M KL) xvs) rfl rfl rfl rfl (.const (.slice none 0 0)) (.tmp 63) rfl rfl (A := some ⟨bx, ox, none⟩) (m := n) (c := xc) (ys := vlCells xvs) rfl (one_vls _) (by omega) (by omega) (fun wv HC hD => ((HRX.out _ HC).1).now) (fun C9 c9 wv HC q1 q2 hro => ⟨C9, n, c9, rfl, HXL.out.symm, q1, q2, hro⟩) ?_
              rintro u wx HCx ⟨A64, n64, c64, rfl, -, -, -, -⟩
              clear HCx
              simp only [Act.put, List.setIfInBounds_toArray, List.set_cons_succ, List.set_cons_zero]
              refine dw_val rfl rfl rfl ?_; apply Exists.intro; refine ⟨fun wv HC => ?_, ?_⟩
              ·  go_simp <;> rfl
              simp only [Act.put, List.setIfInBounds_toArray, List.set_cons_succ, List.set_cons_zero]
              refine dw_valC 66 (PrSlot (Mut M KL) (xid, xvs, vs)) rfl rfl rfl rfl (.agg #[.int .i64 xid, .slice A64 n64 c64, .slice (some ⟨ga, 0, none⟩) n cr]) (fun wv HC => ?_) (fun wv HC hD => ?_) ?_
              · go_simp <;> rfl
              · have ha : VlsSlot (Mut M KL) xvs (.slice A64 n64 c64) wv := deps_at hD 6 rfl (by kernel_rfl) rfl rfl
                exact prSlot_of HXO.out.id HXO.out.vs HVS.out.2 ha ⟨_, n, cr, rfl, HVS.out.1.symm, hcr.1, hcr.2, (HRX.out _ HC).2⟩
              simp only [Act.put, List.setIfInBounds_toArray, List.set_cons_succ, List.set_cons_zero]
              refine dw_new #[.int .i64 xid, .slice A64 n64 c64, .slice (some ⟨ga, 0, none⟩) n cr] 99 67 (PrsSlot (Mut M KL) [(xid, xvs, vs)]) (fun g => .slice (some ⟨g, 0, none⟩) 1 1) rfl rfl rfl rfl (fun wv => ?_) (fun wv HC _hrm hD hro => ?_) ?_
              · go_simp <;> rfl
              · have hrr := RM.alloc (Mut M KL) wv (.cells #[.int .i64 xid, .slice A64 n64 c64, .slice (some ⟨ga, 0, none⟩) n cr] 99)
                have h0 : PrSlot (Mut M KL) (xid, xvs, vs) (.agg #[.int .i64 xid, .slice A64 n64 c64, .slice (some ⟨ga, 0, none⟩) n cr]) wv := deps_at hD 8 rfl (by kernel_rfl) rfl rfl
                replace h0 := prSlot_mono _ _ _ hrr h0
                exact prsSlot_one (hro _ HC.mutLt) (fun i j k e1 => Value.agg.inj e1) h0
              rintro g67 wg HCg hsl
              simp only [Act.put, List.setIfInBounds_toArray, List.set_cons_succ, List.set_cons_zero]
              clear hsl HCg
              refine rel_nil ?_
              rintro wx5 HX5
              rintro _hrm HGW
              have hb2 : PrsSlot (Mut M KL) [(xid, xvs, vs)] (.slice (some ⟨g67, 0, none⟩) 1 1) wx5 := (GW_on (d := 67) rfl).1 (HGW 9 _ rfl (by omega))
              clear HGW _hrm
              obtain ⟨Aq, nq, cq, pq, heq, -, -, hpm, hpok, hpr⟩ := hb2
              obtain ⟨rfl, rfl, rfl⟩ : some ⟨g67, 0, none⟩ = Aq ∧ 1 = nq ∧ 1 = cq := by injection heq with h1 h2 h3; exact ⟨h1, h2, h3⟩
              clear heq
              rw [HKL.out] at HX5 hpr
              have HPO := hid (prs_ok_app HPS.out hpok)
              have HPE := hid (show prCells ps ++ prCells pq = prCells (ps ++ pq) by simp [prCells])
              have KA := HX5.add (hpr.imp fun w h => (h.2 : PrVals pq w))
              have k5 := hid ((hpr.imp fun w h => h.1).now)
              clear HX5 hpr hpm hpok HF HRX KN
              have FA := KA.facts
              simp only [World.size_alloc, World.size_drew, factsL, cellsF, Nat.reduceAdd, List.toList_toArray, List.set_cons_zero, List.set_cons_succ, List.setIfInBounds_toArray, and_true, true_and] at FA
              go_wp2_with (at_builtin; go_must (refine wpList_appAllH KA 6 rfl Tryd.elPr k5.out rfl (.tmp 59) (.tmp 67) rfl rfl rfl (prCells_one pq) (by omega) (by omega) ?_); intro C' cap' w6 hc6 hm6 KB; rw [HPE.out] at KB; simp only [List.set_cons_zero, List.set_cons_succ] at KB; (have FB := KB.facts); simp only [World.size_alloc, World.size_drew, factsL, cellsF, Nat.reduceAdd, List.toList_toArray, List.set_cons_zero, List.set_cons_succ, List.setIfInBounds_toArray, and_true, true_and] at FB)
              have KD := KB.store 8 rfl 2 (.slice C' (un + 1) cap')
              have KE := (KD.swapRo 7 rfl (prVals_app (KD.ro 7 rfl) (KD.ro 0 rfl))).drop (List.Sublist.cons _ (List.Sublist.cons _ (List.Sublist.cons _ (List.Sublist.cons _ (List.Sublist.cons _ (List.Sublist.refl _))))))
              go_wp2_with fail
              go_roundw
              case rel => exact ⟨j + 1, dn, dc, un + 1, cap', D, C', dels, ps ++ pq, by omega, by first | rfl | go_num, by omega, by omega, HPO, KE⟩
              case measure => simp [intOf]; omega
            · skip
              go_wp2_with fail
              refine (next_any T (n : Int) _ (KP.tp_ 13 rfl) (by omega) (by omega)).mono ?_
              rintro e wc ⟨q, rfl, q0, q1, tc, gc⟩
              obtain ⟨q, rfl⟩ := Int.eq_ofNat_of_zero_le q0
              have KQ := Hold.callT KP 13 rfl gc tc
              clear KP gc tc FP
              have FQ := KQ.facts
              simp only [World.size_alloc, World.size_drew, factsL, cellsF, Nat.reduceAdd, List.toList_toArray, List.set_cons_zero, List.set_cons_succ, List.setIfInBounds_toArray, and_true, true_and] at FQ
              go_wp2_with fail
              refine (value_any T _ (KQ.tp_ 13 rfl) (KQ.ro 10 rfl).now hT).mono ?_
              rintro e wd ⟨kv, iv, sv, rfl, hv, hsv, hiv, td, _, gd⟩
              have KR := Hold.callT KQ 13 rfl gd td
              clear KQ gd td FQ
              have HQL := hid (show q < vs.length by have := HVS.out.1; omega)
              obtain ⟨uq, huq⟩ : ∃ uq, vs[q]? = some uq := ⟨_, List.getElem?_eq_getElem HQL.out⟩
              obtain ⟨⟨z0, z1, z2⟩, ⟨z3, z4, z5⟩, z6⟩ := own_vl (KR.get 0 rfl) huq
              clear huq
              have KC := KR.putVl 0 rfl q HQL.out ⟨kv, iv, sv⟩
              simp only [List.set_cons_zero] at KC
              have HVS := hid (show (vs.set q ⟨kv, iv, sv⟩).length = n ∧ ∀ v ∈ vs.set q ⟨kv, iv, sv⟩, v.ok from ⟨by rw [List.length_set]; exact HVS.out.1, oks_set HVS.out.2 ⟨validB_k hv, hiv, by show sv.size ≤ maxLen; unfold maxLen; omega⟩⟩)
              clear hv KR
              generalize vs.set q ⟨kv, iv, sv⟩ = vs at HVS KC
              have FC := KC.facts
              simp only [World.size_alloc, World.size_drew, factsL, cellsF, Nat.reduceAdd, List.toList_toArray, List.set_cons_zero, List.set_cons_succ, List.setIfInBounds_toArray, and_true, true_and] at FC
              have KS := KC.sealRow 0 rfl
              simp only [List.set_cons_zero] at KS
              obtain ⟨KL, hKL, KN⟩ := KS.name
              have HF : Hid (∀ wv, Hold M (some T) w wv KL → (wv.cell? ⟨g5, 0, none⟩ = some (.slice none 0 0) ∧ wv.cell? ⟨g5, 1, none⟩ = some (.slice D dn dc) ∧ wv.cell? ⟨g5, 2, none⟩ = some (.slice U un uc) ∧ g5 < wv.heap.size) ∧ wv.cell? ⟨gr, 0, none⟩ = some (.int .i64 xid) ∧ wv.cell? ⟨gr, 1, none⟩ = some (.slice (some ⟨bx, ox, none⟩) n xc) ∧ gr < wv.heap.size) := hid fun wv HC => by
                rw [hKL] at HC
                have y1 := HC.blk_ 7 rfl
                have y2 := HC.cst_ 1 rfl
                exact ⟨⟨cell_of_row _ _ 0 _ _ _ y1, cell_of_row _ _ 1 _ _ _ y1, cell_of_row _ _ 2 _ _ _ y1, Blk.lt y1⟩, cell_of_row _ _ 0 _ _ _ y2, cell_of_row _ _ 1 _ _ _ y2, Blk.lt y2⟩
              have HRX : Hid (∀ wv, Hold M (some T) w wv KL → Ro wv (Mut M KL) (VlsIn (some ⟨bx, ox, none⟩) n xvs) ∧ Ro wv (Mut M KL) (VlsIn (some ⟨ga, 0, none⟩) n vs)) := hid fun wv HC => by
                rw [hKL] at HC ⊢
                exact ⟨HC.ro 3 rfl, HC.ro 0 rfl⟩
              have HKL := hid hKL
              clear hKL KS KC
              go_wp2_with fail
              refine wp_region_any (by kernel_rfl) ?_
              refine wpAny_hold 10 98 (KL) (spL [(64, VlsSlot (Mut M KL) xvs), (66, PrSlot (Mut M KL) (xid, xvs, vs)), (67, PrsSlot (Mut M KL) [(xid, xvs, vs)])]) (by kernel_rfl) (by kernel_rfl) (by kernel_rfl) rfl ?_ (KN.drew) ?_
              · exact stays_cons vlsSlot_mono (stays_cons prSlot_mono (stays_cons prsSlot_mono (stays_nil _)))
              simp only [List.take_succ_cons, List.take_zero, List.drop_succ_cons, List.drop_zero, Act.put, List.getElem_toArray, List.getElem_cons_zero, List.getElem_cons_succ, List.setIfInBounds_toArray, List.set_cons_succ, List.set_cons_zero]
              refine dw_val rfl rfl rfl ?_; apply Exists.intro; refine ⟨fun wv HC => ?_, ?_⟩
              ·  go_simp <;> rfl
              simp only [Act.put, List.setIfInBounds_toArray, List.set_cons_succ, List.set_cons_zero]
              refine dw_val rfl rfl rfl ?_; apply Exists.intro; refine ⟨fun wv HC => ?_, ?_⟩
              · obtain ⟨⟨f0, f1, f2, f3⟩, f4, f5, f6⟩ := HF.out _ HC; go_simp <;> rfl
              simp only [Act.put, List.setIfInBounds_toArray, List.set_cons_succ, List.set_cons_zero]
              refine dw_val rfl rfl rfl ?_; apply Exists.intro; refine ⟨fun wv HC => ?_, ?_⟩
              ·  go_simp <;> rfl
              simp only [Act.put, List.setIfInBounds_toArray, List.set_cons_succ, List.set_cons_zero]
              refine dw_val rfl rfl rfl ?_; apply Exists.intro; refine ⟨fun wv HC => ?_, ?_⟩
              · obtain ⟨⟨f0, f1, f2, f3⟩, f4, f5, f6⟩ := HF.out _ HC; go_simp <;> rfl
              simp only [Act.put, List.setIfInBounds_toArray, List.set_cons_succ, List.set_cons_zero]
              refine dw_val rfl rfl rfl ?_; apply Exists.intro; refine ⟨fun wv HC => ?_, ?_⟩
              ·  go_simp <;> rfl
              simp only [Act.put, List.setIfInBounds_toArray, List.set_cons_succ, List.set_cons_zero]
              refine dw_val rfl rfl rfl ?_; apply Exists.intro; refine ⟨fun wv HC => ?_, ?_⟩
              · obtain ⟨⟨f0, f1, f2, f3⟩, f4, f5, f6⟩ := HF.out _ HC; go_simp <;> rfl
              simp only [Act.put, List.setIfInBounds_toArray, List.set_cons_succ, List.set_cons_zero]
              refine dw_clone Tryd.elVl 64 (VlsSlot (Mut M KL) xvs) rfl rfl rfl rfl (.const (.slice none 0 0)) (.tmp 63) rfl rfl (A := some ⟨bx, ox, none⟩) (m := n) (c := xc) (ys := vlCells xvs) rfl (one_vls _) (by omega) (by omega) (fun wv HC hD => ((HRX.out _ HC).1).now) (fun C9 c9 wv HC q1 q2 hro => ⟨C9, n, c9, rfl, HXL.out.symm, q1, q2, hro⟩) ?_
              rintro u wx HCx ⟨A64, n64, c64, rfl, -, -, -, -⟩
              clear HCx
              simp only [Act.put, List.setIfInBounds_toArray, List.set_cons_succ, List.set_cons_zero]
              refine dw_val rfl rfl rfl ?_; apply Exists.intro; refine ⟨fun wv HC => ?_, ?_⟩
              ·  go_simp <;> rfl
              simp only [Act.put, List.setIfInBounds_toArray, List.set_cons_succ, List.set_cons_zero]
              refine dw_valC 66 (PrSlot (Mut M KL) (xid, xvs, vs)) rfl rfl rfl rfl (.agg #[.int .i64 xid, .slice A64 n64 c64, .slice (some ⟨ga, 0, none⟩) n cr]) (fun wv HC => ?_) (fun wv HC hD => ?_) ?_
              · go_simp <;> rfl
              · have ha : VlsSlot (Mut M KL) xvs (.slice A64 n64 c64) wv := deps_at hD 6 rfl (by kernel_rfl) rfl rfl
                exact prSlot_of HXO.out.id HXO.out.vs HVS.out.2 ha ⟨_, n, cr, rfl, HVS.out.1.symm, hcr.1, hcr.2, (HRX.out _ HC).2⟩
              simp only [Act.put, List.setIfInBounds_toArray, List.set_cons_succ, List.set_cons_zero]
              refine dw_new #[.int .i64 xid, .slice A64 n64 c64, .slice (some ⟨ga, 0, none⟩) n cr] 99 67 (PrsSlot (Mut M KL) [(xid, xvs, vs)]) (fun g => .slice (some ⟨g, 0, none⟩) 1 1) rfl rfl rfl rfl (fun wv => ?_) (fun wv HC _hrm hD hro => ?_) ?_
              · go_simp <;> rfl
              · have hrr := RM.alloc (Mut M KL) wv (.cells #[.int .i64 xid, .slice A64 n64 c64, .slice (some ⟨ga, 0, none⟩) n cr] 99)
                have h0 : PrSlot (Mut M KL) (xid, xvs, vs) (.agg #[.int .i64 xid, .slice A64 n64 c64, .slice (some ⟨ga, 0, none⟩) n cr]) wv := deps_at hD 8 rfl (by kernel_rfl) rfl rfl
                replace h0 := prSlot_mono _ _ _ hrr h0
                exact prsSlot_one (hro _ HC.mutLt) (fun i j k e1 => Value.agg.inj e1) h0
              rintro g67 wg HCg hsl
              simp only [Act.put, List.setIfInBounds_toArray, List.set_cons_succ, List.set_cons_zero]
              clear hsl HCg
              refine rel_nil ?_
              rintro wx5 HX5
              rintro _hrm HGW
              have hb2 : PrsSlot (Mut M KL) [(xid, xvs, vs)] (.slice (some ⟨g67, 0, none⟩) 1 1) wx5 := (GW_on (d := 67) rfl).1 (HGW 9 _ rfl (by omega))
              clear HGW _hrm
              obtain ⟨Aq, nq, cq, pq, heq, -, -, hpm, hpok, hpr⟩ := hb2
              obtain ⟨rfl, rfl, rfl⟩ : some ⟨g67, 0, none⟩ = Aq ∧ 1 = nq ∧ 1 = cq := by injection heq with h1 h2 h3; exact ⟨h1, h2, h3⟩
              clear heq
              rw [HKL.out] at HX5 hpr
              have HPO := hid (prs_ok_app HPS.out hpok)
              have HPE := hid (show prCells ps ++ prCells pq = prCells (ps ++ pq) by simp [prCells])
              have KA := HX5.add (hpr.imp fun w h => (h.2 : PrVals pq w))
              have k5 := hid ((hpr.imp fun w h => h.1).now)
              clear HX5 hpr hpm hpok HF HRX KN
              have FA := KA.facts
              simp only [World.size_alloc, World.size_drew, factsL, cellsF, Nat.reduceAdd, List.toList_toArray, List.set_cons_zero, List.set_cons_succ, List.setIfInBounds_toArray, and_true, true_and] at FA
              go_wp2_with (at_builtin; go_must (refine wpList_appAllH KA 6 rfl Tryd.elPr k5.out rfl (.tmp 59) (.tmp 67) rfl rfl rfl (prCells_one pq) (by omega) (by omega) ?_); intro C' cap' w6 hc6 hm6 KB; rw [HPE.out] at KB; simp only [List.set_cons_zero, List.set_cons_succ] at KB; (have FB := KB.facts); simp only [World.size_alloc, World.size_drew, factsL, cellsF, Nat.reduceAdd, List.toList_toArray, List.set_cons_zero, List.set_cons_succ, List.setIfInBounds_toArray, and_true, true_and] at FB)
              have KD := KB.store 8 rfl 2 (.slice C' (un + 1) cap')
              have KE := (KD.swapRo 7 rfl (prVals_app (KD.ro 7 rfl) (KD.ro 0 rfl))).drop (List.Sublist.cons _ (List.Sublist.cons _ (List.Sublist.cons _ (List.Sublist.cons _ (List.Sublist.cons _ (List.Sublist.refl _))))))
              go_wp2_with fail
              go_roundw
              case rel => exact ⟨j + 1, dn, dc, un + 1, cap', D, C', dels, ps ++ pq, by omega, by first | rfl | go_num, by omega, by omega, HPO, KE⟩
              case measure => simp [intOf]; omega
        · skip
          obtain ⟨uq, huq⟩ : ∃ uq, vs[0]? = some uq := ⟨_, List.getElem?_eq_getElem (by have := HVS.out.1; omega)⟩
          obtain ⟨⟨y0, y1, y2⟩, ⟨y3, y4, y5⟩, y6⟩ := own_vl (K4.get 0 rfl) huq
          have ⟨x0, x1, x2, x3⟩ := (K4.ro 2 rfl).now
          clear huq
          have KE8 := K4.putVl 0 rfl 0 (by have := HVS.out.1; omega) v0
          simp only [Nat.zero_mul, Nat.zero_add, List.set_cons_zero] at KE8 y0 y1 y2 y3 y4 y5
          have HVS := hid (show (vs.set 0 v0).length = n ∧ ∀ v ∈ vs.set 0 v0, v.ok from ⟨by rw [List.length_set]; exact HVS.out.1, oks_set HVS.out.2 HV0.out⟩)
          generalize vs.set 0 v0 = vs at HVS KE8
          clear K4
          have FE8 := KE8.facts
          simp only [World.size_alloc, World.size_drew, factsL, cellsF, Nat.reduceAdd, List.toList_toArray, List.set_cons_zero, List.set_cons_succ, List.setIfInBounds_toArray, and_true, true_and] at FE8
          go_wp2_with fail
          refine (bool_any T 8 _ (KE8.tp_ 13 rfl) (by omega) (by omega)).mono ?_
          rintro e wb ⟨bb, rfl, tb, gb⟩
          have KF8 := Hold.callT KE8 13 rfl gb tb
          clear KE8 gb tb
          have FF8 := KF8.facts
          simp only [World.size_alloc, World.size_drew, factsL, cellsF, Nat.reduceAdd, List.toList_toArray, List.set_cons_zero, List.set_cons_succ, List.setIfInBounds_toArray, and_true, true_and] at FF8
          cases bb
          · skip
            have KV := KF8
            clear KF8
            go_wp2_with fail
            refine (bool_any T 12 _ (KV.tp_ 13 rfl) (by omega) (by omega)).mono ?_
            rintro e wb ⟨bb, rfl, tb, gb⟩
            have KP := Hold.callT KV 13 rfl gb tb
            clear KV gb tb
            have FP := KP.facts
            simp only [World.size_alloc, World.size_drew, factsL, cellsF, Nat.reduceAdd, List.toList_toArray, List.set_cons_zero, List.set_cons_succ, List.setIfInBounds_toArray, and_true, true_and] at FP
            cases bb
            · skip
              have KC := KP
              clear KP
              have KS := KC.sealRow 0 rfl
              simp only [List.set_cons_zero] at KS
              obtain ⟨KL, hKL, KN⟩ := KS.name
              have HF : Hid (∀ wv, Hold M (some T) w wv KL → (wv.cell? ⟨g5, 0, none⟩ = some (.slice none 0 0) ∧ wv.cell? ⟨g5, 1, none⟩ = some (.slice D dn dc) ∧ wv.cell? ⟨g5, 2, none⟩ = some (.slice U un uc) ∧ g5 < wv.heap.size) ∧ wv.cell? ⟨gr, 0, none⟩ = some (.int .i64 xid) ∧ wv.cell? ⟨gr, 1, none⟩ = some (.slice (some ⟨bx, ox, none⟩) n xc) ∧ gr < wv.heap.size) := hid fun wv HC => by
                rw [hKL] at HC
                have y1 := HC.blk_ 7 rfl
                have y2 := HC.cst_ 1 rfl
                exact ⟨⟨cell_of_row _ _ 0 _ _ _ y1, cell_of_row _ _ 1 _ _ _ y1, cell_of_row _ _ 2 _ _ _ y1, Blk.lt y1⟩, cell_of_row _ _ 0 _ _ _ y2, cell_of_row _ _ 1 _ _ _ y2, Blk.lt y2⟩
              have HRX : Hid (∀ wv, Hold M (some T) w wv KL → Ro wv (Mut M KL) (VlsIn (some ⟨bx, ox, none⟩) n xvs) ∧ Ro wv (Mut M KL) (VlsIn (some ⟨ga, 0, none⟩) n vs)) := hid fun wv HC => by
                rw [hKL] at HC ⊢
                exact ⟨HC.ro 3 rfl, HC.ro 0 rfl⟩
              have HKL := hid hKL
              clear hKL KS KC
              go_wp2_with fail
              refine wp_region_any (by kernel_rfl) ?_
              refine wpAny_hold 10 98 (KL) (spL [(64, VlsSlot (Mut M KL) xvs), (66, PrSlot (Mut M KL) (xid, xvs, vs)), (67, PrsSlot (Mut M KL) [(xid, xvs, vs)])]) (by kernel_rfl) (by kernel_rfl) (by kernel_rfl) rfl ?_ (KN.drew) ?_
              · exact stays_cons vlsSlot_mono (stays_cons prSlot_mono (stays_cons prsSlot_mono (stays_nil _)))
              simp only [List.take_succ_cons, List.take_zero, List.drop_succ_cons, List.drop_zero, Act.put, List.getElem_toArray, List.getElem_cons_zero, List.getElem_cons_succ, List.setIfInBounds_toArray, List.set_cons_succ, List.set_cons_zero]
              refine dw_val rfl rfl rfl ?_; apply Exists.intro; refine ⟨fun wv HC => ?_, ?_⟩
              ·  go_simp <;> rfl
              simp only [Act.put, List.setIfInBounds_toArray, List.set_cons_succ, List.set_cons_zero]
              refine dw_val rfl rfl rfl ?_; apply Exists.intro; refine ⟨fun wv HC => ?_, ?_⟩
              · obtain ⟨⟨f0, f1, f2, f3⟩, f4, f5, f6⟩ := HF.out _ HC; go_simp <;> rfl
              simp only [Act.put, List.setIfInBounds_toArray, List.set_cons_succ, List.set_cons_zero]
              refine dw_val rfl rfl rfl ?_; apply Exists.intro; refine ⟨fun wv HC => ?_, ?_⟩
              ·  go_simp <;> rfl
              simp only [Act.put, List.setIfInBounds_toArray, List.set_cons_succ, List.set_cons_zero]
              refine dw_val rfl rfl rfl ?_; apply Exists.intro; refine ⟨fun wv HC => ?_, ?_⟩
              · obtain ⟨⟨f0, f1, f2, f3⟩, f4, f5, f6⟩ := HF.out _ HC; go_simp <;> rfl
              simp only [Act.put, List.setIfInBounds_toArray, List.set_cons_succ, List.set_cons_zero]
              refine dw_val rfl rfl rfl ?_; apply Exists.intro; refine ⟨fun wv HC => ?_, ?_⟩
              ·  go_simp <;> rfl
              simp only [Act.put, List.setIfInBounds_toArray, List.set_cons_succ, List.set_cons_zero]
              refine dw_val rfl rfl rfl ?_; apply Exists.intro; refine ⟨fun wv HC => ?_, ?_⟩
              · obtain ⟨⟨f0, f1, f2, f3⟩, f4, f5, f6⟩ := HF.out _ HC; go_simp <;> rfl
              simp only [Act.put, List.setIfInBounds_toArray, List.set_cons_succ, List.set_cons_zero]
              refine dw_clone Tryd.elVl 64 (VlsSlot (Mut M KL) xvs) rfl rfl rfl rfl (.const (.slice none 0 0)) (.tmp 63) rfl rfl (A := some ⟨bx, ox, none⟩) (m := n) (c := xc) (ys := vlCells xvs) rfl (one_vls _) (by omega) (by omega) (fun wv HC hD => ((HRX.out _ HC).1).now) (fun C9 c9 wv HC q1 q2 hro => ⟨C9, n, c9, rfl, HXL.out.symm, q1, q2, hro⟩) ?_
              rintro u wx HCx ⟨A64, n64, c64, rfl, -, -, -, -⟩
              clear HCx
              simp only [Act.put, List.setIfInBounds_toArray, List.set_cons_succ, List.set_cons_zero]
              refine dw_val rfl rfl rfl ?_; apply Exists.intro; refine ⟨fun wv HC => ?_, ?_⟩
              ·  go_simp <;> rfl
              simp only [Act.put, List.setIfInBounds_toArray, List.set_cons_succ, List.set_cons_zero]
              refine dw_valC 66 (PrSlot (Mut M KL) (xid, xvs, vs)) rfl rfl rfl rfl (.agg #[.int .i64 xid, .slice A64 n64 c64, .slice (some ⟨ga, 0, none⟩) n cr]) (fun wv HC => ?_) (fun wv HC hD => ?_) ?_
              · go_simp <;> rfl
              · have ha : VlsSlot (Mut M KL) xvs (.slice A64 n64 c64) wv := deps_at hD 6 rfl (by kernel_rfl) rfl rfl
                exact prSlot_of HXO.out.id HXO.out.vs HVS.out.2 ha ⟨_, n, cr, rfl, HVS.out.1.symm, hcr.1, hcr.2, (HRX.out _ HC).2⟩
              simp only [Act.put, List.setIfInBounds_toArray, List.set_cons_succ, List.set_cons_zero]
              refine dw_new #[.int .i64 xid, .slice A64 n64 c64, .slice (some ⟨ga, 0, none⟩) n cr] 99 67 (PrsSlot (Mut M KL) [(xid, xvs, vs)]) (fun g => .slice (some ⟨g, 0, none⟩) 1 1) rfl rfl rfl rfl (fun wv => ?_) (fun wv HC _hrm hD hro => ?_) ?_
              · go_simp <;> rfl
              · have hrr := RM.alloc (Mut M KL) wv (.cells #[.int .i64 xid, .slice A64 n64 c64, .slice (some ⟨ga, 0, none⟩) n cr] 99)
                have h0 : PrSlot (Mut M KL) (xid, xvs, vs) (.agg #[.int .i64 xid, .slice A64 n64 c64, .slice (some ⟨ga, 0, none⟩) n cr]) wv := deps_at hD 8 rfl (by kernel_rfl) rfl rfl
                replace h0 := prSlot_mono _ _ _ hrr h0
                exact prsSlot_one (hro _ HC.mutLt) (fun i j k e1 => Value.agg.inj e1) h0
              rintro g67 wg HCg hsl
              simp only [Act.put, List.setIfInBounds_toArray, List.set_cons_succ, List.set_cons_zero]
              clear hsl HCg
              refine rel_nil ?_
              rintro wx5 HX5
              rintro _hrm HGW
              have hb2 : PrsSlot (Mut M KL) [(xid, xvs, vs)] (.slice (some ⟨g67, 0, none⟩) 1 1) wx5 := (GW_on (d := 67) rfl).1 (HGW 9 _ rfl (by omega))
              clear HGW _hrm
              obtain ⟨Aq, nq, cq, pq, heq, -, -, hpm, hpok, hpr⟩ := hb2
              obtain ⟨rfl, rfl, rfl⟩ : some ⟨g67, 0, none⟩ = Aq ∧ 1 = nq ∧ 1 = cq := by injection heq with h1 h2 h3; exact ⟨h1, h2, h3⟩
              clear heq
              rw [HKL.out] at HX5 hpr
              have HPO := hid (prs_ok_app HPS.out hpok)
              have HPE := hid (show prCells ps ++ prCells pq = prCells (ps ++ pq) by simp [prCells])
              have KA := HX5.add (hpr.imp fun w h => (h.2 : PrVals pq w))
              have k5 := hid ((hpr.imp fun w h => h.1).now)
              clear HX5 hpr hpm hpok HF HRX KN
              have FA := KA.facts
              simp only [World.size_alloc, World.size_drew, factsL, cellsF, Nat.reduceAdd, List.toList_toArray, List.set_cons_zero, List.set_cons_succ, List.setIfInBounds_toArray, and_true, true_and] at FA
              go_wp2_with (at_builtin; go_must (refine wpList_appAllH KA 6 rfl Tryd.elPr k5.out rfl (.tmp 59) (.tmp 67) rfl rfl rfl (prCells_one pq) (by omega) (by omega) ?_); intro C' cap' w6 hc6 hm6 KB; rw [HPE.out] at KB; simp only [List.set_cons_zero, List.set_cons_succ] at KB; (have FB := KB.facts); simp only [World.size_alloc, World.size_drew, factsL, cellsF, Nat.reduceAdd, List.toList_toArray, List.set_cons_zero, List.set_cons_succ, List.setIfInBounds_toArray, and_true, true_and] at FB)
              have KD := KB.store 8 rfl 2 (.slice C' (un + 1) cap')
              have KE := (KD.swapRo 7 rfl (prVals_app (KD.ro 7 rfl) (KD.ro 0 rfl))).drop (List.Sublist.cons _ (List.Sublist.cons _ (List.Sublist.cons _ (List.Sublist.cons _ (List.Sublist.cons _ (List.Sublist.refl _))))))
              go_wp2_with fail
              go_roundw
              case rel => exact ⟨j + 1, dn, dc, un + 1, cap', D, C', dels, ps ++ pq, by omega, by first | rfl | go_num, by omega, by omega, HPO, KE⟩
              case measure => simp [intOf]; omega
            · skip
              go_wp2_with fail
              refine (next_any T (n : Int) _ (KP.tp_ 13 rfl) (by omega) (by omega)).mono ?_
              rintro e wc ⟨q, rfl, q0, q1, tc, gc⟩
              obtain ⟨q, rfl⟩ := Int.eq_ofNat_of_zero_le q0
              have KQ := Hold.callT KP 13 rfl gc tc
              clear KP gc tc FP
              have FQ := KQ.facts
              simp only [World.size_alloc, World.size_drew, factsL, cellsF, Nat.reduceAdd, List.toList_toArray, List.set_cons_zero, List.set_cons_succ, List.setIfInBounds_toArray, and_true, true_and] at FQ
              go_wp2_with fail
              refine (value_any T _ (KQ.tp_ 13 rfl) (KQ.ro 10 rfl).now hT).mono ?_
              rintro e wd ⟨kv, iv, sv, rfl, hv, hsv, hiv, td, _, gd⟩
              have KR := Hold.callT KQ 13 rfl gd td
              clear KQ gd td FQ
              have HQL := hid (show q < vs.length by have := HVS.out.1; omega)
              obtain ⟨uq, huq⟩ : ∃ uq, vs[q]? = some uq := ⟨_, List.getElem?_eq_getElem HQL.out⟩
              obtain ⟨⟨z0, z1, z2⟩, ⟨z3, z4, z5⟩, z6⟩ := own_vl (KR.get 0 rfl) huq
              clear huq
              have KC := KR.putVl 0 rfl q HQL.out ⟨kv, iv, sv⟩
              simp only [List.set_cons_zero] at KC
              have HVS := hid (show (vs.set q ⟨kv, iv, sv⟩).length = n ∧ ∀ v ∈ vs.set q ⟨kv, iv, sv⟩, v.ok from ⟨by rw [List.length_set]; exact HVS.out.1, oks_set HVS.out.2 ⟨validB_k hv, hiv, by show sv.size ≤ maxLen; unfold maxLen; omega⟩⟩)
              clear hv KR
              generalize vs.set q ⟨kv, iv, sv⟩ = vs at HVS KC
              have FC := KC.facts
              simp only [World.size_alloc, World.size_drew, factsL, cellsF, Nat.reduceAdd, List.toList_toArray, List.set_cons_zero, List.set_cons_succ, List.setIfInBounds_toArray, and_true, true_and] at FC
              have KS := KC.sealRow 0 rfl
              simp only [List.set_cons_zero] at KS
              obtain ⟨KL, hKL, KN⟩ := KS.name
              have HF : Hid (∀ wv, Hold M (some T) w wv KL → (wv.cell? ⟨g5, 0, none⟩ = some (.slice none 0 0) ∧ wv.cell? ⟨g5, 1, none⟩ = some (.slice D dn dc) ∧ wv.cell? ⟨g5, 2, none⟩ = some (.slice U un uc) ∧ g5 < wv.heap.size) ∧ wv.cell? ⟨gr, 0, none⟩ = some (.int .i64 xid) ∧ wv.cell? ⟨gr, 1, none⟩ = some (.slice (some ⟨bx, ox, none⟩) n xc) ∧ gr < wv.heap.size) := hid fun wv HC => by
                rw [hKL] at HC
                have y1 := HC.blk_ 7 rfl
                have y2 := HC.cst_ 1 rfl
                exact ⟨⟨cell_of_row _ _ 0 _ _ _ y1, cell_of_row _ _ 1 _ _ _ y1, cell_of_row _ _ 2 _ _ _ y1, Blk.lt y1⟩, cell_of_row _ _ 0 _ _ _ y2, cell_of_row _ _ 1 _ _ _ y2, Blk.lt y2⟩
              have HRX : Hid (∀ wv, Hold M (some T) w wv KL → Ro wv (Mut M KL) (VlsIn (some ⟨bx, ox, none⟩) n xvs) ∧ Ro wv (Mut M KL) (VlsIn (some ⟨ga, 0, none⟩) n vs)) := hid fun wv HC => by
                rw [hKL] at HC ⊢
                exact ⟨HC.ro 3 rfl, HC.ro 0 rfl⟩
              have HKL := hid hKL
              clear hKL KS KC
              go_wp2_with fail
              refine wp_region_any (by kernel_rfl) ?_
              refine wpAny_hold 10 98 (KL) (spL [(64, VlsSlot (Mut M KL) xvs), (66, PrSlot (Mut M KL) (xid, xvs, vs)), (67, PrsSlot (Mut M KL) [(xid, xvs, vs)])]) (by kernel_rfl) (by kernel_rfl) (by kernel_rfl) rfl ?_ (KN.drew) ?_
              · exact stays_cons vlsSlot_mono (stays_cons prSlot_mono (stays_cons prsSlot_mono (stays_nil _)))
              simp only [List.take_succ_cons, List.take_zero, List.drop_succ_cons, List.drop_zero, Act.put, List.getElem_toArray, List.getElem_cons_zero, List.getElem_cons_succ, List.setIfInBounds_toArray, List.set_cons_succ, List.set_cons_zero]
              refine dw_val rfl rfl rfl ?_; apply Exists.intro; refine ⟨fun wv HC => ?_, ?_⟩
              ·  go_simp <;> rfl
              simp only [Act.put, List.setIfInBounds_toArray, List.set_cons_succ, List.set_cons_zero]
              refine dw_val rfl rfl rfl ?_; apply Exists.intro; refine ⟨fun wv HC => ?_, ?_⟩
              · obtain ⟨⟨f0, f1, f2, f3⟩, f4, f5, f6⟩ := HF.out _ HC; go_simp <;> rfl
              simp only [Act.put, List.setIfInBounds_toArray, List.set_cons_succ, List.set_cons_zero]
              refine dw_val rfl rfl rfl ?_; apply Exists.intro; refine ⟨fun wv HC => ?_, ?_⟩
              ·  go_simp <;> rfl
              simp only [Act.put, List.setIfInBounds_toArray, List.set_cons_succ, List.set_cons_zero]
              refine dw_val rfl rfl rfl ?_; apply Exists.intro; refine ⟨fun wv HC => ?_, ?_⟩
              · obtain ⟨⟨f0, f1, f2, f3⟩, f4, f5, f6⟩ := HF.out _ HC; go_simp <;> rfl
              simp only [Act.put, List.setIfInBounds_toArray, List.set_cons_succ, List.set_cons_zero]
              refine dw_val rfl rfl rfl ?_; apply Exists.intro; refine ⟨fun wv HC => ?_, ?_⟩
              ·  go_simp <;> rfl
              simp only [Act.put, List.setIfInBounds_toArray, List.set_cons_succ, List.set_cons_zero]
              refine dw_val rfl rfl rfl ?_; apply Exists.intro; refine ⟨fun wv HC => ?_, ?_⟩
              · obtain ⟨⟨f0, f1, f2, f3⟩, f4, f5, f6⟩ := HF.out _ HC; go_simp <;> rfl
              simp only [Act.put, List.setIfInBounds_toArray, List.set_cons_succ, List.set_cons_zero]
              refine dw_clone Tryd.elVl 64 (VlsSlot (Mut M KL) xvs) rfl rfl rfl rfl (.const (.slice none 0 0)) (.tmp 63) rfl rfl (A := some ⟨bx, ox, none⟩) (m := n) (c := xc) (ys := vlCells xvs) rfl (one_vls _) (by omega) (by omega) (fun wv HC hD => ((HRX.out _ HC).1).now) (fun C9 c9 wv HC q1 q2 hro => ⟨C9, n, c9, rfl, HXL.out.symm, q1, q2, hro⟩) ?_
              rintro u wx HCx ⟨A64, n64, c64, rfl, -, -, -, -⟩
              clear HCx
              simp only [Act.put, List.setIfInBounds_toArray, List.set_cons_succ, List.set_cons_zero]
              refine dw_val rfl rfl rfl ?_; apply Exists.intro; refine ⟨fun wv HC => ?_, ?_⟩
              ·  go_simp <;> rfl
              simp only [Act.put, List.setIfInBounds_toArray, List.set_cons_succ, List.set_cons_zero]
              refine dw_valC 66 (PrSlot (Mut M KL) (xid, xvs, vs)) rfl rfl rfl rfl (.agg #[.int .i64 xid, .slice A64 n64 c64, .slice (some ⟨ga, 0, none⟩) n cr]) (fun wv HC => ?_) (fun wv HC hD => ?_) ?_
              · go_simp <;> rfl
              · have ha : VlsSlot (Mut M KL) xvs (.slice A64 n64 c64) wv := deps_at hD 6 rfl (by kernel_rfl) rfl rfl
                exact prSlot_of HXO.out.id HXO.out.vs HVS.out.2 ha ⟨_, n, cr, rfl, HVS.out.1.symm, hcr.1, hcr.2, (HRX.out _ HC).2⟩
              simp only [Act.put, List.setIfInBounds_toArray, List.set_cons_succ, List.set_cons_zero]
              refine dw_new #[.int .i64 xid, .slice A64 n64 c64, .slice (some ⟨ga, 0, none⟩) n cr] 99 67 (PrsSlot (Mut M KL) [(xid, xvs, vs)]) (fun g => .slice (some ⟨g, 0, none⟩) 1 1) rfl rfl rfl rfl (fun wv => ?_) (fun wv HC _hrm hD hro => ?_) ?_
              · go_simp <;> rfl
              · have hrr := RM.alloc (Mut M KL) wv (.cells #[.int .i64 xid, .slice A64 n64 c64, .slice (some ⟨ga, 0, none⟩) n cr] 99)
                have h0 : PrSlot (Mut M KL) (xid, xvs, vs) (.agg #[.int .i64 xid, .slice A64 n64 c64, .slice (some ⟨ga, 0, none⟩) n cr]) wv := deps_at hD 8 rfl (by kernel_rfl) rfl rfl
                replace h0 := prSlot_mono _ _ _ hrr h0
                exact prsSlot_one (hro _ HC.mutLt) (fun i j k e1 => Value.agg.inj e1) h0
              rintro g67 wg HCg hsl
              simp only [Act.put, List.setIfInBounds_toArray, List.set_cons_succ, List.set_cons_zero]
              clear hsl HCg
              refine rel_nil ?_
              rintro wx5 HX5
              rintro _hrm HGW
              have hb2 : PrsSlot (Mut M KL) [(xid, xvs, vs)] (.slice (some ⟨g67, 0, none⟩) 1 1) wx5 := (GW_on (d := 67) rfl).1 (HGW 9 _ rfl (by omega))
              clear HGW _hrm
              obtain ⟨Aq, nq, cq, pq, heq, -, -, hpm, hpok, hpr⟩ := hb2
              obtain ⟨rfl, rfl, rfl⟩ : some ⟨g67, 0, none⟩ = Aq ∧ 1 = nq ∧ 1 = cq := by injection heq with h1 h2 h3; exact ⟨h1, h2, h3⟩
              clear heq
              rw [HKL.out] at HX5 hpr
              have HPO := hid (prs_ok_app HPS.out hpok)
              have HPE := hid (show prCells ps ++ prCells pq = prCells (ps ++ pq) by simp [prCells])
              have KA := HX5.add (hpr.imp fun w h => (h.2 : PrVals pq w))
              have k5 := hid ((hpr.imp fun w h => h.1).now)
              clear HX5 hpr hpm hpok HF HRX KN
              have FA := KA.facts
              simp only [World.size_alloc, World.size_drew, factsL, cellsF, Nat.reduceAdd, List.toList_toArray, List.set_cons_zero, List.set_cons_succ, List.setIfInBounds_toArray, and_true, true_and] at FA
              go_wp2_with (at_builtin; go_must (refine wpList_appAllH KA 6 rfl Tryd.elPr k5.out rfl (.tmp 59) (.tmp 67) rfl rfl rfl (prCells_one pq) (by omega) (by omega) ?_); intro C' cap' w6 hc6 hm6 KB; rw [HPE.out] at KB; simp only [List.set_cons_zero, List.set_cons_succ] at KB; (have FB := KB.facts); simp only [World.size_alloc, World.size_drew, factsL, cellsF, Nat.reduceAdd, List.toList_toArray, List.set_cons_zero, List.set_cons_succ, List.setIfInBounds_toArray, and_true, true_and] at FB)
              have KD := KB.store 8 rfl 2 (.slice C' (un + 1) cap')
              have KE := (KD.swapRo 7 rfl (prVals_app (KD.ro 7 rfl) (KD.ro 0 rfl))).drop (List.Sublist.cons _ (List.Sublist.cons _ (List.Sublist.cons _ (List.Sublist.cons _ (List.Sublist.cons _ (List.Sublist.refl _))))))
              go_wp2_with fail
              go_roundw
              case rel => exact ⟨j + 1, dn, dc, un + 1, cap', D, C', dels, ps ++ pq, by omega, by first | rfl | go_num, by omega, by omega, HPO, KE⟩
              case measure => simp [intOf]; omega
          · skip
            have KN := KF8.nil 66 3
            have k5 := hid ((KF8.ro 3 rfl).now)
            go_wp2_with (at_builtin; go_must (refine wpList_appAllH KN 0 rfl Tryd.elVl k5.out rfl (.const (.slice none 0 0)) (.tmp 46) rfl rfl rfl (one_vls _) (by omega) (by omega) ?_); intro C9 cap9 w9 hc9 hm9 KB; (try simp only [Nat.zero_add] at hc9 ⊢); simp only [Nat.zero_add, List.nil_append, List.set_cons_zero, List.set_cons_succ] at KB; (have FB := KB.facts); simp only [World.size_alloc, World.size_drew, factsL, cellsF, Nat.reduceAdd, List.toList_toArray, List.set_cons_zero, List.set_cons_succ, List.setIfInBounds_toArray, and_true, true_and] at FB)
            have KV := KB.drop (List.Sublist.cons_cons _ (List.sublist_cons_self _ _))
            obtain ⟨ga, rfl⟩ : ∃ ga, C9 = some ⟨ga, 0, none⟩ := by
              rcases own_addr (KV.get 0 rfl) with ⟨_, h, _⟩ | ⟨g, h, _⟩
              · omega
              · exact ⟨g, h⟩
            obtain ⟨vs, hvs⟩ : ∃ vs, vs = xvs := ⟨_, rfl⟩
            have HVS := hid (show vs.length = n ∧ ∀ v ∈ vs, v.ok by rw [hvs]; exact ⟨HXL.out, HXO.out.vs⟩)
            replace KV := Hold.renVl hvs KV
            clear hvs KB FB KN KF8 FF8 k5
            obtain ⟨cr, rfl⟩ : ∃ cr, cr = cap9 := ⟨_, rfl⟩
            have hcr := And.intro hc9 hm9
            have FV := KV.facts
            simp only [World.size_alloc, World.size_drew, factsL, cellsF, Nat.reduceAdd, List.toList_toArray, List.set_cons_zero, List.set_cons_succ, List.setIfInBounds_toArray, and_true, true_and] at FV
            go_wp2_with fail
            refine (bool_any T 12 _ (KV.tp_ 13 rfl) (by omega) (by omega)).mono ?_
            rintro e wb ⟨bb, rfl, tb, gb⟩
            have KP := Hold.callT KV 13 rfl gb tb
            clear KV gb tb
            have FP := KP.facts
            simp only [World.size_alloc, World.size_drew, factsL, cellsF, Nat.reduceAdd, List.toList_toArray, List.set_cons_zero, List.set_cons_succ, List.setIfInBounds_toArray, and_true, true_and] at FP
            cases bb
            · skip
              have KC := KP
              clear KP
              have KS := KC.sealRow 0 rfl
              simp only [List.set_cons_zero] at KS
              obtain ⟨KL, hKL, KN⟩ := KS.name
              have HF : Hid (∀ wv, Hold M (some T) w wv KL → (wv.cell? ⟨g5, 0, none⟩ = some (.slice none 0 0) ∧ wv.cell? ⟨g5, 1, none⟩ = some (.slice D dn dc) ∧ wv.cell? ⟨g5, 2, none⟩ = some (.slice U un uc) ∧ g5 < wv.heap.size) ∧ wv.cell? ⟨gr, 0, none⟩ = some (.int .i64 xid) ∧ wv.cell? ⟨gr, 1, none⟩ = some (.slice (some ⟨bx, ox, none⟩) n xc) ∧ gr < wv.heap.size) := hid fun wv HC => by
                rw [hKL] at HC
                have y1 := HC.blk_ 7 rfl
                have y2 := HC.cst_ 1 rfl
                exact ⟨⟨cell_of_row _ _ 0 _ _ _ y1, cell_of_row _ _ 1 _ _ _ y1, cell_of_row _ _ 2 _ _ _ y1, Blk.lt y1⟩, cell_of_row _ _ 0 _ _ _ y2, cell_of_row _ _ 1 _ _ _ y2, Blk.lt y2⟩
              have HRX : Hid (∀ wv, Hold M (some T) w wv KL → Ro wv (Mut M KL) (VlsIn (some ⟨bx, ox, none⟩) n xvs) ∧ Ro wv (Mut M KL) (VlsIn (some ⟨ga, 0, none⟩) n vs)) := hid fun wv HC => by
                rw [hKL] at HC ⊢
                exact ⟨HC.ro 3 rfl, HC.ro 0 rfl⟩
              have HKL := hid hKL
              clear hKL KS KC
              go_wp2_with fail
              refine wp_region_any (by kernel_rfl) ?_
              refine wpAny_hold 10 98 (KL) (spL [(64, VlsSlot (Mut M KL) xvs), (66, PrSlot (Mut M KL) (xid, xvs, vs)), (67, PrsSlot (Mut M KL) [(xid, xvs, vs)])]) (by kernel_rfl) (by kernel_rfl) (by kernel_rfl) rfl ?_ (KN.drew) ?_
              · exact stays_cons vlsSlot_mono (stays_cons prSlot_mono (stays_cons prsSlot_mono (stays_nil _)))
              simp only [List.take_succ_cons, List.take_zero, List.drop_succ_cons, List.drop_zero, Act.put, List.getElem_toArray, List.getElem_cons_zero, List.getElem_cons_succ, List.setIfInBounds_toArray, List.set_cons_succ, List.set_cons_zero]
              refine dw_val rfl rfl rfl ?_; apply Exists.intro; refine ⟨fun wv HC => ?_, ?_⟩
              ·  go_simp <;> rfl
              simp only [Act.put, List.setIfInBounds_toArray, List.set_cons_succ, List.set_cons_zero]
              refine dw_val rfl rfl rfl ?_; apply Exists.intro; refine ⟨fun wv HC => ?_, ?_⟩
              · obtain ⟨⟨f0, f1, f2, f3⟩, f4, f5, f6⟩ := HF.out _ HC; go_simp <;> rfl
              simp only [Act.put, List.setIfInBounds_toArray, List.set_cons_succ, List.set_cons_zero]
              refine dw_val rfl rfl rfl ?_; apply Exists.intro; refine ⟨fun wv HC => ?_, ?_⟩
              ·  go_simp <;> rfl
              simp only [Act.put, List.setIfInBounds_toArray, List.set_cons_succ, List.set_cons_zero]
              refine dw_val rfl rfl rfl ?_; apply Exists.intro; refine ⟨fun wv HC => ?_, ?_⟩
              · obtain ⟨⟨f0, f1, f2, f3⟩, f4, f5, f6⟩ := HF.out _ HC; go_simp <;> rfl
              simp only [Act.put, List.setIfInBounds_toArray, List.set_cons_succ, List.set_cons_zero]
              refine dw_val rfl rfl rfl ?_; apply Exists.intro; refine ⟨fun wv HC => ?_, ?_⟩
              ·  go_simp <;> rfl
              simp only [Act.put, List.setIfInBounds_toArray, List.set_cons_succ, List.set_cons_zero]
              refine dw_val rfl rfl rfl ?_; apply Exists.intro; refine ⟨fun wv HC => ?_, ?_⟩
              · obtain ⟨⟨f0, f1, f2, f3⟩, f4, f5, f6⟩ := HF.out _ HC; go_simp <;> rfl
              simp only [Act.put, List.setIfInBounds_toArray, List.set_cons_succ, List.set_cons_zero]
              refine dw_clone Tryd.elVl 64 (VlsSlot (Mut M KL) xvs) rfl rfl rfl rfl (.const (.slice none 0 0)) (.tmp 63) rfl rfl (A := some ⟨bx, ox, none⟩) (m := n) (c := xc) (ys := vlCells xvs) rfl (one_vls _) (by omega) (by omega) (fun wv HC hD => ((HRX.out _ HC).1).now) (fun C9 c9 wv HC q1 q2 hro => ⟨C9, n, c9, rfl, HXL.out.symm, q1, q2, hro⟩) ?_
              rintro u wx HCx ⟨A64, n64, c64, rfl, -, -, -, -⟩
              clear HCx
              simp only [Act.put, List.setIfInBounds_toArray, List.set_cons_succ, List.set_cons_zero]
              refine dw_val rfl rfl rfl ?_; apply Exists.intro; refine ⟨fun wv HC => ?_, ?_⟩
              ·  go_simp <;> rfl
              simp only [Act.put, List.setIfInBounds_toArray, List.set_cons_succ, List.set_cons_zero]
              refine dw_valC 66 (PrSlot (Mut M KL) (xid, xvs, vs)) rfl rfl rfl rfl (.agg #[.int .i64 xid, .slice A64 n64 c64, .slice (some ⟨ga, 0, none⟩) n cr]) (fun wv HC => ?_) (fun wv HC hD => ?_) ?_
              · go_simp <;> rfl
              · have ha : VlsSlot (Mut M KL) xvs (.slice A64 n64 c64) wv := deps_at hD 6 rfl (by kernel_rfl) rfl rfl
                exact prSlot_of HXO.out.id HXO.out.vs HVS.out.2 ha ⟨_, n, cr, rfl, HVS.out.1.symm, hcr.1, hcr.2, (HRX.out _ HC).2⟩
              simp only [Act.put, List.setIfInBounds_toArray, List.set_cons_succ, List.set_cons_zero]
              refine dw_new #[.int .i64 xid, .slice A64 n64 c64, .slice (some ⟨ga, 0, none⟩) n cr] 99 67 (PrsSlot (Mut M KL) [(xid, xvs, vs)]) (fun g => .slice (some ⟨g, 0, none⟩) 1 1) rfl rfl rfl rfl (fun wv => ?_) (fun wv HC _hrm hD hro => ?_) ?_
              · go_simp <;> rfl
              · have hrr := RM.alloc (Mut M KL) wv (.cells #[.int .i64 xid, .slice A64 n64 c64, .slice (some ⟨ga, 0, none⟩) n cr] 99)
                have h0 : PrSlot (Mut M KL) (xid, xvs, vs) (.agg #[.int .i64 xid, .slice A64 n64 c64, .slice (some ⟨ga, 0, none⟩) n cr]) wv := deps_at hD 8 rfl (by kernel_rfl) rfl rfl
                replace h0 := prSlot_mono _ _ _ hrr h0
                exact prsSlot_one (hro _ HC.mutLt) (fun i j k e1 => Value.agg.inj e1) h0
              rintro g67 wg HCg hsl
              simp only [Act.put, List.setIfInBounds_toArray, List.set_cons_succ, List.set_cons_zero]
              clear hsl HCg
              refine rel_nil ?_
              rintro wx5 HX5
              rintro _hrm HGW
              have hb2 : PrsSlot (Mut M KL) [(xid, xvs, vs)] (.slice (some ⟨g67, 0, none⟩) 1 1) wx5 := (GW_on (d := 67) rfl).1 (HGW 9 _ rfl (by omega))
              clear HGW _hrm
              obtain ⟨Aq, nq, cq, pq, heq, -, -, hpm, hpok, hpr⟩ := hb2
              obtain ⟨rfl, rfl, rfl⟩ : some ⟨g67, 0, none⟩ = Aq ∧ 1 = nq ∧ 1 = cq := by injection heq with h1 h2 h3; exact ⟨h1, h2, h3⟩
              clear heq
              rw [HKL.out] at HX5 hpr
              have HPO := hid (prs_ok_app HPS.out hpok)
              have HPE := hid (show prCells ps ++ prCells pq = prCells (ps ++ pq) by simp [prCells])
              have KA := HX5.add (hpr.imp fun w h => (h.2 : PrVals pq w))
              have k5 := hid ((hpr.imp fun w h => h.1).now)
              clear HX5 hpr hpm hpok HF HRX KN
              have FA := KA.facts
              simp only [World.size_alloc, World.size_drew, factsL, cellsF, Nat.reduceAdd, List.toList_toArray, List.set_cons_zero, List.set_cons_succ, List.setIfInBounds_toArray, and_true, true_and] at FA
              go_wp2_with (at_builtin; go_must (refine wpList_appAllH KA 6 rfl Tryd.elPr k5.out rfl (.tmp 59) (.tmp 67) rfl rfl rfl (prCells_one pq) (by omega) (by omega) ?_); intro C' cap' w6 hc6 hm6 KB; rw [HPE.out] at KB; simp only [List.set_cons_zero, List.set_cons_succ] at KB; (have FB := KB.facts); simp only [World.size_alloc, World.size_drew, factsL, cellsF, Nat.reduceAdd, List.toList_toArray, List.set_cons_zero, List.set_cons_succ, List.setIfInBounds_toArray, and_true, true_and] at FB)
              have KD := KB.store 8 rfl 2 (.slice C' (un + 1) cap')
              have KE := (KD.swapRo 7 rfl (prVals_app (KD.ro 7 rfl) (KD.ro 0 rfl))).drop (List.Sublist.cons _ (List.Sublist.cons _ (List.Sublist.cons _ (List.Sublist.cons _ (List.Sublist.cons _ (List.Sublist.refl _))))))
              go_wp2_with fail
              go_roundw
              case rel => exact ⟨j + 1, dn, dc, un + 1, cap', D, C', dels, ps ++ pq, by omega, by first | rfl | go_num, by omega, by omega, HPO, KE⟩
              case measure => simp [intOf]; omega
            · skip
              go_wp2_with fail
              refine (next_any T (n : Int) _ (KP.tp_ 13 rfl) (by omega) (by omega)).mono ?_
              rintro e wc ⟨q, rfl, q0, q1, tc, gc⟩
              obtain ⟨q, rfl⟩ := Int.eq_ofNat_of_zero_le q0
              have KQ := Hold.callT KP 13 rfl gc tc
              clear KP gc tc FP
              have FQ := KQ.facts
              simp only [World.size_alloc, World.size_drew, factsL, cellsF, Nat.reduceAdd, List.toList_toArray, List.set_cons_zero, List.set_cons_succ, List.setIfInBounds_toArray, and_true, true_and] at FQ
              go_wp2_with fail
              refine (value_any T _ (KQ.tp_ 13 rfl) (KQ.ro 10 rfl).now hT).mono ?_
              rintro e wd ⟨kv, iv, sv, rfl, hv, hsv, hiv, td, _, gd⟩
              have KR := Hold.callT KQ 13 rfl gd td
              clear KQ gd td FQ
              have HQL := hid (show q < vs.length by have := HVS.out.1; omega)
              obtain ⟨uq, huq⟩ : ∃ uq, vs[q]? = some uq := ⟨_, List.getElem?_eq_getElem HQL.out⟩
              obtain ⟨⟨z0, z1, z2⟩, ⟨z3, z4, z5⟩, z6⟩ := own_vl (KR.get 0 rfl) huq
              clear huq
              have KC := KR.putVl 0 rfl q HQL.out ⟨kv, iv, sv⟩
              simp only [List.set_cons_zero] at KC
              have HVS := hid (show (vs.set q ⟨kv, iv, sv⟩).length = n ∧ ∀ v ∈ vs.set q ⟨kv, iv, sv⟩, v.ok from ⟨by rw [List.length_set]; exact HVS.out.1, oks_set HVS.out.2 ⟨validB_k hv, hiv, by show sv.size ≤ maxLen; unfold maxLen; omega⟩⟩)
              clear hv KR
              generalize vs.set q ⟨kv, iv, sv⟩ = vs at HVS KC
              have FC := KC.facts
              simp only [World.size_alloc, World.size_drew, factsL, cellsF, Nat.reduceAdd, List.toList_toArray, List.set_cons_zero, List.set_cons_succ, List.setIfInBounds_toArray, and_true, true_and] at FC
              have KS := KC.sealRow 0 rfl
              simp only [List.set_cons_zero] at KS
              obtain ⟨KL, hKL, KN⟩ := KS.name
              have HF : Hid (∀ wv, Hold M (some T) w wv KL → (wv.cell? ⟨g5, 0, none⟩ = some (.slice none 0 0) ∧ wv.cell? ⟨g5, 1, none⟩ = some (.slice D dn dc) ∧ wv.cell? ⟨g5, 2, none⟩ = some (.slice U un uc) ∧ g5 < wv.heap.size) ∧ wv.cell? ⟨gr, 0, none⟩ = some (.int .i64 xid) ∧ wv.cell? ⟨gr, 1, none⟩ = some (.slice (some ⟨bx, ox, none⟩) n xc) ∧ gr < wv.heap.size) := hid fun wv HC => by
                rw [hKL] at HC
                have y1 := HC.blk_ 7 rfl
                have y2 := HC.cst_ 1 rfl
                exact ⟨⟨cell_of_row _ _ 0 _ _ _ y1, cell_of_row _ _ 1 _ _ _ y1, cell_of_row _ _ 2 _ _ _ y1, Blk.lt y1⟩, cell_of_row _ _ 0 _ _ _ y2, cell_of_row _ _ 1 _ _ _ y2, Blk.lt y2⟩
              have HRX : Hid (∀ wv, Hold M (some T) w wv KL → Ro wv (Mut M KL) (VlsIn (some ⟨bx, ox, none⟩) n xvs) ∧ Ro wv (Mut M KL) (VlsIn (some ⟨ga, 0, none⟩) n vs)) := hid fun wv HC => by
                rw [hKL] at HC ⊢
                exact ⟨HC.ro 3 rfl, HC.ro 0 rfl⟩
              have HKL := hid hKL
              clear hKL KS KC
              go_wp2_with fail
              refine wp_region_any (by kernel_rfl) ?_
              refine wpAny_hold 10 98 (KL) (spL [(64, VlsSlot (Mut M KL) xvs), (66, PrSlot (Mut M KL) (xid, xvs, vs)), (67, PrsSlot (Mut M KL) [(xid, xvs, vs)])]) (by kernel_rfl) (by kernel_rfl) (by kernel_rfl) rfl ?_ (KN.drew) ?_
              · exact stays_cons vlsSlot_mono (stays_cons prSlot_mono (stays_cons prsSlot_mono (stays_nil _)))
              simp only [List.take_succ_cons, List.take_zero, List.drop_succ_cons, List.drop_zero, Act.put, List.getElem_toArray, List.getElem_cons_zero, List.getElem_cons_succ, List.setIfInBounds_toArray, List.set_cons_succ, List.set_cons_zero]
              refine dw_val rfl rfl rfl ?_; apply Exists.intro; refine ⟨fun wv HC => ?_, ?_⟩
              ·  go_simp <;> rfl
              simp only [Act.put, List.setIfInBounds_toArray, List.set_cons_succ, List.set_cons_zero]
              refine dw_val rfl rfl rfl ?_; apply Exists.intro; refine ⟨fun wv HC => ?_, ?_⟩
              · obtain ⟨⟨f0, f1, f2, f3⟩, f4, f5, f6⟩ := HF.out _ HC; go_simp <;> rfl
              simp only [Act.put, List.setIfInBounds_toArray, List.set_cons_succ, List.set_cons_zero]
              refine dw_val rfl rfl rfl ?_; apply Exists.intro; refine ⟨fun wv HC => ?_, ?_⟩
              ·  go_simp <;> rfl
              simp only [Act.put, List.setIfInBounds_toArray, List.set_cons_succ, List.set_cons_zero]
              refine dw_val rfl rfl rfl ?_; apply Exists.intro; refine ⟨fun wv HC => ?_, ?_⟩
              · obtain ⟨⟨f0, f1, f2, f3⟩, f4, f5, f6⟩ := HF.out _ HC; go_simp <;> rfl
              simp only [Act.put, List.setIfInBounds_toArray, List.set_cons_succ, List.set_cons_zero]
              refine dw_val rfl rfl rfl ?_; apply Exists.intro; refine ⟨fun wv HC => ?_, ?_⟩
              ·  go_simp <;> rfl
              simp only [Act.put, List.setIfInBounds_toArray, List.set_cons_succ, List.set_cons_zero]
              refine dw_val rfl rfl rfl ?_; apply Exists.intro; refine ⟨fun wv HC => ?_, ?_⟩
              · obtain ⟨⟨f0, f1, f2, f3⟩, f4, f5, f6⟩ := HF.out _ HC; go_simp <;> rfl
              simp only [Act.put, List.setIfInBounds_toArray, List.set_cons_succ, List.set_cons_zero]
              refine dw_clone Tryd.elVl 64 (VlsSlot (Mut M KL) xvs) rfl rfl rfl rfl (.const (.slice none 0 0)) (.tmp 63) rfl rfl (A := some ⟨bx, ox, none⟩) (m := n) (c := xc) (ys := vlCells xvs) rfl (one_vls _) (by omega) (by omega) (fun wv HC hD => ((HRX.out _ HC).1).now) (fun C9 c9 wv HC q1 q2 hro => ⟨C9, n, c9, rfl, HXL.out.symm, q1, q2, hro⟩) ?_
              rintro u wx HCx ⟨A64, n64, c64, rfl, -, -, -, -⟩
              clear HCx
              simp only [Act.put, List.setIfInBounds_toArray, List.set_cons_succ, List.set_cons_zero]
              refine dw_val rfl rfl rfl ?_; apply Exists.intro; refine ⟨fun wv HC => ?_, ?_⟩
              ·  go_simp <;> rfl
              simp only [Act.put, List.setIfInBounds_toArray, List.set_cons_succ, List.set_cons_zero]
              refine dw_valC 66 (PrSlot (Mut M KL) (xid, xvs, vs)) rfl rfl rfl rfl (.agg #[.int .i64 xid, .slice A64 n64 c64, .slice (some ⟨ga, 0, none⟩) n cr]) (fun wv HC => ?_) (fun wv HC hD => ?_) ?_
              · go_simp <;> rfl
              · have ha : VlsSlot (Mut M KL) xvs (.slice A64 n64 c64) wv := deps_at hD 6 rfl (by kernel_rfl) rfl rfl
                exact prSlot_of HXO.out.id HXO.out.vs HVS.out.2 ha ⟨_, n, cr, rfl, HVS.out.1.symm, hcr.1, hcr.2, (HRX.out _ HC).2⟩
              simp only [Act.put, List.setIfInBounds_toArray, List.set_cons_succ, List.set_cons_zero]
              refine dw_new #[.int .i64 xid, .slice A64 n64 c64, .slice (some ⟨ga, 0, none⟩) n cr] 99 67 (PrsSlot (Mut M KL) [(xid, xvs, vs)]) (fun g => .slice (some ⟨g, 0, none⟩) 1 1) rfl rfl rfl rfl (fun wv => ?_) (fun wv HC _hrm hD hro => ?_) ?_
              · go_simp <;> rfl
              · have hrr := RM.alloc (Mut M KL) wv (.cells #[.int .i64 xid, .slice A64 n64 c64, .slice (some ⟨ga, 0, none⟩) n cr] 99)
                have h0 : PrSlot (Mut M KL) (xid, xvs, vs) (.agg #[.int .i64 xid, .slice A64 n64 c64, .slice (some ⟨ga, 0, none⟩) n cr]) wv := deps_at hD 8 rfl (by kernel_rfl) rfl rfl
                replace h0 := prSlot_mono _ _ _ hrr h0
                exact prsSlot_one (hro _ HC.mutLt) (fun i j k e1 => Value.agg.inj e1) h0
              rintro g67 wg HCg hsl
              simp only [Act.put, List.setIfInBounds_toArray, List.set_cons_succ, List.set_cons_zero]
              clear hsl HCg
              refine rel_nil ?_
              rintro wx5 HX5
              rintro _hrm HGW
              have hb2 : PrsSlot (Mut M KL) [(xid, xvs, vs)] (.slice (some ⟨g67, 0, none⟩) 1 1) wx5 := (GW_on (d := 67) rfl).1 (HGW 9 _ rfl (by omega))
              clear HGW _hrm
              obtain ⟨Aq, nq, cq, pq, heq, -, -, hpm, hpok, hpr⟩ := hb2
              obtain ⟨rfl, rfl, rfl⟩ : some ⟨g67, 0, none⟩ = Aq ∧ 1 = nq ∧ 1 = cq := by injection heq with h1 h2 h3; exact ⟨h1, h2, h3⟩
              clear heq
              rw [HKL.out] at HX5 hpr
              have HPO := hid (prs_ok_app HPS.out hpok)
              have HPE := hid (show prCells ps ++ prCells pq = prCells (ps ++ pq) by simp [prCells])
              have KA := HX5.add (hpr.imp fun w h => (h.2 : PrVals pq w))
              have k5 := hid ((hpr.imp fun w h => h.1).now)
              clear HX5 hpr hpm hpok HF HRX KN
              have FA := KA.facts
              simp only [World.size_alloc, World.size_drew, factsL, cellsF, Nat.reduceAdd, List.toList_toArray, List.set_cons_zero, List.set_cons_succ, List.setIfInBounds_toArray, and_true, true_and] at FA
              go_wp2_with (at_builtin; go_must (refine wpList_appAllH KA 6 rfl Tryd.elPr k5.out rfl (.tmp 59) (.tmp 67) rfl rfl rfl (prCells_one pq) (by omega) (by omega) ?_); intro C' cap' w6 hc6 hm6 KB; rw [HPE.out] at KB; simp only [List.set_cons_zero, List.set_cons_succ] at KB; (have FB := KB.facts); simp only [World.size_alloc, World.size_drew, factsL, cellsF, Nat.reduceAdd, List.toList_toArray, List.set_cons_zero, List.set_cons_succ, List.setIfInBounds_toArray, and_true, true_and] at FB)
              have KD := KB.store 8 rfl 2 (.slice C' (un + 1) cap')
              have KE := (KD.swapRo 7 rfl (prVals_app (KD.ro 7 rfl) (KD.ro 0 rfl))).drop (List.Sublist.cons _ (List.Sublist.cons _ (List.Sublist.cons _ (List.Sublist.cons _ (List.Sublist.cons _ (List.Sublist.refl _))))))
              go_wp2_with fail
              go_roundw
              case rel => exact ⟨j + 1, dn, dc, un + 1, cap', D, C', dels, ps ++ pq, by omega, by first | rfl | go_num, by omega, by omega, HPO, KE⟩
              case measure => simp [intOf]; omega
      · have z2 : (z == 0) = false := by rw [beq_eq_false_iff_ne]; omega
        have z3 : (z == 1) = false := by rw [beq_eq_false_iff_ne]; omega
        go_wp2_with fail
        have KC := K2.drop (List.Sublist.cons _ (List.Sublist.cons _ (List.Sublist.cons _ (List.Sublist.refl _))))
        go_roundw
        case rel => exact ⟨j + 1, dn, dc, un, uc, _, U, dels, ps, by omega, by first | rfl | go_num, by omega, by omega, HPS, KC⟩
        case measure => simp [intOf]; omega
    · obtain rfl : m = j := by omega
      have hd : decide ((m : Int) < (m : Int)) = false := by simp
      clear hlt
      obtain ⟨hdc1, hdc2, _⟩ := own_caps (H.get 0 rfl)
      obtain ⟨huc1, huc2, _⟩ := own_caps (H.get 1 rfl)
      have KS := H.sealRow 0 rfl
      simp only [List.set_cons_zero] at KS
      have KS2 := KS.sealRow 1 rfl
      simp only [List.set_cons_zero, List.set_cons_succ] at KS2
      clear H KS
      go_wp2_with fail
      refine (next_any T 4 _ (KS2.tp_ 9 rfl) (by omega) (by omega)).mono ?_
      rintro e w3 ⟨i0, rfl, i00, i01, t3, g3⟩
      obtain ⟨i0, rfl⟩ := Int.eq_ofNat_of_zero_le i00
      have K2 := ((Hold.callT KS2 9 rfl g3 t3).add (show Ro _ _ (SlVals []) from fun _ _ _ r hr => nomatch hr)).nil 27 1
      have hi0 : i0 ≤ 3 := by omega
      clear KS2 g3 t3 i00 i01
      go_wp2_with fail
      clear hd
      go_loopw [9] (fun iv wr => ∃ (i k ic : Nat) (I : Option Addr) (si : List Sl), iv = .int .i64 i ∧ i + k ≤ 3 ∧ Hid (∀ s ∈ si, s.ok) ∧ Hold M (some T) w wr [.own 27 1 (.slice I k ic) k (slCells si), .ro (SlVals si), .ro (SlR 1 D dn (iCells dels)), .ro (SlR 3 U un (prCells ps)), .ro (PrVals ps), .blk g5 54 #[.slice I k ic, .slice D dn dc, .slice U un uc], .blk g4 54 #[.slice none 0 0, .slice none 0 0, .slice none 0 0], .cst gx 40 #[.string nm, .slice A n c, .int .i64 nx, .slice B m d], .ro Wds, .ro (ColsIn A n cs), .ro (RwsIn B m l), .tp T]) (fun iv _ => (intOf iv).toNat)
      case atStart => exact ⟨i0, 0, 0, none, [], rfl, by omega, hid (fun s hs => nomatch hs), K2⟩
      case round =>
        clear K2 hi0
        obtain ⟨i, k, ic, I, si, rfl, hik, HSI, H⟩ := hrel
        by_cases hlt : 0 < i
        · obtain ⟨i, rfl⟩ : ∃ i', i = i' + 1 := ⟨i - 1, by omega⟩
          have hd : decide (((i + 1 : Nat) : Int) > 0) = true := by rw [decide_eq_true_iff]; omega
          clear hlt
          have FH := H.facts
          simp only [World.size_alloc, World.size_drew, factsL, cellsF, Nat.reduceAdd, List.toList_toArray, List.set_cons_zero, List.set_cons_succ, List.setIfInBounds_toArray, and_true, true_and] at FH
          go_wp2_with fail
          refine (trow_any (Mut M _) T _ H.mutLt (H.tp_ 11 rfl) (H.get 11 rfl).2 nm A n c cs ((H.ro 9 rfl).less (mut_tp (i := 11) rfl)) ((H.ro 8 rfl).less (mut_tp (i := 11) rfl)) hT hn HOKC.out).mono ?_
          rintro e w4 ⟨Ar, nr, cr, vs, rfl, hnr, hvr, hfr, ho, t4, g4'⟩
          have KV := Hold.addOwn H (Hold.callT H 11 rfl g4' t4) (RM.grown g4' (.inr ⟨_, List.mem_of_getElem? (i := 11) rfl, rfl⟩)) ho
          obtain rfl : n = nr := by have h1 := fitsAll_len hfr; have h2 := HL.out; omega
          have hcr := own_caps (KV.get 0 rfl)
          replace hcr := And.intro hcr.1 hcr.2.1
          have HVS := hid (show vs.length = n ∧ ∀ v ∈ vs, v.ok from ⟨hnr.symm, hvr⟩)
          obtain ⟨ga, rfl⟩ : ∃ ga, Ar = some ⟨ga, 0, none⟩ := by
            rcases own_addr (KV.get 0 rfl) with ⟨_, h, _⟩ | ⟨g, h, _⟩
            · omega
            · exact ⟨g, h⟩
          clear H ho t4 g4' hnr hvr hfr FH
          have FV := KV.facts
          simp only [World.size_alloc, World.size_drew, factsL, cellsF, Nat.reduceAdd, List.toList_toArray, List.set_cons_zero, List.set_cons_succ, List.setIfInBounds_toArray, and_true, true_and] at FV
          go_wp2_with fail
          refine (bool_any T 12 _ (KV.tp_ 12 rfl) (by omega) (by omega)).mono ?_
          rintro e wb ⟨bb, rfl, tb, gb⟩
          have KP := Hold.callT KV 12 rfl gb tb
          clear KV gb tb
          have FP := KP.facts
          simp only [World.size_alloc, World.size_drew, factsL, cellsF, Nat.reduceAdd, List.toList_toArray, List.set_cons_zero, List.set_cons_succ, List.setIfInBounds_toArray, and_true, true_and] at FP
          cases bb
          · skip
            have KC := KP
            clear KP
            have KS := KC.sealRow 0 rfl
            simp only [List.set_cons_zero] at KS
            have HCE := hid (show slCells si ++ (#[Value.slice (some ⟨ga, 0, none⟩) n cr]).toList = slCells (si ++ [⟨some ⟨ga, 0, none⟩, n, cr, vs⟩]) by simp [slCells, Sl.cells])
            have HSO := hid (sls_ok_snoc HSI.out (x := ⟨some ⟨ga, 0, none⟩, n, cr, vs⟩) ⟨hcr.1, hcr.2, HVS.out.2⟩)
            clear KC
            have FS := KS.facts
            simp only [World.size_alloc, World.size_drew, factsL, cellsF, Nat.reduceAdd, List.toList_toArray, List.set_cons_zero, List.set_cons_succ, List.setIfInBounds_toArray, and_true, true_and] at FS
            go_wp2_with (at_builtin; go_must (refine wpList_appH KS 1 rfl Tryd.elSlc #[.slice (some ⟨ga, 0, none⟩) n cr] rfl (.tmp 92) (.tmp 94) rfl rfl _ (by first | rfl | simp [World.setCell]) rfl rfl (by intro u hu; simp at hu; rcases hu with rfl; rfl) (by omega) (by omega) ?_); intro g9 cap9 w9 hc9 hm9 KB; rw [HCE.out] at KB; simp only [List.set_cons_zero, List.set_cons_succ] at KB; (have FB := KB.facts); simp only [World.size_alloc, World.size_drew, factsL, cellsF, Nat.reduceAdd, List.toList_toArray, List.set_cons_zero, List.set_cons_succ, List.setIfInBounds_toArray, and_true, true_and] at FB)
            have KD := KB.store 6 rfl 0 (.slice (some ⟨g9, 0, none⟩) (k + 1) cap9)
            have KE := (KD.swapRo 2 rfl (sls_snoc (r := ⟨some ⟨ga, 0, none⟩, n, cr, vs⟩) (KD.ro 2 rfl) (KD.ro 0 rfl))).drop (List.sublist_cons_self _ _)
            go_roundw
            case rel => exact ⟨i, k + 1, cap9, _, _, by first | rfl | go_num, by omega, HSO, KE⟩
            case measure => simp [intOf] <;> omega
          · skip
            go_wp2_with fail
            refine (next_any T (n : Int) _ (KP.tp_ 12 rfl) (by omega) (by omega)).mono ?_
            rintro e wc ⟨q, rfl, q0, q1, tc, gc⟩
            obtain ⟨q, rfl⟩ := Int.eq_ofNat_of_zero_le q0
            have KQ := Hold.callT KP 12 rfl gc tc
            clear KP gc tc FP
            have FQ := KQ.facts
            simp only [World.size_alloc, World.size_drew, factsL, cellsF, Nat.reduceAdd, List.toList_toArray, List.set_cons_zero, List.set_cons_succ, List.setIfInBounds_toArray, and_true, true_and] at FQ
            go_wp2_with fail
            refine (value_any T _ (KQ.tp_ 12 rfl) (KQ.ro 9 rfl).now hT).mono ?_
            rintro e wd ⟨kv, iv, sv, rfl, hv, hsv, hiv, td, _, gd⟩
            have KR := Hold.callT KQ 12 rfl gd td
            clear KQ gd td FQ
            have HQL := hid (show q < vs.length by have := HVS.out.1; omega)
            obtain ⟨uq, huq⟩ : ∃ uq, vs[q]? = some uq := ⟨_, List.getElem?_eq_getElem HQL.out⟩
            obtain ⟨⟨z0, z1, z2⟩, ⟨z3, z4, z5⟩, z6⟩ := own_vl (KR.get 0 rfl) huq
            clear huq
            have KC := KR.putVl 0 rfl q HQL.out ⟨kv, iv, sv⟩
            simp only [List.set_cons_zero] at KC
            have HVS := hid (show (vs.set q ⟨kv, iv, sv⟩).length = n ∧ ∀ v ∈ vs.set q ⟨kv, iv, sv⟩, v.ok from ⟨by rw [List.length_set]; exact HVS.out.1, oks_set HVS.out.2 ⟨validB_k hv, hiv, by show sv.size ≤ maxLen; unfold maxLen; omega⟩⟩)
            clear hv KR
            generalize vs.set q ⟨kv, iv, sv⟩ = vs at HVS KC
            have FC := KC.facts
            simp only [World.size_alloc, World.size_drew, factsL, cellsF, Nat.reduceAdd, List.toList_toArray, List.set_cons_zero, List.set_cons_succ, List.setIfInBounds_toArray, and_true, true_and] at FC
            have KS := KC.sealRow 0 rfl
            simp only [List.set_cons_zero] at KS
            have HCE := hid (show slCells si ++ (#[Value.slice (some ⟨ga, 0, none⟩) n cr]).toList = slCells (si ++ [⟨some ⟨ga, 0, none⟩, n, cr, vs⟩]) by simp [slCells, Sl.cells])
            have HSO := hid (sls_ok_snoc HSI.out (x := ⟨some ⟨ga, 0, none⟩, n, cr, vs⟩) ⟨hcr.1, hcr.2, HVS.out.2⟩)
            clear KC
            have FS := KS.facts
            simp only [World.size_alloc, World.size_drew, factsL, cellsF, Nat.reduceAdd, List.toList_toArray, List.set_cons_zero, List.set_cons_succ, List.setIfInBounds_toArray, and_true, true_and] at FS
            go_wp2_with (at_builtin; go_must (refine wpList_appH KS 1 rfl Tryd.elSlc #[.slice (some ⟨ga, 0, none⟩) n cr] rfl (.tmp 92) (.tmp 94) rfl rfl _ (by first | rfl | simp [World.setCell]) rfl rfl (by intro u hu; simp at hu; rcases hu with rfl; rfl) (by omega) (by omega) ?_); intro g9 cap9 w9 hc9 hm9 KB; rw [HCE.out] at KB; simp only [List.set_cons_zero, List.set_cons_succ] at KB; (have FB := KB.facts); simp only [World.size_alloc, World.size_drew, factsL, cellsF, Nat.reduceAdd, List.toList_toArray, List.set_cons_zero, List.set_cons_succ, List.setIfInBounds_toArray, and_true, true_and] at FB)
            have KD := KB.store 6 rfl 0 (.slice (some ⟨g9, 0, none⟩) (k + 1) cap9)
            have KE := (KD.swapRo 2 rfl (sls_snoc (r := ⟨some ⟨ga, 0, none⟩, n, cr, vs⟩) (KD.ro 2 rfl) (KD.ro 0 rfl))).drop (List.sublist_cons_self _ _)
            go_roundw
            case rel => exact ⟨i, k + 1, cap9, _, _, by first | rfl | go_num, by omega, HSO, KE⟩
            case measure => simp [intOf] <;> omega
        · obtain rfl : i = 0 := by omega
          have hd : decide (((0 : Nat) : Int) > 0) = false := by decide
          have F := H.facts
          simp only [World.size_alloc, World.size_drew, factsL, cellsF, Nat.reduceAdd, List.toList_toArray, List.set_cons_zero, List.set_cons_succ, List.setIfInBounds_toArray, and_true, true_and] at F
          obtain ⟨hic1, hic2, _⟩ := own_caps (H.get 0 rfl)
          have KS := H.sealRow 0 rfl
          simp only [List.set_cons_zero] at KS
          have KN := ((KS.store 6 rfl 0 (.slice I k ic)).store 6 rfl 1 (.slice D dn dc)).store 6 rfl 2 (.slice U un uc)
          have r0 := KN.roOut 0 rfl
          have r1 := KN.roOut 1 rfl
          have r2 := KN.roOut 2 rfl
          have r3 := KN.roOut 3 rfl
          have r4 := KN.roOut 4 rfl
          clear KS
          have HI := hid (show si.length = k by have h := (show Rd _ _ _ _ _ _ from r0.now).1; rw [slCells_len] at h; omega)
          have HDL := hid (show dels.length = dn by have h := (show Rd _ _ _ _ _ _ from r2.now).1; rw [iCells_len] at h; omega)
          have HUL := hid (show ps.length = un by have h := (show Rd _ _ _ _ _ _ from r3.now).1; rw [prCells_len] at h; omega)
          go_wp2_with fail
          exact bodyPost_ret (v := .agg #[.slice I k ic, .slice D dn dc, .slice U un uc]) (by simp [results, Tryd.results28, go_sem, F]) rfl ⟨_, si.map Sl.vs, dels, ps.map Pr.upd, rfl, chgSlot_of ⟨I, k, ic, si, rfl, hic1, hic2, rfl, HSI.out, r0.and r1⟩ ⟨D, dn, dc, rfl, hdc1, hdc2, r2⟩ ⟨U, un, uc, ps, rfl, huc1, huc2, rfl, HPS.out, r3.and r4⟩, by rw [List.length_map, HI.out]; omega, by rw [HDL.out]; omega, by rw [List.length_map, HUL.out]; omega, KN.tp_ 11 rfl, KN.grow⟩
end Go.Proofs.YtljmclbedpceoaaDoor

namespace Go.Proofs.YtljmclbedpceoaaDoor
open Go.RowKit
set_option linter.unusedVariables false
set_option linter.unusedSimpArgs false

theorem tbAt_less {w : World} {M M' : Nat → Prop} {v : Value} {t : Tb} (h : TbAt w M v t) (hM : ∀ b, M' b → M b) : TbAt w M' v t := by
  obtain ⟨A, n, c, B, m, d, l, h1, h2, h3, h4, h5, h6, h7, h8, h9⟩ := h
  exact ⟨A, n, c, B, m, d, l, h1, h2, h3, h4, h5, h6.less hM, h7.less hM, h8, h9⟩
theorem chgSlot_less {w : World} {M M' : Nat → Prop} {v : Value} {ins : List (List Vl)} {dels : List Int} {us : List Upd} (h : ChgSlot M ins dels us v w) (hM : ∀ b, M' b → M b) : ChgSlot M' ins dels us v w := by
  obtain ⟨a, b, c, h1, ⟨A, n, k, ps, a1, a2, a3, a4, a5, a6⟩, ⟨B, m, d, b1, b2, b3, b4⟩, ⟨C, q, r, qs, c1, c2, c3, c4, c5, c6⟩⟩ := h
  exact ⟨a, b, c, h1, ⟨A, n, k, ps, a1, a2, a3, a4, a5, a6.less hM⟩, ⟨B, m, d, b1, b2, b3, b4.less hM⟩, ⟨C, q, r, qs, c1, c2, c3, c4, c5, c6.less hM⟩⟩
/-- a valid table of a schema of the three -/
structure VTab (t : Tb) : Prop where
  sch : SchOk t.nm t.cs
  val : tabB t.nm t.cs t.nx t.rs = true
theorem VTab.fit {t : Tb} (h : VTab t) {l : List Rw} (hl : l.map Rw.row = t.rs) : ∀ r ∈ l, r.vs.length = t.cs.length := fun r hr => by
  obtain ⟨_, _, _, _, hok, _⟩ := tabB_ok h.val
  exact fitsT_len (okR_fits hok r.row (by rw [← hl]; exact List.mem_map_of_mem hr))
theorem VTab.rows {t : Tb} (h : VTab t) : t.rs.length ≤ 100 := (tabB_ok h.val).2.1
theorem VTab.len {t : Tb} (h : VTab t) : ∀ r ∈ t.rs, r.2.length ≤ 4 := fun r hr => by
  obtain ⟨_, _, _, _, hok, _⟩ := tabB_ok h.val
  have h1 := fitsT_len (okR_fits hok r hr)
  have h2 := h.sch.len
  omega
theorem chgof_slot (M : Nat → Prop) (T : Nat) (w : World) (hM : ∀ b, M b → b < w.heap.size) (ht : Tp w T) (hMT : ∀ b, M b → T ≤ b) (v : Value) (t : Tb) (hT : TbAt w (Mut M [.tp T]) v t) (hv : VTab t) (hW : Ro w (Mut M [.tp T]) Wds) (hw : 1 < T) :
    Calls Tryd.prog 28 #[.pointer (some ⟨T, 0, none⟩), v] w fun e w' => DrawnChg w T M t.rs.length e w' := by
  obtain ⟨A, n, c, B, m, d, l, rfl, h1, h2, h3, h4, h5, h6, h7, h8⟩ := hT
  have hn : t.cs.length = n := cols_n h5.now
  have hm : l.length = m := h6.now.len
  have hml : t.rs.length = m := by rw [← h8, List.length_map, hm]
  have hl := hv.sch.len
  have hr := hv.rows
  rw [hml]
  exact chgof_any M T w hM ht hMT t.nm A n c t.cs t.nx B m d l h5 h6 hW hw (by omega) (by omega) (by omega) hv.sch.col (fun r hr => by rw [← hn]; exact hv.fit h8 r hr) h7
theorem tspoil_slot (M : Nat → Prop) (T : Nat) (w : World) (hM : ∀ b, M b → b < w.heap.size) (ht : Tp w T) (hMT : ∀ b, M b → T ≤ b) (v : Value) (t : Tb) (hT : TbAt w (Mut M [.tp T]) v t) (hv : VTab t) (hW : Ro w (Mut M [.tp T]) Wds) (hw : 1 < T) :
    Calls Tryd.prog 31 #[.pointer (some ⟨T, 0, none⟩), v] w fun e w' => SomeTab w T M e w' := by
  obtain ⟨A, n, c, B, m, d, l, rfl, h1, h2, h3, h4, h5, h6, h7, h8⟩ := hT
  have hn : t.cs.length = n := cols_n h5.now
  have hm : l.length = m := h6.now.len
  have hml : t.rs.length = m := by rw [← h8, List.length_map, hm]
  have hl := hv.sch.len
  have hr := hv.rows
  exact tspoil_any M T w hM ht hMT t.nm A n c t.cs t.nx B m d l h5 h6 hW hw (by omega) (by omega) h1 h2 (by omega) (fun r hr => by rw [← hn]; exact hv.fit h8 r hr) h7 hv.sch.nm hv.sch.cs
theorem tof_slot (M : Nat → Prop) (T : Nat) (w : World) (hM : ∀ b, M b → b < w.heap.size) (ht : Tp w T) (hMT : ∀ b, M b → T ≤ b) (nm : ByteArray) (A : Option Addr) (n c : Nat) (cs : List Col) (N : Nat) (hD : Ro w (Mut M [.tp T]) (ColsIn A n cs)) (hc1 : n ≤ c) (hc2 : c ≤ 9223372036854775807) (hs : SchOk nm cs) (hW : Ro w (Mut M [.tp T]) Wds) (hw : 1 < T) (hN : N ≤ 50) :
    Calls Tryd.prog 18 #[.pointer (some ⟨T, 0, none⟩), .agg #[.string nm, .slice A n c], .int .i64 N] w fun e w' => ∃ (v : Value) (t : Tb), e = .returned v ∧ TbAt w' M v t ∧ VTab t ∧ t.nm = nm ∧ t.cs = cs ∧ t.rs.length ≤ N ∧ Tp w' T ∧ w.grownBy w' (some T) := by
  have hn : cs.length = n := cols_n hD.now
  have hl := hs.len
  refine (tof_any M T w hM ht hMT nm A n c cs N hD hW hw (by omega) hc1 hc2 hs.col hs.val hs.key hN).mono ?_
  rintro e w' ⟨v, nx, rs, rfl, hT, hv, hr, t1, g1⟩
  exact ⟨v, _, rfl, hT, ⟨hs, hv⟩, rfl, rfl, hr, t1, g1⟩
end Go.Proofs.YtljmclbedpceoaaDoor

namespace Go.Proofs.YtljmclbedpceoaaDoor
open Go.RowKit
set_option linter.unusedVariables false
theorem tbAt_arg {W : World} {t : TbV} (h : TbV.Ok W t) {M : Nat → Prop} (hM : ∀ b, b < W.heap.size → ¬ M b) : TbAt W M (.agg t.cells.toArray) ⟨t.nm, t.cs.l, t.nx, t.rs.l.map Rw.row⟩ :=
  ⟨t.cs.A, t.cs.n, t.cs.c, t.rs.A, t.rs.n, t.rs.c, t.rs.l, rfl, h.cs.nc, Nat.le_trans h.cs.max maxLen_le, h.rs.nc, Nat.le_trans h.rs.max maxLen_le, ro_cols h.cs hM, ro_rows h.rs hM, fun r hr => (h.rs.ok r hr).ok, rfl⟩
theorem tbArg_rows {W : World} {t : TbV} (h : TbV.Ok W t) : ∀ r ∈ t.rs.l.map Rw.row, r.2.length ≤ 4398046511104 := fun r hr => by
  obtain ⟨x, hx, rfl⟩ := List.mem_map.1 hr
  have h1 := h.rs.ok x hx
  have h2 : x.vs.length = x.n := VlsIn.len h1.vs
  have h3 := h1.n
  show x.vs.length ≤ _
  omega
theorem tbArg_cs {W : World} {t : TbV} (h : TbV.Ok W t) : ∀ x ∈ t.cs.l, x.name.size ≤ maxLen := fun x hx => (h.cs.ok x hx).2
theorem chg_arg {W : World} {t : ChV} (h : ChV.Ok W t) {M : Nat → Prop} (hM : ∀ b, b < W.heap.size → ¬ M b) : ChgSlot M (t.ins.l.map Sl.vs) t.dels.l (t.us.l.map Pr.upd) (.agg t.cells.toArray) W :=
  ⟨_, _, _, rfl, ⟨t.ins.A, t.ins.n, t.ins.c, t.ins.l, rfl, h.ins.nc, Nat.le_trans h.ins.max maxLen_le, rfl, fun s hs => (h.ins.ok s hs).ok, ro_sls h.ins hM⟩, ⟨t.dels.A, t.dels.n, t.dels.c, rfl, h.dels.nc, Nat.le_trans h.dels.max maxLen_le, ro_is h.dels hM⟩,
    ⟨t.us.A, t.us.n, t.us.c, t.us.l, rfl, h.us.nc, Nat.le_trans h.us.max maxLen_le, rfl, fun p hp => (h.us.ok p hp).ok, ro_prs h.us hM⟩⟩
theorem chgArg_dels {W : World} {t : ChV} (h : ChV.Ok W t) : t.dels.l.length ≤ 1000000000000000 := by
  have h1 := h.dels.rd.1
  rw [iCells_flat, iCells_len] at h1
  have h2 := h.dels.reach
  have h3 := h.dels.nc
  omega
theorem chgArg_us {W : World} {t : ChV} (h : ChV.Ok W t) : (t.us.l.map Pr.upd).length ≤ 4398046511104 := by
  have h1 : (prCells t.us.l).length = t.us.n * 3 := h.us.rd.1
  rw [prCells_len] at h1
  have h2 := h.us.reach
  have h3 := h.us.nc
  rw [List.length_map]
  omega
end Go.Proofs.YtljmclbedpceoaaDoor

namespace Go.Proofs.YtljmclbedpceoaaDoor
open Go.RowKit
set_option linter.unusedVariables false
set_option linter.unusedSimpArgs false
set_option maxHeartbeats 4000000 in
set_option maxRecDepth 100000 in
theorem rtvalid_any (M : Nat → Prop) (w : World) (hM : ∀ b, M b → b < w.heap.size) (nm : ByteArray) (A : Option Addr) (n c : Nat) (cs : List Col) (nx : Int) (B : Option Addr) (m d : Nat) (l : List Rw) (hD : Ro w M (SlR 4 A n (colCells cs))) (hE : Ro w M (RwsIn B m l)) (hn : n ≤ 9223372036854775807) (hm : m ≤ 4611686018427387904) (hok : ∀ r ∈ l, r.ok) (hs : nm.size ≤ maxLen) (hcs : ∀ x ∈ cs, x.name.size ≤ maxLen) :
    Calls Tryd.prog 67 #[.agg #[.string nm, .slice A n c, .int .i64 nx, .slice B m d]] w fun e w' => e = .returned (.bool (tabB nm cs nx (l.map Rw.row))) ∧ Below w.heap.size w w' := by
  have HL := hid hE.now.len
  have HML := hid (show (l.map Rw.row).length = m by rw [List.length_map, HL.out])
  have K0 := (((Hold.start M w hM).add (hE.less (by simp [Mut]))).add (hD.less (by simp [Mut, Hp.foot]))).alloc_cst #[.string nm, .slice A n c, .int .i64 nx, .slice B m d] 40
  have F0 := K0.facts
  simp only [World.size_alloc, World.size_drew, factsL, cellsF, Nat.reduceAdd, List.toList_toArray, List.set_cons_zero, List.set_cons_succ, List.setIfInBounds_toArray, and_true, true_and] at F0
  clear hD hE
  go_enter Tryd.func67, Tryd.ntmps67
  go_wp2_with fail
  refine (rsvalid_any _ _ K0.mutLt nm A n c cs (K0.ro 1 rfl) hn hs hcs).mono ?_
  rintro e w1 ⟨rfl, b1⟩
  have K1 := K0.call b1
  clear K0 b1 F0
  have F1 := K1.facts
  simp only [World.size_alloc, World.size_drew, factsL, cellsF, Nat.reduceAdd, List.toList_toArray, List.set_cons_zero, List.set_cons_succ, List.setIfInBounds_toArray, and_true, true_and] at F1
  cases hsb : schemaB nm cs
  · have HN := hid (show tabB nm cs nx (l.map Rw.row) = false from tabB_1 hsb)
    go_wp2_with fail
    go_ret
    exact ⟨by rw [HN.out] <;> rfl, K1.below⟩
  have HSB := hid hsb; clear hsb
  by_cases h1 : 100 < m
  · have h1d : decide ((m : Int) > 100) = true := by simp; omega
    have HN := hid (show tabB nm cs nx (l.map Rw.row) = false from tabB_2 (by rw [HML.out]; exact h1))
    go_wp2_with fail
    go_ret
    exact ⟨by rw [HN.out] <;> rfl, K1.below⟩
  have h1d : decide ((m : Int) > 100) = false := by simp; omega
  by_cases h2 : nx < 1
  · have h2d : decide (nx < 1) = true := by simpa using h2
    have HN := hid (show tabB nm cs nx (l.map Rw.row) = false from tabB_3 h2)
    go_wp2_with fail
    go_ret
    exact ⟨by rw [HN.out] <;> rfl, K1.below⟩
  have h2d : decide (nx < 1) = false := by simpa using h2
  by_cases h3 : 2147483648 < nx
  · have h3d : decide (nx > 2147483648) = true := by simpa using h3
    have HN := hid (show tabB nm cs nx (l.map Rw.row) = false from tabB_4 h3)
    go_wp2_with fail
    go_ret
    exact ⟨by rw [HN.out] <;> rfl, K1.below⟩
  have h3d : decide (nx > 2147483648) = false := by simpa using h3
  go_wp2_with fail
  clear F1
  go_loopw [28] (fun iv wr => ∃ (j : Nat) (lst : Int), j ≤ m ∧ iv = .int .i64 j ∧ 0 ≤ lst ∧ Hid ((j = 0 → lst = 0) ∧ ∀ p, j = p + 1 → ∃ r : Rw, l[p]? = some r ∧ r.id = lst) ∧ Hid (okR cs nx 0 (l.map Rw.row) = okR cs nx lst ((l.map Rw.row).drop j)) ∧ Hold M none w wr [.cst w.heap.size 40 #[.string nm, .slice A n c, .int .i64 nx, .slice B m d], .ro (SlR 4 A n (colCells cs)), .ro (RwsIn B m l)]) (fun iv _ => m - (intOf iv).toNat)
  case atStart => exact ⟨0, 0, by omega, rfl, by omega, hid ⟨fun _ => rfl, fun p hp => by omega⟩, hid rfl, K1⟩
  case round =>
    clear K1
    obtain ⟨j, lst, hj, rfl, hl0, HP, HS, H⟩ := hrel
    by_cases hlt : j < m
    · have hdd : decide ((j : Int) < (m : Int)) = true := by simp; omega
      have j0 : (0 : Int) ≤ (j : Int) := by omega
      obtain ⟨x, hx⟩ := get_of HL.out hlt
      obtain ⟨g, o, rfl, hgb, c0, c1, hvi⟩ := (H.ro 2 rfl).now.at_ hx
      have hrok := hok x (List.mem_of_getElem? hx)
      have HX := hid (show (l.map Rw.row)[j]? = some (x.id, x.vs) by simp [hx, Rw.row])
      have HXM := hid (List.mem_of_getElem? hx)
      have HXL := hid hx
      have K2 := H.alloc_cst #[.int .i64 x.id, .slice x.A x.n x.c] 61
      clear hx
      have hxn : x.n ≤ 9223372036854775807 := Nat.le_trans hrok.nc hrok.c
      by_cases a1 : x.id < 1
      · have a1d : decide (x.id < 1) = true := by simpa using a1
        have HN := hid (show tabB nm cs nx (l.map Rw.row) = false from tabB_5 (by rw [HS.out]; exact okR_bad HX.out (.inl (show x.id ≤ lst by omega))))
        clear a1
        obtain ⟨gb, hgb2⟩ : ∃ gb, gb = wr.heap.size := ⟨_, rfl⟩
        obtain ⟨KL, hKL⟩ : ∃ KL : List Hp, KL = [Hp.cst wr.heap.size 61 #[.int .i64 x.id, .slice x.A x.n x.c], .cst w.heap.size 40 #[.string nm, .slice A n c, .int .i64 nx, .slice (some ⟨g, o, none⟩) m d], .ro (SlR 4 A n (colCells cs)), .ro (RwsIn (some ⟨g, o, none⟩) m l)] := ⟨_, rfl⟩
        rw [← hKL] at K2
        rw [← hgb2] at hKL
        have HF : Hid (∀ wv, Hold M none w wv KL → wv.cell? ⟨gb, 0, none⟩ = some (.int .i64 x.id) ∧ wv.cell? ⟨gb, 1, none⟩ = some (.slice x.A x.n x.c) ∧ gb < wv.heap.size ∧ wv.cell? ⟨w.heap.size, 0, none⟩ = some (.string nm) ∧ wv.cell? ⟨w.heap.size, 1, none⟩ = some (.slice A n c) ∧ wv.cell? ⟨w.heap.size, 2, none⟩ = some (.int .i64 nx) ∧ wv.cell? ⟨w.heap.size, 3, none⟩ = some (.slice (some ⟨g, o, none⟩) m d) ∧ w.heap.size < wv.heap.size) := hid fun wv HC => by
          rw [hKL] at HC
          have b0 := HC.cst_ 0 rfl
          have b1 := HC.cst_ 1 rfl
          exact ⟨cell_of_row _ _ 0 _ _ _ b0, cell_of_row _ _ 1 _ _ _ b0, Blk.lt b0, cell_of_row _ _ 0 _ _ _ b1, cell_of_row _ _ 1 _ _ _ b1, cell_of_row _ _ 2 _ _ _ b1, cell_of_row _ _ 3 _ _ _ b1, Blk.lt b1⟩
        have HKL : Hid (∀ wv, Hold M none w wv KL → Ro wv (Mut M KL) (SlR 4 A n (colCells cs)) ∧ Ro wv (Mut M KL) (VlsIn x.A x.n x.vs)) := hid fun wv HC => by
          rw [hKL] at HC ⊢
          exact ⟨HC.ro 2 rfl, (HC.ro 3 rfl).imp fun w2 h2 => h2.2 x HXM.out⟩
        go_wp2_with fail
        rw [← hgb2]
        have HGB := hid hgb2
        have HKE := hid hKL
        clear hgb2 hKL
        generalize wr.alloc (.cells #[.int .i64 x.id, .slice x.A x.n x.c] 61) = w2 at *
        refine wp_region_any (by kernel_rfl) ?_
        refine wpAny_hold 33 71 (KL) (spL []) (by kernel_rfl) (by kernel_rfl) (by kernel_rfl) rfl ?_ (K2.drew) ?_
        · exact stays_nil _
        simp only [List.take_succ_cons, List.take_zero, List.drop_succ_cons, List.drop_zero, Act.put, List.getElem_toArray, List.getElem_cons_zero, List.getElem_cons_succ, List.setIfInBounds_toArray, List.set_cons_succ, List.set_cons_zero]
        refine dw_val rfl rfl rfl ?_; apply Exists.intro; refine ⟨fun wv HC => ?_, ?_⟩
        · obtain ⟨f0, f1, f2, f3, f4, f5, f6, f7⟩ := HF.out _ HC; go_simp <;> rfl
        simp only [Act.put, List.setIfInBounds_toArray, List.set_cons_succ, List.set_cons_zero]
        refine dw_val rfl rfl rfl ?_; apply Exists.intro; refine ⟨fun wv HC => ?_, ?_⟩
        · obtain ⟨f0, f1, f2, f3, f4, f5, f6, f7⟩ := HF.out _ HC; go_simp <;> rfl
        simp only [Act.put, List.setIfInBounds_toArray, List.set_cons_succ, List.set_cons_zero]
        refine dw_val rfl rfl rfl ?_; apply Exists.intro; refine ⟨fun wv HC => ?_, ?_⟩
        · obtain ⟨f0, f1, f2, f3, f4, f5, f6, f7⟩ := HF.out _ HC; go_simp <;> rfl
        simp only [Act.put, List.setIfInBounds_toArray, List.set_cons_succ, List.set_cons_zero]
        refine dw_val rfl rfl rfl ?_; apply Exists.intro; refine ⟨fun wv HC => ?_, ?_⟩
        · obtain ⟨f0, f1, f2, f3, f4, f5, f6, f7⟩ := HF.out _ HC; go_simp <;> rfl
        simp only [Act.put, List.setIfInBounds_toArray, List.set_cons_succ, List.set_cons_zero]
        refine dw_skip rfl rfl rfl ?_
        simp only [Act.put, List.setIfInBounds_toArray, List.set_cons_succ, List.set_cons_zero]
        refine dw_skip rfl rfl rfl ?_
        simp only [Act.put, List.setIfInBounds_toArray, List.set_cons_succ, List.set_cons_zero]
        refine dw_skip rfl rfl rfl ?_
        simp only [Act.put, List.setIfInBounds_toArray, List.set_cons_succ, List.set_cons_zero]
        refine dw_skip rfl rfl rfl ?_
        simp only [Act.put, List.setIfInBounds_toArray, List.set_cons_succ, List.set_cons_zero]
        refine dw_skip rfl rfl rfl ?_
        simp only [Act.put, List.setIfInBounds_toArray, List.set_cons_succ, List.set_cons_zero]
        refine dw_val rfl rfl rfl ?_; apply Exists.intro; refine ⟨fun wv HC => ?_, ?_⟩
        · obtain ⟨f0, f1, f2, f3, f4, f5, f6, f7⟩ := HF.out _ HC; go_simp <;> rfl
        simp only [Act.put, List.setIfInBounds_toArray, List.set_cons_succ, List.set_cons_zero]
        refine dw_val rfl rfl rfl ?_; apply Exists.intro; refine ⟨fun wv HC => ?_, ?_⟩
        · obtain ⟨f0, f1, f2, f3, f4, f5, f6, f7⟩ := HF.out _ HC; go_simp <;> rfl
        simp only [Act.put, List.setIfInBounds_toArray, List.set_cons_succ, List.set_cons_zero]
        refine dw_skip rfl rfl rfl ?_
        simp only [Act.put, List.setIfInBounds_toArray, List.set_cons_succ, List.set_cons_zero]
        refine dw_skip rfl rfl rfl ?_
        simp only [Act.put, List.setIfInBounds_toArray, List.set_cons_succ, List.set_cons_zero]
        refine dw_skip rfl rfl rfl ?_
        simp only [Act.put, List.setIfInBounds_toArray, List.set_cons_succ, List.set_cons_zero]
        refine dw_skip rfl rfl rfl ?_
        simp only [Act.put, List.setIfInBounds_toArray, List.set_cons_succ, List.set_cons_zero]
        refine dw_skip rfl rfl rfl ?_
        simp only [Act.put, List.setIfInBounds_toArray, List.set_cons_succ, List.set_cons_zero]
        refine dw_skip rfl rfl rfl ?_
        simp only [Act.put, List.setIfInBounds_toArray, List.set_cons_succ, List.set_cons_zero]
        refine dw_skip rfl rfl rfl ?_
        simp only [Act.put, List.setIfInBounds_toArray, List.set_cons_succ, List.set_cons_zero]
        refine dw_skip rfl rfl rfl ?_
        simp only [Act.put, List.setIfInBounds_toArray, List.set_cons_succ, List.set_cons_zero]
        refine dw_skip rfl rfl rfl ?_
        simp only [Act.put, List.setIfInBounds_toArray, List.set_cons_succ, List.set_cons_zero]
        refine dw_skip rfl rfl rfl ?_
        simp only [Act.put, List.setIfInBounds_toArray, List.set_cons_succ, List.set_cons_zero]
        refine dw_skip rfl rfl rfl ?_
        simp only [Act.put, List.setIfInBounds_toArray, List.set_cons_succ, List.set_cons_zero]
        refine dw_skip rfl rfl rfl ?_
        simp only [Act.put, List.setIfInBounds_toArray, List.set_cons_succ, List.set_cons_zero]
        refine dw_skip rfl rfl rfl ?_
        simp only [Act.put, List.setIfInBounds_toArray, List.set_cons_succ, List.set_cons_zero]
        refine dw_skip rfl rfl rfl ?_
        simp only [Act.put, List.setIfInBounds_toArray, List.set_cons_succ, List.set_cons_zero]
        refine dw_val rfl rfl rfl ?_; apply Exists.intro; refine ⟨fun wv HC => ?_, ?_⟩
        · obtain ⟨f0, f1, f2, f3, f4, f5, f6, f7⟩ := HF.out _ HC; go_simp <;> rfl
        simp only [Act.put, List.setIfInBounds_toArray, List.set_cons_succ, List.set_cons_zero]
        refine dw_val rfl rfl rfl ?_; apply Exists.intro; refine ⟨fun wv HC => ?_, ?_⟩
        · obtain ⟨f0, f1, f2, f3, f4, f5, f6, f7⟩ := HF.out _ HC; go_simp <;> rfl
        simp only [Act.put, List.setIfInBounds_toArray, List.set_cons_succ, List.set_cons_zero]
        refine dw_skip rfl rfl rfl ?_
        simp only [Act.put, List.setIfInBounds_toArray, List.set_cons_succ, List.set_cons_zero]
        refine dw_skip rfl rfl rfl ?_
        simp only [Act.put, List.setIfInBounds_toArray, List.set_cons_succ, List.set_cons_zero]
        refine dw_skip rfl rfl rfl ?_
        simp only [Act.put, List.setIfInBounds_toArray, List.set_cons_succ, List.set_cons_zero]
        refine dw_skip rfl rfl rfl ?_
        simp only [Act.put, List.setIfInBounds_toArray, List.set_cons_succ, List.set_cons_zero]
        refine dw_skip rfl rfl rfl ?_
        simp only [Act.put, List.setIfInBounds_toArray, List.set_cons_succ, List.set_cons_zero]
        refine dw_skip rfl rfl rfl ?_
        simp only [Act.put, List.setIfInBounds_toArray, List.set_cons_succ, List.set_cons_zero]
        refine rel_nil ?_
        rintro wx2 HX2
        rintro _hrm _HG
        rw [HKE.out] at HX2
        clear _hrm _HG
        go_wp2_with fail
        go_ret
        exact ⟨by rw [HN.out] <;> rfl, HX2.below⟩
      have a1d : decide (x.id < 1) = false := by simpa using a1
      by_cases a2 : nx ≤ x.id
      · have a2d : decide (x.id ≥ nx) = true := by simpa using a2
        have HN := hid (show tabB nm cs nx (l.map Rw.row) = false from tabB_5 (by rw [HS.out]; exact okR_bad HX.out (.inr (.inl a2))))
        clear a1 a2
        obtain ⟨gb, hgb2⟩ : ∃ gb, gb = wr.heap.size := ⟨_, rfl⟩
        obtain ⟨KL, hKL⟩ : ∃ KL : List Hp, KL = [Hp.cst wr.heap.size 61 #[.int .i64 x.id, .slice x.A x.n x.c], .cst w.heap.size 40 #[.string nm, .slice A n c, .int .i64 nx, .slice (some ⟨g, o, none⟩) m d], .ro (SlR 4 A n (colCells cs)), .ro (RwsIn (some ⟨g, o, none⟩) m l)] := ⟨_, rfl⟩
        rw [← hKL] at K2
        rw [← hgb2] at hKL
        have HF : Hid (∀ wv, Hold M none w wv KL → wv.cell? ⟨gb, 0, none⟩ = some (.int .i64 x.id) ∧ wv.cell? ⟨gb, 1, none⟩ = some (.slice x.A x.n x.c) ∧ gb < wv.heap.size ∧ wv.cell? ⟨w.heap.size, 0, none⟩ = some (.string nm) ∧ wv.cell? ⟨w.heap.size, 1, none⟩ = some (.slice A n c) ∧ wv.cell? ⟨w.heap.size, 2, none⟩ = some (.int .i64 nx) ∧ wv.cell? ⟨w.heap.size, 3, none⟩ = some (.slice (some ⟨g, o, none⟩) m d) ∧ w.heap.size < wv.heap.size) := hid fun wv HC => by
          rw [hKL] at HC
          have b0 := HC.cst_ 0 rfl
          have b1 := HC.cst_ 1 rfl
          exact ⟨cell_of_row _ _ 0 _ _ _ b0, cell_of_row _ _ 1 _ _ _ b0, Blk.lt b0, cell_of_row _ _ 0 _ _ _ b1, cell_of_row _ _ 1 _ _ _ b1, cell_of_row _ _ 2 _ _ _ b1, cell_of_row _ _ 3 _ _ _ b1, Blk.lt b1⟩
        have HKL : Hid (∀ wv, Hold M none w wv KL → Ro wv (Mut M KL) (SlR 4 A n (colCells cs)) ∧ Ro wv (Mut M KL) (VlsIn x.A x.n x.vs)) := hid fun wv HC => by
          rw [hKL] at HC ⊢
          exact ⟨HC.ro 2 rfl, (HC.ro 3 rfl).imp fun w2 h2 => h2.2 x HXM.out⟩
        go_wp2_with fail
        rw [← hgb2]
        have HGB := hid hgb2
        have HKE := hid hKL
        clear hgb2 hKL
        generalize wr.alloc (.cells #[.int .i64 x.id, .slice x.A x.n x.c] 61) = w2 at *
        refine wp_region_any (by kernel_rfl) ?_
        refine wpAny_hold 33 71 (KL) (spL []) (by kernel_rfl) (by kernel_rfl) (by kernel_rfl) rfl ?_ (K2.drew) ?_
        · exact stays_nil _
        simp only [List.take_succ_cons, List.take_zero, List.drop_succ_cons, List.drop_zero, Act.put, List.getElem_toArray, List.getElem_cons_zero, List.getElem_cons_succ, List.setIfInBounds_toArray, List.set_cons_succ, List.set_cons_zero]
        refine dw_val rfl rfl rfl ?_; apply Exists.intro; refine ⟨fun wv HC => ?_, ?_⟩
        · obtain ⟨f0, f1, f2, f3, f4, f5, f6, f7⟩ := HF.out _ HC; go_simp <;> rfl
        simp only [Act.put, List.setIfInBounds_toArray, List.set_cons_succ, List.set_cons_zero]
        refine dw_val rfl rfl rfl ?_; apply Exists.intro; refine ⟨fun wv HC => ?_, ?_⟩
        · obtain ⟨f0, f1, f2, f3, f4, f5, f6, f7⟩ := HF.out _ HC; go_simp <;> rfl
        simp only [Act.put, List.setIfInBounds_toArray, List.set_cons_succ, List.set_cons_zero]
        refine dw_val rfl rfl rfl ?_; apply Exists.intro; refine ⟨fun wv HC => ?_, ?_⟩
        · obtain ⟨f0, f1, f2, f3, f4, f5, f6, f7⟩ := HF.out _ HC; go_simp <;> rfl
        simp only [Act.put, List.setIfInBounds_toArray, List.set_cons_succ, List.set_cons_zero]
        refine dw_val rfl rfl rfl ?_; apply Exists.intro; refine ⟨fun wv HC => ?_, ?_⟩
        · obtain ⟨f0, f1, f2, f3, f4, f5, f6, f7⟩ := HF.out _ HC; go_simp <;> rfl
        simp only [Act.put, List.setIfInBounds_toArray, List.set_cons_succ, List.set_cons_zero]
        refine dw_val rfl rfl rfl ?_; apply Exists.intro; refine ⟨fun wv HC => ?_, ?_⟩
        · obtain ⟨f0, f1, f2, f3, f4, f5, f6, f7⟩ := HF.out _ HC; go_simp <;> rfl
        simp only [Act.put, List.setIfInBounds_toArray, List.set_cons_succ, List.set_cons_zero]
        refine dw_val rfl rfl rfl ?_; apply Exists.intro; refine ⟨fun wv HC => ?_, ?_⟩
        · obtain ⟨f0, f1, f2, f3, f4, f5, f6, f7⟩ := HF.out _ HC; go_simp <;> rfl
        simp only [Act.put, List.setIfInBounds_toArray, List.set_cons_succ, List.set_cons_zero]
        refine dw_val rfl rfl rfl ?_; apply Exists.intro; refine ⟨fun wv HC => ?_, ?_⟩
        · obtain ⟨f0, f1, f2, f3, f4, f5, f6, f7⟩ := HF.out _ HC; go_simp <;> rfl
        simp only [Act.put, List.setIfInBounds_toArray, List.set_cons_succ, List.set_cons_zero]
        refine dw_val rfl rfl rfl ?_; apply Exists.intro; refine ⟨fun wv HC => ?_, ?_⟩
        · obtain ⟨f0, f1, f2, f3, f4, f5, f6, f7⟩ := HF.out _ HC; go_simp <;> rfl
        simp only [Act.put, List.setIfInBounds_toArray, List.set_cons_succ, List.set_cons_zero]
        refine dw_val rfl rfl rfl ?_; apply Exists.intro; refine ⟨fun wv HC => ?_, ?_⟩
        · obtain ⟨f0, f1, f2, f3, f4, f5, f6, f7⟩ := HF.out _ HC; go_simp <;> rfl
        simp only [Act.put, List.setIfInBounds_toArray, List.set_cons_succ, List.set_cons_zero]
        refine dw_val rfl rfl rfl ?_; apply Exists.intro; refine ⟨fun wv HC => ?_, ?_⟩
        · obtain ⟨f0, f1, f2, f3, f4, f5, f6, f7⟩ := HF.out _ HC; go_simp <;> rfl
        simp only [Act.put, List.setIfInBounds_toArray, List.set_cons_succ, List.set_cons_zero]
        refine dw_val rfl rfl rfl ?_; apply Exists.intro; refine ⟨fun wv HC => ?_, ?_⟩
        · obtain ⟨f0, f1, f2, f3, f4, f5, f6, f7⟩ := HF.out _ HC; go_simp <;> rfl
        simp only [Act.put, List.setIfInBounds_toArray, List.set_cons_succ, List.set_cons_zero]
        refine dw_skip rfl rfl rfl ?_
        simp only [Act.put, List.setIfInBounds_toArray, List.set_cons_succ, List.set_cons_zero]
        refine dw_skip rfl rfl rfl ?_
        simp only [Act.put, List.setIfInBounds_toArray, List.set_cons_succ, List.set_cons_zero]
        refine dw_skip rfl rfl rfl ?_
        simp only [Act.put, List.setIfInBounds_toArray, List.set_cons_succ, List.set_cons_zero]
        refine dw_skip rfl rfl rfl ?_
        simp only [Act.put, List.setIfInBounds_toArray, List.set_cons_succ, List.set_cons_zero]
        refine dw_skip rfl rfl rfl ?_
        simp only [Act.put, List.setIfInBounds_toArray, List.set_cons_succ, List.set_cons_zero]
        refine dw_skip rfl rfl rfl ?_
        simp only [Act.put, List.setIfInBounds_toArray, List.set_cons_succ, List.set_cons_zero]
        refine dw_skip rfl rfl rfl ?_
        simp only [Act.put, List.setIfInBounds_toArray, List.set_cons_succ, List.set_cons_zero]
        refine dw_skip rfl rfl rfl ?_
        simp only [Act.put, List.setIfInBounds_toArray, List.set_cons_succ, List.set_cons_zero]
        refine dw_skip rfl rfl rfl ?_
        simp only [Act.put, List.setIfInBounds_toArray, List.set_cons_succ, List.set_cons_zero]
        refine dw_skip rfl rfl rfl ?_
        simp only [Act.put, List.setIfInBounds_toArray, List.set_cons_succ, List.set_cons_zero]
        refine dw_skip rfl rfl rfl ?_
        simp only [Act.put, List.setIfInBounds_toArray, List.set_cons_succ, List.set_cons_zero]
        refine dw_skip rfl rfl rfl ?_
        simp only [Act.put, List.setIfInBounds_toArray, List.set_cons_succ, List.set_cons_zero]
        refine dw_skip rfl rfl rfl ?_
        simp only [Act.put, List.setIfInBounds_toArray, List.set_cons_succ, List.set_cons_zero]
        refine dw_skip rfl rfl rfl ?_
        simp only [Act.put, List.setIfInBounds_toArray, List.set_cons_succ, List.set_cons_zero]
        refine dw_val rfl rfl rfl ?_; apply Exists.intro; refine ⟨fun wv HC => ?_, ?_⟩
        · obtain ⟨f0, f1, f2, f3, f4, f5, f6, f7⟩ := HF.out _ HC; go_simp <;> rfl
        simp only [Act.put, List.setIfInBounds_toArray, List.set_cons_succ, List.set_cons_zero]
        refine dw_val rfl rfl rfl ?_; apply Exists.intro; refine ⟨fun wv HC => ?_, ?_⟩
        · obtain ⟨f0, f1, f2, f3, f4, f5, f6, f7⟩ := HF.out _ HC; go_simp <;> rfl
        simp only [Act.put, List.setIfInBounds_toArray, List.set_cons_succ, List.set_cons_zero]
        refine dw_skip rfl rfl rfl ?_
        simp only [Act.put, List.setIfInBounds_toArray, List.set_cons_succ, List.set_cons_zero]
        refine dw_skip rfl rfl rfl ?_
        simp only [Act.put, List.setIfInBounds_toArray, List.set_cons_succ, List.set_cons_zero]
        refine dw_skip rfl rfl rfl ?_
        simp only [Act.put, List.setIfInBounds_toArray, List.set_cons_succ, List.set_cons_zero]
        refine dw_skip rfl rfl rfl ?_
        simp only [Act.put, List.setIfInBounds_toArray, List.set_cons_succ, List.set_cons_zero]
        refine dw_skip rfl rfl rfl ?_
        simp only [Act.put, List.setIfInBounds_toArray, List.set_cons_succ, List.set_cons_zero]
        refine dw_skip rfl rfl rfl ?_
        simp only [Act.put, List.setIfInBounds_toArray, List.set_cons_succ, List.set_cons_zero]
        refine rel_nil ?_
        rintro wx2 HX2
        rintro _hrm _HG
        rw [HKE.out] at HX2
        clear _hrm _HG
        go_wp2_with fail
        go_ret
        exact ⟨by rw [HN.out] <;> rfl, HX2.below⟩
      have a2d : decide (x.id ≥ nx) = false := by simpa using a2
      have HA := hid (show ¬ x.id < 1 ∧ ¬ nx ≤ x.id from ⟨a1, a2⟩)
      clear a1 a2
      rcases Nat.eq_zero_or_pos j with hj0 | hj0
      · have HL0 := hid (HP.out.1 hj0)
        have HJ0 := hid hj0
        have hj0d : decide ((j : Int) > 0) = false := by simp; omega
        have hj0d2 : decide (0 < j) = false := by simp; omega
        have hj0d3 : decide ((0 : Int) < (j : Int)) = false := by simp; omega
        clear hj0
        obtain ⟨gb, hgb2⟩ : ∃ gb, gb = wr.heap.size := ⟨_, rfl⟩
        obtain ⟨KL, hKL⟩ : ∃ KL : List Hp, KL = [Hp.cst wr.heap.size 61 #[.int .i64 x.id, .slice x.A x.n x.c], .cst w.heap.size 40 #[.string nm, .slice A n c, .int .i64 nx, .slice (some ⟨g, o, none⟩) m d], .ro (SlR 4 A n (colCells cs)), .ro (RwsIn (some ⟨g, o, none⟩) m l)] := ⟨_, rfl⟩
        rw [← hKL] at K2
        rw [← hgb2] at hKL
        have HF : Hid (∀ wv, Hold M none w wv KL → wv.cell? ⟨gb, 0, none⟩ = some (.int .i64 x.id) ∧ wv.cell? ⟨gb, 1, none⟩ = some (.slice x.A x.n x.c) ∧ gb < wv.heap.size ∧ wv.cell? ⟨w.heap.size, 0, none⟩ = some (.string nm) ∧ wv.cell? ⟨w.heap.size, 1, none⟩ = some (.slice A n c) ∧ wv.cell? ⟨w.heap.size, 2, none⟩ = some (.int .i64 nx) ∧ wv.cell? ⟨w.heap.size, 3, none⟩ = some (.slice (some ⟨g, o, none⟩) m d) ∧ w.heap.size < wv.heap.size) := hid fun wv HC => by
          rw [hKL] at HC
          have b0 := HC.cst_ 0 rfl
          have b1 := HC.cst_ 1 rfl
          exact ⟨cell_of_row _ _ 0 _ _ _ b0, cell_of_row _ _ 1 _ _ _ b0, Blk.lt b0, cell_of_row _ _ 0 _ _ _ b1, cell_of_row _ _ 1 _ _ _ b1, cell_of_row _ _ 2 _ _ _ b1, cell_of_row _ _ 3 _ _ _ b1, Blk.lt b1⟩
        have HKL : Hid (∀ wv, Hold M none w wv KL → Ro wv (Mut M KL) (SlR 4 A n (colCells cs)) ∧ Ro wv (Mut M KL) (VlsIn x.A x.n x.vs)) := hid fun wv HC => by
          rw [hKL] at HC ⊢
          exact ⟨HC.ro 2 rfl, (HC.ro 3 rfl).imp fun w2 h2 => h2.2 x HXM.out⟩
        go_wp2_with fail
        rw [← hgb2]
        have HGB := hid hgb2
        have HKE := hid hKL
        clear hgb2 hKL
        generalize wr.alloc (.cells #[.int .i64 x.id, .slice x.A x.n x.c] 61) = w2 at *
        refine wp_region_any (by kernel_rfl) ?_
        refine wpAny_hold 33 71 (KL) (spL [(64, IsV (.int .i64 (fitsT cs x.vs)))]) (by kernel_rfl) (by kernel_rfl) (by kernel_rfl) rfl ?_ (K2.drew) ?_
        · exact stays_cons isV_mono (stays_nil _)
        simp only [List.take_succ_cons, List.take_zero, List.drop_succ_cons, List.drop_zero, Act.put, List.getElem_toArray, List.getElem_cons_zero, List.getElem_cons_succ, List.setIfInBounds_toArray, List.set_cons_succ, List.set_cons_zero]
        refine dw_val rfl rfl rfl ?_; apply Exists.intro; refine ⟨fun wv HC => ?_, ?_⟩
        · obtain ⟨f0, f1, f2, f3, f4, f5, f6, f7⟩ := HF.out _ HC; go_simp <;> rfl
        simp only [Act.put, List.setIfInBounds_toArray, List.set_cons_succ, List.set_cons_zero]
        refine dw_val rfl rfl rfl ?_; apply Exists.intro; refine ⟨fun wv HC => ?_, ?_⟩
        · obtain ⟨f0, f1, f2, f3, f4, f5, f6, f7⟩ := HF.out _ HC; go_simp <;> rfl
        simp only [Act.put, List.setIfInBounds_toArray, List.set_cons_succ, List.set_cons_zero]
        refine dw_val rfl rfl rfl ?_; apply Exists.intro; refine ⟨fun wv HC => ?_, ?_⟩
        · obtain ⟨f0, f1, f2, f3, f4, f5, f6, f7⟩ := HF.out _ HC; go_simp <;> rfl
        simp only [Act.put, List.setIfInBounds_toArray, List.set_cons_succ, List.set_cons_zero]
        refine dw_val rfl rfl rfl ?_; apply Exists.intro; refine ⟨fun wv HC => ?_, ?_⟩
        · obtain ⟨f0, f1, f2, f3, f4, f5, f6, f7⟩ := HF.out _ HC; go_simp <;> rfl
        simp only [Act.put, List.setIfInBounds_toArray, List.set_cons_succ, List.set_cons_zero]
        refine dw_val rfl rfl rfl ?_; apply Exists.intro; refine ⟨fun wv HC => ?_, ?_⟩
        · obtain ⟨f0, f1, f2, f3, f4, f5, f6, f7⟩ := HF.out _ HC; go_simp <;> rfl
        simp only [Act.put, List.setIfInBounds_toArray, List.set_cons_succ, List.set_cons_zero]
        refine dw_val rfl rfl rfl ?_; apply Exists.intro; refine ⟨fun wv HC => ?_, ?_⟩
        · obtain ⟨f0, f1, f2, f3, f4, f5, f6, f7⟩ := HF.out _ HC; go_simp <;> rfl
        simp only [Act.put, List.setIfInBounds_toArray, List.set_cons_succ, List.set_cons_zero]
        refine dw_val rfl rfl rfl ?_; apply Exists.intro; refine ⟨fun wv HC => ?_, ?_⟩
        · obtain ⟨f0, f1, f2, f3, f4, f5, f6, f7⟩ := HF.out _ HC; go_simp <;> rfl
        simp only [Act.put, List.setIfInBounds_toArray, List.set_cons_succ, List.set_cons_zero]
        refine dw_val rfl rfl rfl ?_; apply Exists.intro; refine ⟨fun wv HC => ?_, ?_⟩
        · obtain ⟨f0, f1, f2, f3, f4, f5, f6, f7⟩ := HF.out _ HC; go_simp <;> rfl
        simp only [Act.put, List.setIfInBounds_toArray, List.set_cons_succ, List.set_cons_zero]
        refine dw_val rfl rfl rfl ?_; apply Exists.intro; refine ⟨fun wv HC => ?_, ?_⟩
        · obtain ⟨f0, f1, f2, f3, f4, f5, f6, f7⟩ := HF.out _ HC; go_simp <;> rfl
        simp only [Act.put, List.setIfInBounds_toArray, List.set_cons_succ, List.set_cons_zero]
        refine dw_val rfl rfl rfl ?_; apply Exists.intro; refine ⟨fun wv HC => ?_, ?_⟩
        · obtain ⟨f0, f1, f2, f3, f4, f5, f6, f7⟩ := HF.out _ HC; go_simp <;> rfl
        simp only [Act.put, List.setIfInBounds_toArray, List.set_cons_succ, List.set_cons_zero]
        refine dw_val rfl rfl rfl ?_; apply Exists.intro; refine ⟨fun wv HC => ?_, ?_⟩
        · obtain ⟨f0, f1, f2, f3, f4, f5, f6, f7⟩ := HF.out _ HC; go_simp <;> rfl
        simp only [Act.put, List.setIfInBounds_toArray, List.set_cons_succ, List.set_cons_zero]
        refine dw_val rfl rfl rfl ?_; apply Exists.intro; refine ⟨fun wv HC => ?_, ?_⟩
        · obtain ⟨f0, f1, f2, f3, f4, f5, f6, f7⟩ := HF.out _ HC; go_simp <;> rfl
        simp only [Act.put, List.setIfInBounds_toArray, List.set_cons_succ, List.set_cons_zero]
        refine dw_val rfl rfl rfl ?_; apply Exists.intro; refine ⟨fun wv HC => ?_, ?_⟩
        · obtain ⟨f0, f1, f2, f3, f4, f5, f6, f7⟩ := HF.out _ HC; go_simp <;> rfl
        simp only [Act.put, List.setIfInBounds_toArray, List.set_cons_succ, List.set_cons_zero]
        refine dw_val rfl rfl rfl ?_; apply Exists.intro; refine ⟨fun wv HC => ?_, ?_⟩
        · obtain ⟨f0, f1, f2, f3, f4, f5, f6, f7⟩ := HF.out _ HC; go_simp <;> rfl
        simp only [Act.put, List.setIfInBounds_toArray, List.set_cons_succ, List.set_cons_zero]
        refine dw_skip rfl rfl rfl ?_
        simp only [Act.put, List.setIfInBounds_toArray, List.set_cons_succ, List.set_cons_zero]
        refine dw_skip rfl rfl rfl ?_
        simp only [Act.put, List.setIfInBounds_toArray, List.set_cons_succ, List.set_cons_zero]
        refine dw_skip rfl rfl rfl ?_
        simp only [Act.put, List.setIfInBounds_toArray, List.set_cons_succ, List.set_cons_zero]
        refine dw_skip rfl rfl rfl ?_
        simp only [Act.put, List.setIfInBounds_toArray, List.set_cons_succ, List.set_cons_zero]
        refine dw_skip rfl rfl rfl ?_
        simp only [Act.put, List.setIfInBounds_toArray, List.set_cons_succ, List.set_cons_zero]
        refine dw_skip rfl rfl rfl ?_
        simp only [Act.put, List.setIfInBounds_toArray, List.set_cons_succ, List.set_cons_zero]
        refine dw_skip rfl rfl rfl ?_
        simp only [Act.put, List.setIfInBounds_toArray, List.set_cons_succ, List.set_cons_zero]
        refine dw_skip rfl rfl rfl ?_
        simp only [Act.put, List.setIfInBounds_toArray, List.set_cons_succ, List.set_cons_zero]
        refine dw_skip rfl rfl rfl ?_
        simp only [Act.put, List.setIfInBounds_toArray, List.set_cons_succ, List.set_cons_zero]
        refine dw_skip rfl rfl rfl ?_
        simp only [Act.put, List.setIfInBounds_toArray, List.set_cons_succ, List.set_cons_zero]
        refine dw_val rfl rfl rfl ?_; apply Exists.intro; refine ⟨fun wv HC => ?_, ?_⟩
        · obtain ⟨f0, f1, f2, f3, f4, f5, f6, f7⟩ := HF.out _ HC; go_simp <;> rfl
        simp only [Act.put, List.setIfInBounds_toArray, List.set_cons_succ, List.set_cons_zero]
        refine dw_val rfl rfl rfl ?_; apply Exists.intro; refine ⟨fun wv HC => ?_, ?_⟩
        · obtain ⟨f0, f1, f2, f3, f4, f5, f6, f7⟩ := HF.out _ HC; go_simp <;> rfl
        simp only [Act.put, List.setIfInBounds_toArray, List.set_cons_succ, List.set_cons_zero]
        refine dw_val rfl rfl rfl ?_; apply Exists.intro; refine ⟨fun wv HC => ?_, ?_⟩
        · obtain ⟨f0, f1, f2, f3, f4, f5, f6, f7⟩ := HF.out _ HC; go_simp <;> rfl
        simp only [Act.put, List.setIfInBounds_toArray, List.set_cons_succ, List.set_cons_zero]
        refine dw_val rfl rfl rfl ?_; apply Exists.intro; refine ⟨fun wv HC => ?_, ?_⟩
        · obtain ⟨f0, f1, f2, f3, f4, f5, f6, f7⟩ := HF.out _ HC; go_simp <;> rfl
        simp only [Act.put, List.setIfInBounds_toArray, List.set_cons_succ, List.set_cons_zero]
        refine dw_val rfl rfl rfl ?_; apply Exists.intro; refine ⟨fun wv HC => ?_, ?_⟩
        · obtain ⟨f0, f1, f2, f3, f4, f5, f6, f7⟩ := HF.out _ HC; go_simp <;> rfl
        simp only [Act.put, List.setIfInBounds_toArray, List.set_cons_succ, List.set_cons_zero]
        refine dw_val rfl rfl rfl ?_; apply Exists.intro; refine ⟨fun wv HC => ?_, ?_⟩
        · obtain ⟨f0, f1, f2, f3, f4, f5, f6, f7⟩ := HF.out _ HC; go_simp <;> rfl
        simp only [Act.put, List.setIfInBounds_toArray, List.set_cons_succ, List.set_cons_zero]
        refine dw_val rfl rfl rfl ?_; apply Exists.intro; refine ⟨fun wv HC => ?_, ?_⟩
        · obtain ⟨f0, f1, f2, f3, f4, f5, f6, f7⟩ := HF.out _ HC; go_simp <;> rfl
        simp only [Act.put, List.setIfInBounds_toArray, List.set_cons_succ, List.set_cons_zero]
        refine dw_callR 64 (IsV (.int .i64 (fitsT cs x.vs))) (f := 84) (args := #[.agg #[.string nm, .slice A n c], .slice x.A x.n x.c]) rfl rfl rfl rfl (fun wv => ?_) (fun wv HC hrm hD => ?_) ?_
        · go_simp <;> rfl
        · refine (rtfits_any _ _ HC.mutLt nm A n c cs x.A x.n x.c x.vs ((HKL.out wv HC).1) ((HKL.out wv HC).2) hn hxn hrok.vs).mono ?_
          rintro e w5 ⟨rfl, b5⟩
          exact ⟨_, rfl, rfl, HC.call b5, RM.below b5⟩
        rintro u wx HCx hu
        obtain rfl : u = _ := hu
        clear HCx
        simp only [Act.put, List.setIfInBounds_toArray, List.set_cons_succ, List.set_cons_zero]
        refine dw_val rfl rfl rfl ?_; apply Exists.intro; refine ⟨fun wv HC => ?_, ?_⟩
        · obtain ⟨f0, f1, f2, f3, f4, f5, f6, f7⟩ := HF.out _ HC; go_simp <;> rfl
        simp only [Act.put, List.setIfInBounds_toArray, List.set_cons_succ, List.set_cons_zero]
        refine rel_nil ?_
        rintro wx2 HX2
        rintro _hrm _HG
        rw [HKE.out] at HX2
        clear _hrm _HG
        by_cases a3 : fitsT cs x.vs = 0
        · have HS2 := hid (show okR cs nx 0 (l.map Rw.row) = okR cs nx x.id ((l.map Rw.row).drop (j + 1)) by rw [HS.out]; exact okR_good HX.out (by have := HL0.out; have := HA.out; omega) (by have := HA.out; omega) a3)
          have HP2 := hid (show (j + 1 = 0 → x.id = 0) ∧ ∀ q, j + 1 = q + 1 → ∃ r : Rw, l[q]? = some r ∧ r.id = x.id from ⟨fun h => by omega, fun q hq => ⟨x, (show j = q by omega) ▸ HXL.out, rfl⟩⟩)
          have h0x : 0 ≤ x.id := by have := HA.out; omega
          rw [a3]
          clear a3
          go_wp2_with fail
          go_roundw
          case rel => exact ⟨j + 1, x.id, by omega, by go_num, h0x, HP2, HS2, HX2.drop (List.sublist_cons_self _ _)⟩
          case measure => simp [intOf]; omega
        · have a3d : (fitsT cs x.vs != 0) = true := by simp [a3]
          have HN := hid (show tabB nm cs nx (l.map Rw.row) = false from tabB_5 (by rw [HS.out]; exact okR_bad HX.out (.inr (.inr a3))))
          clear a3
          go_wp2_with fail
          go_ret
          exact ⟨by rw [HN.out] <;> rfl, HX2.below⟩
      · obtain ⟨p, hp⟩ : ∃ p, j = p + 1 := ⟨j - 1, by omega⟩
        obtain ⟨r, hr, hrl⟩ := HP.out.2 p hp
        have HR := hid hr
        have HRL := hid hrl
        clear hr hrl
        have hj0d : decide ((j : Int) > 0) = true := by simp; omega
        have hj0d2 : decide (0 < j) = true := by simp; omega
        have hj0d3 : decide ((0 : Int) < (j : Int)) = true := by simp; omega
        have hw1 : IntKind.i64.wrap ((j : Int) - 1) = (p : Int) := by rw [IntKind.wrap_i64]; omega
        have p0 : (0 : Int) ≤ (p : Int) := by omega
        have p1 : (p : Int) < (m : Int) := by omega
        have hpm : p < m := by omega
        have HPJ := hid hp
        clear hp hj0
        by_cases a4 : r.id ≥ x.id
        · have a4d : decide (r.id ≥ x.id) = true := by simpa using a4
          have HN := hid (show tabB nm cs nx (l.map Rw.row) = false from tabB_5 (by rw [HS.out]; exact okR_bad HX.out (.inl (show x.id ≤ lst by have := HRL.out; omega))))
          clear a4
          obtain ⟨gb, hgb2⟩ : ∃ gb, gb = wr.heap.size := ⟨_, rfl⟩
          obtain ⟨KL, hKL⟩ : ∃ KL : List Hp, KL = [Hp.cst wr.heap.size 61 #[.int .i64 x.id, .slice x.A x.n x.c], .cst w.heap.size 40 #[.string nm, .slice A n c, .int .i64 nx, .slice (some ⟨g, o, none⟩) m d], .ro (SlR 4 A n (colCells cs)), .ro (RwsIn (some ⟨g, o, none⟩) m l)] := ⟨_, rfl⟩
          rw [← hKL] at K2
          rw [← hgb2] at hKL
          have HF : Hid (∀ wv, Hold M none w wv KL → wv.cell? ⟨gb, 0, none⟩ = some (.int .i64 x.id) ∧ wv.cell? ⟨gb, 1, none⟩ = some (.slice x.A x.n x.c) ∧ gb < wv.heap.size ∧ wv.cell? ⟨w.heap.size, 0, none⟩ = some (.string nm) ∧ wv.cell? ⟨w.heap.size, 1, none⟩ = some (.slice A n c) ∧ wv.cell? ⟨w.heap.size, 2, none⟩ = some (.int .i64 nx) ∧ wv.cell? ⟨w.heap.size, 3, none⟩ = some (.slice (some ⟨g, o, none⟩) m d) ∧ w.heap.size < wv.heap.size ∧ wv.cell? ⟨g, o + p * 2, none⟩ = some (.int .i64 r.id) ∧ g < wv.heap.size) := hid fun wv HC => by
            rw [hKL] at HC
            have b0 := HC.cst_ 0 rfl
            have b1 := HC.cst_ 1 rfl
            obtain ⟨g', o', e', hl, e0, e1, _⟩ := (HC.ro 3 rfl).now.at_ HR.out
            obtain ⟨rfl, rfl⟩ : g = g' ∧ o = o' := by injection e' with e'; injection e' with a1 a2; exact ⟨a1, a2⟩
            exact ⟨cell_of_row _ _ 0 _ _ _ b0, cell_of_row _ _ 1 _ _ _ b0, Blk.lt b0, cell_of_row _ _ 0 _ _ _ b1, cell_of_row _ _ 1 _ _ _ b1, cell_of_row _ _ 2 _ _ _ b1, cell_of_row _ _ 3 _ _ _ b1, Blk.lt b1, e0, hl⟩
          have HKL : Hid (∀ wv, Hold M none w wv KL → Ro wv (Mut M KL) (SlR 4 A n (colCells cs)) ∧ Ro wv (Mut M KL) (VlsIn x.A x.n x.vs)) := hid fun wv HC => by
            rw [hKL] at HC ⊢
            exact ⟨HC.ro 2 rfl, (HC.ro 3 rfl).imp fun w2 h2 => h2.2 x HXM.out⟩
          go_wp2_with fail
          rw [← hgb2]
          have HGB := hid hgb2
          have HKE := hid hKL
          clear hgb2 hKL
          generalize wr.alloc (.cells #[.int .i64 x.id, .slice x.A x.n x.c] 61) = w2 at *
          refine wp_region_any (by kernel_rfl) ?_
          refine wpAny_hold 33 71 (KL) (spL []) (by kernel_rfl) (by kernel_rfl) (by kernel_rfl) rfl ?_ (K2.drew) ?_
          · exact stays_nil _
          simp only [List.take_succ_cons, List.take_zero, List.drop_succ_cons, List.drop_zero, Act.put, List.getElem_toArray, List.getElem_cons_zero, List.getElem_cons_succ, List.setIfInBounds_toArray, List.set_cons_succ, List.set_cons_zero]
          refine dw_val rfl rfl rfl ?_; apply Exists.intro; refine ⟨fun wv HC => ?_, ?_⟩
          · obtain ⟨f0, f1, f2, f3, f4, f5, f6, f7, f8, f9⟩ := HF.out _ HC; go_simp <;> rfl
          simp only [Act.put, List.setIfInBounds_toArray, List.set_cons_succ, List.set_cons_zero]
          refine dw_val rfl rfl rfl ?_; apply Exists.intro; refine ⟨fun wv HC => ?_, ?_⟩
          · obtain ⟨f0, f1, f2, f3, f4, f5, f6, f7, f8, f9⟩ := HF.out _ HC; go_simp <;> rfl
          simp only [Act.put, List.setIfInBounds_toArray, List.set_cons_succ, List.set_cons_zero]
          refine dw_val rfl rfl rfl ?_; apply Exists.intro; refine ⟨fun wv HC => ?_, ?_⟩
          · obtain ⟨f0, f1, f2, f3, f4, f5, f6, f7, f8, f9⟩ := HF.out _ HC; go_simp <;> rfl
          simp only [Act.put, List.setIfInBounds_toArray, List.set_cons_succ, List.set_cons_zero]
          refine dw_val rfl rfl rfl ?_; apply Exists.intro; refine ⟨fun wv HC => ?_, ?_⟩
          · obtain ⟨f0, f1, f2, f3, f4, f5, f6, f7, f8, f9⟩ := HF.out _ HC; go_simp <;> rfl
          simp only [Act.put, List.setIfInBounds_toArray, List.set_cons_succ, List.set_cons_zero]
          refine dw_val rfl rfl rfl ?_; apply Exists.intro; refine ⟨fun wv HC => ?_, ?_⟩
          · obtain ⟨f0, f1, f2, f3, f4, f5, f6, f7, f8, f9⟩ := HF.out _ HC; go_simp <;> rfl
          simp only [Act.put, List.setIfInBounds_toArray, List.set_cons_succ, List.set_cons_zero]
          refine dw_val rfl rfl rfl ?_; apply Exists.intro; refine ⟨fun wv HC => ?_, ?_⟩
          · obtain ⟨f0, f1, f2, f3, f4, f5, f6, f7, f8, f9⟩ := HF.out _ HC; go_simp <;> rfl
          simp only [Act.put, List.setIfInBounds_toArray, List.set_cons_succ, List.set_cons_zero]
          refine dw_val rfl rfl rfl ?_; apply Exists.intro; refine ⟨fun wv HC => ?_, ?_⟩
          · obtain ⟨f0, f1, f2, f3, f4, f5, f6, f7, f8, f9⟩ := HF.out _ HC; go_simp <;> rfl
          simp only [Act.put, List.setIfInBounds_toArray, List.set_cons_succ, List.set_cons_zero]
          refine dw_val rfl rfl rfl ?_; apply Exists.intro; refine ⟨fun wv HC => ?_, ?_⟩
          · obtain ⟨f0, f1, f2, f3, f4, f5, f6, f7, f8, f9⟩ := HF.out _ HC; go_simp <;> rfl
          simp only [Act.put, List.setIfInBounds_toArray, List.set_cons_succ, List.set_cons_zero]
          refine dw_val rfl rfl rfl ?_; apply Exists.intro; refine ⟨fun wv HC => ?_, ?_⟩
          · obtain ⟨f0, f1, f2, f3, f4, f5, f6, f7, f8, f9⟩ := HF.out _ HC; go_simp <;> rfl
          simp only [Act.put, List.setIfInBounds_toArray, List.set_cons_succ, List.set_cons_zero]
          refine dw_val rfl rfl rfl ?_; apply Exists.intro; refine ⟨fun wv HC => ?_, ?_⟩
          · obtain ⟨f0, f1, f2, f3, f4, f5, f6, f7, f8, f9⟩ := HF.out _ HC; go_simp <;> rfl
          simp only [Act.put, List.setIfInBounds_toArray, List.set_cons_succ, List.set_cons_zero]
          refine dw_val rfl rfl rfl ?_; apply Exists.intro; refine ⟨fun wv HC => ?_, ?_⟩
          · obtain ⟨f0, f1, f2, f3, f4, f5, f6, f7, f8, f9⟩ := HF.out _ HC; go_simp <;> rfl
          simp only [Act.put, List.setIfInBounds_toArray, List.set_cons_succ, List.set_cons_zero]
          refine dw_val rfl rfl rfl ?_; apply Exists.intro; refine ⟨fun wv HC => ?_, ?_⟩
          · obtain ⟨f0, f1, f2, f3, f4, f5, f6, f7, f8, f9⟩ := HF.out _ HC; go_simp <;> rfl
          simp only [Act.put, List.setIfInBounds_toArray, List.set_cons_succ, List.set_cons_zero]
          refine dw_val rfl rfl rfl ?_; apply Exists.intro; refine ⟨fun wv HC => ?_, ?_⟩
          · obtain ⟨f0, f1, f2, f3, f4, f5, f6, f7, f8, f9⟩ := HF.out _ HC; go_simp <;> rfl
          simp only [Act.put, List.setIfInBounds_toArray, List.set_cons_succ, List.set_cons_zero]
          refine dw_val rfl rfl rfl ?_; apply Exists.intro; refine ⟨fun wv HC => ?_, ?_⟩
          · obtain ⟨f0, f1, f2, f3, f4, f5, f6, f7, f8, f9⟩ := HF.out _ HC; go_simp <;> rfl
          simp only [Act.put, List.setIfInBounds_toArray, List.set_cons_succ, List.set_cons_zero]
          refine dw_val rfl rfl rfl ?_; apply Exists.intro; refine ⟨fun wv HC => ?_, ?_⟩
          · obtain ⟨f0, f1, f2, f3, f4, f5, f6, f7, f8, f9⟩ := HF.out _ HC; go_simp <;> rfl
          simp only [Act.put, List.setIfInBounds_toArray, List.set_cons_succ, List.set_cons_zero]
          refine dw_val rfl rfl rfl ?_; apply Exists.intro; refine ⟨fun wv HC => ?_, ?_⟩
          · obtain ⟨f0, f1, f2, f3, f4, f5, f6, f7, f8, f9⟩ := HF.out _ HC; go_simp <;> rfl
          simp only [Act.put, List.setIfInBounds_toArray, List.set_cons_succ, List.set_cons_zero]
          refine dw_val rfl rfl rfl ?_; apply Exists.intro; refine ⟨fun wv HC => ?_, ?_⟩
          · obtain ⟨f0, f1, f2, f3, f4, f5, f6, f7, f8, f9⟩ := HF.out _ HC; go_simp <;> rfl
          simp only [Act.put, List.setIfInBounds_toArray, List.set_cons_succ, List.set_cons_zero]
          refine dw_val rfl rfl rfl ?_; apply Exists.intro; refine ⟨fun wv HC => ?_, ?_⟩
          · obtain ⟨f0, f1, f2, f3, f4, f5, f6, f7, f8, f9⟩ := HF.out _ HC; go_simp <;> rfl
          simp only [Act.put, List.setIfInBounds_toArray, List.set_cons_succ, List.set_cons_zero]
          refine dw_val rfl rfl rfl ?_; apply Exists.intro; refine ⟨fun wv HC => ?_, ?_⟩
          · obtain ⟨f0, f1, f2, f3, f4, f5, f6, f7, f8, f9⟩ := HF.out _ HC; go_simp <;> rfl
          simp only [Act.put, List.setIfInBounds_toArray, List.set_cons_succ, List.set_cons_zero]
          refine dw_val rfl rfl rfl ?_; apply Exists.intro; refine ⟨fun wv HC => ?_, ?_⟩
          · obtain ⟨f0, f1, f2, f3, f4, f5, f6, f7, f8, f9⟩ := HF.out _ HC; go_simp <;> rfl
          simp only [Act.put, List.setIfInBounds_toArray, List.set_cons_succ, List.set_cons_zero]
          refine dw_val rfl rfl rfl ?_; apply Exists.intro; refine ⟨fun wv HC => ?_, ?_⟩
          · obtain ⟨f0, f1, f2, f3, f4, f5, f6, f7, f8, f9⟩ := HF.out _ HC; go_simp <;> rfl
          simp only [Act.put, List.setIfInBounds_toArray, List.set_cons_succ, List.set_cons_zero]
          refine dw_val rfl rfl rfl ?_; apply Exists.intro; refine ⟨fun wv HC => ?_, ?_⟩
          · obtain ⟨f0, f1, f2, f3, f4, f5, f6, f7, f8, f9⟩ := HF.out _ HC; go_simp <;> rfl
          simp only [Act.put, List.setIfInBounds_toArray, List.set_cons_succ, List.set_cons_zero]
          refine dw_val rfl rfl rfl ?_; apply Exists.intro; refine ⟨fun wv HC => ?_, ?_⟩
          · obtain ⟨f0, f1, f2, f3, f4, f5, f6, f7, f8, f9⟩ := HF.out _ HC; go_simp <;> rfl
          simp only [Act.put, List.setIfInBounds_toArray, List.set_cons_succ, List.set_cons_zero]
          refine dw_val rfl rfl rfl ?_; apply Exists.intro; refine ⟨fun wv HC => ?_, ?_⟩
          · obtain ⟨f0, f1, f2, f3, f4, f5, f6, f7, f8, f9⟩ := HF.out _ HC; go_simp <;> rfl
          simp only [Act.put, List.setIfInBounds_toArray, List.set_cons_succ, List.set_cons_zero]
          refine dw_val rfl rfl rfl ?_; apply Exists.intro; refine ⟨fun wv HC => ?_, ?_⟩
          · obtain ⟨f0, f1, f2, f3, f4, f5, f6, f7, f8, f9⟩ := HF.out _ HC; go_simp <;> rfl
          simp only [Act.put, List.setIfInBounds_toArray, List.set_cons_succ, List.set_cons_zero]
          refine dw_val rfl rfl rfl ?_; apply Exists.intro; refine ⟨fun wv HC => ?_, ?_⟩
          · obtain ⟨f0, f1, f2, f3, f4, f5, f6, f7, f8, f9⟩ := HF.out _ HC; go_simp <;> rfl
          simp only [Act.put, List.setIfInBounds_toArray, List.set_cons_succ, List.set_cons_zero]
          refine dw_val rfl rfl rfl ?_; apply Exists.intro; refine ⟨fun wv HC => ?_, ?_⟩
          · obtain ⟨f0, f1, f2, f3, f4, f5, f6, f7, f8, f9⟩ := HF.out _ HC; go_simp <;> rfl
          simp only [Act.put, List.setIfInBounds_toArray, List.set_cons_succ, List.set_cons_zero]
          refine dw_skip rfl rfl rfl ?_
          simp only [Act.put, List.setIfInBounds_toArray, List.set_cons_succ, List.set_cons_zero]
          refine dw_skip rfl rfl rfl ?_
          simp only [Act.put, List.setIfInBounds_toArray, List.set_cons_succ, List.set_cons_zero]
          refine dw_skip rfl rfl rfl ?_
          simp only [Act.put, List.setIfInBounds_toArray, List.set_cons_succ, List.set_cons_zero]
          refine dw_skip rfl rfl rfl ?_
          simp only [Act.put, List.setIfInBounds_toArray, List.set_cons_succ, List.set_cons_zero]
          refine dw_skip rfl rfl rfl ?_
          simp only [Act.put, List.setIfInBounds_toArray, List.set_cons_succ, List.set_cons_zero]
          refine dw_skip rfl rfl rfl ?_
          simp only [Act.put, List.setIfInBounds_toArray, List.set_cons_succ, List.set_cons_zero]
          refine rel_nil ?_
          rintro wx2 HX2
          rintro _hrm _HG
          rw [HKE.out] at HX2
          clear _hrm _HG
          go_wp2_with fail
          go_ret
          exact ⟨by rw [HN.out] <;> rfl, HX2.below⟩
        · have a4d : decide (r.id ≥ x.id) = false := by simpa using a4
          have HA4 := hid a4
          clear a4
          obtain ⟨gb, hgb2⟩ : ∃ gb, gb = wr.heap.size := ⟨_, rfl⟩
          obtain ⟨KL, hKL⟩ : ∃ KL : List Hp, KL = [Hp.cst wr.heap.size 61 #[.int .i64 x.id, .slice x.A x.n x.c], .cst w.heap.size 40 #[.string nm, .slice A n c, .int .i64 nx, .slice (some ⟨g, o, none⟩) m d], .ro (SlR 4 A n (colCells cs)), .ro (RwsIn (some ⟨g, o, none⟩) m l)] := ⟨_, rfl⟩
          rw [← hKL] at K2
          rw [← hgb2] at hKL
          have HF : Hid (∀ wv, Hold M none w wv KL → wv.cell? ⟨gb, 0, none⟩ = some (.int .i64 x.id) ∧ wv.cell? ⟨gb, 1, none⟩ = some (.slice x.A x.n x.c) ∧ gb < wv.heap.size ∧ wv.cell? ⟨w.heap.size, 0, none⟩ = some (.string nm) ∧ wv.cell? ⟨w.heap.size, 1, none⟩ = some (.slice A n c) ∧ wv.cell? ⟨w.heap.size, 2, none⟩ = some (.int .i64 nx) ∧ wv.cell? ⟨w.heap.size, 3, none⟩ = some (.slice (some ⟨g, o, none⟩) m d) ∧ w.heap.size < wv.heap.size ∧ wv.cell? ⟨g, o + p * 2, none⟩ = some (.int .i64 r.id) ∧ g < wv.heap.size) := hid fun wv HC => by
            rw [hKL] at HC
            have b0 := HC.cst_ 0 rfl
            have b1 := HC.cst_ 1 rfl
            obtain ⟨g', o', e', hl, e0, e1, _⟩ := (HC.ro 3 rfl).now.at_ HR.out
            obtain ⟨rfl, rfl⟩ : g = g' ∧ o = o' := by injection e' with e'; injection e' with a1 a2; exact ⟨a1, a2⟩
            exact ⟨cell_of_row _ _ 0 _ _ _ b0, cell_of_row _ _ 1 _ _ _ b0, Blk.lt b0, cell_of_row _ _ 0 _ _ _ b1, cell_of_row _ _ 1 _ _ _ b1, cell_of_row _ _ 2 _ _ _ b1, cell_of_row _ _ 3 _ _ _ b1, Blk.lt b1, e0, hl⟩
          have HKL : Hid (∀ wv, Hold M none w wv KL → Ro wv (Mut M KL) (SlR 4 A n (colCells cs)) ∧ Ro wv (Mut M KL) (VlsIn x.A x.n x.vs)) := hid fun wv HC => by
            rw [hKL] at HC ⊢
            exact ⟨HC.ro 2 rfl, (HC.ro 3 rfl).imp fun w2 h2 => h2.2 x HXM.out⟩
          go_wp2_with fail
          rw [← hgb2]
          have HGB := hid hgb2
          have HKE := hid hKL
          clear hgb2 hKL
          generalize wr.alloc (.cells #[.int .i64 x.id, .slice x.A x.n x.c] 61) = w2 at *
          refine wp_region_any (by kernel_rfl) ?_
          refine wpAny_hold 33 71 (KL) (spL [(64, IsV (.int .i64 (fitsT cs x.vs)))]) (by kernel_rfl) (by kernel_rfl) (by kernel_rfl) rfl ?_ (K2.drew) ?_
          · exact stays_cons isV_mono (stays_nil _)
          simp only [List.take_succ_cons, List.take_zero, List.drop_succ_cons, List.drop_zero, Act.put, List.getElem_toArray, List.getElem_cons_zero, List.getElem_cons_succ, List.setIfInBounds_toArray, List.set_cons_succ, List.set_cons_zero]
          refine dw_val rfl rfl rfl ?_; apply Exists.intro; refine ⟨fun wv HC => ?_, ?_⟩
          · obtain ⟨f0, f1, f2, f3, f4, f5, f6, f7, f8, f9⟩ := HF.out _ HC; go_simp <;> rfl
          simp only [Act.put, List.setIfInBounds_toArray, List.set_cons_succ, List.set_cons_zero]
          refine dw_val rfl rfl rfl ?_; apply Exists.intro; refine ⟨fun wv HC => ?_, ?_⟩
          · obtain ⟨f0, f1, f2, f3, f4, f5, f6, f7, f8, f9⟩ := HF.out _ HC; go_simp <;> rfl
          simp only [Act.put, List.setIfInBounds_toArray, List.set_cons_succ, List.set_cons_zero]
          refine dw_val rfl rfl rfl ?_; apply Exists.intro; refine ⟨fun wv HC => ?_, ?_⟩
          · obtain ⟨f0, f1, f2, f3, f4, f5, f6, f7, f8, f9⟩ := HF.out _ HC; go_simp <;> rfl
          simp only [Act.put, List.setIfInBounds_toArray, List.set_cons_succ, List.set_cons_zero]
          refine dw_val rfl rfl rfl ?_; apply Exists.intro; refine ⟨fun wv HC => ?_, ?_⟩
          · obtain ⟨f0, f1, f2, f3, f4, f5, f6, f7, f8, f9⟩ := HF.out _ HC; go_simp <;> rfl
          simp only [Act.put, List.setIfInBounds_toArray, List.set_cons_succ, List.set_cons_zero]
          refine dw_val rfl rfl rfl ?_; apply Exists.intro; refine ⟨fun wv HC => ?_, ?_⟩
          · obtain ⟨f0, f1, f2, f3, f4, f5, f6, f7, f8, f9⟩ := HF.out _ HC; go_simp <;> rfl
          simp only [Act.put, List.setIfInBounds_toArray, List.set_cons_succ, List.set_cons_zero]
          refine dw_val rfl rfl rfl ?_; apply Exists.intro; refine ⟨fun wv HC => ?_, ?_⟩
          · obtain ⟨f0, f1, f2, f3, f4, f5, f6, f7, f8, f9⟩ := HF.out _ HC; go_simp <;> rfl
          simp only [Act.put, List.setIfInBounds_toArray, List.set_cons_succ, List.set_cons_zero]
          refine dw_val rfl rfl rfl ?_; apply Exists.intro; refine ⟨fun wv HC => ?_, ?_⟩
          · obtain ⟨f0, f1, f2, f3, f4, f5, f6, f7, f8, f9⟩ := HF.out _ HC; go_simp <;> rfl
          simp only [Act.put, List.setIfInBounds_toArray, List.set_cons_succ, List.set_cons_zero]
          refine dw_val rfl rfl rfl ?_; apply Exists.intro; refine ⟨fun wv HC => ?_, ?_⟩
          · obtain ⟨f0, f1, f2, f3, f4, f5, f6, f7, f8, f9⟩ := HF.out _ HC; go_simp <;> rfl
          simp only [Act.put, List.setIfInBounds_toArray, List.set_cons_succ, List.set_cons_zero]
          refine dw_val rfl rfl rfl ?_; apply Exists.intro; refine ⟨fun wv HC => ?_, ?_⟩
          · obtain ⟨f0, f1, f2, f3, f4, f5, f6, f7, f8, f9⟩ := HF.out _ HC; go_simp <;> rfl
          simp only [Act.put, List.setIfInBounds_toArray, List.set_cons_succ, List.set_cons_zero]
          refine dw_val rfl rfl rfl ?_; apply Exists.intro; refine ⟨fun wv HC => ?_, ?_⟩
          · obtain ⟨f0, f1, f2, f3, f4, f5, f6, f7, f8, f9⟩ := HF.out _ HC; go_simp <;> rfl
          simp only [Act.put, List.setIfInBounds_toArray, List.set_cons_succ, List.set_cons_zero]
          refine dw_val rfl rfl rfl ?_; apply Exists.intro; refine ⟨fun wv HC => ?_, ?_⟩
          · obtain ⟨f0, f1, f2, f3, f4, f5, f6, f7, f8, f9⟩ := HF.out _ HC; go_simp <;> rfl
          simp only [Act.put, List.setIfInBounds_toArray, List.set_cons_succ, List.set_cons_zero]
          refine dw_val rfl rfl rfl ?_; apply Exists.intro; refine ⟨fun wv HC => ?_, ?_⟩
          · obtain ⟨f0, f1, f2, f3, f4, f5, f6, f7, f8, f9⟩ := HF.out _ HC; go_simp <;> rfl
          simp only [Act.put, List.setIfInBounds_toArray, List.set_cons_succ, List.set_cons_zero]
          refine dw_val rfl rfl rfl ?_; apply Exists.intro; refine ⟨fun wv HC => ?_, ?_⟩
          · obtain ⟨f0, f1, f2, f3, f4, f5, f6, f7, f8, f9⟩ := HF.out _ HC; go_simp <;> rfl
          simp only [Act.put, List.setIfInBounds_toArray, List.set_cons_succ, List.set_cons_zero]
          refine dw_val rfl rfl rfl ?_; apply Exists.intro; refine ⟨fun wv HC => ?_, ?_⟩
          · obtain ⟨f0, f1, f2, f3, f4, f5, f6, f7, f8, f9⟩ := HF.out _ HC; go_simp <;> rfl
          simp only [Act.put, List.setIfInBounds_toArray, List.set_cons_succ, List.set_cons_zero]
          refine dw_val rfl rfl rfl ?_; apply Exists.intro; refine ⟨fun wv HC => ?_, ?_⟩
          · obtain ⟨f0, f1, f2, f3, f4, f5, f6, f7, f8, f9⟩ := HF.out _ HC; go_simp <;> rfl
          simp only [Act.put, List.setIfInBounds_toArray, List.set_cons_succ, List.set_cons_zero]
          refine dw_val rfl rfl rfl ?_; apply Exists.intro; refine ⟨fun wv HC => ?_, ?_⟩
          · obtain ⟨f0, f1, f2, f3, f4, f5, f6, f7, f8, f9⟩ := HF.out _ HC; go_simp <;> rfl
          simp only [Act.put, List.setIfInBounds_toArray, List.set_cons_succ, List.set_cons_zero]
          refine dw_val rfl rfl rfl ?_; apply Exists.intro; refine ⟨fun wv HC => ?_, ?_⟩
          · obtain ⟨f0, f1, f2, f3, f4, f5, f6, f7, f8, f9⟩ := HF.out _ HC; go_simp <;> rfl
          simp only [Act.put, List.setIfInBounds_toArray, List.set_cons_succ, List.set_cons_zero]
          refine dw_val rfl rfl rfl ?_; apply Exists.intro; refine ⟨fun wv HC => ?_, ?_⟩
          · obtain ⟨f0, f1, f2, f3, f4, f5, f6, f7, f8, f9⟩ := HF.out _ HC; go_simp <;> rfl
          simp only [Act.put, List.setIfInBounds_toArray, List.set_cons_succ, List.set_cons_zero]
          refine dw_val rfl rfl rfl ?_; apply Exists.intro; refine ⟨fun wv HC => ?_, ?_⟩
          · obtain ⟨f0, f1, f2, f3, f4, f5, f6, f7, f8, f9⟩ := HF.out _ HC; go_simp <;> rfl
          simp only [Act.put, List.setIfInBounds_toArray, List.set_cons_succ, List.set_cons_zero]
          refine dw_val rfl rfl rfl ?_; apply Exists.intro; refine ⟨fun wv HC => ?_, ?_⟩
          · obtain ⟨f0, f1, f2, f3, f4, f5, f6, f7, f8, f9⟩ := HF.out _ HC; go_simp <;> rfl
          simp only [Act.put, List.setIfInBounds_toArray, List.set_cons_succ, List.set_cons_zero]
          refine dw_val rfl rfl rfl ?_; apply Exists.intro; refine ⟨fun wv HC => ?_, ?_⟩
          · obtain ⟨f0, f1, f2, f3, f4, f5, f6, f7, f8, f9⟩ := HF.out _ HC; go_simp <;> rfl
          simp only [Act.put, List.setIfInBounds_toArray, List.set_cons_succ, List.set_cons_zero]
          refine dw_val rfl rfl rfl ?_; apply Exists.intro; refine ⟨fun wv HC => ?_, ?_⟩
          · obtain ⟨f0, f1, f2, f3, f4, f5, f6, f7, f8, f9⟩ := HF.out _ HC; go_simp <;> rfl
          simp only [Act.put, List.setIfInBounds_toArray, List.set_cons_succ, List.set_cons_zero]
          refine dw_val rfl rfl rfl ?_; apply Exists.intro; refine ⟨fun wv HC => ?_, ?_⟩
          · obtain ⟨f0, f1, f2, f3, f4, f5, f6, f7, f8, f9⟩ := HF.out _ HC; go_simp <;> rfl
          simp only [Act.put, List.setIfInBounds_toArray, List.set_cons_succ, List.set_cons_zero]
          refine dw_val rfl rfl rfl ?_; apply Exists.intro; refine ⟨fun wv HC => ?_, ?_⟩
          · obtain ⟨f0, f1, f2, f3, f4, f5, f6, f7, f8, f9⟩ := HF.out _ HC; go_simp <;> rfl
          simp only [Act.put, List.setIfInBounds_toArray, List.set_cons_succ, List.set_cons_zero]
          refine dw_val rfl rfl rfl ?_; apply Exists.intro; refine ⟨fun wv HC => ?_, ?_⟩
          · obtain ⟨f0, f1, f2, f3, f4, f5, f6, f7, f8, f9⟩ := HF.out _ HC; go_simp <;> rfl
          simp only [Act.put, List.setIfInBounds_toArray, List.set_cons_succ, List.set_cons_zero]
          refine dw_val rfl rfl rfl ?_; apply Exists.intro; refine ⟨fun wv HC => ?_, ?_⟩
          · obtain ⟨f0, f1, f2, f3, f4, f5, f6, f7, f8, f9⟩ := HF.out _ HC; go_simp <;> rfl
          simp only [Act.put, List.setIfInBounds_toArray, List.set_cons_succ, List.set_cons_zero]
          refine dw_val rfl rfl rfl ?_; apply Exists.intro; refine ⟨fun wv HC => ?_, ?_⟩
          · obtain ⟨f0, f1, f2, f3, f4, f5, f6, f7, f8, f9⟩ := HF.out _ HC; go_simp <;> rfl
          simp only [Act.put, List.setIfInBounds_toArray, List.set_cons_succ, List.set_cons_zero]
          refine dw_val rfl rfl rfl ?_; apply Exists.intro; refine ⟨fun wv HC => ?_, ?_⟩
          · obtain ⟨f0, f1, f2, f3, f4, f5, f6, f7, f8, f9⟩ := HF.out _ HC; go_simp <;> rfl
          simp only [Act.put, List.setIfInBounds_toArray, List.set_cons_succ, List.set_cons_zero]
          refine dw_val rfl rfl rfl ?_; apply Exists.intro; refine ⟨fun wv HC => ?_, ?_⟩
          · obtain ⟨f0, f1, f2, f3, f4, f5, f6, f7, f8, f9⟩ := HF.out _ HC; go_simp <;> rfl
          simp only [Act.put, List.setIfInBounds_toArray, List.set_cons_succ, List.set_cons_zero]
          refine dw_val rfl rfl rfl ?_; apply Exists.intro; refine ⟨fun wv HC => ?_, ?_⟩
          · obtain ⟨f0, f1, f2, f3, f4, f5, f6, f7, f8, f9⟩ := HF.out _ HC; go_simp <;> rfl
          simp only [Act.put, List.setIfInBounds_toArray, List.set_cons_succ, List.set_cons_zero]
          refine dw_val rfl rfl rfl ?_; apply Exists.intro; refine ⟨fun wv HC => ?_, ?_⟩
          · obtain ⟨f0, f1, f2, f3, f4, f5, f6, f7, f8, f9⟩ := HF.out _ HC; go_simp <;> rfl
          simp only [Act.put, List.setIfInBounds_toArray, List.set_cons_succ, List.set_cons_zero]
          refine dw_callR 64 (IsV (.int .i64 (fitsT cs x.vs))) (f := 84) (args := #[.agg #[.string nm, .slice A n c], .slice x.A x.n x.c]) rfl rfl rfl rfl (fun wv => ?_) (fun wv HC hrm hD => ?_) ?_
          · go_simp <;> rfl
          · refine (rtfits_any _ _ HC.mutLt nm A n c cs x.A x.n x.c x.vs ((HKL.out wv HC).1) ((HKL.out wv HC).2) hn hxn hrok.vs).mono ?_
            rintro e w5 ⟨rfl, b5⟩
            exact ⟨_, rfl, rfl, HC.call b5, RM.below b5⟩
          rintro u wx HCx hu
          obtain rfl : u = _ := hu
          clear HCx
          simp only [Act.put, List.setIfInBounds_toArray, List.set_cons_succ, List.set_cons_zero]
          refine dw_val rfl rfl rfl ?_; apply Exists.intro; refine ⟨fun wv HC => ?_, ?_⟩
          · obtain ⟨f0, f1, f2, f3, f4, f5, f6, f7, f8, f9⟩ := HF.out _ HC; go_simp <;> rfl
          simp only [Act.put, List.setIfInBounds_toArray, List.set_cons_succ, List.set_cons_zero]
          refine rel_nil ?_
          rintro wx2 HX2
          rintro _hrm _HG
          rw [HKE.out] at HX2
          clear _hrm _HG
          by_cases a3 : fitsT cs x.vs = 0
          · have HS2 := hid (show okR cs nx 0 (l.map Rw.row) = okR cs nx x.id ((l.map Rw.row).drop (j + 1)) by rw [HS.out]; exact okR_good HX.out (by have := HA4.out; have := HRL.out; omega) (by have := HA.out; omega) a3)
            have HP2 := hid (show (j + 1 = 0 → x.id = 0) ∧ ∀ q, j + 1 = q + 1 → ∃ r : Rw, l[q]? = some r ∧ r.id = x.id from ⟨fun h => by omega, fun q hq => ⟨x, (show j = q by omega) ▸ HXL.out, rfl⟩⟩)
            have h0x : 0 ≤ x.id := by have := HA.out; omega
            rw [a3]
            clear a3
            go_wp2_with fail
            go_roundw
            case rel => exact ⟨j + 1, x.id, by omega, by go_num, h0x, HP2, HS2, HX2.drop (List.sublist_cons_self _ _)⟩
            case measure => simp [intOf]; omega
          · have a3d : (fitsT cs x.vs != 0) = true := by simp [a3]
            have HN := hid (show tabB nm cs nx (l.map Rw.row) = false from tabB_5 (by rw [HS.out]; exact okR_bad HX.out (.inr (.inr a3))))
            clear a3
            go_wp2_with fail
            go_ret
            exact ⟨by rw [HN.out] <;> rfl, HX2.below⟩
    · obtain rfl : j = m := by omega
      have hdd : decide ((j : Int) < (j : Int)) = false := by simp
      have HN := hid (show tabB nm cs nx (l.map Rw.row) = !dupB cs (l.map Rw.row) from tabB_6 HSB.out (by rw [HML.out]; omega) (by omega) (by omega) (by rw [HS.out]; exact okR_end (by rw [HML.out]; exact Nat.le_refl _)))
      have F3 := H.facts
      simp only [World.size_alloc, World.size_drew, factsL, cellsF, Nat.reduceAdd, List.toList_toArray, List.set_cons_zero, List.set_cons_succ, List.setIfInBounds_toArray, and_true, true_and] at F3
      go_wp2_with fail
      refine (rdup_any _ _ H.mutLt nm A n c cs nx B j d l (H.ro 1 rfl) (H.ro 2 rfl) hn hm hok).mono ?_
      rintro e w3 ⟨rfl, b3⟩
      have K3 := H.call b3
      go_wp2_with fail
      go_ret
      exact ⟨by rw [HN.out] <;> rfl, K3.below⟩
end Go.Proofs.YtljmclbedpceoaaDoor

namespace Go.Proofs.YtljmclbedpceoaaDoor
open Go.RowKit
set_option linter.unusedVariables false
set_option linter.unusedSimpArgs false

def Tryd.lays106_ren : Go.Shelf.Ren := ⟨fun | 106 => 83 | 213 => 122 | 265 => 137 | n => n, fun | 9 => 9 | 3 => 3 | n => n, fun | n => n⟩
theorem Tryd.lays106 : Go.Proofs.Lays.n106 Tryd.prog Tryd.lays106_ren := {
  mixed := by kernel_rfl
  f106 := Tryd.func83.trans (congrArg some (by kernel_rfl))
  f213 := Tryd.func122.trans (congrArg some (by kernel_rfl))
  f265 := Tryd.func137.trans (congrArg some (by kernel_rfl))
  t3 := Tryd.underlying3
  a3 := Tryd.isAgg3
  z3 := Tryd.sizeOf3
  v3 := Tryd.zeroValue3
  t9 := Tryd.underlying9
  a9 := Tryd.isAgg9
  z9 := Tryd.sizeOf9
  v9 := Tryd.zeroValue9 }
theorem cb_zero : ∀ x y : List UInt8, Lib.compareBytes x y = 0 ↔ x = y
  | [], [] => by simp [Lib.compareBytes]
  | [], b :: y => by simp [Lib.compareBytes]
  | a :: x, [] => by simp [Lib.compareBytes]
  | a :: x, b :: y => by
    simp only [Lib.compareBytes]
    by_cases h1 : a < b
    · have hne : a ≠ b := by
        rintro rfl
        have h' : a.toNat < a.toNat := h1
        omega
      simp [h1, hne]
    · by_cases h2 : b < a
      · have hne : a ≠ b := by
          rintro rfl
          exact h1 h2
        simp [h1, h2, hne]
      · have he : a = b := by
          have h1' : ¬ a.toNat < b.toNat := h1
          have h2' : ¬ b.toNat < a.toNat := h2
          exact UInt8.toNat_inj.1 (by omega)
        subst he
        have := cb_zero x y
        simp [h1, this]
/-- a number that is 0 just if p -/
def CmpIs (p : Prop) (e : Ending) : Prop := ∃ r : Int, e = .returned (.int .i64 r) ∧ (r = 0 ↔ p)
theorem scmp_any (a b : ByteArray) (w : World) : Calls Tryd.prog 83 #[.string a, .string b] w fun e w' => CmpIs (a = b) e ∧ w = w' := by
  have h := Any.strings_Compare Tryd.lays106 a b w
  change Calls Tryd.prog 83 _ _ _ at h
  refine h.mono ?_
  rintro e w' ⟨rfl, rfl⟩
  refine ⟨⟨_, rfl, ?_⟩, rfl⟩
  rw [cb_zero]
  exact ⟨fun h => bytesEq (by rw [ByteArray.toList_eq, ByteArray.toList_eq]; exact h), fun h => by rw [h]⟩
set_option maxHeartbeats 1000000 in
theorem rcompare_any (x y : Vl) (w : World) : Calls Tryd.prog 48 #[.agg #[.int .i64 x.k, .int .i64 x.i, .string x.s], .agg #[.int .i64 y.k, .int .i64 y.i, .string y.s]] w fun e w' => CmpIs (x = y) e ∧ Below w.heap.size w w' := by
  obtain ⟨xk, xi, xs⟩ := x
  obtain ⟨yk, yi, ys⟩ := y
  dsimp only
  have K0 := ((Hold.begin_ w).alloc_cst #[.int .i64 xk, .int .i64 xi, .string xs] 66).alloc_cst #[.int .i64 yk, .int .i64 yi, .string ys] 66
  rw [World.size_alloc] at K0
  have F0 := K0.facts
  simp only [World.size_alloc, World.size_drew, factsL, cellsF, Nat.reduceAdd, List.toList_toArray, List.set_cons_zero, List.set_cons_succ, List.setIfInBounds_toArray, and_true, true_and] at F0
  by_cases hk : xk = yk
  · subst hk
    have hb : (xk != xk) = false := by simp
    by_cases hi : xi = yi
    · subst hi
      have hb2 : (xi != xi) = false := by simp
      go_enter Tryd.func48, Tryd.ntmps48
      go_wp2_with fail
      refine (scmp_any xs ys _).mono ?_
      rintro e w1 ⟨⟨r, rfl, hr⟩, rfl⟩
      have HR := hid hr
      clear hr
      go_wp2_with fail
      go_ret
      refine ⟨⟨r, rfl, ?_⟩, K0.below⟩
      rw [HR.out]; simp
    · have hb2 : (xi != yi) = true := by simpa using hi
      have HI := hid hi
      rcases Int.lt_or_le xi yi with hl | hl
      · have hd : decide (xi < yi) = true := by simpa using hl
        clear hi hl
        go_enter Tryd.func48, Tryd.ntmps48
        go_wp2_with fail
        go_ret
        exact ⟨⟨-1, rfl, by have := HI.out; simp [this]⟩, K0.below⟩
      · have hd : decide (xi < yi) = false := by rw [decide_eq_false_iff_not]; omega
        clear hi hl
        go_enter Tryd.func48, Tryd.ntmps48
        go_wp2_with fail
        go_ret
        exact ⟨⟨1, rfl, by have := HI.out; simp [this]⟩, K0.below⟩
  · have hb : (xk != yk) = true := by simpa using hk
    have HI := hid hk
    rcases Int.lt_or_le xk yk with hl | hl
    · have hd : decide (xk < yk) = true := by simpa using hl
      clear hk hl
      go_enter Tryd.func48, Tryd.ntmps48
      go_wp2_with fail
      go_ret
      exact ⟨⟨-1, rfl, by have := HI.out; simp [this]⟩, K0.below⟩
    · have hd : decide (xk < yk) = false := by rw [decide_eq_false_iff_not]; omega
      clear hk hl
      go_enter Tryd.func48, Tryd.ntmps48
      go_wp2_with fail
      go_ret
      exact ⟨⟨1, rfl, by have := HI.out; simp [this]⟩, K0.below⟩
def CmpSlot (p : Prop) (u : Value) (_ : World) : Prop := ∃ r : Int, u = .int .i64 r ∧ (r = 0 ↔ p)
theorem take_ne {α : Type} {xs ys : List α} {k : Nat} {x y : α} (hx : xs[k]? = some x) (hy : ys[k]? = some y) (h : x ≠ y) : xs ≠ ys := by
  rintro rfl
  rw [hx] at hy
  injection hy with hy
  exact h hy
set_option maxHeartbeats 4000000 in
set_option maxRecDepth 100000 in
theorem rcmprows_any (M : Nat → Prop) (w : World) (hM : ∀ b, M b → b < w.heap.size) (A : Option Addr) (n c : Nat) (xs : List Vl) (B : Option Addr) (m d : Nat) (ys : List Vl) (hD : Ro w M (VlsIn A n xs)) (hE : Ro w M (VlsIn B m ys)) (hn : n ≤ 9223372036854775807) (hm : m ≤ 9223372036854775807) :
    Calls Tryd.prog 12 #[.slice A n c, .slice B m d] w fun e w' => CmpIs (xs = ys) e ∧ Below w.heap.size w w' := by
  have HX := hid hD.now.len
  have HY := hid hE.now.len
  have K0 := ((Hold.start M w hM).add (hE.less (by simp [Mut]))).add (hD.less (by simp [Mut, Hp.foot]))
  clear hD hE
  go_enter Tryd.func12, Tryd.ntmps12
  go_wp2_with fail
  go_loopw [5] (fun iv wr => ∃ k : Nat, k ≤ n ∧ k ≤ m ∧ iv = .int .i64 k ∧ Hid (xs.take k = ys.take k) ∧ Hold M none w wr [.ro (VlsIn A n xs), .ro (VlsIn B m ys)]) (fun iv _ => n - (intOf iv).toNat)
  case atStart => exact ⟨0, by omega, by omega, rfl, hid rfl, K0⟩
  case round =>
    clear K0
    obtain ⟨k, hk, hkm, rfl, HT, H⟩ := hrel
    by_cases hlt : k < n
    · have hd : decide ((k : Int) < (n : Int)) = true := by simp; omega
      by_cases hltm : k < m
      · have hdm : decide ((k : Int) < (m : Int)) = true := by simp; omega
        have k0 : (0 : Int) ≤ (k : Int) := by omega
        have k1 : (k : Int) < (n : Int) := by omega
        have k2 : (k : Int) < (m : Int) := by omega
        obtain ⟨x, hx⟩ := get_of HX.out hlt
        obtain ⟨y, hy⟩ := get_of HY.out hltm
        obtain ⟨b1, o1, rfl, r1⟩ := (H.ro 0 rfl).vlsAt hx
        obtain ⟨b2, o2, rfl, r2⟩ := (H.ro 1 rfl).vlsAt hy
        have HXX := hid hx
        have HYY := hid hy
        clear hx hy
        have K1 := (H.add r1).add (r2.less (mut_none rfl))
        clear r1 r2
        obtain ⟨KL, hKL, K2⟩ := K1.name
        clear K1
        have HF : Hid (∀ wv, Hold M none w wv KL → (b2 < wv.heap.size ∧ wv.cell? ⟨b2, o2 + k * 3, none⟩ = some (.int .i64 y.k) ∧ wv.cell? ⟨b2, o2 + k * 3 + 1, none⟩ = some (.int .i64 y.i) ∧ wv.cell? ⟨b2, o2 + k * 3 + 2, none⟩ = some (.string y.s)) ∧ b1 < wv.heap.size ∧ wv.cell? ⟨b1, o1 + k * 3, none⟩ = some (.int .i64 x.k) ∧ wv.cell? ⟨b1, o1 + k * 3 + 1, none⟩ = some (.int .i64 x.i) ∧ wv.cell? ⟨b1, o1 + k * 3 + 2, none⟩ = some (.string x.s)) := hid fun wv HC => by
          rw [hKL] at HC
          exact ⟨(HC.ro 0 rfl).now, (HC.ro 1 rfl).now⟩
        have HKL := hid hKL
        clear hKL
        go_wp2_with fail
        refine wp_region_any (by kernel_rfl) ?_
        refine wpAny_hold 10 41 (KL) (spL [(27, CmpSlot (x = y))]) (by kernel_rfl) (by kernel_rfl) (by kernel_rfl) rfl ?_ (K2.drew) ?_
        · exact stays_cons (fun _ _ _ _ h => h) (stays_nil _)
        simp only [List.take_succ_cons, List.take_zero, List.drop_succ_cons, List.drop_zero, Act.put, List.getElem_toArray, List.getElem_cons_zero, List.getElem_cons_succ, List.setIfInBounds_toArray, List.set_cons_succ, List.set_cons_zero]
        refine dw_val rfl rfl rfl ?_; apply Exists.intro; refine ⟨fun wv HC => ?_, ?_⟩
        ·  go_simp <;> rfl
        simp only [Act.put, List.setIfInBounds_toArray, List.set_cons_succ, List.set_cons_zero]
        refine dw_val rfl rfl rfl ?_; apply Exists.intro; refine ⟨fun wv HC => ?_, ?_⟩
        ·  go_simp <;> rfl
        simp only [Act.put, List.setIfInBounds_toArray, List.set_cons_succ, List.set_cons_zero]
        refine dw_val rfl rfl rfl ?_; apply Exists.intro; refine ⟨fun wv HC => ?_, ?_⟩
        ·  go_simp <;> rfl
        simp only [Act.put, List.setIfInBounds_toArray, List.set_cons_succ, List.set_cons_zero]
        refine dw_val rfl rfl rfl ?_; apply Exists.intro; refine ⟨fun wv HC => ?_, ?_⟩
        · obtain ⟨⟨f0, f1, f2, f3⟩, f4, f5, f6, f7⟩ := HF.out _ HC; go_simp <;> rfl
        simp only [Act.put, List.setIfInBounds_toArray, List.set_cons_succ, List.set_cons_zero]
        refine dw_val rfl rfl rfl ?_; apply Exists.intro; refine ⟨fun wv HC => ?_, ?_⟩
        ·  go_simp <;> rfl
        simp only [Act.put, List.setIfInBounds_toArray, List.set_cons_succ, List.set_cons_zero]
        refine dw_val rfl rfl rfl ?_; apply Exists.intro; refine ⟨fun wv HC => ?_, ?_⟩
        ·  go_simp <;> rfl
        simp only [Act.put, List.setIfInBounds_toArray, List.set_cons_succ, List.set_cons_zero]
        refine dw_val rfl rfl rfl ?_; apply Exists.intro; refine ⟨fun wv HC => ?_, ?_⟩
        ·  go_simp <;> rfl
        simp only [Act.put, List.setIfInBounds_toArray, List.set_cons_succ, List.set_cons_zero]
        refine dw_val rfl rfl rfl ?_; apply Exists.intro; refine ⟨fun wv HC => ?_, ?_⟩
        · obtain ⟨⟨f0, f1, f2, f3⟩, f4, f5, f6, f7⟩ := HF.out _ HC; go_simp <;> rfl
        simp only [Act.put, List.setIfInBounds_toArray, List.set_cons_succ, List.set_cons_zero]
        refine dw_callR 27 (CmpSlot (x = y)) (f := 48) (args := #[.agg #[.int .i64 x.k, .int .i64 x.i, .string x.s], .agg #[.int .i64 y.k, .int .i64 y.i, .string y.s]]) rfl rfl rfl rfl (fun wv => ?_) (fun wv HC hrm hD => ?_) ?_
        · go_simp <;> rfl
        · refine (rcompare_any x y wv).mono ?_
          rintro e w5 ⟨⟨r, rfl, hr⟩, b5⟩
          exact ⟨_, rfl, ⟨r, rfl, hr⟩, HC.call b5, RM.below b5⟩
        rintro u wx HCx ⟨r, rfl, hr⟩
        have HR := hid hr
        clear HCx hr
        simp only [Act.put, List.setIfInBounds_toArray, List.set_cons_succ, List.set_cons_zero]
        refine dw_val rfl rfl rfl ?_; apply Exists.intro; refine ⟨fun wv HC => ?_, ?_⟩
        ·  go_simp <;> rfl
        simp only [Act.put, List.setIfInBounds_toArray, List.set_cons_succ, List.set_cons_zero]
        refine rel_nil ?_
        rintro wx2 HX2
        rintro _hrm _HG
        rw [HKL.out] at HX2
        clear _hrm _HG
        have K3 := HX2.drop (List.Sublist.cons _ (List.sublist_cons_self _ _))
        by_cases hr0 : r = 0
        · have hb : (r != 0) = false := by simp [hr0]
          have HN := hid (takeEq_succ HXX.out HYY.out HT.out (HR.out.1 hr0))
          clear hr0
          go_wp2_with fail
          go_roundw
          case rel => exact ⟨k + 1, by omega, by omega, by go_num, HN, K3⟩
          case measure => simp [intOf]; omega
        · have hb : (r != 0) = true := by simpa using hr0
          have HN := hid (show r = 0 ↔ xs = ys from ⟨fun h => absurd h hr0, fun h => absurd h (take_ne HXX.out HYY.out fun e => hr0 (HR.out.2 e))⟩)
          clear hr0
          go_wp2_with fail
          go_ret
          exact ⟨⟨r, rfl, HN.out⟩, K3.below⟩
      · obtain rfl : k = m := by omega
        have hdm : decide ((k : Int) < (k : Int)) = false := by simp
        have hd2 : decide ((n : Int) < (k : Int)) = false := by rw [decide_eq_false_iff_not]; omega
        have hd3 : decide ((k : Int) < (n : Int)) = true := by simp; omega
        have hd4 : decide ((n : Int) > (k : Int)) = true := by simp; omega
        have HN := hid (show xs ≠ ys from fun e => by have h1 := HX.out; have h2 := HY.out; rw [e] at h1; omega)
        go_wp2_with fail
        go_ret
        exact ⟨⟨1, rfl, by have := HN.out; simp [this]⟩, H.below⟩
    · obtain rfl : k = n := by omega
      have hd : decide ((k : Int) < (k : Int)) = false := by simp
      by_cases hkm2 : k = m
      · subst hkm2
        have hd4 : decide ((k : Int) > (k : Int)) = false := by simp
        have HN := hid (show xs = ys by have h := HT.out; rwa [List.take_of_length_le (by rw [HX.out]; exact Nat.le_refl _), List.take_of_length_le (by rw [HY.out]; exact Nat.le_refl _)] at h)
        go_wp2_with fail
        go_ret
        exact ⟨⟨0, rfl, by have := HN.out; simp [this]⟩, H.below⟩
      · have hd2 : decide ((k : Int) < (m : Int)) = true := by simp; omega
        have HN := hid (show xs ≠ ys from fun e => by have h1 := HX.out; have h2 := HY.out; rw [e] at h1; omega)
        have hkm3 : k < m := by omega
        clear hkm2
        go_wp2_with fail
        go_ret
        exact ⟨⟨-1, rfl, by have := HN.out; simp [this]⟩, H.below⟩
end Go.Proofs.YtljmclbedpceoaaDoor

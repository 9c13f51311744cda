/- RTValid: ref6.Valid. -/
import Derived.Test.YtljmclbedpceoaaGreatDoorDTellsSaidMC
import Derived.Test.YtljmclbedpceoaaGreatDoorDTellsSaidMA
import Derived.Test.YtljmclbedpceoaaGreatDoorDTellsSaidMB
namespace Go.Proofs.YtljmclbedpceoaaGreatDoor
open Go.RowKit
set_option linter.unusedVariables false
set_option linter.unusedSimpArgs false

/-- A change drawn. -/
def DrawnChg (w : World) (T : Nat) (M : Nat → Prop) (m : Nat) (e : Ending) (w' : World) : Prop :=
  ∃ (v : Value) (ins : List (List Vl)) (dels : List Int) (us : List Upd), e = .returned v ∧ ChgSlot M ins dels us v w' ∧ ins.length ≤ 3 ∧ dels.length ≤ m ∧ us.length ≤ m ∧ Tp w' T ∧ w.grownBy w' (some T)
def PrVals (l : List Pr) (w : World) : Prop := ∀ p ∈ l, VlsIn p.oA p.on p.old w ∧ VlsIn p.nA p.nn p.new w
def SlVals (l : List Sl) (w : World) : Prop := ∀ r ∈ l, VlsIn r.A r.n r.vs w
theorem sls_snoc {M : Nat → Prop} {w : World} {rs : List Sl} {r : Sl} (h : Ro w M (SlVals rs)) (k : Ro w M (VlsIn r.A r.n r.vs)) : Ro w M (SlVals (rs ++ [r])) := fun w2 h1 h2 x hx => by
  rcases List.mem_append.1 hx with hx | hx
  · exact h w2 h1 h2 x hx
  · simp at hx; subst hx; exact k w2 h1 h2
theorem sls_ok_snoc {l : List Sl} {x : Sl} (h : ∀ s ∈ l, s.ok) (k : x.ok) : ∀ s ∈ l ++ [x], s.ok := fun s hs => by
  rcases List.mem_append.1 hs with hs | hs
  · exact h s hs
  · simp at hs; subst hs; exact k
theorem prVals_app {M : Nat → Prop} {w : World} {a b : List Pr} (h : Ro w M (PrVals a)) (k : Ro w M (PrVals b)) : Ro w M (PrVals (a ++ b)) := fun w2 h1 h2 x hx => by
  rcases List.mem_append.1 hx with hx | hx
  · exact h w2 h1 h2 x hx
  · exact k w2 h1 h2 x hx
theorem prs_ok_app {a b : List Pr} (h : ∀ p ∈ a, p.ok) (k : ∀ p ∈ b, p.ok) : ∀ p ∈ a ++ b, p.ok := fun p hp => by
  rcases List.mem_append.1 hp with hp | hp
  · exact h p hp
  · exact k p hp
theorem prCells_one (l : List Pr) : ∀ u ∈ prCells l, u.oneCell' = true := fun u hu => by
  unfold prCells at hu
  rw [List.mem_flatMap] at hu
  obtain ⟨x, _, hx⟩ := hu
  simp only [Pr.cells, List.mem_cons, List.not_mem_nil, or_false] at hx
  rcases hx with rfl | rfl | rfl <;> rfl
theorem validB_k {k i : Int} {s : ByteArray} (h : validB k i s = true) : I64 k := by
  unfold validB at h
  unfold I64
  split at h
  · omega
  · split at h
    · omega
    · split at h
      · omega
      · split at h
        · omega
        · cases h
theorem Hold.renVl {M : Nat → Prop} {row : Option Nat} {w0 w : World} {L : List Hp} {e : TypeId} {v : Value} {n : Nat} {vs vs' : List Vl} (he : vs' = vs) (h : Hold M row w0 w (.own e 3 v n (vlCells vs) :: L)) : Hold M row w0 w (.own e 3 v n (vlCells vs') :: L) := by subst he; exact h
theorem Tryz.elPr : ElemT Tryz.prog 23 106 3 56 (.agg #[.int .i64 0, .slice none 0 0, .slice none 0 0]) := ⟨Tryz.underlying23, by kernel_rfl, rfl, by omega⟩
theorem Tryz.elSlc : ElemT Tryz.prog 43 87 1 24 (.slice none 0 0) := ⟨Tryz.underlying43, by kernel_rfl, rfl, by omega⟩
set_option maxHeartbeats 8000000 in
set_option maxRecDepth 100000 in
theorem chgof_any (M : Nat → Prop) (T : Nat) (w : World) (hM : ∀ b, M b → b < w.heap.size) (ht : Tp w T) (hMT : ∀ b, M b → T ≤ b) (nm : ByteArray) (A : Option Addr) (n c : Nat) (cs : List Col) (nx : Int) (B : Option Addr) (m d : Nat) (l : List Rw) (hD : Ro w (Mut M [.tp T]) (ColsIn A n cs)) (hE : Ro w (Mut M [.tp T]) (RwsIn B m l)) (hW : Ro w (Mut M [.tp T]) Wds) (hT : 1 < T)
    (hn1 : 1 ≤ n) (hn : n ≤ 1000) (hm : m ≤ 1000) (hok : ∀ x ∈ cs, ColOk x) (hfit : ∀ r ∈ l, r.vs.length = n) (hrok : ∀ r ∈ l, r.ok) : Calls Tryz.prog 33 #[.pointer (some ⟨T, 0, none⟩), .agg #[.string nm, .slice A n c, .int .i64 nx, .slice B m d]] w fun e w' => DrawnChg w T M m e w' := by
  have HL := hid (cols_n hD.now)
  have HLM := hid hE.now.len
  have HOKC := hid hok
  have HFIT := hid hfit
  have HROK := hid hrok
  clear hok hfit hrok
  have K0 := (((((((((Hold.startT M w T hM ht hMT).add hE).add (hD.less (mut_none rfl))).add ((hW.less (mut_none rfl)).less (mut_none rfl))).alloc_cst #[.string nm, .slice A n c, .int .i64 nx, .slice B m d] 34).alloc #[.slice none 0 0, .slice none 0 0, .slice none 0 0] 69).alloc #[.slice none 0 0, .slice none 0 0, .slice none 0 0] 69).add (show Ro _ _ (PrVals []) from fun _ _ _ r hr => nomatch hr)).nil 106 3).nil 3 1
  simp only [World.size_alloc] at K0
  clear hD hE hW
  go_enter Tryz.func33, Tryz.ntmps33
  go_wp2_with fail
  obtain ⟨gx, hgx⟩ : ∃ gx, gx = w.heap.size := ⟨_, rfl⟩
  obtain ⟨g4, hg4⟩ : ∃ g4, g4 = gx + 1 := ⟨_, rfl⟩
  obtain ⟨g5, hg5⟩ : ∃ g5, g5 = g4 + 1 := ⟨_, rfl⟩
  rw [← hgx, ← hg4, ← hg5] at K0 ⊢
  generalize ((w.alloc _).alloc _).alloc _ = w1 at K0 ⊢
  have HGX := hid hgx
  clear hgx hg4 hg5
  go_loopw [14] (fun iv wr => ∃ (j dn dc un uc : Nat) (D U : Option Addr) (dels : List Int) (ps : List Pr), j ≤ m ∧ iv = .int .i64 j ∧ dn ≤ j ∧ un ≤ j ∧ Hid (∀ p ∈ ps, p.ok) ∧ Hold M (some T) w wr [.own 3 1 (.slice D dn dc) dn (iCells dels), .own 106 3 (.slice U un uc) un (prCells ps), .ro (PrVals ps), .blk g5 69 #[.slice none 0 0, .slice D dn dc, .slice U un uc], .blk g4 69 #[.slice none 0 0, .slice none 0 0, .slice none 0 0], .cst gx 34 #[.string nm, .slice A n c, .int .i64 nx, .slice B m d], .ro Wds, .ro (ColsIn A n cs), .ro (RwsIn B m l), .tp T]) (fun iv _ => m - (intOf iv).toNat)
  case atStart => exact ⟨0, 0, 0, 0, 0, none, none, [], [], by omega, rfl, by omega, by omega, hid (fun p hp => nomatch hp), K0⟩
  case round =>
    clear K0
    obtain ⟨j, dn, dc, un, uc, D, U, dels, ps, hj, rfl, hdn, hun, HPS, H⟩ := hrel
    by_cases hlt : j < m
    · have hd : decide ((j : Int) < (m : Int)) = true := by simp; omega
      have j0 : (0 : Int) ≤ (j : Int) := by omega
      have j1 : (j : Int) < (m : Int) := by omega
      obtain ⟨x, hx⟩ := get_of HLM.out hlt
      obtain ⟨b, o, rfl, hb, c0, c1, hxv⟩ := (H.ro 8 rfl).now.at_ hx
      have HXO := hid (HROK.out x (List.mem_of_getElem? hx))
      have HXL := hid (HFIT.out x (List.mem_of_getElem? hx))
      have hxr : Ro wr _ (VlsIn x.A x.n x.vs) := (H.ro 8 rfl).imp fun w2 h2 => h2.2 x (List.mem_of_getElem? hx)
      obtain ⟨xid, xA, xn, xc, xvs⟩ := x
      dsimp only at *
      obtain rfl : n = xn := by have h1 := hxv.len; have h2 := HXL.out; omega
      obtain ⟨v0, hv0⟩ := get_of HXL.out (show 0 < n by omega)
      obtain ⟨bx, ox, rfl, rx⟩ := hxr.vlsAt hv0
      have HV0 := hid (HXO.out.vs v0 (List.mem_of_getElem? hv0))
      simp only [Nat.zero_mul, Nat.add_zero] at rx
      clear hx hxv hv0
      have K1 := ((H.add hxr).add (rx.less (mut_none rfl))).alloc_cst #[.int .i64 xid, .slice (some ⟨bx, ox, none⟩) n xc] 89
      clear H hxr rx
      obtain ⟨gr, hgr⟩ : ∃ gr, gr = wr.heap.size := ⟨_, rfl⟩
      rw [← hgr] at K1
      go_wp2_with fail
      rw [← hgr]
      clear hgr c0 c1
      refine (next_any T 4 _ (K1.tp_ 12 rfl) (by omega) (by omega)).mono ?_
      rintro e w2 ⟨z, rfl, z0, z1, t2, g2⟩
      have K2 := Hold.callT K1 12 rfl g2 t2
      clear K1 g2 t2
      have F2 := K2.facts
      simp only [World.size_alloc, World.size_drew, factsL, cellsF, Nat.reduceAdd, List.toList_toArray, List.set_cons_zero, List.set_cons_succ, List.setIfInBounds_toArray, and_true, true_and] at F2
      obtain rfl | rfl | hz : z = 0 ∨ z = 1 ∨ 2 ≤ z := by omega
      · have HCE := hid (show iCells dels ++ (#[Value.int .i64 xid]).toList = iCells (dels ++ [xid]) by simp [iCells])
        go_wp2_with (at_builtin; go_must (refine wpList_appH K2 3 rfl Tryz.elIntK #[.int .i64 xid] rfl (.tmp 23) (.tmp 26) rfl rfl _ rfl rfl rfl (by intro u hu; simp at hu; rcases hu with rfl; rfl) (by omega) (by omega) ?_); intro g9 cap9 w9 hc9 hm9 KB; rw [HCE.out] at KB; simp only [List.set_cons_zero, List.set_cons_succ] at KB; (have FB := KB.facts); simp only [World.size_alloc, World.size_drew, factsL, cellsF, Nat.reduceAdd, List.toList_toArray, List.set_cons_zero, List.set_cons_succ, List.setIfInBounds_toArray, and_true, true_and] at FB)
        have KC := (KB.store 6 rfl 1 (.slice (some ⟨g9, 0, none⟩) (dn + 1) cap9)).drop (List.Sublist.cons _ (List.Sublist.cons _ (List.Sublist.cons _ (List.Sublist.refl _))))
        go_roundw
        case rel => exact ⟨j + 1, dn + 1, cap9, un, uc, _, U, dels ++ [xid], ps, by omega, by first | rfl | go_num, by omega, by omega, HPS, KC⟩
        case measure => simp [intOf]; omega
      · skip
        go_wp2_with fail
        refine (trow_any (Mut M _) T _ K2.mutLt (K2.tp_ 12 rfl) (K2.get 12 rfl).2 nm A n c cs ((K2.ro 10 rfl).less (mut_tp (i := 12) rfl)) ((K2.ro 9 rfl).less (mut_tp (i := 12) rfl)) hT hn HOKC.out).mono ?_
        rintro e w4 ⟨Ar, nr, cr, vs, rfl, hnr, hvr, hfr, ho, t4, g4'⟩
        have K3 := Hold.addOwn K2 (Hold.callT K2 12 rfl g4' t4) (RM.grown g4' (.inr ⟨_, List.mem_of_getElem? (i := 12) rfl, rfl⟩)) ho
        obtain rfl : n = nr := by have h1 := fitsAll_len hfr; have h2 := HL.out; omega
        have hcr := own_caps (K3.get 0 rfl)
        replace hcr := And.intro hcr.1 hcr.2.1
        have HVS := hid (show vs.length = n ∧ ∀ v ∈ vs, v.ok from ⟨hnr.symm, hvr⟩)
        obtain ⟨ga, rfl⟩ : ∃ ga, Ar = some ⟨ga, 0, none⟩ := by
          rcases own_addr (K3.get 0 rfl) with ⟨_, h, _⟩ | ⟨g, h, _⟩
          · omega
          · exact ⟨g, h⟩
        clear K2 ho t4 g4' hnr hvr hfr F2
        have F3 := K3.facts
        simp only [World.size_alloc, World.size_drew, factsL, cellsF, Nat.reduceAdd, List.toList_toArray, List.set_cons_zero, List.set_cons_succ, List.setIfInBounds_toArray, and_true, true_and] at F3
        go_wp2_with fail
        refine (bool_any T 2 _ (K3.tp_ 13 rfl) (by omega) (by omega)).mono ?_
        rintro e wb ⟨bb, rfl, tb, gb⟩
        have K4 := Hold.callT K3 13 rfl gb tb
        clear K3 gb tb
        have F4 := K4.facts
        simp only [World.size_alloc, World.size_drew, factsL, cellsF, Nat.reduceAdd, List.toList_toArray, List.set_cons_zero, List.set_cons_succ, List.setIfInBounds_toArray, and_true, true_and] at F4
        cases bb
        · skip
          have KE8 := K4
          clear K4
          go_wp2_with fail
          refine (bool_any T 8 _ (KE8.tp_ 13 rfl) (by omega) (by omega)).mono ?_
          rintro e wb ⟨bb, rfl, tb, gb⟩
          have KF8 := Hold.callT KE8 13 rfl gb tb
          clear KE8 gb tb
          have FF8 := KF8.facts
          simp only [World.size_alloc, World.size_drew, factsL, cellsF, Nat.reduceAdd, List.toList_toArray, List.set_cons_zero, List.set_cons_succ, List.setIfInBounds_toArray, and_true, true_and] at FF8
          cases bb
          · skip
            have KV := KF8
            clear KF8
            go_wp2_with fail
            refine (bool_any T 12 _ (KV.tp_ 13 rfl) (by omega) (by omega)).mono ?_
            rintro e wb ⟨bb, rfl, tb, gb⟩
            have KP := Hold.callT KV 13 rfl gb tb
            clear KV gb tb
            have FP := KP.facts
            simp only [World.size_alloc, World.size_drew, factsL, cellsF, Nat.reduceAdd, List.toList_toArray, List.set_cons_zero, List.set_cons_succ, List.setIfInBounds_toArray, and_true, true_and] at FP
            cases bb
            · skip
              have KC := KP
              clear KP
              have KS := KC.sealRow 0 rfl
              simp only [List.set_cons_zero] at KS
              obtain ⟨KL, hKL, KN⟩ := KS.name
              have HF : Hid (∀ wv, Hold M (some T) w wv KL → (wv.cell? ⟨g5, 0, none⟩ = some (.slice none 0 0) ∧ wv.cell? ⟨g5, 1, none⟩ = some (.slice D dn dc) ∧ wv.cell? ⟨g5, 2, none⟩ = some (.slice U un uc) ∧ g5 < wv.heap.size) ∧ wv.cell? ⟨gr, 0, none⟩ = some (.int .i64 xid) ∧ wv.cell? ⟨gr, 1, none⟩ = some (.slice (some ⟨bx, ox, none⟩) n xc) ∧ gr < wv.heap.size) := hid fun wv HC => by
                rw [hKL] at HC
                have y1 := HC.blk_ 7 rfl
                have y2 := HC.cst_ 1 rfl
                exact ⟨⟨cell_of_row _ _ 0 _ _ _ y1, cell_of_row _ _ 1 _ _ _ y1, cell_of_row _ _ 2 _ _ _ y1, Blk.lt y1⟩, cell_of_row _ _ 0 _ _ _ y2, cell_of_row _ _ 1 _ _ _ y2, Blk.lt y2⟩
              have HRX : Hid (∀ wv, Hold M (some T) w wv KL → Ro wv (Mut M KL) (VlsIn (some ⟨bx, ox, none⟩) n xvs) ∧ Ro wv (Mut M KL) (VlsIn (some ⟨ga, 0, none⟩) n vs)) := hid fun wv HC => by
                rw [hKL] at HC ⊢
                exact ⟨HC.ro 3 rfl, HC.ro 0 rfl⟩
              have HKL := hid hKL
              clear hKL KS KC
              go_wp2_with fail
              refine wp_region_any (by kernel_rfl) ?_
              refine wpAny_hold 10 98 (KL) (spL [(64, VlsSlot (Mut M KL) xvs), (66, PrSlot (Mut M KL) (xid, xvs, vs)), (67, PrsSlot (Mut M KL) [(xid, xvs, vs)])]) (by kernel_rfl) (by kernel_rfl) (by kernel_rfl) rfl ?_ (KN.drew) ?_
              · exact stays_cons vlsSlot_mono (stays_cons prSlot_mono (stays_cons prsSlot_mono (stays_nil _)))
              simp only [List.take_succ_cons, List.take_zero, List.drop_succ_cons, List.drop_zero, Act.put, List.getElem_toArray, List.getElem_cons_zero, List.getElem_cons_succ, List.setIfInBounds_toArray, List.set_cons_succ, List.set_cons_zero]
              refine dw_val rfl rfl rfl ?_; apply Exists.intro; refine ⟨fun wv HC => ?_, ?_⟩
              ·  go_simp <;> rfl
              simp only [Act.put, List.setIfInBounds_toArray, List.set_cons_succ, List.set_cons_zero]
              refine dw_val rfl rfl rfl ?_; apply Exists.intro; refine ⟨fun wv HC => ?_, ?_⟩
              · obtain ⟨⟨f0, f1, f2, f3⟩, f4, f5, f6⟩ := HF.out _ HC; go_simp <;> rfl
              simp only [Act.put, List.setIfInBounds_toArray, List.set_cons_succ, List.set_cons_zero]
              refine dw_val rfl rfl rfl ?_; apply Exists.intro; refine ⟨fun wv HC => ?_, ?_⟩
              ·  go_simp <;> rfl
              simp only [Act.put, List.setIfInBounds_toArray, List.set_cons_succ, List.set_cons_zero]
              refine dw_val rfl rfl rfl ?_; apply Exists.intro; refine ⟨fun wv HC => ?_, ?_⟩
              · obtain ⟨⟨f0, f1, f2, f3⟩, f4, f5, f6⟩ := HF.out _ HC; go_simp <;> rfl
              simp only [Act.put, List.setIfInBounds_toArray, List.set_cons_succ, List.set_cons_zero]
              refine dw_val rfl rfl rfl ?_; apply Exists.intro; refine ⟨fun wv HC => ?_, ?_⟩
              ·  go_simp <;> rfl
              simp only [Act.put, List.setIfInBounds_toArray, List.set_cons_succ, List.set_cons_zero]
              refine dw_val rfl rfl rfl ?_; apply Exists.intro; refine ⟨fun wv HC => ?_, ?_⟩
              · obtain ⟨⟨f0, f1, f2, f3⟩, f4, f5, f6⟩ := HF.out _ HC; go_simp <;> rfl
              simp only [Act.put, List.setIfInBounds_toArray, List.set_cons_succ, List.set_cons_zero]
              refine dw_clone Tryz.elVl 64 (VlsSlot (Mut M KL) xvs) rfl rfl rfl rfl (.const (.slice none 0 0)) (.tmp 63) rfl rfl (A := some ⟨bx, ox, none⟩) (m := n) (c := xc) (ys := vlCells xvs) rfl (one_vls _) (by omega) (by omega) (fun wv HC hD => ((HRX.out _ HC).1).now) (fun C9 c9 wv HC q1 q2 hro => ⟨C9, n, c9, rfl, HXL.out.symm, q1, q2, hro⟩) ?_
              rintro u wx HCx ⟨A64, n64, c64, rfl, -, -, -, -⟩
              clear HCx
              simp only [Act.put, List.setIfInBounds_toArray, List.set_cons_succ, List.set_cons_zero]
              refine dw_val rfl rfl rfl ?_; apply Exists.intro; refine ⟨fun wv HC => ?_, ?_⟩
              ·  go_simp <;> rfl
              simp only [Act.put, List.setIfInBounds_toArray, List.set_cons_succ, List.set_cons_zero]
              refine dw_valC 66 (PrSlot (Mut M KL) (xid, xvs, vs)) rfl rfl rfl rfl (.agg #[.int .i64 xid, .slice A64 n64 c64, .slice (some ⟨ga, 0, none⟩) n cr]) (fun wv HC => ?_) (fun wv HC hD => ?_) ?_
              · go_simp <;> rfl
              · have ha : VlsSlot (Mut M KL) xvs (.slice A64 n64 c64) wv := deps_at hD 6 rfl (by kernel_rfl) rfl rfl
                exact prSlot_of HXO.out.id HXO.out.vs HVS.out.2 ha ⟨_, n, cr, rfl, HVS.out.1.symm, hcr.1, hcr.2, (HRX.out _ HC).2⟩
              simp only [Act.put, List.setIfInBounds_toArray, List.set_cons_succ, List.set_cons_zero]
              refine dw_new #[.int .i64 xid, .slice A64 n64 c64, .slice (some ⟨ga, 0, none⟩) n cr] 106 67 (PrsSlot (Mut M KL) [(xid, xvs, vs)]) (fun g => .slice (some ⟨g, 0, none⟩) 1 1) rfl rfl rfl rfl (fun wv => ?_) (fun wv HC _hrm hD hro => ?_) ?_
              · go_simp <;> rfl
              · have hrr := RM.alloc (Mut M KL) wv (.cells #[.int .i64 xid, .slice A64 n64 c64, .slice (some ⟨ga, 0, none⟩) n cr] 106)
                have h0 : PrSlot (Mut M KL) (xid, xvs, vs) (.agg #[.int .i64 xid, .slice A64 n64 c64, .slice (some ⟨ga, 0, none⟩) n cr]) wv := deps_at hD 8 rfl (by kernel_rfl) rfl rfl
                replace h0 := prSlot_mono _ _ _ hrr h0
                exact prsSlot_one (hro _ HC.mutLt) (fun i j k e1 => Value.agg.inj e1) h0
              rintro g67 wg HCg hsl
              simp only [Act.put, List.setIfInBounds_toArray, List.set_cons_succ, List.set_cons_zero]
              clear hsl HCg
              refine rel_nil ?_
              rintro wx5 HX5
              rintro _hrm HGW
              have hb2 : PrsSlot (Mut M KL) [(xid, xvs, vs)] (.slice (some ⟨g67, 0, none⟩) 1 1) wx5 := (GW_on (d := 67) rfl).1 (HGW 9 _ rfl (by omega))
              clear HGW _hrm
              obtain ⟨Aq, nq, cq, pq, heq, -, -, hpm, hpok, hpr⟩ := hb2
              obtain ⟨rfl, rfl, rfl⟩ : some ⟨g67, 0, none⟩ = Aq ∧ 1 = nq ∧ 1 = cq := by injection heq with h1 h2 h3; exact ⟨h1, h2, h3⟩
              clear heq
              rw [HKL.out] at HX5 hpr
              have HPO := hid (prs_ok_app HPS.out hpok)
              have HPE := hid (show prCells ps ++ prCells pq = prCells (ps ++ pq) by simp [prCells])
              have KA := HX5.add (hpr.imp fun w h => (h.2 : PrVals pq w))
              have k5 := hid ((hpr.imp fun w h => h.1).now)
              clear HX5 hpr hpm hpok HF HRX KN
              have FA := KA.facts
              simp only [World.size_alloc, World.size_drew, factsL, cellsF, Nat.reduceAdd, List.toList_toArray, List.set_cons_zero, List.set_cons_succ, List.setIfInBounds_toArray, and_true, true_and] at FA
              go_wp2_with (at_builtin; go_must (refine wpList_appAllH KA 6 rfl Tryz.elPr k5.out rfl (.tmp 59) (.tmp 67) rfl rfl rfl (prCells_one pq) (by omega) (by omega) ?_); intro C' cap' w6 hc6 hm6 KB; rw [HPE.out] at KB; simp only [List.set_cons_zero, List.set_cons_succ] at KB; (have FB := KB.facts); simp only [World.size_alloc, World.size_drew, factsL, cellsF, Nat.reduceAdd, List.toList_toArray, List.set_cons_zero, List.set_cons_succ, List.setIfInBounds_toArray, and_true, true_and] at FB)
              have KD := KB.store 8 rfl 2 (.slice C' (un + 1) cap')
              have KE := (KD.swapRo 7 rfl (prVals_app (KD.ro 7 rfl) (KD.ro 0 rfl))).drop (List.Sublist.cons _ (List.Sublist.cons _ (List.Sublist.cons _ (List.Sublist.cons _ (List.Sublist.cons _ (List.Sublist.refl _))))))
              go_wp2_with fail
              go_roundw
              case rel => exact ⟨j + 1, dn, dc, un + 1, cap', D, C', dels, ps ++ pq, by omega, by first | rfl | go_num, by omega, by omega, HPO, KE⟩
              case measure => simp [intOf]; omega
            · skip
              go_wp2_with fail
              refine (next_any T (n : Int) _ (KP.tp_ 13 rfl) (by omega) (by omega)).mono ?_
              rintro e wc ⟨q, rfl, q0, q1, tc, gc⟩
              obtain ⟨q, rfl⟩ := Int.eq_ofNat_of_zero_le q0
              have KQ := Hold.callT KP 13 rfl gc tc
              clear KP gc tc FP
              have FQ := KQ.facts
              simp only [World.size_alloc, World.size_drew, factsL, cellsF, Nat.reduceAdd, List.toList_toArray, List.set_cons_zero, List.set_cons_succ, List.setIfInBounds_toArray, and_true, true_and] at FQ
              go_wp2_with fail
              refine (value_any T _ (KQ.tp_ 13 rfl) (KQ.ro 10 rfl).now hT).mono ?_
              rintro e wd ⟨kv, iv, sv, rfl, hv, hsv, hiv, td, _, gd⟩
              have KR := Hold.callT KQ 13 rfl gd td
              clear KQ gd td FQ
              have HQL := hid (show q < vs.length by have := HVS.out.1; omega)
              obtain ⟨uq, huq⟩ : ∃ uq, vs[q]? = some uq := ⟨_, List.getElem?_eq_getElem HQL.out⟩
              obtain ⟨⟨z0, z1, z2⟩, ⟨z3, z4, z5⟩, z6⟩ := own_vl (KR.get 0 rfl) huq
              clear huq
              have KC := KR.putVl 0 rfl q HQL.out ⟨kv, iv, sv⟩
              simp only [List.set_cons_zero] at KC
              have HVS := hid (show (vs.set q ⟨kv, iv, sv⟩).length = n ∧ ∀ v ∈ vs.set q ⟨kv, iv, sv⟩, v.ok from ⟨by rw [List.length_set]; exact HVS.out.1, oks_set HVS.out.2 ⟨validB_k hv, hiv, by show sv.size ≤ maxLen; unfold maxLen; omega⟩⟩)
              clear hv KR
              generalize vs.set q ⟨kv, iv, sv⟩ = vs at HVS KC
              have FC := KC.facts
              simp only [World.size_alloc, World.size_drew, factsL, cellsF, Nat.reduceAdd, List.toList_toArray, List.set_cons_zero, List.set_cons_succ, List.setIfInBounds_toArray, and_true, true_and] at FC
              have KS := KC.sealRow 0 rfl
              simp only [List.set_cons_zero] at KS
              obtain ⟨KL, hKL, KN⟩ := KS.name
              have HF : Hid (∀ wv, Hold M (some T) w wv KL → (wv.cell? ⟨g5, 0, none⟩ = some (.slice none 0 0) ∧ wv.cell? ⟨g5, 1, none⟩ = some (.slice D dn dc) ∧ wv.cell? ⟨g5, 2, none⟩ = some (.slice U un uc) ∧ g5 < wv.heap.size) ∧ wv.cell? ⟨gr, 0, none⟩ = some (.int .i64 xid) ∧ wv.cell? ⟨gr, 1, none⟩ = some (.slice (some ⟨bx, ox, none⟩) n xc) ∧ gr < wv.heap.size) := hid fun wv HC => by
                rw [hKL] at HC
                have y1 := HC.blk_ 7 rfl
                have y2 := HC.cst_ 1 rfl
                exact ⟨⟨cell_of_row _ _ 0 _ _ _ y1, cell_of_row _ _ 1 _ _ _ y1, cell_of_row _ _ 2 _ _ _ y1, Blk.lt y1⟩, cell_of_row _ _ 0 _ _ _ y2, cell_of_row _ _ 1 _ _ _ y2, Blk.lt y2⟩
              have HRX : Hid (∀ wv, Hold M (some T) w wv KL → Ro wv (Mut M KL) (VlsIn (some ⟨bx, ox, none⟩) n xvs) ∧ Ro wv (Mut M KL) (VlsIn (some ⟨ga, 0, none⟩) n vs)) := hid fun wv HC => by
                rw [hKL] at HC ⊢
                exact ⟨HC.ro 3 rfl, HC.ro 0 rfl⟩
              have HKL := hid hKL
              clear hKL KS KC
              go_wp2_with fail
              refine wp_region_any (by kernel_rfl) ?_
              refine wpAny_hold 10 98 (KL) (spL [(64, VlsSlot (Mut M KL) xvs), (66, PrSlot (Mut M KL) (xid, xvs, vs)), (67, PrsSlot (Mut M KL) [(xid, xvs, vs)])]) (by kernel_rfl) (by kernel_rfl) (by kernel_rfl) rfl ?_ (KN.drew) ?_
              · exact stays_cons vlsSlot_mono (stays_cons prSlot_mono (stays_cons prsSlot_mono (stays_nil _)))
              simp only [List.take_succ_cons, List.take_zero, List.drop_succ_cons, List.drop_zero, Act.put, List.getElem_toArray, List.getElem_cons_zero, List.getElem_cons_succ, List.setIfInBounds_toArray, List.set_cons_succ, List.set_cons_zero]
              refine dw_val rfl rfl rfl ?_; apply Exists.intro; refine ⟨fun wv HC => ?_, ?_⟩
              ·  go_simp <;> rfl
              simp only [Act.put, List.setIfInBounds_toArray, List.set_cons_succ, List.set_cons_zero]
              refine dw_val rfl rfl rfl ?_; apply Exists.intro; refine ⟨fun wv HC => ?_, ?_⟩
              · obtain ⟨⟨f0, f1, f2, f3⟩, f4, f5, f6⟩ := HF.out _ HC; go_simp <;> rfl
              simp only [Act.put, List.setIfInBounds_toArray, List.set_cons_succ, List.set_cons_zero]
              refine dw_val rfl rfl rfl ?_; apply Exists.intro; refine ⟨fun wv HC => ?_, ?_⟩
              ·  go_simp <;> rfl
              simp only [Act.put, List.setIfInBounds_toArray, List.set_cons_succ, List.set_cons_zero]
              refine dw_val rfl rfl rfl ?_; apply Exists.intro; refine ⟨fun wv HC => ?_, ?_⟩
              · obtain ⟨⟨f0, f1, f2, f3⟩, f4, f5, f6⟩ := HF.out _ HC; go_simp <;> rfl
              simp only [Act.put, List.setIfInBounds_toArray, List.set_cons_succ, List.set_cons_zero]
              refine dw_val rfl rfl rfl ?_; apply Exists.intro; refine ⟨fun wv HC => ?_, ?_⟩
              ·  go_simp <;> rfl
              simp only [Act.put, List.setIfInBounds_toArray, List.set_cons_succ, List.set_cons_zero]
              refine dw_val rfl rfl rfl ?_; apply Exists.intro; refine ⟨fun wv HC => ?_, ?_⟩
              · obtain ⟨⟨f0, f1, f2, f3⟩, f4, f5, f6⟩ := HF.out _ HC; go_simp <;> rfl
              simp only [Act.put, List.setIfInBounds_toArray, List.set_cons_succ, List.set_cons_zero]
              refine dw_clone Tryz.elVl 64 (VlsSlot (Mut M KL) xvs) rfl rfl rfl rfl (.const (.slice none 0 0)) (.tmp 63) rfl rfl (A := some ⟨bx, ox, none⟩) (m := n) (c := xc) (ys := vlCells xvs) rfl (one_vls _) (by omega) (by omega) (fun wv HC hD => ((HRX.out _ HC).1).now) (fun C9 c9 wv HC q1 q2 hro => ⟨C9, n, c9, rfl, HXL.out.symm, q1, q2, hro⟩) ?_
              rintro u wx HCx ⟨A64, n64, c64, rfl, -, -, -, -⟩
              clear HCx
              simp only [Act.put, List.setIfInBounds_toArray, List.set_cons_succ, List.set_cons_zero]
              refine dw_val rfl rfl rfl ?_; apply Exists.intro; refine ⟨fun wv HC => ?_, ?_⟩
              ·  go_simp <;> rfl
              simp only [Act.put, List.setIfInBounds_toArray, List.set_cons_succ, List.set_cons_zero]
              refine dw_valC 66 (PrSlot (Mut M KL) (xid, xvs, vs)) rfl rfl rfl rfl (.agg #[.int .i64 xid, .slice A64 n64 c64, .slice (some ⟨ga, 0, none⟩) n cr]) (fun wv HC => ?_) (fun wv HC hD => ?_) ?_
              · go_simp <;> rfl
              · have ha : VlsSlot (Mut M KL) xvs (.slice A64 n64 c64) wv := deps_at hD 6 rfl (by kernel_rfl) rfl rfl
                exact prSlot_of HXO.out.id HXO.out.vs HVS.out.2 ha ⟨_, n, cr, rfl, HVS.out.1.symm, hcr.1, hcr.2, (HRX.out _ HC).2⟩
              simp only [Act.put, List.setIfInBounds_toArray, List.set_cons_succ, List.set_cons_zero]
              refine dw_new #[.int .i64 xid, .slice A64 n64 c64, .slice (some ⟨ga, 0, none⟩) n cr] 106 67 (PrsSlot (Mut M KL) [(xid, xvs, vs)]) (fun g => .slice (some ⟨g, 0, none⟩) 1 1) rfl rfl rfl rfl (fun wv => ?_) (fun wv HC _hrm hD hro => ?_) ?_
              · go_simp <;> rfl
              · have hrr := RM.alloc (Mut M KL) wv (.cells #[.int .i64 xid, .slice A64 n64 c64, .slice (some ⟨ga, 0, none⟩) n cr] 106)
                have h0 : PrSlot (Mut M KL) (xid, xvs, vs) (.agg #[.int .i64 xid, .slice A64 n64 c64, .slice (some ⟨ga, 0, none⟩) n cr]) wv := deps_at hD 8 rfl (by kernel_rfl) rfl rfl
                replace h0 := prSlot_mono _ _ _ hrr h0
                exact prsSlot_one (hro _ HC.mutLt) (fun i j k e1 => Value.agg.inj e1) h0
              rintro g67 wg HCg hsl
              simp only [Act.put, List.setIfInBounds_toArray, List.set_cons_succ, List.set_cons_zero]
              clear hsl HCg
              refine rel_nil ?_
              rintro wx5 HX5
              rintro _hrm HGW
              have hb2 : PrsSlot (Mut M KL) [(xid, xvs, vs)] (.slice (some ⟨g67, 0, none⟩) 1 1) wx5 := (GW_on (d := 67) rfl).1 (HGW 9 _ rfl (by omega))
              clear HGW _hrm
              obtain ⟨Aq, nq, cq, pq, heq, -, -, hpm, hpok, hpr⟩ := hb2
              obtain ⟨rfl, rfl, rfl⟩ : some ⟨g67, 0, none⟩ = Aq ∧ 1 = nq ∧ 1 = cq := by injection heq with h1 h2 h3; exact ⟨h1, h2, h3⟩
              clear heq
              rw [HKL.out] at HX5 hpr
              have HPO := hid (prs_ok_app HPS.out hpok)
              have HPE := hid (show prCells ps ++ prCells pq = prCells (ps ++ pq) by simp [prCells])
              have KA := HX5.add (hpr.imp fun w h => (h.2 : PrVals pq w))
              have k5 := hid ((hpr.imp fun w h => h.1).now)
              clear HX5 hpr hpm hpok HF HRX KN
              have FA := KA.facts
              simp only [World.size_alloc, World.size_drew, factsL, cellsF, Nat.reduceAdd, List.toList_toArray, List.set_cons_zero, List.set_cons_succ, List.setIfInBounds_toArray, and_true, true_and] at FA
              go_wp2_with (at_builtin; go_must (refine wpList_appAllH KA 6 rfl Tryz.elPr k5.out rfl (.tmp 59) (.tmp 67) rfl rfl rfl (prCells_one pq) (by omega) (by omega) ?_); intro C' cap' w6 hc6 hm6 KB; rw [HPE.out] at KB; simp only [List.set_cons_zero, List.set_cons_succ] at KB; (have FB := KB.facts); simp only [World.size_alloc, World.size_drew, factsL, cellsF, Nat.reduceAdd, List.toList_toArray, List.set_cons_zero, List.set_cons_succ, List.setIfInBounds_toArray, and_true, true_and] at FB)
              have KD := KB.store 8 rfl 2 (.slice C' (un + 1) cap')
              have KE := (KD.swapRo 7 rfl (prVals_app (KD.ro 7 rfl) (KD.ro 0 rfl))).drop (List.Sublist.cons _ (List.Sublist.cons _ (List.Sublist.cons _ (List.Sublist.cons _ (List.Sublist.cons _ (List.Sublist.refl _))))))
              go_wp2_with fail
              go_roundw
              case rel => exact ⟨j + 1, dn, dc, un + 1, cap', D, C', dels, ps ++ pq, by omega, by first | rfl | go_num, by omega, by omega, HPO, KE⟩
              case measure => simp [intOf]; omega
          · skip
            have KN := KF8.nil 86 3
            have k5 := hid ((KF8.ro 3 rfl).now)
            go_wp2_with (at_builtin; go_must (refine wpList_appAllH KN 0 rfl Tryz.elVl k5.out rfl (.const (.slice none 0 0)) (.tmp 46) rfl rfl rfl (one_vls _) (by omega) (by omega) ?_); intro C9 cap9 w9 hc9 hm9 KB; (try simp only [Nat.zero_add] at hc9 ⊢); simp only [Nat.zero_add, List.nil_append, List.set_cons_zero, List.set_cons_succ] at KB; (have FB := KB.facts); simp only [World.size_alloc, World.size_drew, factsL, cellsF, Nat.reduceAdd, List.toList_toArray, List.set_cons_zero, List.set_cons_succ, List.setIfInBounds_toArray, and_true, true_and] at FB)
            have KV := KB.drop (List.Sublist.cons_cons _ (List.sublist_cons_self _ _))
            obtain ⟨ga, rfl⟩ : ∃ ga, C9 = some ⟨ga, 0, none⟩ := by
              rcases own_addr (KV.get 0 rfl) with ⟨_, h, _⟩ | ⟨g, h, _⟩
              · omega
              · exact ⟨g, h⟩
            obtain ⟨vs, hvs⟩ : ∃ vs, vs = xvs := ⟨_, rfl⟩
            have HVS := hid (show vs.length = n ∧ ∀ v ∈ vs, v.ok by rw [hvs]; exact ⟨HXL.out, HXO.out.vs⟩)
            replace KV := Hold.renVl hvs KV
            clear hvs KB FB KN KF8 FF8 k5
            obtain ⟨cr, rfl⟩ : ∃ cr, cr = cap9 := ⟨_, rfl⟩
            have hcr := And.intro hc9 hm9
            have FV := KV.facts
            simp only [World.size_alloc, World.size_drew, factsL, cellsF, Nat.reduceAdd, List.toList_toArray, List.set_cons_zero, List.set_cons_succ, List.setIfInBounds_toArray, and_true, true_and] at FV
            go_wp2_with fail
            refine (bool_any T 12 _ (KV.tp_ 13 rfl) (by omega) (by omega)).mono ?_
            rintro e wb ⟨bb, rfl, tb, gb⟩
            have KP := Hold.callT KV 13 rfl gb tb
            clear KV gb tb
            have FP := KP.facts
            simp only [World.size_alloc, World.size_drew, factsL, cellsF, Nat.reduceAdd, List.toList_toArray, List.set_cons_zero, List.set_cons_succ, List.setIfInBounds_toArray, and_true, true_and] at FP
            cases bb
            · skip
              have KC := KP
              clear KP
              have KS := KC.sealRow 0 rfl
              simp only [List.set_cons_zero] at KS
              obtain ⟨KL, hKL, KN⟩ := KS.name
              have HF : Hid (∀ wv, Hold M (some T) w wv KL → (wv.cell? ⟨g5, 0, none⟩ = some (.slice none 0 0) ∧ wv.cell? ⟨g5, 1, none⟩ = some (.slice D dn dc) ∧ wv.cell? ⟨g5, 2, none⟩ = some (.slice U un uc) ∧ g5 < wv.heap.size) ∧ wv.cell? ⟨gr, 0, none⟩ = some (.int .i64 xid) ∧ wv.cell? ⟨gr, 1, none⟩ = some (.slice (some ⟨bx, ox, none⟩) n xc) ∧ gr < wv.heap.size) := hid fun wv HC => by
                rw [hKL] at HC
                have y1 := HC.blk_ 7 rfl
                have y2 := HC.cst_ 1 rfl
                exact ⟨⟨cell_of_row _ _ 0 _ _ _ y1, cell_of_row _ _ 1 _ _ _ y1, cell_of_row _ _ 2 _ _ _ y1, Blk.lt y1⟩, cell_of_row _ _ 0 _ _ _ y2, cell_of_row _ _ 1 _ _ _ y2, Blk.lt y2⟩
              have HRX : Hid (∀ wv, Hold M (some T) w wv KL → Ro wv (Mut M KL) (VlsIn (some ⟨bx, ox, none⟩) n xvs) ∧ Ro wv (Mut M KL) (VlsIn (some ⟨ga, 0, none⟩) n vs)) := hid fun wv HC => by
                rw [hKL] at HC ⊢
                exact ⟨HC.ro 3 rfl, HC.ro 0 rfl⟩
              have HKL := hid hKL
              clear hKL KS KC
              go_wp2_with fail
              refine wp_region_any (by kernel_rfl) ?_
              refine wpAny_hold 10 98 (KL) (spL [(64, VlsSlot (Mut M KL) xvs), (66, PrSlot (Mut M KL) (xid, xvs, vs)), (67, PrsSlot (Mut M KL) [(xid, xvs, vs)])]) (by kernel_rfl) (by kernel_rfl) (by kernel_rfl) rfl ?_ (KN.drew) ?_
              · exact stays_cons vlsSlot_mono (stays_cons prSlot_mono (stays_cons prsSlot_mono (stays_nil _)))
              simp only [List.take_succ_cons, List.take_zero, List.drop_succ_cons, List.drop_zero, Act.put, List.getElem_toArray, List.getElem_cons_zero, List.getElem_cons_succ, List.setIfInBounds_toArray, List.set_cons_succ, List.set_cons_zero]
              refine dw_val rfl rfl rfl ?_; apply Exists.intro; refine ⟨fun wv HC => ?_, ?_⟩
              ·  go_simp <;> rfl
              simp only [Act.put, List.setIfInBounds_toArray, List.set_cons_succ, List.set_cons_zero]
              refine dw_val rfl rfl rfl ?_; apply Exists.intro; refine ⟨fun wv HC => ?_, ?_⟩
              · obtain ⟨⟨f0, f1, f2, f3⟩, f4, f5, f6⟩ := HF.out _ HC; go_simp <;> rfl
              simp only [Act.put, List.setIfInBounds_toArray, List.set_cons_succ, List.set_cons_zero]
              refine dw_val rfl rfl rfl ?_; apply Exists.intro; refine ⟨fun wv HC => ?_, ?_⟩
              ·  go_simp <;> rfl
              simp only [Act.put, List.setIfInBounds_toArray, List.set_cons_succ, List.set_cons_zero]
              refine dw_val rfl rfl rfl ?_; apply Exists.intro; refine ⟨fun wv HC => ?_, ?_⟩
              · obtain ⟨⟨f0, f1, f2, f3⟩, f4, f5, f6⟩ := HF.out _ HC; go_simp <;> rfl
              simp only [Act.put, List.setIfInBounds_toArray, List.set_cons_succ, List.set_cons_zero]
              refine dw_val rfl rfl rfl ?_; apply Exists.intro; refine ⟨fun wv HC => ?_, ?_⟩
              ·  go_simp <;> rfl
              simp only [Act.put, List.setIfInBounds_toArray, List.set_cons_succ, List.set_cons_zero]
              refine dw_val rfl rfl rfl ?_; apply Exists.intro; refine ⟨fun wv HC => ?_, ?_⟩
              · obtain ⟨⟨f0, f1, f2, f3⟩, f4, f5, f6⟩ := HF.out _ HC; go_simp <;> rfl
              simp only [Act.put, List.setIfInBounds_toArray, List.set_cons_succ, List.set_cons_zero]
              refine dw_clone Tryz.elVl 64 (VlsSlot (Mut M KL) xvs) rfl rfl rfl rfl (.const (.slice none 0 0)) (.tmp 63) rfl rfl (A := some ⟨bx, ox, none⟩) (m := n) (c := xc) (ys := vlCells xvs) rfl (one_vls _) (by omega) (by omega) (fun wv HC hD => ((HRX.out _ HC).1).now) (fun C9 c9 wv HC q1 q2 hro => ⟨C9, n, c9, rfl, HXL.out.symm, q1, q2, hro⟩) ?_
              rintro u wx HCx ⟨A64, n64, c64, rfl, -, -, -, -⟩
              clear HCx
              simp only [Act.put, List.setIfInBounds_toArray, List.set_cons_succ, List.set_cons_zero]
              refine dw_val rfl rfl rfl ?_; apply Exists.intro; refine ⟨fun wv HC => ?_, ?_⟩
              ·  go_simp <;> rfl
              simp only [Act.put, List.setIfInBounds_toArray, List.set_cons_succ, List.set_cons_zero]
              refine dw_valC 66 (PrSlot (Mut M KL) (xid, xvs, vs)) rfl rfl rfl rfl (.agg #[.int .i64 xid, .slice A64 n64 c64, .slice (some ⟨ga, 0, none⟩) n cr]) (fun wv HC => ?_) (fun wv HC hD => ?_) ?_
              · go_simp <;> rfl
              · have ha : VlsSlot (Mut M KL) xvs (.slice A64 n64 c64) wv := deps_at hD 6 rfl (by kernel_rfl) rfl rfl
                exact prSlot_of HXO.out.id HXO.out.vs HVS.out.2 ha ⟨_, n, cr, rfl, HVS.out.1.symm, hcr.1, hcr.2, (HRX.out _ HC).2⟩
              simp only [Act.put, List.setIfInBounds_toArray, List.set_cons_succ, List.set_cons_zero]
              refine dw_new #[.int .i64 xid, .slice A64 n64 c64, .slice (some ⟨ga, 0, none⟩) n cr] 106 67 (PrsSlot (Mut M KL) [(xid, xvs, vs)]) (fun g => .slice (some ⟨g, 0, none⟩) 1 1) rfl rfl rfl rfl (fun wv => ?_) (fun wv HC _hrm hD hro => ?_) ?_
              · go_simp <;> rfl
              · have hrr := RM.alloc (Mut M KL) wv (.cells #[.int .i64 xid, .slice A64 n64 c64, .slice (some ⟨ga, 0, none⟩) n cr] 106)
                have h0 : PrSlot (Mut M KL) (xid, xvs, vs) (.agg #[.int .i64 xid, .slice A64 n64 c64, .slice (some ⟨ga, 0, none⟩) n cr]) wv := deps_at hD 8 rfl (by kernel_rfl) rfl rfl
                replace h0 := prSlot_mono _ _ _ hrr h0
                exact prsSlot_one (hro _ HC.mutLt) (fun i j k e1 => Value.agg.inj e1) h0
              rintro g67 wg HCg hsl
              simp only [Act.put, List.setIfInBounds_toArray, List.set_cons_succ, List.set_cons_zero]
              clear hsl HCg
              refine rel_nil ?_
              rintro wx5 HX5
              rintro _hrm HGW
              have hb2 : PrsSlot (Mut M KL) [(xid, xvs, vs)] (.slice (some ⟨g67, 0, none⟩) 1 1) wx5 := (GW_on (d := 67) rfl).1 (HGW 9 _ rfl (by omega))
              clear HGW _hrm
              obtain ⟨Aq, nq, cq, pq, heq, -, -, hpm, hpok, hpr⟩ := hb2
              obtain ⟨rfl, rfl, rfl⟩ : some ⟨g67, 0, none⟩ = Aq ∧ 1 = nq ∧ 1 = cq := by injection heq with h1 h2 h3; exact ⟨h1, h2, h3⟩
              clear heq
              rw [HKL.out] at HX5 hpr
              have HPO := hid (prs_ok_app HPS.out hpok)
              have HPE := hid (show prCells ps ++ prCells pq = prCells (ps ++ pq) by simp [prCells])
              have KA := HX5.add (hpr.imp fun w h => (h.2 : PrVals pq w))
              have k5 := hid ((hpr.imp fun w h => h.1).now)
              clear HX5 hpr hpm hpok HF HRX KN
              have FA := KA.facts
              simp only [World.size_alloc, World.size_drew, factsL, cellsF, Nat.reduceAdd, List.toList_toArray, List.set_cons_zero, List.set_cons_succ, List.setIfInBounds_toArray, and_true, true_and] at FA
              go_wp2_with (at_builtin; go_must (refine wpList_appAllH KA 6 rfl Tryz.elPr k5.out rfl (.tmp 59) (.tmp 67) rfl rfl rfl (prCells_one pq) (by omega) (by omega) ?_); intro C' cap' w6 hc6 hm6 KB; rw [HPE.out] at KB; simp only [List.set_cons_zero, List.set_cons_succ] at KB; (have FB := KB.facts); simp only [World.size_alloc, World.size_drew, factsL, cellsF, Nat.reduceAdd, List.toList_toArray, List.set_cons_zero, List.set_cons_succ, List.setIfInBounds_toArray, and_true, true_and] at FB)
              have KD := KB.store 8 rfl 2 (.slice C' (un + 1) cap')
              have KE := (KD.swapRo 7 rfl (prVals_app (KD.ro 7 rfl) (KD.ro 0 rfl))).drop (List.Sublist.cons _ (List.Sublist.cons _ (List.Sublist.cons _ (List.Sublist.cons _ (List.Sublist.cons _ (List.Sublist.refl _))))))
              go_wp2_with fail
              go_roundw
              case rel => exact ⟨j + 1, dn, dc, un + 1, cap', D, C', dels, ps ++ pq, by omega, by first | rfl | go_num, by omega, by omega, HPO, KE⟩
              case measure => simp [intOf]; omega
            · skip
              go_wp2_with fail
              refine (next_any T (n : Int) _ (KP.tp_ 13 rfl) (by omega) (by omega)).mono ?_
              rintro e wc ⟨q, rfl, q0, q1, tc, gc⟩
              obtain ⟨q, rfl⟩ := Int.eq_ofNat_of_zero_le q0
              have KQ := Hold.callT KP 13 rfl gc tc
              clear KP gc tc FP
              have FQ := KQ.facts
              simp only [World.size_alloc, World.size_drew, factsL, cellsF, Nat.reduceAdd, List.toList_toArray, List.set_cons_zero, List.set_cons_succ, List.setIfInBounds_toArray, and_true, true_and] at FQ
              go_wp2_with fail
              refine (value_any T _ (KQ.tp_ 13 rfl) (KQ.ro 10 rfl).now hT).mono ?_
              rintro e wd ⟨kv, iv, sv, rfl, hv, hsv, hiv, td, _, gd⟩
              have KR := Hold.callT KQ 13 rfl gd td
              clear KQ gd td FQ
              have HQL := hid (show q < vs.length by have := HVS.out.1; omega)
              obtain ⟨uq, huq⟩ : ∃ uq, vs[q]? = some uq := ⟨_, List.getElem?_eq_getElem HQL.out⟩
              obtain ⟨⟨z0, z1, z2⟩, ⟨z3, z4, z5⟩, z6⟩ := own_vl (KR.get 0 rfl) huq
              clear huq
              have KC := KR.putVl 0 rfl q HQL.out ⟨kv, iv, sv⟩
              simp only [List.set_cons_zero] at KC
              have HVS := hid (show (vs.set q ⟨kv, iv, sv⟩).length = n ∧ ∀ v ∈ vs.set q ⟨kv, iv, sv⟩, v.ok from ⟨by rw [List.length_set]; exact HVS.out.1, oks_set HVS.out.2 ⟨validB_k hv, hiv, by show sv.size ≤ maxLen; unfold maxLen; omega⟩⟩)
              clear hv KR
              generalize vs.set q ⟨kv, iv, sv⟩ = vs at HVS KC
              have FC := KC.facts
              simp only [World.size_alloc, World.size_drew, factsL, cellsF, Nat.reduceAdd, List.toList_toArray, List.set_cons_zero, List.set_cons_succ, List.setIfInBounds_toArray, and_true, true_and] at FC
              have KS := KC.sealRow 0 rfl
              simp only [List.set_cons_zero] at KS
              obtain ⟨KL, hKL, KN⟩ := KS.name
              have HF : Hid (∀ wv, Hold M (some T) w wv KL → (wv.cell? ⟨g5, 0, none⟩ = some (.slice none 0 0) ∧ wv.cell? ⟨g5, 1, none⟩ = some (.slice D dn dc) ∧ wv.cell? ⟨g5, 2, none⟩ = some (.slice U un uc) ∧ g5 < wv.heap.size) ∧ wv.cell? ⟨gr, 0, none⟩ = some (.int .i64 xid) ∧ wv.cell? ⟨gr, 1, none⟩ = some (.slice (some ⟨bx, ox, none⟩) n xc) ∧ gr < wv.heap.size) := hid fun wv HC => by
                rw [hKL] at HC
                have y1 := HC.blk_ 7 rfl
                have y2 := HC.cst_ 1 rfl
                exact ⟨⟨cell_of_row _ _ 0 _ _ _ y1, cell_of_row _ _ 1 _ _ _ y1, cell_of_row _ _ 2 _ _ _ y1, Blk.lt y1⟩, cell_of_row _ _ 0 _ _ _ y2, cell_of_row _ _ 1 _ _ _ y2, Blk.lt y2⟩
              have HRX : Hid (∀ wv, Hold M (some T) w wv KL → Ro wv (Mut M KL) (VlsIn (some ⟨bx, ox, none⟩) n xvs) ∧ Ro wv (Mut M KL) (VlsIn (some ⟨ga, 0, none⟩) n vs)) := hid fun wv HC => by
                rw [hKL] at HC ⊢
                exact ⟨HC.ro 3 rfl, HC.ro 0 rfl⟩
              have HKL := hid hKL
              clear hKL KS KC
              go_wp2_with fail
              refine wp_region_any (by kernel_rfl) ?_
              refine wpAny_hold 10 98 (KL) (spL [(64, VlsSlot (Mut M KL) xvs), (66, PrSlot (Mut M KL) (xid, xvs, vs)), (67, PrsSlot (Mut M KL) [(xid, xvs, vs)])]) (by kernel_rfl) (by kernel_rfl) (by kernel_rfl) rfl ?_ (KN.drew) ?_
              · exact stays_cons vlsSlot_mono (stays_cons prSlot_mono (stays_cons prsSlot_mono (stays_nil _)))
              simp only [List.take_succ_cons, List.take_zero, List.drop_succ_cons, List.drop_zero, Act.put, List.getElem_toArray, List.getElem_cons_zero, List.getElem_cons_succ, List.setIfInBounds_toArray, List.set_cons_succ, List.set_cons_zero]
              refine dw_val rfl rfl rfl ?_; apply Exists.intro; refine ⟨fun wv HC => ?_, ?_⟩
              ·  go_simp <;> rfl
              simp only [Act.put, List.setIfInBounds_toArray, List.set_cons_succ, List.set_cons_zero]
              refine dw_val rfl rfl rfl ?_; apply Exists.intro; refine ⟨fun wv HC => ?_, ?_⟩
              · obtain ⟨⟨f0, f1, f2, f3⟩, f4, f5, f6⟩ := HF.out _ HC; go_simp <;> rfl
              simp only [Act.put, List.setIfInBounds_toArray, List.set_cons_succ, List.set_cons_zero]
              refine dw_val rfl rfl rfl ?_; apply Exists.intro; refine ⟨fun wv HC => ?_, ?_⟩
              ·  go_simp <;> rfl
              simp only [Act.put, List.setIfInBounds_toArray, List.set_cons_succ, List.set_cons_zero]
              refine dw_val rfl rfl rfl ?_; apply Exists.intro; refine ⟨fun wv HC => ?_, ?_⟩
              · obtain ⟨⟨f0, f1, f2, f3⟩, f4, f5, f6⟩ := HF.out _ HC; go_simp <;> rfl
              simp only [Act.put, List.setIfInBounds_toArray, List.set_cons_succ, List.set_cons_zero]
              refine dw_val rfl rfl rfl ?_; apply Exists.intro; refine ⟨fun wv HC => ?_, ?_⟩
              ·  go_simp <;> rfl
              simp only [Act.put, List.setIfInBounds_toArray, List.set_cons_succ, List.set_cons_zero]
              refine dw_val rfl rfl rfl ?_; apply Exists.intro; refine ⟨fun wv HC => ?_, ?_⟩
              · obtain ⟨⟨f0, f1, f2, f3⟩, f4, f5, f6⟩ := HF.out _ HC; go_simp <;> rfl
              simp only [Act.put, List.setIfInBounds_toArray, List.set_cons_succ, List.set_cons_zero]
              refine dw_clone Tryz.elVl 64 (VlsSlot (Mut M KL) xvs) rfl rfl rfl rfl (.const (.slice none 0 0)) (.tmp 63) rfl rfl (A := some ⟨bx, ox, none⟩) (m := n) (c := xc) (ys := vlCells xvs) rfl (one_vls _) (by omega) (by omega) (fun wv HC hD => ((HRX.out _ HC).1).now) (fun C9 c9 wv HC q1 q2 hro => ⟨C9, n, c9, rfl, HXL.out.symm, q1, q2, hro⟩) ?_
              rintro u wx HCx ⟨A64, n64, c64, rfl, -, -, -, -⟩
              clear HCx
              simp only [Act.put, List.setIfInBounds_toArray, List.set_cons_succ, List.set_cons_zero]
              refine dw_val rfl rfl rfl ?_; apply Exists.intro; refine ⟨fun wv HC => ?_, ?_⟩
              ·  go_simp <;> rfl
              simp only [Act.put, List.setIfInBounds_toArray, List.set_cons_succ, List.set_cons_zero]
              refine dw_valC 66 (PrSlot (Mut M KL) (xid, xvs, vs)) rfl rfl rfl rfl (.agg #[.int .i64 xid, .slice A64 n64 c64, .slice (some ⟨ga, 0, none⟩) n cr]) (fun wv HC => ?_) (fun wv HC hD => ?_) ?_
              · go_simp <;> rfl
              · have ha : VlsSlot (Mut M KL) xvs (.slice A64 n64 c64) wv := deps_at hD 6 rfl (by kernel_rfl) rfl rfl
                exact prSlot_of HXO.out.id HXO.out.vs HVS.out.2 ha ⟨_, n, cr, rfl, HVS.out.1.symm, hcr.1, hcr.2, (HRX.out _ HC).2⟩
              simp only [Act.put, List.setIfInBounds_toArray, List.set_cons_succ, List.set_cons_zero]
              refine dw_new #[.int .i64 xid, .slice A64 n64 c64, .slice (some ⟨ga, 0, none⟩) n cr] 106 67 (PrsSlot (Mut M KL) [(xid, xvs, vs)]) (fun g => .slice (some ⟨g, 0, none⟩) 1 1) rfl rfl rfl rfl (fun wv => ?_) (fun wv HC _hrm hD hro => ?_) ?_
              · go_simp <;> rfl
              · have hrr := RM.alloc (Mut M KL) wv (.cells #[.int .i64 xid, .slice A64 n64 c64, .slice (some ⟨ga, 0, none⟩) n cr] 106)
                have h0 : PrSlot (Mut M KL) (xid, xvs, vs) (.agg #[.int .i64 xid, .slice A64 n64 c64, .slice (some ⟨ga, 0, none⟩) n cr]) wv := deps_at hD 8 rfl (by kernel_rfl) rfl rfl
                replace h0 := prSlot_mono _ _ _ hrr h0
                exact prsSlot_one (hro _ HC.mutLt) (fun i j k e1 => Value.agg.inj e1) h0
              rintro g67 wg HCg hsl
              simp only [Act.put, List.setIfInBounds_toArray, List.set_cons_succ, List.set_cons_zero]
              clear hsl HCg
              refine rel_nil ?_
              rintro wx5 HX5
              rintro _hrm HGW
              have hb2 : PrsSlot (Mut M KL) [(xid, xvs, vs)] (.slice (some ⟨g67, 0, none⟩) 1 1) wx5 := (GW_on (d := 67) rfl).1 (HGW 9 _ rfl (by omega))
              clear HGW _hrm
              obtain ⟨Aq, nq, cq, pq, heq, -, -, hpm, hpok, hpr⟩ := hb2
              obtain ⟨rfl, rfl, rfl⟩ : some ⟨g67, 0, none⟩ = Aq ∧ 1 = nq ∧ 1 = cq := by injection heq with h1 h2 h3; exact ⟨h1, h2, h3⟩
              clear heq
              rw [HKL.out] at HX5 hpr
              have HPO := hid (prs_ok_app HPS.out hpok)
              have HPE := hid (show prCells ps ++ prCells pq = prCells (ps ++ pq) by simp [prCells])
              have KA := HX5.add (hpr.imp fun w h => (h.2 : PrVals pq w))
              have k5 := hid ((hpr.imp fun w h => h.1).now)
              clear HX5 hpr hpm hpok HF HRX KN
              have FA := KA.facts
              simp only [World.size_alloc, World.size_drew, factsL, cellsF, Nat.reduceAdd, List.toList_toArray, List.set_cons_zero, List.set_cons_succ, List.setIfInBounds_toArray, and_true, true_and] at FA
              go_wp2_with (at_builtin; go_must (refine wpList_appAllH KA 6 rfl Tryz.elPr k5.out rfl (.tmp 59) (.tmp 67) rfl rfl rfl (prCells_one pq) (by omega) (by omega) ?_); intro C' cap' w6 hc6 hm6 KB; rw [HPE.out] at KB; simp only [List.set_cons_zero, List.set_cons_succ] at KB; (have FB := KB.facts); simp only [World.size_alloc, World.size_drew, factsL, cellsF, Nat.reduceAdd, List.toList_toArray, List.set_cons_zero, List.set_cons_succ, List.setIfInBounds_toArray, and_true, true_and] at FB)
              have KD := KB.store 8 rfl 2 (.slice C' (un + 1) cap')
              have KE := (KD.swapRo 7 rfl (prVals_app (KD.ro 7 rfl) (KD.ro 0 rfl))).drop (List.Sublist.cons _ (List.Sublist.cons _ (List.Sublist.cons _ (List.Sublist.cons _ (List.Sublist.cons _ (List.Sublist.refl _))))))
              go_wp2_with fail
              go_roundw
              case rel => exact ⟨j + 1, dn, dc, un + 1, cap', D, C', dels, ps ++ pq, by omega, by first | rfl | go_num, by omega, by omega, HPO, KE⟩
              case measure => simp [intOf]; omega
        · skip
          obtain ⟨uq, huq⟩ : ∃ uq, vs[0]? = some uq := ⟨_, List.getElem?_eq_getElem (by have := HVS.out.1; omega)⟩
          obtain ⟨⟨y0, y1, y2⟩, ⟨y3, y4, y5⟩, y6⟩ := own_vl (K4.get 0 rfl) huq
          have ⟨x0, x1, x2, x3⟩ := (K4.ro 2 rfl).now
          clear huq
          have KE8 := K4.putVl 0 rfl 0 (by have := HVS.out.1; omega) v0
          simp only [Nat.zero_mul, Nat.zero_add, List.set_cons_zero] at KE8 y0 y1 y2 y3 y4 y5
          have HVS := hid (show (vs.set 0 v0).length = n ∧ ∀ v ∈ vs.set 0 v0, v.ok from ⟨by rw [List.length_set]; exact HVS.out.1, oks_set HVS.out.2 HV0.out⟩)
          generalize vs.set 0 v0 = vs at HVS KE8
          clear K4
          have FE8 := KE8.facts
          simp only [World.size_alloc, World.size_drew, factsL, cellsF, Nat.reduceAdd, List.toList_toArray, List.set_cons_zero, List.set_cons_succ, List.setIfInBounds_toArray, and_true, true_and] at FE8
          go_wp2_with fail
          refine (bool_any T 8 _ (KE8.tp_ 13 rfl) (by omega) (by omega)).mono ?_
          rintro e wb ⟨bb, rfl, tb, gb⟩
          have KF8 := Hold.callT KE8 13 rfl gb tb
          clear KE8 gb tb
          have FF8 := KF8.facts
          simp only [World.size_alloc, World.size_drew, factsL, cellsF, Nat.reduceAdd, List.toList_toArray, List.set_cons_zero, List.set_cons_succ, List.setIfInBounds_toArray, and_true, true_and] at FF8
          cases bb
          · skip
            have KV := KF8
            clear KF8
            go_wp2_with fail
            refine (bool_any T 12 _ (KV.tp_ 13 rfl) (by omega) (by omega)).mono ?_
            rintro e wb ⟨bb, rfl, tb, gb⟩
            have KP := Hold.callT KV 13 rfl gb tb
            clear KV gb tb
            have FP := KP.facts
            simp only [World.size_alloc, World.size_drew, factsL, cellsF, Nat.reduceAdd, List.toList_toArray, List.set_cons_zero, List.set_cons_succ, List.setIfInBounds_toArray, and_true, true_and] at FP
            cases bb
            · skip
              have KC := KP
              clear KP
              have KS := KC.sealRow 0 rfl
              simp only [List.set_cons_zero] at KS
              obtain ⟨KL, hKL, KN⟩ := KS.name
              have HF : Hid (∀ wv, Hold M (some T) w wv KL → (wv.cell? ⟨g5, 0, none⟩ = some (.slice none 0 0) ∧ wv.cell? ⟨g5, 1, none⟩ = some (.slice D dn dc) ∧ wv.cell? ⟨g5, 2, none⟩ = some (.slice U un uc) ∧ g5 < wv.heap.size) ∧ wv.cell? ⟨gr, 0, none⟩ = some (.int .i64 xid) ∧ wv.cell? ⟨gr, 1, none⟩ = some (.slice (some ⟨bx, ox, none⟩) n xc) ∧ gr < wv.heap.size) := hid fun wv HC => by
                rw [hKL] at HC
                have y1 := HC.blk_ 7 rfl
                have y2 := HC.cst_ 1 rfl
                exact ⟨⟨cell_of_row _ _ 0 _ _ _ y1, cell_of_row _ _ 1 _ _ _ y1, cell_of_row _ _ 2 _ _ _ y1, Blk.lt y1⟩, cell_of_row _ _ 0 _ _ _ y2, cell_of_row _ _ 1 _ _ _ y2, Blk.lt y2⟩
              have HRX : Hid (∀ wv, Hold M (some T) w wv KL → Ro wv (Mut M KL) (VlsIn (some ⟨bx, ox, none⟩) n xvs) ∧ Ro wv (Mut M KL) (VlsIn (some ⟨ga, 0, none⟩) n vs)) := hid fun wv HC => by
                rw [hKL] at HC ⊢
                exact ⟨HC.ro 3 rfl, HC.ro 0 rfl⟩
              have HKL := hid hKL
              clear hKL KS KC
              go_wp2_with fail
              refine wp_region_any (by kernel_rfl) ?_
              refine wpAny_hold 10 98 (KL) (spL [(64, VlsSlot (Mut M KL) xvs), (66, PrSlot (Mut M KL) (xid, xvs, vs)), (67, PrsSlot (Mut M KL) [(xid, xvs, vs)])]) (by kernel_rfl) (by kernel_rfl) (by kernel_rfl) rfl ?_ (KN.drew) ?_
              · exact stays_cons vlsSlot_mono (stays_cons prSlot_mono (stays_cons prsSlot_mono (stays_nil _)))
              simp only [List.take_succ_cons, List.take_zero, List.drop_succ_cons, List.drop_zero, Act.put, List.getElem_toArray, List.getElem_cons_zero, List.getElem_cons_succ, List.setIfInBounds_toArray, List.set_cons_succ, List.set_cons_zero]
              refine dw_val rfl rfl rfl ?_; apply Exists.intro; refine ⟨fun wv HC => ?_, ?_⟩
              ·  go_simp <;> rfl
              simp only [Act.put, List.setIfInBounds_toArray, List.set_cons_succ, List.set_cons_zero]
              refine dw_val rfl rfl rfl ?_; apply Exists.intro; refine ⟨fun wv HC => ?_, ?_⟩
              · obtain ⟨⟨f0, f1, f2, f3⟩, f4, f5, f6⟩ := HF.out _ HC; go_simp <;> rfl
              simp only [Act.put, List.setIfInBounds_toArray, List.set_cons_succ, List.set_cons_zero]
              refine dw_val rfl rfl rfl ?_; apply Exists.intro; refine ⟨fun wv HC => ?_, ?_⟩
              ·  go_simp <;> rfl
              simp only [Act.put, List.setIfInBounds_toArray, List.set_cons_succ, List.set_cons_zero]
              refine dw_val rfl rfl rfl ?_; apply Exists.intro; refine ⟨fun wv HC => ?_, ?_⟩
              · obtain ⟨⟨f0, f1, f2, f3⟩, f4, f5, f6⟩ := HF.out _ HC; go_simp <;> rfl
              simp only [Act.put, List.setIfInBounds_toArray, List.set_cons_succ, List.set_cons_zero]
              refine dw_val rfl rfl rfl ?_; apply Exists.intro; refine ⟨fun wv HC => ?_, ?_⟩
              ·  go_simp <;> rfl
              simp only [Act.put, List.setIfInBounds_toArray, List.set_cons_succ, List.set_cons_zero]
              refine dw_val rfl rfl rfl ?_; apply Exists.intro; refine ⟨fun wv HC => ?_, ?_⟩
              · obtain ⟨⟨f0, f1, f2, f3⟩, f4, f5, f6⟩ := HF.out _ HC; go_simp <;> rfl
              simp only [Act.put, List.setIfInBounds_toArray, List.set_cons_succ, List.set_cons_zero]
              refine dw_clone Tryz.elVl 64 (VlsSlot (Mut M KL) xvs) rfl rfl rfl rfl (.const (.slice none 0 0)) (.tmp 63) rfl rfl (A := some ⟨bx, ox, none⟩) (m := n) (c := xc) (ys := vlCells xvs) rfl (one_vls _) (by omega) (by omega) (fun wv HC hD => ((HRX.out _ HC).1).now) (fun C9 c9 wv HC q1 q2 hro => ⟨C9, n, c9, rfl, HXL.out.symm, q1, q2, hro⟩) ?_
              rintro u wx HCx ⟨A64, n64, c64, rfl, -, -, -, -⟩
              clear HCx
              simp only [Act.put, List.setIfInBounds_toArray, List.set_cons_succ, List.set_cons_zero]
              refine dw_val rfl rfl rfl ?_; apply Exists.intro; refine ⟨fun wv HC => ?_, ?_⟩
              ·  go_simp <;> rfl
              simp only [Act.put, List.setIfInBounds_toArray, List.set_cons_succ, List.set_cons_zero]
              refine dw_valC 66 (PrSlot (Mut M KL) (xid, xvs, vs)) rfl rfl rfl rfl (.agg #[.int .i64 xid, .slice A64 n64 c64, .slice (some ⟨ga, 0, none⟩) n cr]) (fun wv HC => ?_) (fun wv HC hD => ?_) ?_
              · go_simp <;> rfl
              · have ha : VlsSlot (Mut M KL) xvs (.slice A64 n64 c64) wv := deps_at hD 6 rfl (by kernel_rfl) rfl rfl
                exact prSlot_of HXO.out.id HXO.out.vs HVS.out.2 ha ⟨_, n, cr, rfl, HVS.out.1.symm, hcr.1, hcr.2, (HRX.out _ HC).2⟩
              simp only [Act.put, List.setIfInBounds_toArray, List.set_cons_succ, List.set_cons_zero]
              refine dw_new #[.int .i64 xid, .slice A64 n64 c64, .slice (some ⟨ga, 0, none⟩) n cr] 106 67 (PrsSlot (Mut M KL) [(xid, xvs, vs)]) (fun g => .slice (some ⟨g, 0, none⟩) 1 1) rfl rfl rfl rfl (fun wv => ?_) (fun wv HC _hrm hD hro => ?_) ?_
              · go_simp <;> rfl
              · have hrr := RM.alloc (Mut M KL) wv (.cells #[.int .i64 xid, .slice A64 n64 c64, .slice (some ⟨ga, 0, none⟩) n cr] 106)
                have h0 : PrSlot (Mut M KL) (xid, xvs, vs) (.agg #[.int .i64 xid, .slice A64 n64 c64, .slice (some ⟨ga, 0, none⟩) n cr]) wv := deps_at hD 8 rfl (by kernel_rfl) rfl rfl
                replace h0 := prSlot_mono _ _ _ hrr h0
                exact prsSlot_one (hro _ HC.mutLt) (fun i j k e1 => Value.agg.inj e1) h0
              rintro g67 wg HCg hsl
              simp only [Act.put, List.setIfInBounds_toArray, List.set_cons_succ, List.set_cons_zero]
              clear hsl HCg
              refine rel_nil ?_
              rintro wx5 HX5
              rintro _hrm HGW
              have hb2 : PrsSlot (Mut M KL) [(xid, xvs, vs)] (.slice (some ⟨g67, 0, none⟩) 1 1) wx5 := (GW_on (d := 67) rfl).1 (HGW 9 _ rfl (by omega))
              clear HGW _hrm
              obtain ⟨Aq, nq, cq, pq, heq, -, -, hpm, hpok, hpr⟩ := hb2
              obtain ⟨rfl, rfl, rfl⟩ : some ⟨g67, 0, none⟩ = Aq ∧ 1 = nq ∧ 1 = cq := by injection heq with h1 h2 h3; exact ⟨h1, h2, h3⟩
              clear heq
              rw [HKL.out] at HX5 hpr
              have HPO := hid (prs_ok_app HPS.out hpok)
              have HPE := hid (show prCells ps ++ prCells pq = prCells (ps ++ pq) by simp [prCells])
              have KA := HX5.add (hpr.imp fun w h => (h.2 : PrVals pq w))
              have k5 := hid ((hpr.imp fun w h => h.1).now)
              clear HX5 hpr hpm hpok HF HRX KN
              have FA := KA.facts
              simp only [World.size_alloc, World.size_drew, factsL, cellsF, Nat.reduceAdd, List.toList_toArray, List.set_cons_zero, List.set_cons_succ, List.setIfInBounds_toArray, and_true, true_and] at FA
              go_wp2_with (at_builtin; go_must (refine wpList_appAllH KA 6 rfl Tryz.elPr k5.out rfl (.tmp 59) (.tmp 67) rfl rfl rfl (prCells_one pq) (by omega) (by omega) ?_); intro C' cap' w6 hc6 hm6 KB; rw [HPE.out] at KB; simp only [List.set_cons_zero, List.set_cons_succ] at KB; (have FB := KB.facts); simp only [World.size_alloc, World.size_drew, factsL, cellsF, Nat.reduceAdd, List.toList_toArray, List.set_cons_zero, List.set_cons_succ, List.setIfInBounds_toArray, and_true, true_and] at FB)
              have KD := KB.store 8 rfl 2 (.slice C' (un + 1) cap')
              have KE := (KD.swapRo 7 rfl (prVals_app (KD.ro 7 rfl) (KD.ro 0 rfl))).drop (List.Sublist.cons _ (List.Sublist.cons _ (List.Sublist.cons _ (List.Sublist.cons _ (List.Sublist.cons _ (List.Sublist.refl _))))))
              go_wp2_with fail
              go_roundw
              case rel => exact ⟨j + 1, dn, dc, un + 1, cap', D, C', dels, ps ++ pq, by omega, by first | rfl | go_num, by omega, by omega, HPO, KE⟩
              case measure => simp [intOf]; omega
            · skip
              go_wp2_with fail
              refine (next_any T (n : Int) _ (KP.tp_ 13 rfl) (by omega) (by omega)).mono ?_
              rintro e wc ⟨q, rfl, q0, q1, tc, gc⟩
              obtain ⟨q, rfl⟩ := Int.eq_ofNat_of_zero_le q0
              have KQ := Hold.callT KP 13 rfl gc tc
              clear KP gc tc FP
              have FQ := KQ.facts
              simp only [World.size_alloc, World.size_drew, factsL, cellsF, Nat.reduceAdd, List.toList_toArray, List.set_cons_zero, List.set_cons_succ, List.setIfInBounds_toArray, and_true, true_and] at FQ
              go_wp2_with fail
              refine (value_any T _ (KQ.tp_ 13 rfl) (KQ.ro 10 rfl).now hT).mono ?_
              rintro e wd ⟨kv, iv, sv, rfl, hv, hsv, hiv, td, _, gd⟩
              have KR := Hold.callT KQ 13 rfl gd td
              clear KQ gd td FQ
              have HQL := hid (show q < vs.length by have := HVS.out.1; omega)
              obtain ⟨uq, huq⟩ : ∃ uq, vs[q]? = some uq := ⟨_, List.getElem?_eq_getElem HQL.out⟩
              obtain ⟨⟨z0, z1, z2⟩, ⟨z3, z4, z5⟩, z6⟩ := own_vl (KR.get 0 rfl) huq
              clear huq
              have KC := KR.putVl 0 rfl q HQL.out ⟨kv, iv, sv⟩
              simp only [List.set_cons_zero] at KC
              have HVS := hid (show (vs.set q ⟨kv, iv, sv⟩).length = n ∧ ∀ v ∈ vs.set q ⟨kv, iv, sv⟩, v.ok from ⟨by rw [List.length_set]; exact HVS.out.1, oks_set HVS.out.2 ⟨validB_k hv, hiv, by show sv.size ≤ maxLen; unfold maxLen; omega⟩⟩)
              clear hv KR
              generalize vs.set q ⟨kv, iv, sv⟩ = vs at HVS KC
              have FC := KC.facts
              simp only [World.size_alloc, World.size_drew, factsL, cellsF, Nat.reduceAdd, List.toList_toArray, List.set_cons_zero, List.set_cons_succ, List.setIfInBounds_toArray, and_true, true_and] at FC
              have KS := KC.sealRow 0 rfl
              simp only [List.set_cons_zero] at KS
              obtain ⟨KL, hKL, KN⟩ := KS.name
              have HF : Hid (∀ wv, Hold M (some T) w wv KL → (wv.cell? ⟨g5, 0, none⟩ = some (.slice none 0 0) ∧ wv.cell? ⟨g5, 1, none⟩ = some (.slice D dn dc) ∧ wv.cell? ⟨g5, 2, none⟩ = some (.slice U un uc) ∧ g5 < wv.heap.size) ∧ wv.cell? ⟨gr, 0, none⟩ = some (.int .i64 xid) ∧ wv.cell? ⟨gr, 1, none⟩ = some (.slice (some ⟨bx, ox, none⟩) n xc) ∧ gr < wv.heap.size) := hid fun wv HC => by
                rw [hKL] at HC
                have y1 := HC.blk_ 7 rfl
                have y2 := HC.cst_ 1 rfl
                exact ⟨⟨cell_of_row _ _ 0 _ _ _ y1, cell_of_row _ _ 1 _ _ _ y1, cell_of_row _ _ 2 _ _ _ y1, Blk.lt y1⟩, cell_of_row _ _ 0 _ _ _ y2, cell_of_row _ _ 1 _ _ _ y2, Blk.lt y2⟩
              have HRX : Hid (∀ wv, Hold M (some T) w wv KL → Ro wv (Mut M KL) (VlsIn (some ⟨bx, ox, none⟩) n xvs) ∧ Ro wv (Mut M KL) (VlsIn (some ⟨ga, 0, none⟩) n vs)) := hid fun wv HC => by
                rw [hKL] at HC ⊢
                exact ⟨HC.ro 3 rfl, HC.ro 0 rfl⟩
              have HKL := hid hKL
              clear hKL KS KC
              go_wp2_with fail
              refine wp_region_any (by kernel_rfl) ?_
              refine wpAny_hold 10 98 (KL) (spL [(64, VlsSlot (Mut M KL) xvs), (66, PrSlot (Mut M KL) (xid, xvs, vs)), (67, PrsSlot (Mut M KL) [(xid, xvs, vs)])]) (by kernel_rfl) (by kernel_rfl) (by kernel_rfl) rfl ?_ (KN.drew) ?_
              · exact stays_cons vlsSlot_mono (stays_cons prSlot_mono (stays_cons prsSlot_mono (stays_nil _)))
              simp only [List.take_succ_cons, List.take_zero, List.drop_succ_cons, List.drop_zero, Act.put, List.getElem_toArray, List.getElem_cons_zero, List.getElem_cons_succ, List.setIfInBounds_toArray, List.set_cons_succ, List.set_cons_zero]
              refine dw_val rfl rfl rfl ?_; apply Exists.intro; refine ⟨fun wv HC => ?_, ?_⟩
              ·  go_simp <;> rfl
              simp only [Act.put, List.setIfInBounds_toArray, List.set_cons_succ, List.set_cons_zero]
              refine dw_val rfl rfl rfl ?_; apply Exists.intro; refine ⟨fun wv HC => ?_, ?_⟩
              · obtain ⟨⟨f0, f1, f2, f3⟩, f4, f5, f6⟩ := HF.out _ HC; go_simp <;> rfl
              simp only [Act.put, List.setIfInBounds_toArray, List.set_cons_succ, List.set_cons_zero]
              refine dw_val rfl rfl rfl ?_; apply Exists.intro; refine ⟨fun wv HC => ?_, ?_⟩
              ·  go_simp <;> rfl
              simp only [Act.put, List.setIfInBounds_toArray, List.set_cons_succ, List.set_cons_zero]
              refine dw_val rfl rfl rfl ?_; apply Exists.intro; refine ⟨fun wv HC => ?_, ?_⟩
              · obtain ⟨⟨f0, f1, f2, f3⟩, f4, f5, f6⟩ := HF.out _ HC; go_simp <;> rfl
              simp only [Act.put, List.setIfInBounds_toArray, List.set_cons_succ, List.set_cons_zero]
              refine dw_val rfl rfl rfl ?_; apply Exists.intro; refine ⟨fun wv HC => ?_, ?_⟩
              ·  go_simp <;> rfl
              simp only [Act.put, List.setIfInBounds_toArray, List.set_cons_succ, List.set_cons_zero]
              refine dw_val rfl rfl rfl ?_; apply Exists.intro; refine ⟨fun wv HC => ?_, ?_⟩
              · obtain ⟨⟨f0, f1, f2, f3⟩, f4, f5, f6⟩ := HF.out _ HC; go_simp <;> rfl
              simp only [Act.put, List.setIfInBounds_toArray, List.set_cons_succ, List.set_cons_zero]
              refine dw_clone Tryz.elVl 64 (VlsSlot (Mut M KL) xvs) rfl rfl rfl rfl (.const (.slice none 0 0)) (.tmp 63) rfl rfl (A := some ⟨bx, ox, none⟩) (m := n) (c := xc) (ys := vlCells xvs) rfl (one_vls _) (by omega) (by omega) (fun wv HC hD => ((HRX.out _ HC).1).now) (fun C9 c9 wv HC q1 q2 hro => ⟨C9, n, c9, rfl, HXL.out.symm, q1, q2, hro⟩) ?_
              rintro u wx HCx ⟨A64, n64, c64, rfl, -, -, -, -⟩
              clear HCx
              simp only [Act.put, List.setIfInBounds_toArray, List.set_cons_succ, List.set_cons_zero]
              refine dw_val rfl rfl rfl ?_; apply Exists.intro; refine ⟨fun wv HC => ?_, ?_⟩
              ·  go_simp <;> rfl
              simp only [Act.put, List.setIfInBounds_toArray, List.set_cons_succ, List.set_cons_zero]
              refine dw_valC 66 (PrSlot (Mut M KL) (xid, xvs, vs)) rfl rfl rfl rfl (.agg #[.int .i64 xid, .slice A64 n64 c64, .slice (some ⟨ga, 0, none⟩) n cr]) (fun wv HC => ?_) (fun wv HC hD => ?_) ?_
              · go_simp <;> rfl
              · have ha : VlsSlot (Mut M KL) xvs (.slice A64 n64 c64) wv := deps_at hD 6 rfl (by kernel_rfl) rfl rfl
                exact prSlot_of HXO.out.id HXO.out.vs HVS.out.2 ha ⟨_, n, cr, rfl, HVS.out.1.symm, hcr.1, hcr.2, (HRX.out _ HC).2⟩
              simp only [Act.put, List.setIfInBounds_toArray, List.set_cons_succ, List.set_cons_zero]
              refine dw_new #[.int .i64 xid, .slice A64 n64 c64, .slice (some ⟨ga, 0, none⟩) n cr] 106 67 (PrsSlot (Mut M KL) [(xid, xvs, vs)]) (fun g => .slice (some ⟨g, 0, none⟩) 1 1) rfl rfl rfl rfl (fun wv => ?_) (fun wv HC _hrm hD hro => ?_) ?_
              · go_simp <;> rfl
              · have hrr := RM.alloc (Mut M KL) wv (.cells #[.int .i64 xid, .slice A64 n64 c64, .slice (some ⟨ga, 0, none⟩) n cr] 106)
                have h0 : PrSlot (Mut M KL) (xid, xvs, vs) (.agg #[.int .i64 xid, .slice A64 n64 c64, .slice (some ⟨ga, 0, none⟩) n cr]) wv := deps_at hD 8 rfl (by kernel_rfl) rfl rfl
                replace h0 := prSlot_mono _ _ _ hrr h0
                exact prsSlot_one (hro _ HC.mutLt) (fun i j k e1 => Value.agg.inj e1) h0
              rintro g67 wg HCg hsl
              simp only [Act.put, List.setIfInBounds_toArray, List.set_cons_succ, List.set_cons_zero]
              clear hsl HCg
              refine rel_nil ?_
              rintro wx5 HX5
              rintro _hrm HGW
              have hb2 : PrsSlot (Mut M KL) [(xid, xvs, vs)] (.slice (some ⟨g67, 0, none⟩) 1 1) wx5 := (GW_on (d := 67) rfl).1 (HGW 9 _ rfl (by omega))
              clear HGW _hrm
              obtain ⟨Aq, nq, cq, pq, heq, -, -, hpm, hpok, hpr⟩ := hb2
              obtain ⟨rfl, rfl, rfl⟩ : some ⟨g67, 0, none⟩ = Aq ∧ 1 = nq ∧ 1 = cq := by injection heq with h1 h2 h3; exact ⟨h1, h2, h3⟩
              clear heq
              rw [HKL.out] at HX5 hpr
              have HPO := hid (prs_ok_app HPS.out hpok)
              have HPE := hid (show prCells ps ++ prCells pq = prCells (ps ++ pq) by simp [prCells])
              have KA := HX5.add (hpr.imp fun w h => (h.2 : PrVals pq w))
              have k5 := hid ((hpr.imp fun w h => h.1).now)
              clear HX5 hpr hpm hpok HF HRX KN
              have FA := KA.facts
              simp only [World.size_alloc, World.size_drew, factsL, cellsF, Nat.reduceAdd, List.toList_toArray, List.set_cons_zero, List.set_cons_succ, List.setIfInBounds_toArray, and_true, true_and] at FA
              go_wp2_with (at_builtin; go_must (refine wpList_appAllH KA 6 rfl Tryz.elPr k5.out rfl (.tmp 59) (.tmp 67) rfl rfl rfl (prCells_one pq) (by omega) (by omega) ?_); intro C' cap' w6 hc6 hm6 KB; rw [HPE.out] at KB; simp only [List.set_cons_zero, List.set_cons_succ] at KB; (have FB := KB.facts); simp only [World.size_alloc, World.size_drew, factsL, cellsF, Nat.reduceAdd, List.toList_toArray, List.set_cons_zero, List.set_cons_succ, List.setIfInBounds_toArray, and_true, true_and] at FB)
              have KD := KB.store 8 rfl 2 (.slice C' (un + 1) cap')
              have KE := (KD.swapRo 7 rfl (prVals_app (KD.ro 7 rfl) (KD.ro 0 rfl))).drop (List.Sublist.cons _ (List.Sublist.cons _ (List.Sublist.cons _ (List.Sublist.cons _ (List.Sublist.cons _ (List.Sublist.refl _))))))
              go_wp2_with fail
              go_roundw
              case rel => exact ⟨j + 1, dn, dc, un + 1, cap', D, C', dels, ps ++ pq, by omega, by first | rfl | go_num, by omega, by omega, HPO, KE⟩
              case measure => simp [intOf]; omega
          · skip
            have KN := KF8.nil 86 3
            have k5 := hid ((KF8.ro 3 rfl).now)
            go_wp2_with (at_builtin; go_must (refine wpList_appAllH KN 0 rfl Tryz.elVl k5.out rfl (.const (.slice none 0 0)) (.tmp 46) rfl rfl rfl (one_vls _) (by omega) (by omega) ?_); intro C9 cap9 w9 hc9 hm9 KB; (try simp only [Nat.zero_add] at hc9 ⊢); simp only [Nat.zero_add, List.nil_append, List.set_cons_zero, List.set_cons_succ] at KB; (have FB := KB.facts); simp only [World.size_alloc, World.size_drew, factsL, cellsF, Nat.reduceAdd, List.toList_toArray, List.set_cons_zero, List.set_cons_succ, List.setIfInBounds_toArray, and_true, true_and] at FB)
            have KV := KB.drop (List.Sublist.cons_cons _ (List.sublist_cons_self _ _))
            obtain ⟨ga, rfl⟩ : ∃ ga, C9 = some ⟨ga, 0, none⟩ := by
              rcases own_addr (KV.get 0 rfl) with ⟨_, h, _⟩ | ⟨g, h, _⟩
              · omega
              · exact ⟨g, h⟩
            obtain ⟨vs, hvs⟩ : ∃ vs, vs = xvs := ⟨_, rfl⟩
            have HVS := hid (show vs.length = n ∧ ∀ v ∈ vs, v.ok by rw [hvs]; exact ⟨HXL.out, HXO.out.vs⟩)
            replace KV := Hold.renVl hvs KV
            clear hvs KB FB KN KF8 FF8 k5
            obtain ⟨cr, rfl⟩ : ∃ cr, cr = cap9 := ⟨_, rfl⟩
            have hcr := And.intro hc9 hm9
            have FV := KV.facts
            simp only [World.size_alloc, World.size_drew, factsL, cellsF, Nat.reduceAdd, List.toList_toArray, List.set_cons_zero, List.set_cons_succ, List.setIfInBounds_toArray, and_true, true_and] at FV
            go_wp2_with fail
            refine (bool_any T 12 _ (KV.tp_ 13 rfl) (by omega) (by omega)).mono ?_
            rintro e wb ⟨bb, rfl, tb, gb⟩
            have KP := Hold.callT KV 13 rfl gb tb
            clear KV gb tb
            have FP := KP.facts
            simp only [World.size_alloc, World.size_drew, factsL, cellsF, Nat.reduceAdd, List.toList_toArray, List.set_cons_zero, List.set_cons_succ, List.setIfInBounds_toArray, and_true, true_and] at FP
            cases bb
            · skip
              have KC := KP
              clear KP
              have KS := KC.sealRow 0 rfl
              simp only [List.set_cons_zero] at KS
              obtain ⟨KL, hKL, KN⟩ := KS.name
              have HF : Hid (∀ wv, Hold M (some T) w wv KL → (wv.cell? ⟨g5, 0, none⟩ = some (.slice none 0 0) ∧ wv.cell? ⟨g5, 1, none⟩ = some (.slice D dn dc) ∧ wv.cell? ⟨g5, 2, none⟩ = some (.slice U un uc) ∧ g5 < wv.heap.size) ∧ wv.cell? ⟨gr, 0, none⟩ = some (.int .i64 xid) ∧ wv.cell? ⟨gr, 1, none⟩ = some (.slice (some ⟨bx, ox, none⟩) n xc) ∧ gr < wv.heap.size) := hid fun wv HC => by
                rw [hKL] at HC
                have y1 := HC.blk_ 7 rfl
                have y2 := HC.cst_ 1 rfl
                exact ⟨⟨cell_of_row _ _ 0 _ _ _ y1, cell_of_row _ _ 1 _ _ _ y1, cell_of_row _ _ 2 _ _ _ y1, Blk.lt y1⟩, cell_of_row _ _ 0 _ _ _ y2, cell_of_row _ _ 1 _ _ _ y2, Blk.lt y2⟩
              have HRX : Hid (∀ wv, Hold M (some T) w wv KL → Ro wv (Mut M KL) (VlsIn (some ⟨bx, ox, none⟩) n xvs) ∧ Ro wv (Mut M KL) (VlsIn (some ⟨ga, 0, none⟩) n vs)) := hid fun wv HC => by
                rw [hKL] at HC ⊢
                exact ⟨HC.ro 3 rfl, HC.ro 0 rfl⟩
              have HKL := hid hKL
              clear hKL KS KC
              go_wp2_with fail
              refine wp_region_any (by kernel_rfl) ?_
              refine wpAny_hold 10 98 (KL) (spL [(64, VlsSlot (Mut M KL) xvs), (66, PrSlot (Mut M KL) (xid, xvs, vs)), (67, PrsSlot (Mut M KL) [(xid, xvs, vs)])]) (by kernel_rfl) (by kernel_rfl) (by kernel_rfl) rfl ?_ (KN.drew) ?_
              · exact stays_cons vlsSlot_mono (stays_cons prSlot_mono (stays_cons prsSlot_mono (stays_nil _)))
              simp only [List.take_succ_cons, List.take_zero, List.drop_succ_cons, List.drop_zero, Act.put, List.getElem_toArray, List.getElem_cons_zero, List.getElem_cons_succ, List.setIfInBounds_toArray, List.set_cons_succ, List.set_cons_zero]
              refine dw_val rfl rfl rfl ?_; apply Exists.intro; refine ⟨fun wv HC => ?_, ?_⟩
              ·  go_simp <;> rfl
              simp only [Act.put, List.setIfInBounds_toArray, List.set_cons_succ, List.set_cons_zero]
              refine dw_val rfl rfl rfl ?_; apply Exists.intro; refine ⟨fun wv HC => ?_, ?_⟩
              · obtain ⟨⟨f0, f1, f2, f3⟩, f4, f5, f6⟩ := HF.out _ HC; go_simp <;> rfl
              simp only [Act.put, List.setIfInBounds_toArray, List.set_cons_succ, List.set_cons_zero]
              refine dw_val rfl rfl rfl ?_; apply Exists.intro; refine ⟨fun wv HC => ?_, ?_⟩
              ·  go_simp <;> rfl
              simp only [Act.put, List.setIfInBounds_toArray, List.set_cons_succ, List.set_cons_zero]
              refine dw_val rfl rfl rfl ?_; apply Exists.intro; refine ⟨fun wv HC => ?_, ?_⟩
              · obtain ⟨⟨f0, f1, f2, f3⟩, f4, f5, f6⟩ := HF.out _ HC; go_simp <;> rfl
              simp only [Act.put, List.setIfInBounds_toArray, List.set_cons_succ, List.set_cons_zero]
              refine dw_val rfl rfl rfl ?_; apply Exists.intro; refine ⟨fun wv HC => ?_, ?_⟩
              ·  go_simp <;> rfl
              simp only [Act.put, List.setIfInBounds_toArray, List.set_cons_succ, List.set_cons_zero]
              refine dw_val rfl rfl rfl ?_; apply Exists.intro; refine ⟨fun wv HC => ?_, ?_⟩
              · obtain ⟨⟨f0, f1, f2, f3⟩, f4, f5, f6⟩ := HF.out _ HC; go_simp <;> rfl
              simp only [Act.put, List.setIfInBounds_toArray, List.set_cons_succ, List.set_cons_zero]
              refine dw_clone Tryz.elVl 64 (VlsSlot (Mut M KL) xvs) rfl rfl rfl rfl (.const (.slice none 0 0)) (.tmp 63) rfl rfl (A := some ⟨bx, ox, none⟩) (m := n) (c := xc) (ys := vlCells xvs) rfl (one_vls _) (by omega) (by omega) (fun wv HC hD => ((HRX.out _ HC).1).now) (fun C9 c9 wv HC q1 q2 hro => ⟨C9, n, c9, rfl, HXL.out.symm, q1, q2, hro⟩) ?_
              rintro u wx HCx ⟨A64, n64, c64, rfl, -, -, -, -⟩
              clear HCx
              simp only [Act.put, List.setIfInBounds_toArray, List.set_cons_succ, List.set_cons_zero]
              refine dw_val rfl rfl rfl ?_; apply Exists.intro; refine ⟨fun wv HC => ?_, ?_⟩
              ·  go_simp <;> rfl
              simp only [Act.put, List.setIfInBounds_toArray, List.set_cons_succ, List.set_cons_zero]
              refine dw_valC 66 (PrSlot (Mut M KL) (xid, xvs, vs)) rfl rfl rfl rfl (.agg #[.int .i64 xid, .slice A64 n64 c64, .slice (some ⟨ga, 0, none⟩) n cr]) (fun wv HC => ?_) (fun wv HC hD => ?_) ?_
              · go_simp <;> rfl
              · have ha : VlsSlot (Mut M KL) xvs (.slice A64 n64 c64) wv := deps_at hD 6 rfl (by kernel_rfl) rfl rfl
                exact prSlot_of HXO.out.id HXO.out.vs HVS.out.2 ha ⟨_, n, cr, rfl, HVS.out.1.symm, hcr.1, hcr.2, (HRX.out _ HC).2⟩
              simp only [Act.put, List.setIfInBounds_toArray, List.set_cons_succ, List.set_cons_zero]
              refine dw_new #[.int .i64 xid, .slice A64 n64 c64, .slice (some ⟨ga, 0, none⟩) n cr] 106 67 (PrsSlot (Mut M KL) [(xid, xvs, vs)]) (fun g => .slice (some ⟨g, 0, none⟩) 1 1) rfl rfl rfl rfl (fun wv => ?_) (fun wv HC _hrm hD hro => ?_) ?_
              · go_simp <;> rfl
              · have hrr := RM.alloc (Mut M KL) wv (.cells #[.int .i64 xid, .slice A64 n64 c64, .slice (some ⟨ga, 0, none⟩) n cr] 106)
                have h0 : PrSlot (Mut M KL) (xid, xvs, vs) (.agg #[.int .i64 xid, .slice A64 n64 c64, .slice (some ⟨ga, 0, none⟩) n cr]) wv := deps_at hD 8 rfl (by kernel_rfl) rfl rfl
                replace h0 := prSlot_mono _ _ _ hrr h0
                exact prsSlot_one (hro _ HC.mutLt) (fun i j k e1 => Value.agg.inj e1) h0
              rintro g67 wg HCg hsl
              simp only [Act.put, List.setIfInBounds_toArray, List.set_cons_succ, List.set_cons_zero]
              clear hsl HCg
              refine rel_nil ?_
              rintro wx5 HX5
              rintro _hrm HGW
              have hb2 : PrsSlot (Mut M KL) [(xid, xvs, vs)] (.slice (some ⟨g67, 0, none⟩) 1 1) wx5 := (GW_on (d := 67) rfl).1 (HGW 9 _ rfl (by omega))
              clear HGW _hrm
              obtain ⟨Aq, nq, cq, pq, heq, -, -, hpm, hpok, hpr⟩ := hb2
              obtain ⟨rfl, rfl, rfl⟩ : some ⟨g67, 0, none⟩ = Aq ∧ 1 = nq ∧ 1 = cq := by injection heq with h1 h2 h3; exact ⟨h1, h2, h3⟩
              clear heq
              rw [HKL.out] at HX5 hpr
              have HPO := hid (prs_ok_app HPS.out hpok)
              have HPE := hid (show prCells ps ++ prCells pq = prCells (ps ++ pq) by simp [prCells])
              have KA := HX5.add (hpr.imp fun w h => (h.2 : PrVals pq w))
              have k5 := hid ((hpr.imp fun w h => h.1).now)
              clear HX5 hpr hpm hpok HF HRX KN
              have FA := KA.facts
              simp only [World.size_alloc, World.size_drew, factsL, cellsF, Nat.reduceAdd, List.toList_toArray, List.set_cons_zero, List.set_cons_succ, List.setIfInBounds_toArray, and_true, true_and] at FA
              go_wp2_with (at_builtin; go_must (refine wpList_appAllH KA 6 rfl Tryz.elPr k5.out rfl (.tmp 59) (.tmp 67) rfl rfl rfl (prCells_one pq) (by omega) (by omega) ?_); intro C' cap' w6 hc6 hm6 KB; rw [HPE.out] at KB; simp only [List.set_cons_zero, List.set_cons_succ] at KB; (have FB := KB.facts); simp only [World.size_alloc, World.size_drew, factsL, cellsF, Nat.reduceAdd, List.toList_toArray, List.set_cons_zero, List.set_cons_succ, List.setIfInBounds_toArray, and_true, true_and] at FB)
              have KD := KB.store 8 rfl 2 (.slice C' (un + 1) cap')
              have KE := (KD.swapRo 7 rfl (prVals_app (KD.ro 7 rfl) (KD.ro 0 rfl))).drop (List.Sublist.cons _ (List.Sublist.cons _ (List.Sublist.cons _ (List.Sublist.cons _ (List.Sublist.cons _ (List.Sublist.refl _))))))
              go_wp2_with fail
              go_roundw
              case rel => exact ⟨j + 1, dn, dc, un + 1, cap', D, C', dels, ps ++ pq, by omega, by first | rfl | go_num, by omega, by omega, HPO, KE⟩
              case measure => simp [intOf]; omega
            · skip
              go_wp2_with fail
              refine (next_any T (n : Int) _ (KP.tp_ 13 rfl) (by omega) (by omega)).mono ?_
              rintro e wc ⟨q, rfl, q0, q1, tc, gc⟩
              obtain ⟨q, rfl⟩ := Int.eq_ofNat_of_zero_le q0
              have KQ := Hold.callT KP 13 rfl gc tc
              clear KP gc tc FP
              have FQ := KQ.facts
              simp only [World.size_alloc, World.size_drew, factsL, cellsF, Nat.reduceAdd, List.toList_toArray, List.set_cons_zero, List.set_cons_succ, List.setIfInBounds_toArray, and_true, true_and] at FQ
              go_wp2_with fail
              refine (value_any T _ (KQ.tp_ 13 rfl) (KQ.ro 10 rfl).now hT).mono ?_
              rintro e wd ⟨kv, iv, sv, rfl, hv, hsv, hiv, td, _, gd⟩
              have KR := Hold.callT KQ 13 rfl gd td
              clear KQ gd td FQ
              have HQL := hid (show q < vs.length by have := HVS.out.1; omega)
              obtain ⟨uq, huq⟩ : ∃ uq, vs[q]? = some uq := ⟨_, List.getElem?_eq_getElem HQL.out⟩
              obtain ⟨⟨z0, z1, z2⟩, ⟨z3, z4, z5⟩, z6⟩ := own_vl (KR.get 0 rfl) huq
              clear huq
              have KC := KR.putVl 0 rfl q HQL.out ⟨kv, iv, sv⟩
              simp only [List.set_cons_zero] at KC
              have HVS := hid (show (vs.set q ⟨kv, iv, sv⟩).length = n ∧ ∀ v ∈ vs.set q ⟨kv, iv, sv⟩, v.ok from ⟨by rw [List.length_set]; exact HVS.out.1, oks_set HVS.out.2 ⟨validB_k hv, hiv, by show sv.size ≤ maxLen; unfold maxLen; omega⟩⟩)
              clear hv KR
              generalize vs.set q ⟨kv, iv, sv⟩ = vs at HVS KC
              have FC := KC.facts
              simp only [World.size_alloc, World.size_drew, factsL, cellsF, Nat.reduceAdd, List.toList_toArray, List.set_cons_zero, List.set_cons_succ, List.setIfInBounds_toArray, and_true, true_and] at FC
              have KS := KC.sealRow 0 rfl
              simp only [List.set_cons_zero] at KS
              obtain ⟨KL, hKL, KN⟩ := KS.name
              have HF : Hid (∀ wv, Hold M (some T) w wv KL → (wv.cell? ⟨g5, 0, none⟩ = some (.slice none 0 0) ∧ wv.cell? ⟨g5, 1, none⟩ = some (.slice D dn dc) ∧ wv.cell? ⟨g5, 2, none⟩ = some (.slice U un uc) ∧ g5 < wv.heap.size) ∧ wv.cell? ⟨gr, 0, none⟩ = some (.int .i64 xid) ∧ wv.cell? ⟨gr, 1, none⟩ = some (.slice (some ⟨bx, ox, none⟩) n xc) ∧ gr < wv.heap.size) := hid fun wv HC => by
                rw [hKL] at HC
                have y1 := HC.blk_ 7 rfl
                have y2 := HC.cst_ 1 rfl
                exact ⟨⟨cell_of_row _ _ 0 _ _ _ y1, cell_of_row _ _ 1 _ _ _ y1, cell_of_row _ _ 2 _ _ _ y1, Blk.lt y1⟩, cell_of_row _ _ 0 _ _ _ y2, cell_of_row _ _ 1 _ _ _ y2, Blk.lt y2⟩
              have HRX : Hid (∀ wv, Hold M (some T) w wv KL → Ro wv (Mut M KL) (VlsIn (some ⟨bx, ox, none⟩) n xvs) ∧ Ro wv (Mut M KL) (VlsIn (some ⟨ga, 0, none⟩) n vs)) := hid fun wv HC => by
                rw [hKL] at HC ⊢
                exact ⟨HC.ro 3 rfl, HC.ro 0 rfl⟩
              have HKL := hid hKL
              clear hKL KS KC
              go_wp2_with fail
              refine wp_region_any (by kernel_rfl) ?_
              refine wpAny_hold 10 98 (KL) (spL [(64, VlsSlot (Mut M KL) xvs), (66, PrSlot (Mut M KL) (xid, xvs, vs)), (67, PrsSlot (Mut M KL) [(xid, xvs, vs)])]) (by kernel_rfl) (by kernel_rfl) (by kernel_rfl) rfl ?_ (KN.drew) ?_
              · exact stays_cons vlsSlot_mono (stays_cons prSlot_mono (stays_cons prsSlot_mono (stays_nil _)))
              simp only [List.take_succ_cons, List.take_zero, List.drop_succ_cons, List.drop_zero, Act.put, List.getElem_toArray, List.getElem_cons_zero, List.getElem_cons_succ, List.setIfInBounds_toArray, List.set_cons_succ, List.set_cons_zero]
              refine dw_val rfl rfl rfl ?_; apply Exists.intro; refine ⟨fun wv HC => ?_, ?_⟩
              ·  go_simp <;> rfl
              simp only [Act.put, List.setIfInBounds_toArray, List.set_cons_succ, List.set_cons_zero]
              refine dw_val rfl rfl rfl ?_; apply Exists.intro; refine ⟨fun wv HC => ?_, ?_⟩
              · obtain ⟨⟨f0, f1, f2, f3⟩, f4, f5, f6⟩ := HF.out _ HC; go_simp <;> rfl
              simp only [Act.put, List.setIfInBounds_toArray, List.set_cons_succ, List.set_cons_zero]
              refine dw_val rfl rfl rfl ?_; apply Exists.intro; refine ⟨fun wv HC => ?_, ?_⟩
              ·  go_simp <;> rfl
              simp only [Act.put, List.setIfInBounds_toArray, List.set_cons_succ, List.set_cons_zero]
              refine dw_val rfl rfl rfl ?_; apply Exists.intro; refine ⟨fun wv HC => ?_, ?_⟩
              · obtain ⟨⟨f0, f1, f2, f3⟩, f4, f5, f6⟩ := HF.out _ HC; go_simp <;> rfl
              simp only [Act.put, List.setIfInBounds_toArray, List.set_cons_succ, List.set_cons_zero]
              refine dw_val rfl rfl rfl ?_; apply Exists.intro; refine ⟨fun wv HC => ?_, ?_⟩
              ·  go_simp <;> rfl
              simp only [Act.put, List.setIfInBounds_toArray, List.set_cons_succ, List.set_cons_zero]
              refine dw_val rfl rfl rfl ?_; apply Exists.intro; refine ⟨fun wv HC => ?_, ?_⟩
              · obtain ⟨⟨f0, f1, f2, f3⟩, f4, f5, f6⟩ := HF.out _ HC; go_simp <;> rfl
              simp only [Act.put, List.setIfInBounds_toArray, List.set_cons_succ, List.set_cons_zero]
              refine dw_clone Tryz.elVl 64 (VlsSlot (Mut M KL) xvs) rfl rfl rfl rfl (.const (.slice none 0 0)) (.tmp 63) rfl rfl (A := some ⟨bx, ox, none⟩) (m := n) (c := xc) (ys := vlCells xvs) rfl (one_vls _) (by omega) (by omega) (fun wv HC hD => ((HRX.out _ HC).1).now) (fun C9 c9 wv HC q1 q2 hro => ⟨C9, n, c9, rfl, HXL.out.symm, q1, q2, hro⟩) ?_
              rintro u wx HCx ⟨A64, n64, c64, rfl, -, -, -, -⟩
              clear HCx
              simp only [Act.put, List.setIfInBounds_toArray, List.set_cons_succ, List.set_cons_zero]
              refine dw_val rfl rfl rfl ?_; apply Exists.intro; refine ⟨fun wv HC => ?_, ?_⟩
              ·  go_simp <;> rfl
              simp only [Act.put, List.setIfInBounds_toArray, List.set_cons_succ, List.set_cons_zero]
              refine dw_valC 66 (PrSlot (Mut M KL) (xid, xvs, vs)) rfl rfl rfl rfl (.agg #[.int .i64 xid, .slice A64 n64 c64, .slice (some ⟨ga, 0, none⟩) n cr]) (fun wv HC => ?_) (fun wv HC hD => ?_) ?_
              · go_simp <;> rfl
              · have ha : VlsSlot (Mut M KL) xvs (.slice A64 n64 c64) wv := deps_at hD 6 rfl (by kernel_rfl) rfl rfl
                exact prSlot_of HXO.out.id HXO.out.vs HVS.out.2 ha ⟨_, n, cr, rfl, HVS.out.1.symm, hcr.1, hcr.2, (HRX.out _ HC).2⟩
              simp only [Act.put, List.setIfInBounds_toArray, List.set_cons_succ, List.set_cons_zero]
              refine dw_new #[.int .i64 xid, .slice A64 n64 c64, .slice (some ⟨ga, 0, none⟩) n cr] 106 67 (PrsSlot (Mut M KL) [(xid, xvs, vs)]) (fun g => .slice (some ⟨g, 0, none⟩) 1 1) rfl rfl rfl rfl (fun wv => ?_) (fun wv HC _hrm hD hro => ?_) ?_
              · go_simp <;> rfl
              · have hrr := RM.alloc (Mut M KL) wv (.cells #[.int .i64 xid, .slice A64 n64 c64, .slice (some ⟨ga, 0, none⟩) n cr] 106)
                have h0 : PrSlot (Mut M KL) (xid, xvs, vs) (.agg #[.int .i64 xid, .slice A64 n64 c64, .slice (some ⟨ga, 0, none⟩) n cr]) wv := deps_at hD 8 rfl (by kernel_rfl) rfl rfl
                replace h0 := prSlot_mono _ _ _ hrr h0
                exact prsSlot_one (hro _ HC.mutLt) (fun i j k e1 => Value.agg.inj e1) h0
              rintro g67 wg HCg hsl
              simp only [Act.put, List.setIfInBounds_toArray, List.set_cons_succ, List.set_cons_zero]
              clear hsl HCg
              refine rel_nil ?_
              rintro wx5 HX5
              rintro _hrm HGW
              have hb2 : PrsSlot (Mut M KL) [(xid, xvs, vs)] (.slice (some ⟨g67, 0, none⟩) 1 1) wx5 := (GW_on (d := 67) rfl).1 (HGW 9 _ rfl (by omega))
              clear HGW _hrm
              obtain ⟨Aq, nq, cq, pq, heq, -, -, hpm, hpok, hpr⟩ := hb2
              obtain ⟨rfl, rfl, rfl⟩ : some ⟨g67, 0, none⟩ = Aq ∧ 1 = nq ∧ 1 = cq := by injection heq with h1 h2 h3; exact ⟨h1, h2, h3⟩
              clear heq
              rw [HKL.out] at HX5 hpr
              have HPO := hid (prs_ok_app HPS.out hpok)
              have HPE := hid (show prCells ps ++ prCells pq = prCells (ps ++ pq) by simp [prCells])
              have KA := HX5.add (hpr.imp fun w h => (h.2 : PrVals pq w))
              have k5 := hid ((hpr.imp fun w h => h.1).now)
              clear HX5 hpr hpm hpok HF HRX KN
              have FA := KA.facts
              simp only [World.size_alloc, World.size_drew, factsL, cellsF, Nat.reduceAdd, List.toList_toArray, List.set_cons_zero, List.set_cons_succ, List.setIfInBounds_toArray, and_true, true_and] at FA
              go_wp2_with (at_builtin; go_must (refine wpList_appAllH KA 6 rfl Tryz.elPr k5.out rfl (.tmp 59) (.tmp 67) rfl rfl rfl (prCells_one pq) (by omega) (by omega) ?_); intro C' cap' w6 hc6 hm6 KB; rw [HPE.out] at KB; simp only [List.set_cons_zero, List.set_cons_succ] at KB; (have FB := KB.facts); simp only [World.size_alloc, World.size_drew, factsL, cellsF, Nat.reduceAdd, List.toList_toArray, List.set_cons_zero, List.set_cons_succ, List.setIfInBounds_toArray, and_true, true_and] at FB)
              have KD := KB.store 8 rfl 2 (.slice C' (un + 1) cap')
              have KE := (KD.swapRo 7 rfl (prVals_app (KD.ro 7 rfl) (KD.ro 0 rfl))).drop (List.Sublist.cons _ (List.Sublist.cons _ (List.Sublist.cons _ (List.Sublist.cons _ (List.Sublist.cons _ (List.Sublist.refl _))))))
              go_wp2_with fail
              go_roundw
              case rel => exact ⟨j + 1, dn, dc, un + 1, cap', D, C', dels, ps ++ pq, by omega, by first | rfl | go_num, by omega, by omega, HPO, KE⟩
              case measure => simp [intOf]; omega
      · have z2 : (z == 0) = false := by rw [beq_eq_false_iff_ne]; omega
        have z3 : (z == 1) = false := by rw [beq_eq_false_iff_ne]; omega
        go_wp2_with fail
        have KC := K2.drop (List.Sublist.cons _ (List.Sublist.cons _ (List.Sublist.cons _ (List.Sublist.refl _))))
        go_roundw
        case rel => exact ⟨j + 1, dn, dc, un, uc, _, U, dels, ps, by omega, by first | rfl | go_num, by omega, by omega, HPS, KC⟩
        case measure => simp [intOf]; omega
    · obtain rfl : m = j := by omega
      have hd : decide ((m : Int) < (m : Int)) = false := by simp
      clear hlt
      obtain ⟨hdc1, hdc2, _⟩ := own_caps (H.get 0 rfl)
      obtain ⟨huc1, huc2, _⟩ := own_caps (H.get 1 rfl)
      have KS := H.sealRow 0 rfl
      simp only [List.set_cons_zero] at KS
      have KS2 := KS.sealRow 1 rfl
      simp only [List.set_cons_zero, List.set_cons_succ] at KS2
      clear H KS
      go_wp2_with fail
      refine (next_any T 4 _ (KS2.tp_ 9 rfl) (by omega) (by omega)).mono ?_
      rintro e w3 ⟨i0, rfl, i00, i01, t3, g3⟩
      obtain ⟨i0, rfl⟩ := Int.eq_ofNat_of_zero_le i00
      have K2 := ((Hold.callT KS2 9 rfl g3 t3).add (show Ro _ _ (SlVals []) from fun _ _ _ r hr => nomatch hr)).nil 87 1
      have hi0 : i0 ≤ 3 := by omega
      clear KS2 g3 t3 i00 i01
      go_wp2_with fail
      clear hd
      go_loopw [9] (fun iv wr => ∃ (i k ic : Nat) (I : Option Addr) (si : List Sl), iv = .int .i64 i ∧ i + k ≤ 3 ∧ Hid (∀ s ∈ si, s.ok) ∧ Hold M (some T) w wr [.own 87 1 (.slice I k ic) k (slCells si), .ro (SlVals si), .ro (SlR 1 D dn (iCells dels)), .ro (SlR 3 U un (prCells ps)), .ro (PrVals ps), .blk g5 69 #[.slice I k ic, .slice D dn dc, .slice U un uc], .blk g4 69 #[.slice none 0 0, .slice none 0 0, .slice none 0 0], .cst gx 34 #[.string nm, .slice A n c, .int .i64 nx, .slice B m d], .ro Wds, .ro (ColsIn A n cs), .ro (RwsIn B m l), .tp T]) (fun iv _ => (intOf iv).toNat)
      case atStart => exact ⟨i0, 0, 0, none, [], rfl, by omega, hid (fun s hs => nomatch hs), K2⟩
      case round =>
        clear K2 hi0
        obtain ⟨i, k, ic, I, si, rfl, hik, HSI, H⟩ := hrel
        by_cases hlt : 0 < i
        · obtain ⟨i, rfl⟩ : ∃ i', i = i' + 1 := ⟨i - 1, by omega⟩
          have hd : decide (((i + 1 : Nat) : Int) > 0) = true := by rw [decide_eq_true_iff]; omega
          clear hlt
          have FH := H.facts
          simp only [World.size_alloc, World.size_drew, factsL, cellsF, Nat.reduceAdd, List.toList_toArray, List.set_cons_zero, List.set_cons_succ, List.setIfInBounds_toArray, and_true, true_and] at FH
          go_wp2_with fail
          refine (trow_any (Mut M _) T _ H.mutLt (H.tp_ 11 rfl) (H.get 11 rfl).2 nm A n c cs ((H.ro 9 rfl).less (mut_tp (i := 11) rfl)) ((H.ro 8 rfl).less (mut_tp (i := 11) rfl)) hT hn HOKC.out).mono ?_
          rintro e w4 ⟨Ar, nr, cr, vs, rfl, hnr, hvr, hfr, ho, t4, g4'⟩
          have KV := Hold.addOwn H (Hold.callT H 11 rfl g4' t4) (RM.grown g4' (.inr ⟨_, List.mem_of_getElem? (i := 11) rfl, rfl⟩)) ho
          obtain rfl : n = nr := by have h1 := fitsAll_len hfr; have h2 := HL.out; omega
          have hcr := own_caps (KV.get 0 rfl)
          replace hcr := And.intro hcr.1 hcr.2.1
          have HVS := hid (show vs.length = n ∧ ∀ v ∈ vs, v.ok from ⟨hnr.symm, hvr⟩)
          obtain ⟨ga, rfl⟩ : ∃ ga, Ar = some ⟨ga, 0, none⟩ := by
            rcases own_addr (KV.get 0 rfl) with ⟨_, h, _⟩ | ⟨g, h, _⟩
            · omega
            · exact ⟨g, h⟩
          clear H ho t4 g4' hnr hvr hfr FH
          have FV := KV.facts
          simp only [World.size_alloc, World.size_drew, factsL, cellsF, Nat.reduceAdd, List.toList_toArray, List.set_cons_zero, List.set_cons_succ, List.setIfInBounds_toArray, and_true, true_and] at FV
          go_wp2_with fail
          refine (bool_any T 12 _ (KV.tp_ 12 rfl) (by omega) (by omega)).mono ?_
          rintro e wb ⟨bb, rfl, tb, gb⟩
          have KP := Hold.callT KV 12 rfl gb tb
          clear KV gb tb
          have FP := KP.facts
          simp only [World.size_alloc, World.size_drew, factsL, cellsF, Nat.reduceAdd, List.toList_toArray, List.set_cons_zero, List.set_cons_succ, List.setIfInBounds_toArray, and_true, true_and] at FP
          cases bb
          · skip
            have KC := KP
            clear KP
            have KS := KC.sealRow 0 rfl
            simp only [List.set_cons_zero] at KS
            have HCE := hid (show slCells si ++ (#[Value.slice (some ⟨ga, 0, none⟩) n cr]).toList = slCells (si ++ [⟨some ⟨ga, 0, none⟩, n, cr, vs⟩]) by simp [slCells, Sl.cells])
            have HSO := hid (sls_ok_snoc HSI.out (x := ⟨some ⟨ga, 0, none⟩, n, cr, vs⟩) ⟨hcr.1, hcr.2, HVS.out.2⟩)
            clear KC
            have FS := KS.facts
            simp only [World.size_alloc, World.size_drew, factsL, cellsF, Nat.reduceAdd, List.toList_toArray, List.set_cons_zero, List.set_cons_succ, List.setIfInBounds_toArray, and_true, true_and] at FS
            go_wp2_with (at_builtin; go_must (refine wpList_appH KS 1 rfl Tryz.elSlc #[.slice (some ⟨ga, 0, none⟩) n cr] rfl (.tmp 92) (.tmp 94) rfl rfl _ (by first | rfl | simp [World.setCell]) rfl rfl (by intro u hu; simp at hu; rcases hu with rfl; rfl) (by omega) (by omega) ?_); intro g9 cap9 w9 hc9 hm9 KB; rw [HCE.out] at KB; simp only [List.set_cons_zero, List.set_cons_succ] at KB; (have FB := KB.facts); simp only [World.size_alloc, World.size_drew, factsL, cellsF, Nat.reduceAdd, List.toList_toArray, List.set_cons_zero, List.set_cons_succ, List.setIfInBounds_toArray, and_true, true_and] at FB)
            have KD := KB.store 6 rfl 0 (.slice (some ⟨g9, 0, none⟩) (k + 1) cap9)
            have KE := (KD.swapRo 2 rfl (sls_snoc (r := ⟨some ⟨ga, 0, none⟩, n, cr, vs⟩) (KD.ro 2 rfl) (KD.ro 0 rfl))).drop (List.sublist_cons_self _ _)
            go_roundw
            case rel => exact ⟨i, k + 1, cap9, _, _, by first | rfl | go_num, by omega, HSO, KE⟩
            case measure => simp [intOf] <;> omega
          · skip
            go_wp2_with fail
            refine (next_any T (n : Int) _ (KP.tp_ 12 rfl) (by omega) (by omega)).mono ?_
            rintro e wc ⟨q, rfl, q0, q1, tc, gc⟩
            obtain ⟨q, rfl⟩ := Int.eq_ofNat_of_zero_le q0
            have KQ := Hold.callT KP 12 rfl gc tc
            clear KP gc tc FP
            have FQ := KQ.facts
            simp only [World.size_alloc, World.size_drew, factsL, cellsF, Nat.reduceAdd, List.toList_toArray, List.set_cons_zero, List.set_cons_succ, List.setIfInBounds_toArray, and_true, true_and] at FQ
            go_wp2_with fail
            refine (value_any T _ (KQ.tp_ 12 rfl) (KQ.ro 9 rfl).now hT).mono ?_
            rintro e wd ⟨kv, iv, sv, rfl, hv, hsv, hiv, td, _, gd⟩
            have KR := Hold.callT KQ 12 rfl gd td
            clear KQ gd td FQ
            have HQL := hid (show q < vs.length by have := HVS.out.1; omega)
            obtain ⟨uq, huq⟩ : ∃ uq, vs[q]? = some uq := ⟨_, List.getElem?_eq_getElem HQL.out⟩
            obtain ⟨⟨z0, z1, z2⟩, ⟨z3, z4, z5⟩, z6⟩ := own_vl (KR.get 0 rfl) huq
            clear huq
            have KC := KR.putVl 0 rfl q HQL.out ⟨kv, iv, sv⟩
            simp only [List.set_cons_zero] at KC
            have HVS := hid (show (vs.set q ⟨kv, iv, sv⟩).length = n ∧ ∀ v ∈ vs.set q ⟨kv, iv, sv⟩, v.ok from ⟨by rw [List.length_set]; exact HVS.out.1, oks_set HVS.out.2 ⟨validB_k hv, hiv, by show sv.size ≤ maxLen; unfold maxLen; omega⟩⟩)
            clear hv KR
            generalize vs.set q ⟨kv, iv, sv⟩ = vs at HVS KC
            have FC := KC.facts
            simp only [World.size_alloc, World.size_drew, factsL, cellsF, Nat.reduceAdd, List.toList_toArray, List.set_cons_zero, List.set_cons_succ, List.setIfInBounds_toArray, and_true, true_and] at FC
            have KS := KC.sealRow 0 rfl
            simp only [List.set_cons_zero] at KS
            have HCE := hid (show slCells si ++ (#[Value.slice (some ⟨ga, 0, none⟩) n cr]).toList = slCells (si ++ [⟨some ⟨ga, 0, none⟩, n, cr, vs⟩]) by simp [slCells, Sl.cells])
            have HSO := hid (sls_ok_snoc HSI.out (x := ⟨some ⟨ga, 0, none⟩, n, cr, vs⟩) ⟨hcr.1, hcr.2, HVS.out.2⟩)
            clear KC
            have FS := KS.facts
            simp only [World.size_alloc, World.size_drew, factsL, cellsF, Nat.reduceAdd, List.toList_toArray, List.set_cons_zero, List.set_cons_succ, List.setIfInBounds_toArray, and_true, true_and] at FS
            go_wp2_with (at_builtin; go_must (refine wpList_appH KS 1 rfl Tryz.elSlc #[.slice (some ⟨ga, 0, none⟩) n cr] rfl (.tmp 92) (.tmp 94) rfl rfl _ (by first | rfl | simp [World.setCell]) rfl rfl (by intro u hu; simp at hu; rcases hu with rfl; rfl) (by omega) (by omega) ?_); intro g9 cap9 w9 hc9 hm9 KB; rw [HCE.out] at KB; simp only [List.set_cons_zero, List.set_cons_succ] at KB; (have FB := KB.facts); simp only [World.size_alloc, World.size_drew, factsL, cellsF, Nat.reduceAdd, List.toList_toArray, List.set_cons_zero, List.set_cons_succ, List.setIfInBounds_toArray, and_true, true_and] at FB)
            have KD := KB.store 6 rfl 0 (.slice (some ⟨g9, 0, none⟩) (k + 1) cap9)
            have KE := (KD.swapRo 2 rfl (sls_snoc (r := ⟨some ⟨ga, 0, none⟩, n, cr, vs⟩) (KD.ro 2 rfl) (KD.ro 0 rfl))).drop (List.sublist_cons_self _ _)
            go_roundw
            case rel => exact ⟨i, k + 1, cap9, _, _, by first | rfl | go_num, by omega, HSO, KE⟩
            case measure => simp [intOf] <;> omega
        · obtain rfl : i = 0 := by omega
          have hd : decide (((0 : Nat) : Int) > 0) = false := by decide
          have F := H.facts
          simp only [World.size_alloc, World.size_drew, factsL, cellsF, Nat.reduceAdd, List.toList_toArray, List.set_cons_zero, List.set_cons_succ, List.setIfInBounds_toArray, and_true, true_and] at F
          obtain ⟨hic1, hic2, _⟩ := own_caps (H.get 0 rfl)
          have KS := H.sealRow 0 rfl
          simp only [List.set_cons_zero] at KS
          have KN := ((KS.store 6 rfl 0 (.slice I k ic)).store 6 rfl 1 (.slice D dn dc)).store 6 rfl 2 (.slice U un uc)
          have r0 := KN.roOut 0 rfl
          have r1 := KN.roOut 1 rfl
          have r2 := KN.roOut 2 rfl
          have r3 := KN.roOut 3 rfl
          have r4 := KN.roOut 4 rfl
          clear KS
          have HI := hid (show si.length = k by have h := (show Rd _ _ _ _ _ _ from r0.now).1; rw [slCells_len] at h; omega)
          have HDL := hid (show dels.length = dn by have h := (show Rd _ _ _ _ _ _ from r2.now).1; rw [iCells_len] at h; omega)
          have HUL := hid (show ps.length = un by have h := (show Rd _ _ _ _ _ _ from r3.now).1; rw [prCells_len] at h; omega)
          go_wp2_with fail
          exact bodyPost_ret (v := .agg #[.slice I k ic, .slice D dn dc, .slice U un uc]) (by simp [results, Tryz.results33, go_sem, F]) rfl ⟨_, si.map Sl.vs, dels, ps.map Pr.upd, rfl, chgSlot_of ⟨I, k, ic, si, rfl, hic1, hic2, rfl, HSI.out, r0.and r1⟩ ⟨D, dn, dc, rfl, hdc1, hdc2, r2⟩ ⟨U, un, uc, ps, rfl, huc1, huc2, rfl, HPS.out, r3.and r4⟩, by rw [List.length_map, HI.out]; omega, by rw [HDL.out]; omega, by rw [List.length_map, HUL.out]; omega, KN.tp_ 11 rfl, KN.grow⟩
end Go.Proofs.YtljmclbedpceoaaGreatDoor

namespace Go.Proofs.YtljmclbedpceoaaGreatDoor
open Go.RowKit
set_option linter.unusedVariables false
set_option linter.unusedSimpArgs false

theorem tbAt_less {w : World} {M M' : Nat → Prop} {v : Value} {t : Tb} (h : TbAt w M v t) (hM : ∀ b, M' b → M b) : TbAt w M' v t := by
  obtain ⟨A, n, c, B, m, d, l, h1, h2, h3, h4, h5, h6, h7, h8, h9⟩ := h
  exact ⟨A, n, c, B, m, d, l, h1, h2, h3, h4, h5, h6.less hM, h7.less hM, h8, h9⟩
/-- a valid table of a schema of the three -/
structure VTab (t : Tb) : Prop where
  sch : SchOk t.nm t.cs
  val : tabB t.nm t.cs t.nx t.rs = true
theorem VTab.fit {t : Tb} (h : VTab t) {l : List Rw} (hl : l.map Rw.row = t.rs) : ∀ r ∈ l, r.vs.length = t.cs.length := fun r hr => by
  obtain ⟨_, _, _, _, hok, _⟩ := tabB_ok h.val
  exact fitsT_len (okR_fits hok r.row (by rw [← hl]; exact List.mem_map_of_mem hr))
theorem VTab.rows {t : Tb} (h : VTab t) : t.rs.length ≤ 100 := (tabB_ok h.val).2.1
theorem VTab.len {t : Tb} (h : VTab t) : ∀ r ∈ t.rs, r.2.length ≤ 4 := fun r hr => by
  obtain ⟨_, _, _, _, hok, _⟩ := tabB_ok h.val
  have h1 := fitsT_len (okR_fits hok r hr)
  have h2 := h.sch.len
  omega
theorem chgof_slot (M : Nat → Prop) (T : Nat) (w : World) (hM : ∀ b, M b → b < w.heap.size) (ht : Tp w T) (hMT : ∀ b, M b → T ≤ b) (v : Value) (t : Tb) (hT : TbAt w (Mut M [.tp T]) v t) (hv : VTab t) (hW : Ro w (Mut M [.tp T]) Wds) (hw : 1 < T) :
    Calls Tryz.prog 33 #[.pointer (some ⟨T, 0, none⟩), v] w fun e w' => DrawnChg w T M t.rs.length e w' := by
  obtain ⟨A, n, c, B, m, d, l, rfl, h1, h2, h3, h4, h5, h6, h7, h8⟩ := hT
  have hn : t.cs.length = n := cols_n h5.now
  have hm : l.length = m := h6.now.len
  have hml : t.rs.length = m := by rw [← h8, List.length_map, hm]
  have hl := hv.sch.len
  have hr := hv.rows
  rw [hml]
  exact chgof_any M T w hM ht hMT t.nm A n c t.cs t.nx B m d l h5 h6 hW hw (by omega) (by omega) (by omega) hv.sch.col (fun r hr => by rw [← hn]; exact hv.fit h8 r hr) h7
theorem tof_slot (M : Nat → Prop) (T : Nat) (w : World) (hM : ∀ b, M b → b < w.heap.size) (ht : Tp w T) (hMT : ∀ b, M b → T ≤ b) (nm : ByteArray) (A : Option Addr) (n c : Nat) (cs : List Col) (N : Nat) (hD : Ro w (Mut M [.tp T]) (ColsIn A n cs)) (hc1 : n ≤ c) (hc2 : c ≤ 9223372036854775807) (hs : SchOk nm cs) (hW : Ro w (Mut M [.tp T]) Wds) (hw : 1 < T) (hN : N ≤ 50) :
    Calls Tryz.prog 9 #[.pointer (some ⟨T, 0, none⟩), .agg #[.string nm, .slice A n c], .int .i64 N] w fun e w' => ∃ (v : Value) (t : Tb), e = .returned v ∧ TbAt w' M v t ∧ VTab t ∧ t.nm = nm ∧ t.cs = cs ∧ t.rs.length ≤ N ∧ Tp w' T ∧ w.grownBy w' (some T) := by
  have hn : cs.length = n := cols_n hD.now
  have hl := hs.len
  refine (tof_any M T w hM ht hMT nm A n c cs N hD hW hw (by omega) hc1 hc2 hs.col hs.val hs.key hN).mono ?_
  rintro e w' ⟨v, nx, rs, rfl, hT, hv, hr, t1, g1⟩
  exact ⟨v, _, rfl, hT, ⟨hs, hv⟩, rfl, rfl, hr, t1, g1⟩
end Go.Proofs.YtljmclbedpceoaaGreatDoor

namespace Go.Proofs.YtljmclbedpceoaaGreatDoor
open Go.RowKit
set_option linter.unusedVariables false
end Go.Proofs.YtljmclbedpceoaaGreatDoor

namespace Go.Proofs.YtljmclbedpceoaaGreatDoor
open Go.RowKit
set_option linter.unusedVariables false
set_option linter.unusedSimpArgs false

/-- A difference: the table's name, the rows that came, those that left, the updates. -/
structure Dl where
  nm : ByteArray
  ins : List Row
  del : List Row
  upd : List Upd
deriving DecidableEq
def zeroD : Dl := ⟨⟨#[]⟩, [], [], []⟩
/-- the rows of l that rs does not have -/
def offR (rs l : List Row) : List Row := l.filter fun r => (getR rs r.1).isNone
/-- the rows of l that rs has with other values -/
def turnR (rs l : List Row) : List Upd := l.filterMap fun r => match getR rs r.1 with
  | some o => if o = r.2 then none else some (r.1, o, r.2)
  | none => none
def betB (a b : Tb) : Bool := tabB a.nm a.cs a.nx a.rs && tabB b.nm b.cs b.nx b.rs && decide (a.nm = b.nm ∧ a.cs = b.cs) && decide (a.nx ≤ b.nx) && b.rs.all fun r => (getR a.rs r.1).isSome || decide (a.nx ≤ r.1)
def betweenC (a b : Tb) : Bool × Dl := if betB a b then (true, ⟨a.nm, offR a.rs b.rs, offR b.rs a.rs, turnR a.rs b.rs⟩) else (false, zeroD)

theorem offR_hit {rs l : List Row} {j : Nat} {r : Row} (hr : l[j]? = some r) (h : getR rs r.1 = none) : offR rs (l.take (j + 1)) = offR rs (l.take j) ++ [r] := by
  unfold offR
  rw [List.take_add_one, hr, Option.toList_some, List.filter_append]
  simp [List.filter_cons, h]
theorem offR_miss {rs l : List Row} {j : Nat} {r : Row} {v : List Vl} (hr : l[j]? = some r) (h : getR rs r.1 = some v) : offR rs (l.take (j + 1)) = offR rs (l.take j) := by
  unfold offR
  rw [List.take_add_one, hr, Option.toList_some, List.filter_append]
  simp [List.filter_cons, h]
theorem turnR_none {rs l : List Row} {j : Nat} {r : Row} (hr : l[j]? = some r) (h : getR rs r.1 = none) : turnR rs (l.take (j + 1)) = turnR rs (l.take j) := by
  unfold turnR
  rw [List.take_add_one, hr, Option.toList_some, List.filterMap_append]
  simp [h]
theorem turnR_same {rs l : List Row} {j : Nat} {r : Row} (hr : l[j]? = some r) (h : getR rs r.1 = some r.2) : turnR rs (l.take (j + 1)) = turnR rs (l.take j) := by
  unfold turnR
  rw [List.take_add_one, hr, Option.toList_some, List.filterMap_append]
  simp [h]
theorem turnR_turn {rs l : List Row} {j : Nat} {r : Row} {o : List Vl} (hr : l[j]? = some r) (h : getR rs r.1 = some o) (hne : o ≠ r.2) : turnR rs (l.take (j + 1)) = turnR rs (l.take j) ++ [(r.1, o, r.2)] := by
  unfold turnR
  rw [List.take_add_one, hr, Option.toList_some, List.filterMap_append]
  simp [h, hne]
theorem getR_of_mem : ∀ {rs : List Row} {r : Row}, (rs.map (·.1)).Pairwise (· < ·) → r ∈ rs → getR rs r.1 = some r.2
  | x :: rs, r, ha, hr => by
    rw [List.map_cons, List.pairwise_cons] at ha
    rcases List.mem_cons.1 hr with rfl | hr
    · simp [getR]
    · have h1 := ha.1 r.1 (List.mem_map_of_mem hr)
      have h2 := getR_of_mem ha.2 hr
      unfold getR at h2 ⊢
      rw [List.find?_cons, show (x.1 == r.1) = false by rw [beq_eq_false_iff_ne]; omega]
      exact h2
theorem getR_out {rs : List Row} {id : Int} {v : List Vl} (h : getR rs id = some v) : (id, v) ∈ rs := by
  unfold getR at h
  obtain ⟨x, hx, rfl⟩ := Option.map_eq_some_iff.1 h
  have h1 := List.mem_of_find?_eq_some hx
  have h2 := List.find?_some hx
  simp only [beq_iff_eq] at h2
  subst h2
  exact h1
/-- the merge's state: the rows of a ahead of p lie below all rows of b from j on, the others above all rows of b ahead of j -/
structure Mg (a b : List Row) (j p : Nat) : Prop where
  aasc : (a.map (·.1)).Pairwise (· < ·)
  basc : (b.map (·.1)).Pairwise (· < ·)
  low : ∀ x ∈ a.take p, ∀ y ∈ b.drop j, x.1 < y.1
  up : ∀ x ∈ a.drop p, ∀ y ∈ b.take j, y.1 < x.1
theorem asc_at {l : List Row} (h : (l.map (·.1)).Pairwise (· < ·)) {i j : Nat} {x y : Row} (hx : l[i]? = some x) (hy : l[j]? = some y) (hij : i < j) : x.1 < y.1 := by
  rw [List.pairwise_iff_getElem] at h
  obtain ⟨hi, rfl⟩ := List.getElem?_eq_some_iff.1 hx
  obtain ⟨hj, rfl⟩ := List.getElem?_eq_some_iff.1 hy
  have := h i j (by simpa using hi) (by simpa using hj) hij
  simpa using this
theorem mem_drop_at {α : Type} {l : List α} {k : Nat} {x : α} (h : x ∈ l.drop k) : ∃ i, k ≤ i ∧ l[i]? = some x := by
  obtain ⟨i, hi⟩ := List.getElem?_of_mem h
  rw [List.getElem?_drop] at hi
  exact ⟨k + i, by omega, hi⟩
theorem mem_take_at {α : Type} {l : List α} {k : Nat} {x : α} (h : x ∈ l.take k) : ∃ i, i < k ∧ l[i]? = some x := by
  obtain ⟨i, hi⟩ := List.getElem?_of_mem h
  rw [List.getElem?_take] at hi
  split at hi
  · exact ⟨i, by assumption, hi⟩
  · cases hi
theorem mem_of_drop_at {α : Type} {l : List α} {k i : Nat} {x : α} (hk : k ≤ i) (h : l[i]? = some x) : x ∈ l.drop k := List.mem_of_getElem? (i := i - k) (by rw [List.getElem?_drop, show k + (i - k) = i by omega]; exact h)
theorem mem_of_take_at {α : Type} {l : List α} {k i : Nat} {x : α} (hk : i < k) (h : l[i]? = some x) : x ∈ l.take k := List.mem_of_getElem? (i := i) (by rw [List.getElem?_take, if_pos hk]; exact h)
theorem Mg.zero {a b : List Row} (ha : (a.map (·.1)).Pairwise (· < ·)) (hb : (b.map (·.1)).Pairwise (· < ·)) : Mg a b 0 0 := ⟨ha, hb, fun x hx => by simp at hx, fun x _ y hy => by simp at hy⟩
/-- a row of a that b lacks -/
theorem Mg.left {a b : List Row} {j p : Nat} (h : Mg a b j p) {x r : Row} (hx : a[p]? = some x) (hr : b[j]? = some r) (hlt : x.1 < r.1) : Mg a b j (p + 1) ∧ getR b x.1 = none := by
  refine ⟨⟨h.aasc, h.basc, fun z hz y hy => ?_, fun z hz y hy => ?_⟩, getR_none fun y hy e => ?_⟩
  · obtain ⟨i, hi, hzi⟩ := mem_take_at hz
    rcases Nat.lt_or_ge i p with hip | hip
    · exact h.low z (mem_of_take_at hip hzi) y hy
    · obtain rfl : i = p := by omega
      rw [hx] at hzi; injection hzi with hzi; subst hzi
      obtain ⟨k, hk, hyk⟩ := mem_drop_at hy
      rcases Nat.eq_or_lt_of_le hk with e | e
      · subst e; rw [hr] at hyk; injection hyk with hyk; subst hyk; exact hlt
      · have := asc_at h.basc hr hyk e; omega
  · obtain ⟨i, hi, hzi⟩ := mem_drop_at hz
    exact h.up z (mem_of_drop_at (by omega) hzi) y hy
  · obtain ⟨k, hk⟩ := List.getElem?_of_mem hy
    rcases Nat.lt_or_ge k j with hkj | hkj
    · have := h.up x (mem_of_drop_at (Nat.le_refl _) hx) y (mem_of_take_at hkj hk); omega
    · rcases Nat.eq_or_lt_of_le hkj with e2 | e2
      · subst e2; rw [hr] at hk; injection hk with hk; subst hk; omega
      · have := asc_at h.basc hr hk e2; omega
/-- a row of both -/
theorem Mg.both {a b : List Row} {j p : Nat} (h : Mg a b j p) {x r : Row} (hx : a[p]? = some x) (hr : b[j]? = some r) (he : x.1 = r.1) : Mg a b (j + 1) (p + 1) ∧ getR b x.1 = some r.2 ∧ getR a r.1 = some x.2 := by
  refine ⟨⟨h.aasc, h.basc, fun z hz y hy => ?_, fun z hz y hy => ?_⟩, ?_, ?_⟩
  · obtain ⟨i, hi, hzi⟩ := mem_take_at hz
    obtain ⟨k, hk, hyk⟩ := mem_drop_at hy
    have h1 := asc_at h.basc hr hyk (by omega)
    rcases Nat.lt_or_ge i p with hip | hip
    · have := asc_at h.aasc hzi hx hip; omega
    · obtain rfl : i = p := by omega
      rw [hx] at hzi; injection hzi with hzi; subst hzi; omega
  · obtain ⟨i, hi, hzi⟩ := mem_drop_at hz
    obtain ⟨k, hk, hyk⟩ := mem_take_at hy
    have h1 := asc_at h.aasc hx hzi (by omega)
    rcases Nat.lt_or_ge k j with hkj | hkj
    · have := asc_at h.basc hyk hr hkj; omega
    · obtain rfl : k = j := by omega
      rw [hr] at hyk; injection hyk with hyk; subst hyk; omega
  · rw [he]; exact getR_of_mem h.basc (List.mem_of_getElem? hr)
  · rw [← he]; exact getR_of_mem h.aasc (List.mem_of_getElem? hx)
/-- a row of b that a lacks -/
theorem Mg.right {a b : List Row} {j p : Nat} (h : Mg a b j p) {r : Row} (hr : b[j]? = some r) (hp : ∀ x, a[p]? = some x → r.1 < x.1) : Mg a b (j + 1) p ∧ getR a r.1 = none := by
  have hup : ∀ i z, p ≤ i → a[i]? = some z → r.1 < z.1 := fun i z hi hz => by
    rcases Nat.eq_or_lt_of_le hi with e | e
    · subst e; exact hp z hz
    · have hl : p < a.length := by have := (List.getElem?_eq_some_iff.1 hz).1; omega
      have h1 := hp _ (List.getElem?_eq_getElem hl)
      have h2 := asc_at h.aasc (List.getElem?_eq_getElem hl) hz e
      omega
  refine ⟨⟨h.aasc, h.basc, fun z hz y hy => ?_, fun z hz y hy => ?_⟩, getR_none fun y hy e => ?_⟩
  · obtain ⟨k, hk, hyk⟩ := mem_drop_at hy
    exact h.low z hz y (mem_of_drop_at (by omega) hyk)
  · obtain ⟨i, hi, hzi⟩ := mem_drop_at hz
    obtain ⟨k, hk, hyk⟩ := mem_take_at hy
    have h1 := hup i z hi hzi
    rcases Nat.lt_or_ge k j with hkj | hkj
    · have := asc_at h.basc hyk hr hkj; omega
    · obtain rfl : k = j := by omega
      rw [hr] at hyk; injection hyk with hyk; subst hyk; omega
  · obtain ⟨i, hi⟩ := List.getElem?_of_mem hy
    rcases Nat.lt_or_ge i p with hip | hip
    · have := h.low y (mem_of_take_at hip hi) r (mem_of_drop_at (Nat.le_refl _) hr); omega
    · have := hup i y hip hi; omega
/-- what is left of a, b lacks -/
theorem Mg.last {a b : List Row} {j p : Nat} (h : Mg a b j p) (hj : b.length ≤ j) {i : Nat} {x : Row} (hi : p ≤ i) (hx : a[i]? = some x) : getR b x.1 = none := getR_none fun y hy e => by
  obtain ⟨k, hk⟩ := List.getElem?_of_mem hy
  have := (List.getElem?_eq_some_iff.1 hk).1
  have := h.up x (mem_of_drop_at hi hx) y (mem_of_take_at (by omega) hk)
  omega
/-- the state of the merge: j rows of b and p rows of a are done -/
structure BSt (a b : Tb) (j p : Nat) (li ld : List Rw) (lu : List Pr) : Prop where
  va : tabB a.nm a.cs a.nx a.rs = true
  vb : tabB b.nm b.cs b.nx b.rs = true
  eq : a.nm = b.nm ∧ a.cs = b.cs
  nx : a.nx ≤ b.nx
  mg : Mg a.rs b.rs j p
  ins : li.map Rw.row = offR a.rs (b.rs.take j)
  del : ld.map Rw.row = offR b.rs (a.rs.take p)
  upd : lu.map Pr.upd = turnR a.rs (b.rs.take j)
  new : ∀ r ∈ b.rs.take j, (getR a.rs r.1).isSome = true ∨ a.nx ≤ r.1
  ok1 : ∀ r ∈ li, r.ok
  ok2 : ∀ r ∈ ld, r.ok
  ok3 : ∀ p ∈ lu, p.ok
theorem tabB_asc {t : Tb} (h : tabB t.nm t.cs t.nx t.rs = true) : (t.rs.map (·.1)).Pairwise (· < ·) := (okR_asc (tabB_ok h).2.2.2.2.1).1
theorem BSt.zero {a b : Tb} (va : tabB a.nm a.cs a.nx a.rs = true) (vb : tabB b.nm b.cs b.nx b.rs = true) (eq : a.nm = b.nm ∧ a.cs = b.cs) (nx : a.nx ≤ b.nx) : BSt a b 0 0 [] [] [] :=
  ⟨va, vb, eq, nx, Mg.zero (tabB_asc va) (tabB_asc vb), rfl, rfl, rfl, fun r hr => by simp at hr, fun r hr => (nomatch hr), fun r hr => (nomatch hr), fun r hr => (nomatch hr)⟩
theorem okSnoc {α : Type} {P : α → Prop} {l : List α} {x : α} (h : ∀ r ∈ l, P r) (k : P x) : ∀ r ∈ l ++ [x], P r := fun r hr => by
  rcases List.mem_append.1 hr with hr | hr
  · exact h r hr
  · simp at hr; subst hr; exact k
theorem all_take {P : Row → Prop} {l : List Row} {j : Nat} {r : Row} (h : ∀ x ∈ l.take j, P x) (hr : l[j]? = some r) (k : P r) : ∀ x ∈ l.take (j + 1), P x := by
  rw [List.take_add_one, hr, Option.toList_some]
  exact okSnoc h k
section
variable {a b : Tb} {j p : Nat} {li ld : List Rw} {lu : List Pr}
theorem BSt.left (h : BSt a b j p li ld lu) {x r : Row} (hx : a.rs[p]? = some x) (hr : b.rs[j]? = some r) (hlt : x.1 < r.1) {y : Rw} (hy : y.row = x) (hk : y.ok) : BSt a b j (p + 1) li (ld ++ [y]) lu := by
  obtain ⟨h1, h2⟩ := h.mg.left hx hr hlt
  exact ⟨h.va, h.vb, h.eq, h.nx, h1, h.ins, by rw [List.map_append, h.del, offR_hit hx h2, ← hy]; rfl, h.upd, h.new, h.ok1, okSnoc h.ok2 hk, h.ok3⟩
theorem BSt.same (h : BSt a b j p li ld lu) {x r : Row} (hx : a.rs[p]? = some x) (hr : b.rs[j]? = some r) (he : x.1 = r.1) (hv : x.2 = r.2) : BSt a b (j + 1) (p + 1) li ld lu := by
  obtain ⟨h1, h2, h3⟩ := h.mg.both hx hr he
  exact ⟨h.va, h.vb, h.eq, h.nx, h1, by rw [h.ins, offR_miss hr h3], by rw [h.del, offR_miss hx h2], by rw [h.upd, turnR_same hr (by rw [h3, hv])], all_take h.new hr (.inl (by rw [h3]; rfl)), h.ok1, h.ok2, h.ok3⟩
theorem BSt.turn (h : BSt a b j p li ld lu) {x r : Row} (hx : a.rs[p]? = some x) (hr : b.rs[j]? = some r) (he : x.1 = r.1) (hv : x.2 ≠ r.2) {q : Pr} (hq : q.upd = (r.1, x.2, r.2)) (hk : q.ok) : BSt a b (j + 1) (p + 1) li ld (lu ++ [q]) := by
  obtain ⟨h1, h2, h3⟩ := h.mg.both hx hr he
  exact ⟨h.va, h.vb, h.eq, h.nx, h1, by rw [h.ins, offR_miss hr h3], by rw [h.del, offR_miss hx h2], by rw [List.map_append, h.upd, turnR_turn hr h3 hv, ← hq]; rfl, all_take h.new hr (.inl (by rw [h3]; rfl)), h.ok1, h.ok2, okSnoc h.ok3 hk⟩
theorem BSt.right (h : BSt a b j p li ld lu) {r : Row} (hr : b.rs[j]? = some r) (hp : ∀ x, a.rs[p]? = some x → r.1 < x.1) (hn : a.nx ≤ r.1) {y : Rw} (hy : y.row = r) (hk : y.ok) : BSt a b (j + 1) p (li ++ [y]) ld lu := by
  obtain ⟨h1, h2⟩ := h.mg.right hr hp
  exact ⟨h.va, h.vb, h.eq, h.nx, h1, by rw [List.map_append, h.ins, offR_hit hr h2, ← hy]; rfl, h.del, by rw [h.upd, turnR_none hr h2], all_take h.new hr (.inr hn), okSnoc h.ok1 hk, h.ok2, h.ok3⟩
theorem BSt.bad (h : BSt a b j p li ld lu) {r : Row} (hr : b.rs[j]? = some r) (hp : ∀ x, a.rs[p]? = some x → r.1 < x.1) (hn : r.1 < a.nx) : betweenC a b = (false, zeroD) := by
  obtain ⟨h1, h2⟩ := h.mg.right hr hp
  have : betB a b = false := by
    unfold betB
    have h3 : (b.rs.all fun r => (getR a.rs r.1).isSome || decide (a.nx ≤ r.1)) = false := by
      rw [List.all_eq_false]
      exact ⟨r, List.mem_of_getElem? hr, by rw [h2]; simp; omega⟩
    rw [h3, Bool.and_false]
  unfold betweenC
  rw [this]; rfl
theorem BSt.tail (h : BSt a b j p li ld lu) (hj : b.rs.length ≤ j) {x : Row} (hx : a.rs[p]? = some x) {y : Rw} (hy : y.row = x) (hk : y.ok) : BSt a b j (p + 1) li (ld ++ [y]) lu := by
  have h2 := h.mg.last hj (Nat.le_refl _) hx
  refine ⟨h.va, h.vb, h.eq, h.nx, ⟨h.mg.aasc, h.mg.basc, fun z _ y hy => ?_, fun z hz y hy => ?_⟩, h.ins, by rw [List.map_append, h.del, offR_hit hx h2, ← hy]; rfl, h.upd, h.new, h.ok1, okSnoc h.ok2 hk, h.ok3⟩
  · rw [List.drop_of_length_le hj] at hy; cases hy
  · obtain ⟨i, hi, hzi⟩ := mem_drop_at hz
    exact h.mg.up z (mem_of_drop_at (by omega) hzi) y hy
theorem BSt.fin (h : BSt a b j p li ld lu) (hj : b.rs.length ≤ j) (hp : a.rs.length ≤ p) : betweenC a b = (true, ⟨a.nm, li.map Rw.row, ld.map Rw.row, lu.map Pr.upd⟩) := by
  have h1 := h.ins
  have h2 := h.del
  have h3 := h.upd
  have h4 := h.new
  rw [List.take_of_length_le hj] at h1 h3 h4
  rw [List.take_of_length_le hp] at h2
  have : betB a b = true := by
    unfold betB
    rw [h.va, h.vb, decide_eq_true h.eq, decide_eq_true h.nx]
    simp only [Bool.and_self, Bool.true_and, List.all_eq_true, Bool.or_eq_true, decide_eq_true_eq]
    exact h4
  unfold betweenC
  rw [this, if_pos rfl, h1, h2, h3]
end
/-- the state of the reference's loops: j rows of b, then p rows of a are done -/
structure RSt (a b : Tb) (j p : Nat) (li ld : List Rw) (lu : List Pr) : Prop where
  va : tabB a.nm a.cs a.nx a.rs = true
  vb : tabB b.nm b.cs b.nx b.rs = true
  eq : a.nm = b.nm ∧ a.cs = b.cs
  nx : a.nx ≤ b.nx
  ins : li.map Rw.row = offR a.rs (b.rs.take j)
  del : ld.map Rw.row = offR b.rs (a.rs.take p)
  upd : lu.map Pr.upd = turnR a.rs (b.rs.take j)
  new : ∀ r ∈ b.rs.take j, (getR a.rs r.1).isSome = true ∨ a.nx ≤ r.1
  ok1 : ∀ r ∈ li, r.ok
  ok2 : ∀ r ∈ ld, r.ok
  ok3 : ∀ p ∈ lu, p.ok
theorem RSt.zero {a b : Tb} (va : tabB a.nm a.cs a.nx a.rs = true) (vb : tabB b.nm b.cs b.nx b.rs = true) (eq : a.nm = b.nm ∧ a.cs = b.cs) (nx : a.nx ≤ b.nx) : RSt a b 0 0 [] [] [] :=
  ⟨va, vb, eq, nx, rfl, rfl, rfl, fun r hr => by simp at hr, fun r hr => (nomatch hr), fun r hr => (nomatch hr), fun r hr => (nomatch hr)⟩
section
variable {a b : Tb} {j p : Nat} {li ld : List Rw} {lu : List Pr}
theorem RSt.ins_ (h : RSt a b j p li ld lu) {r : Row} (hr : b.rs[j]? = some r) (h2 : getR a.rs r.1 = none) (hn : a.nx ≤ r.1) {y : Rw} (hy : y.row = r) (hk : y.ok) : RSt a b (j + 1) p (li ++ [y]) ld lu :=
  ⟨h.va, h.vb, h.eq, h.nx, by rw [List.map_append, h.ins, offR_hit hr h2, ← hy]; rfl, h.del, by rw [h.upd, turnR_none hr h2], all_take h.new hr (.inr hn), okSnoc h.ok1 hk, h.ok2, h.ok3⟩
theorem RSt.same (h : RSt a b j p li ld lu) {r : Row} {o : List Vl} (hr : b.rs[j]? = some r) (h2 : getR a.rs r.1 = some o) (ho : o = r.2) : RSt a b (j + 1) p li ld lu := by
  subst ho
  exact ⟨h.va, h.vb, h.eq, h.nx, by rw [h.ins, offR_miss hr h2], h.del, by rw [h.upd, turnR_same hr h2], all_take h.new hr (.inl (by rw [h2]; rfl)), h.ok1, h.ok2, h.ok3⟩
theorem RSt.turn (h : RSt a b j p li ld lu) {r : Row} {o : List Vl} (hr : b.rs[j]? = some r) (h2 : getR a.rs r.1 = some o) (ho : o ≠ r.2) {q : Pr} (hq : q.upd = (r.1, o, r.2)) (hk : q.ok) : RSt a b (j + 1) p li ld (lu ++ [q]) :=
  ⟨h.va, h.vb, h.eq, h.nx, by rw [h.ins, offR_miss hr h2], h.del, by rw [List.map_append, h.upd, turnR_turn hr h2 ho, ← hq]; rfl, all_take h.new hr (.inl (by rw [h2]; rfl)), h.ok1, h.ok2, okSnoc h.ok3 hk⟩
theorem RSt.bad (h : RSt a b j p li ld lu) {r : Row} (hr : b.rs[j]? = some r) (h2 : getR a.rs r.1 = none) (hn : r.1 < a.nx) : betweenC a b = (false, zeroD) := by
  have : betB a b = false := by
    unfold betB
    have h3 : (b.rs.all fun r => (getR a.rs r.1).isSome || decide (a.nx ≤ r.1)) = false := by
      rw [List.all_eq_false]
      exact ⟨r, List.mem_of_getElem? hr, by rw [h2]; simp; omega⟩
    rw [h3, Bool.and_false]
  unfold betweenC
  rw [this]; rfl
theorem RSt.left (h : RSt a b j p li ld lu) {x : Row} (hx : a.rs[p]? = some x) (h2 : getR b.rs x.1 = none) {y : Rw} (hy : y.row = x) (hk : y.ok) : RSt a b j (p + 1) li (ld ++ [y]) lu :=
  ⟨h.va, h.vb, h.eq, h.nx, h.ins, by rw [List.map_append, h.del, offR_hit hx h2, ← hy]; rfl, h.upd, h.new, h.ok1, okSnoc h.ok2 hk, h.ok3⟩
theorem RSt.keep (h : RSt a b j p li ld lu) {x : Row} {v : List Vl} (hx : a.rs[p]? = some x) (h2 : getR b.rs x.1 = some v) : RSt a b j (p + 1) li ld lu :=
  ⟨h.va, h.vb, h.eq, h.nx, h.ins, by rw [h.del, offR_miss hx h2], h.upd, h.new, h.ok1, h.ok2, h.ok3⟩
theorem RSt.fin (h : RSt a b j p li ld lu) (hj : b.rs.length ≤ j) (hp : a.rs.length ≤ p) : betweenC a b = (true, ⟨a.nm, li.map Rw.row, ld.map Rw.row, lu.map Pr.upd⟩) := by
  have h1 := h.ins
  have h2 := h.del
  have h3 := h.upd
  have h4 := h.new
  rw [List.take_of_length_le hj] at h1 h3 h4
  rw [List.take_of_length_le hp] at h2
  have : betB a b = true := by
    unfold betB
    rw [h.va, h.vb, decide_eq_true h.eq, decide_eq_true h.nx]
    simp only [Bool.and_self, Bool.true_and, List.all_eq_true, Bool.or_eq_true, decide_eq_true_eq]
    exact h4
  unfold betweenC
  rw [this, if_pos rfl, h1, h2, h3]
end
theorem betC_a {a b : Tb} (h : tabB a.nm a.cs a.nx a.rs = false) : betweenC a b = (false, zeroD) := by unfold betweenC betB; rw [h]; rfl
theorem betC_b {a b : Tb} (h : tabB b.nm b.cs b.nx b.rs = false) : betweenC a b = (false, zeroD) := by unfold betweenC betB; rw [h]; simp
theorem betC_s {a b : Tb} (h : decide (a.nm = b.nm ∧ a.cs = b.cs) = false) : betweenC a b = (false, zeroD) := by unfold betweenC betB; rw [h]; simp
theorem betC_n {a b : Tb} (h : b.nx < a.nx) : betweenC a b = (false, zeroD) := by
  have : decide (a.nx ≤ b.nx) = false := by simp; omega
  unfold betweenC betB; rw [this]; simp
/-- the rest of a list of rows -/
theorem tail_rws {A : Option Addr} {n : Nat} {x : Rw} {l : List Rw} {w : World} (h : RwsIn A n (x :: l) w) : ∃ b o, A = some ⟨b, o, none⟩ ∧ RwsIn (some ⟨b, o + 2, none⟩) (n - 1) l w := by
  have hl := h.len
  simp only [List.length_cons] at hl
  obtain ⟨b, o, e, hb, hc⟩ := (show Rd w w.heap.size 2 A n (rwCells (x :: l)) from h.1).2 (by omega)
  refine ⟨b, o, e, ⟨by rw [rwCells_len]; omega, fun _ => ⟨b, o + 2, rfl, hb, fun j u hu => ?_⟩⟩, fun r hr => h.2 r (List.mem_cons_of_mem _ hr)⟩
  have h2 := hc (j + 2) u (by
    have e0 : rwCells (x :: l) = x.cells ++ rwCells l := by simp [rwCells]
    rw [e0, List.getElem?_append_right (by simp [Rw.cells])]
    simpa [Rw.cells] using hu)
  rw [← h2]
  congr 2
  omega
theorem Ro.tailRws {w : World} {M : Nat → Prop} {A : Option Addr} {n : Nat} {x : Rw} {l : List Rw} (h : Ro w M (RwsIn A n (x :: l))) : ∃ b o, A = some ⟨b, o, none⟩ ∧ Ro w M (RwsIn (some ⟨b, o + 2, none⟩) (n - 1) l) := by
  obtain ⟨b, o, e, _⟩ := tail_rws h.now
  refine ⟨b, o, e, fun w2 h1 h2 => ?_⟩
  obtain ⟨b', o', e', h3⟩ := tail_rws (h w2 h1 h2)
  rw [e] at e'
  injection e' with e'
  injection e' with e1 e2
  subst e1; subst e2
  exact h3
theorem Ro.nilRws {w : World} {M : Nat → Prop} {A : Option Addr} {n : Nat} {l : List Rw} (hn : n = 0) (hl : l = []) : Ro w M (RwsIn A n l) := fun w2 _ _ => by
  subst hn; subst hl
  exact ⟨⟨rfl, fun h => absurd h (by omega)⟩, fun r hr => nomatch hr⟩
/-- a difference in memory -/
def DlAt (w : World) (M : Nat → Prop) (v : Value) (d : Dl) : Prop :=
  ∃ (I : Option Addr) (ni ci : Nat) (D : Option Addr) (nd cd : Nat) (U : Option Addr) (nu cu : Nat) (li ld : List Rw) (lu : List Pr), v = .agg #[.string d.nm, .slice I ni ci, .slice D nd cd, .slice U nu cu] ∧
    (ni ≤ ci ∧ ci ≤ 9223372036854775807) ∧ (nd ≤ cd ∧ cd ≤ 9223372036854775807) ∧ (nu ≤ cu ∧ cu ≤ 9223372036854775807) ∧ Ro w M (RwsIn I ni li) ∧ Ro w M (RwsIn D nd ld) ∧ Ro w M (PrsIn U nu lu) ∧
    (∀ r ∈ li, r.ok) ∧ (∀ r ∈ ld, r.ok) ∧ (∀ p ∈ lu, p.ok) ∧ li.map Rw.row = d.ins ∧ ld.map Rw.row = d.del ∧ lu.map Pr.upd = d.upd
def BetRet (w : World) (M : Nat → Prop) (r : Bool × Dl) (e : Ending) (w' : World) : Prop := ∃ v, e = .returned (.tuple #[v, .bool r.1]) ∧ DlAt w' M v r.2 ∧ Below w.heap.size w w'
theorem dlAt_zero {w : World} {M : Nat → Prop} : DlAt w M (.agg #[.string ⟨#[]⟩, .slice none 0 0, .slice none 0 0, .slice none 0 0]) zeroD :=
  ⟨none, 0, 0, none, 0, 0, none, 0, 0, [], [], [], rfl, by omega, by omega, by omega, fun _ _ _ => ⟨Rd.none_, fun r hr => nomatch hr⟩, fun _ _ _ => ⟨Rd.none_, fun r hr => nomatch hr⟩, fun _ _ _ => ⟨Rd.none_, fun r hr => nomatch hr⟩, fun r hr => (nomatch hr), fun r hr => (nomatch hr), fun r hr => (nomatch hr), rfl, rfl, rfl⟩
end Go.Proofs.YtljmclbedpceoaaGreatDoor

namespace Go.Proofs.YtljmclbedpceoaaGreatDoor
open Go.Joins Go.ChangeShapes Go.WideShapes Go.ChangeAt Go.RowKit Go.Deep
set_option linter.unusedVariables false
structure DlV where
  nm : ByteArray
  ins : SlV Rw
  del : SlV Rw
  upd : SlV Pr
def DlV.cells (t : DlV) : List Value := [.string t.nm, .slice t.ins.A t.ins.n t.ins.c, .slice t.del.A t.del.n t.del.c, .slice t.upd.A t.upd.n t.upd.c]
structure DlV.Ok (W : World) (t : DlV) : Prop where
  nm : t.nm.size ≤ maxLen
  ins : SlV.Ok W 2 Rw.cells (RwAt W) 32 t.ins
  del : SlV.Ok W 2 Rw.cells (RwAt W) 32 t.del
  upd : SlV.Ok W 3 Pr.cells (PrAt W) 56 t.upd
section
variable {H : Type} {enc : TypeId × Value → H} {W : World}
theorem opens_dl : OpensAt enc Tryz.prog W 25 4 DlV.cells (DlV.Ok W) :=
  opens_struct4 Tryz.underlying25 (by kernel_rfl) (fun _ => rfl) rfl rfl rfl rfl (by kernel_rfl) (by kernel_rfl) (by kernel_rfl) (by kernel_rfl) (opens_str Tryz.underlying9) opens_rows opens_rows opens_prs
    fun a b c e ha hb hc he => ⟨⟨a, b, c, e⟩, ⟨ha, hb, hc, he⟩, rfl⟩
end
/-- the difference of an argument -/
def DlV.dl (t : DlV) : Dl := ⟨t.nm, t.ins.l.map Rw.row, t.del.l.map Rw.row, t.upd.l.map Pr.upd⟩
theorem dlAt_arg {W : World} {t : DlV} (h : DlV.Ok W t) {M : Nat → Prop} (hM : ∀ b, b < W.heap.size → ¬ M b) : DlAt W M (.agg t.cells.toArray) t.dl :=
  ⟨t.ins.A, t.ins.n, t.ins.c, t.del.A, t.del.n, t.del.c, t.upd.A, t.upd.n, t.upd.c, t.ins.l, t.del.l, t.upd.l, rfl, ⟨h.ins.nc, Nat.le_trans h.ins.max maxLen_le⟩, ⟨h.del.nc, Nat.le_trans h.del.max maxLen_le⟩, ⟨h.upd.nc, Nat.le_trans h.upd.max maxLen_le⟩, ro_rows h.ins hM, ro_rows h.del hM, ro_prs h.upd hM, fun r hr => (h.ins.ok r hr).ok, fun r hr => (h.del.ok r hr).ok, fun p hp => (h.upd.ok p hp).ok, rfl, rfl, rfl⟩
theorem dlArg_ins {W : World} {t : DlV} (h : DlV.Ok W t) : ∀ r ∈ t.dl.ins, r.2.length ≤ 4398046511104 := fun r hr => by
  obtain ⟨x, hx, rfl⟩ := List.mem_map.1 hr
  have h1 := h.ins.ok x hx
  have h2 : x.vs.length = x.n := VlsIn.len h1.vs
  have h3 := h1.n
  show x.vs.length ≤ _
  omega
theorem dlArg_nd {W : World} {t : DlV} (h : DlV.Ok W t) : t.dl.del.length ≤ 4398046511104 := by
  have h1 : (rwCells t.del.l).length = t.del.n * 2 := h.del.rd.1
  rw [rwCells_len] at h1
  have h2 := h.del.reach
  have h3 := h.del.nc
  show (t.del.l.map Rw.row).length ≤ _
  rw [List.length_map]
  omega
theorem dlArg_nu {W : World} {t : DlV} (h : DlV.Ok W t) : t.dl.upd.length ≤ 4398046511104 := by
  have h1 : (prCells t.upd.l).length = t.upd.n * 3 := h.upd.rd.1
  rw [prCells_len] at h1
  have h2 := h.upd.reach
  have h3 := h.upd.nc
  show (t.upd.l.map Pr.upd).length ≤ _
  rw [List.length_map]
  omega
theorem dlArg_ni {W : World} {t : DlV} (h : DlV.Ok W t) : t.dl.ins.length ≤ 4398046511104 := by
  have h1 : (rwCells t.ins.l).length = t.ins.n * 2 := h.ins.rd.1
  rw [rwCells_len] at h1
  have h2 := h.ins.reach
  have h3 := h.ins.nc
  show (t.ins.l.map Rw.row).length ≤ _
  rw [List.length_map]
  omega
theorem dlArg_del {W : World} {t : DlV} (h : DlV.Ok W t) : ∀ r ∈ t.dl.del, r.2.length ≤ 4398046511104 := fun r hr => by
  obtain ⟨x, hx, rfl⟩ := List.mem_map.1 hr
  have h1 := h.del.ok x hx
  have h2 : x.vs.length = x.n := VlsIn.len h1.vs
  have h3 := h1.n
  show x.vs.length ≤ _
  omega
theorem dlArg_both {W : World} {t : DlV} (h : DlV.Ok W t) : ∀ u ∈ t.dl.upd, u.2.1.length ≤ 4398046511104 ∧ u.2.2.length ≤ 4398046511104 := fun u hu => by
  obtain ⟨x, hx, rfl⟩ := List.mem_map.1 hu
  have h1 := h.upd.ok x hx
  have h2 : x.new.length = x.nn := VlsIn.len h1.new
  have h3 := h1.nn
  have h4 : x.old.length = x.on := VlsIn.len h1.old
  have h5 := h1.on
  show x.old.length ≤ _ ∧ x.new.length ≤ _
  omega
theorem schArg_n {W : World} {x : ByteArray × SlV Col} {Ok : Col → Prop} (h : SlV.Ok W 4 Col.cells Ok 32 x.2) : x.2.n ≤ 4398046511104 := by
  have h1 := h.reach
  have h2 := h.nc
  omega
end Go.Proofs.YtljmclbedpceoaaGreatDoor

namespace Go.Proofs.YtljmclbedpceoaaGreatDoor
open Go.RowKit
set_option linter.unusedVariables false
set_option linter.unusedSimpArgs false
set_option maxHeartbeats 4000000 in
set_option maxRecDepth 100000 in
theorem rtvalid_any (M : Nat → Prop) (w : World) (hM : ∀ b, M b → b < w.heap.size) (nm : ByteArray) (A : Option Addr) (n c : Nat) (cs : List Col) (nx : Int) (B : Option Addr) (m d : Nat) (l : List Rw) (hD : Ro w M (SlR 4 A n (colCells cs))) (hE : Ro w M (RwsIn B m l)) (hn : n ≤ 9223372036854775807) (hm : m ≤ 4611686018427387904) (hok : ∀ r ∈ l, r.ok) (hs : nm.size ≤ maxLen) (hcs : ∀ x ∈ cs, x.name.size ≤ maxLen) :
    Calls Tryz.prog 52 #[.agg #[.string nm, .slice A n c, .int .i64 nx, .slice B m d]] w fun e w' => e = .returned (.bool (tabB nm cs nx (l.map Rw.row))) ∧ Below w.heap.size w w' := by
  have HL := hid hE.now.len
  have HML := hid (show (l.map Rw.row).length = m by rw [List.length_map, HL.out])
  have K0 := (((Hold.start M w hM).add (hE.less (by simp [Mut]))).add (hD.less (by simp [Mut, Hp.foot]))).alloc_cst #[.string nm, .slice A n c, .int .i64 nx, .slice B m d] 34
  have F0 := K0.facts
  simp only [World.size_alloc, World.size_drew, factsL, cellsF, Nat.reduceAdd, List.toList_toArray, List.set_cons_zero, List.set_cons_succ, List.setIfInBounds_toArray, and_true, true_and] at F0
  clear hD hE
  go_enter Tryz.func52, Tryz.ntmps52
  go_wp2_with fail
  refine (rsvalid_any _ _ K0.mutLt nm A n c cs (K0.ro 1 rfl) hn hs hcs).mono ?_
  rintro e w1 ⟨rfl, b1⟩
  have K1 := K0.call b1
  clear K0 b1 F0
  have F1 := K1.facts
  simp only [World.size_alloc, World.size_drew, factsL, cellsF, Nat.reduceAdd, List.toList_toArray, List.set_cons_zero, List.set_cons_succ, List.setIfInBounds_toArray, and_true, true_and] at F1
  cases hsb : schemaB nm cs
  · have HN := hid (show tabB nm cs nx (l.map Rw.row) = false from tabB_1 hsb)
    go_wp2_with fail
    go_ret
    exact ⟨by rw [HN.out] <;> rfl, K1.below⟩
  have HSB := hid hsb; clear hsb
  by_cases h1 : 100 < m
  · have h1d : decide ((m : Int) > 100) = true := by simp; omega
    have HN := hid (show tabB nm cs nx (l.map Rw.row) = false from tabB_2 (by rw [HML.out]; exact h1))
    go_wp2_with fail
    go_ret
    exact ⟨by rw [HN.out] <;> rfl, K1.below⟩
  have h1d : decide ((m : Int) > 100) = false := by simp; omega
  by_cases h2 : nx < 1
  · have h2d : decide (nx < 1) = true := by simpa using h2
    have HN := hid (show tabB nm cs nx (l.map Rw.row) = false from tabB_3 h2)
    go_wp2_with fail
    go_ret
    exact ⟨by rw [HN.out] <;> rfl, K1.below⟩
  have h2d : decide (nx < 1) = false := by simpa using h2
  by_cases h3 : 2147483648 < nx
  · have h3d : decide (nx > 2147483648) = true := by simpa using h3
    have HN := hid (show tabB nm cs nx (l.map Rw.row) = false from tabB_4 h3)
    go_wp2_with fail
    go_ret
    exact ⟨by rw [HN.out] <;> rfl, K1.below⟩
  have h3d : decide (nx > 2147483648) = false := by simpa using h3
  go_wp2_with fail
  clear F1
  go_loopw [28] (fun iv wr => ∃ (j : Nat) (lst : Int), j ≤ m ∧ iv = .int .i64 j ∧ 0 ≤ lst ∧ Hid ((j = 0 → lst = 0) ∧ ∀ p, j = p + 1 → ∃ r : Rw, l[p]? = some r ∧ r.id = lst) ∧ Hid (okR cs nx 0 (l.map Rw.row) = okR cs nx lst ((l.map Rw.row).drop j)) ∧ Hold M none w wr [.cst w.heap.size 34 #[.string nm, .slice A n c, .int .i64 nx, .slice B m d], .ro (SlR 4 A n (colCells cs)), .ro (RwsIn B m l)]) (fun iv _ => m - (intOf iv).toNat)
  case atStart => exact ⟨0, 0, by omega, rfl, by omega, hid ⟨fun _ => rfl, fun p hp => by omega⟩, hid rfl, K1⟩
  case round =>
    clear K1
    obtain ⟨j, lst, hj, rfl, hl0, HP, HS, H⟩ := hrel
    by_cases hlt : j < m
    · have hdd : decide ((j : Int) < (m : Int)) = true := by simp; omega
      have j0 : (0 : Int) ≤ (j : Int) := by omega
      obtain ⟨x, hx⟩ := get_of HL.out hlt
      obtain ⟨g, o, rfl, hgb, c0, c1, hvi⟩ := (H.ro 2 rfl).now.at_ hx
      have hrok := hok x (List.mem_of_getElem? hx)
      have HX := hid (show (l.map Rw.row)[j]? = some (x.id, x.vs) by simp [hx, Rw.row])
      have HXM := hid (List.mem_of_getElem? hx)
      have HXL := hid hx
      have K2 := H.alloc_cst #[.int .i64 x.id, .slice x.A x.n x.c] 89
      clear hx
      have hxn : x.n ≤ 9223372036854775807 := Nat.le_trans hrok.nc hrok.c
      by_cases a1 : x.id < 1
      · have a1d : decide (x.id < 1) = true := by simpa using a1
        have HN := hid (show tabB nm cs nx (l.map Rw.row) = false from tabB_5 (by rw [HS.out]; exact okR_bad HX.out (.inl (show x.id ≤ lst by omega))))
        clear a1
        obtain ⟨gb, hgb2⟩ : ∃ gb, gb = wr.heap.size := ⟨_, rfl⟩
        obtain ⟨KL, hKL⟩ : ∃ KL : List Hp, KL = [Hp.cst wr.heap.size 89 #[.int .i64 x.id, .slice x.A x.n x.c], .cst w.heap.size 34 #[.string nm, .slice A n c, .int .i64 nx, .slice (some ⟨g, o, none⟩) m d], .ro (SlR 4 A n (colCells cs)), .ro (RwsIn (some ⟨g, o, none⟩) m l)] := ⟨_, rfl⟩
        rw [← hKL] at K2
        rw [← hgb2] at hKL
        have HF : Hid (∀ wv, Hold M none w wv KL → wv.cell? ⟨gb, 0, none⟩ = some (.int .i64 x.id) ∧ wv.cell? ⟨gb, 1, none⟩ = some (.slice x.A x.n x.c) ∧ gb < wv.heap.size ∧ wv.cell? ⟨w.heap.size, 0, none⟩ = some (.string nm) ∧ wv.cell? ⟨w.heap.size, 1, none⟩ = some (.slice A n c) ∧ wv.cell? ⟨w.heap.size, 2, none⟩ = some (.int .i64 nx) ∧ wv.cell? ⟨w.heap.size, 3, none⟩ = some (.slice (some ⟨g, o, none⟩) m d) ∧ w.heap.size < wv.heap.size) := hid fun wv HC => by
          rw [hKL] at HC
          have b0 := HC.cst_ 0 rfl
          have b1 := HC.cst_ 1 rfl
          exact ⟨cell_of_row _ _ 0 _ _ _ b0, cell_of_row _ _ 1 _ _ _ b0, Blk.lt b0, cell_of_row _ _ 0 _ _ _ b1, cell_of_row _ _ 1 _ _ _ b1, cell_of_row _ _ 2 _ _ _ b1, cell_of_row _ _ 3 _ _ _ b1, Blk.lt b1⟩
        have HKL : Hid (∀ wv, Hold M none w wv KL → Ro wv (Mut M KL) (SlR 4 A n (colCells cs)) ∧ Ro wv (Mut M KL) (VlsIn x.A x.n x.vs)) := hid fun wv HC => by
          rw [hKL] at HC ⊢
          exact ⟨HC.ro 2 rfl, (HC.ro 3 rfl).imp fun w2 h2 => h2.2 x HXM.out⟩
        go_wp2_with fail
        rw [← hgb2]
        have HGB := hid hgb2
        have HKE := hid hKL
        clear hgb2 hKL
        generalize wr.alloc (.cells #[.int .i64 x.id, .slice x.A x.n x.c] 89) = w2 at *
        refine wp_region_any (by kernel_rfl) ?_
        refine wpAny_hold 33 71 (KL) (spL []) (by kernel_rfl) (by kernel_rfl) (by kernel_rfl) rfl ?_ (K2.drew) ?_
        · exact stays_nil _
        simp only [List.take_succ_cons, List.take_zero, List.drop_succ_cons, List.drop_zero, Act.put, List.getElem_toArray, List.getElem_cons_zero, List.getElem_cons_succ, List.setIfInBounds_toArray, List.set_cons_succ, List.set_cons_zero]
        refine dw_val rfl rfl rfl ?_; apply Exists.intro; refine ⟨fun wv HC => ?_, ?_⟩
        · obtain ⟨f0, f1, f2, f3, f4, f5, f6, f7⟩ := HF.out _ HC; go_simp <;> rfl
        simp only [Act.put, List.setIfInBounds_toArray, List.set_cons_succ, List.set_cons_zero]
        refine dw_val rfl rfl rfl ?_; apply Exists.intro; refine ⟨fun wv HC => ?_, ?_⟩
        · obtain ⟨f0, f1, f2, f3, f4, f5, f6, f7⟩ := HF.out _ HC; go_simp <;> rfl
        simp only [Act.put, List.setIfInBounds_toArray, List.set_cons_succ, List.set_cons_zero]
        refine dw_val rfl rfl rfl ?_; apply Exists.intro; refine ⟨fun wv HC => ?_, ?_⟩
        · obtain ⟨f0, f1, f2, f3, f4, f5, f6, f7⟩ := HF.out _ HC; go_simp <;> rfl
        simp only [Act.put, List.setIfInBounds_toArray, List.set_cons_succ, List.set_cons_zero]
        refine dw_val rfl rfl rfl ?_; apply Exists.intro; refine ⟨fun wv HC => ?_, ?_⟩
        · obtain ⟨f0, f1, f2, f3, f4, f5, f6, f7⟩ := HF.out _ HC; go_simp <;> rfl
        simp only [Act.put, List.setIfInBounds_toArray, List.set_cons_succ, List.set_cons_zero]
        refine dw_skip rfl rfl rfl ?_
        simp only [Act.put, List.setIfInBounds_toArray, List.set_cons_succ, List.set_cons_zero]
        refine dw_skip rfl rfl rfl ?_
        simp only [Act.put, List.setIfInBounds_toArray, List.set_cons_succ, List.set_cons_zero]
        refine dw_skip rfl rfl rfl ?_
        simp only [Act.put, List.setIfInBounds_toArray, List.set_cons_succ, List.set_cons_zero]
        refine dw_skip rfl rfl rfl ?_
        simp only [Act.put, List.setIfInBounds_toArray, List.set_cons_succ, List.set_cons_zero]
        refine dw_skip rfl rfl rfl ?_
        simp only [Act.put, List.setIfInBounds_toArray, List.set_cons_succ, List.set_cons_zero]
        refine dw_val rfl rfl rfl ?_; apply Exists.intro; refine ⟨fun wv HC => ?_, ?_⟩
        · obtain ⟨f0, f1, f2, f3, f4, f5, f6, f7⟩ := HF.out _ HC; go_simp <;> rfl
        simp only [Act.put, List.setIfInBounds_toArray, List.set_cons_succ, List.set_cons_zero]
        refine dw_val rfl rfl rfl ?_; apply Exists.intro; refine ⟨fun wv HC => ?_, ?_⟩
        · obtain ⟨f0, f1, f2, f3, f4, f5, f6, f7⟩ := HF.out _ HC; go_simp <;> rfl
        simp only [Act.put, List.setIfInBounds_toArray, List.set_cons_succ, List.set_cons_zero]
        refine dw_skip rfl rfl rfl ?_
        simp only [Act.put, List.setIfInBounds_toArray, List.set_cons_succ, List.set_cons_zero]
        refine dw_skip rfl rfl rfl ?_
        simp only [Act.put, List.setIfInBounds_toArray, List.set_cons_succ, List.set_cons_zero]
        refine dw_skip rfl rfl rfl ?_
        simp only [Act.put, List.setIfInBounds_toArray, List.set_cons_succ, List.set_cons_zero]
        refine dw_skip rfl rfl rfl ?_
        simp only [Act.put, List.setIfInBounds_toArray, List.set_cons_succ, List.set_cons_zero]
        refine dw_skip rfl rfl rfl ?_
        simp only [Act.put, List.setIfInBounds_toArray, List.set_cons_succ, List.set_cons_zero]
        refine dw_skip rfl rfl rfl ?_
        simp only [Act.put, List.setIfInBounds_toArray, List.set_cons_succ, List.set_cons_zero]
        refine dw_skip rfl rfl rfl ?_
        simp only [Act.put, List.setIfInBounds_toArray, List.set_cons_succ, List.set_cons_zero]
        refine dw_skip rfl rfl rfl ?_
        simp only [Act.put, List.setIfInBounds_toArray, List.set_cons_succ, List.set_cons_zero]
        refine dw_skip rfl rfl rfl ?_
        simp only [Act.put, List.setIfInBounds_toArray, List.set_cons_succ, List.set_cons_zero]
        refine dw_skip rfl rfl rfl ?_
        simp only [Act.put, List.setIfInBounds_toArray, List.set_cons_succ, List.set_cons_zero]
        refine dw_skip rfl rfl rfl ?_
        simp only [Act.put, List.setIfInBounds_toArray, List.set_cons_succ, List.set_cons_zero]
        refine dw_skip rfl rfl rfl ?_
        simp only [Act.put, List.setIfInBounds_toArray, List.set_cons_succ, List.set_cons_zero]
        refine dw_skip rfl rfl rfl ?_
        simp only [Act.put, List.setIfInBounds_toArray, List.set_cons_succ, List.set_cons_zero]
        refine dw_skip rfl rfl rfl ?_
        simp only [Act.put, List.setIfInBounds_toArray, List.set_cons_succ, List.set_cons_zero]
        refine dw_val rfl rfl rfl ?_; apply Exists.intro; refine ⟨fun wv HC => ?_, ?_⟩
        · obtain ⟨f0, f1, f2, f3, f4, f5, f6, f7⟩ := HF.out _ HC; go_simp <;> rfl
        simp only [Act.put, List.setIfInBounds_toArray, List.set_cons_succ, List.set_cons_zero]
        refine dw_val rfl rfl rfl ?_; apply Exists.intro; refine ⟨fun wv HC => ?_, ?_⟩
        · obtain ⟨f0, f1, f2, f3, f4, f5, f6, f7⟩ := HF.out _ HC; go_simp <;> rfl
        simp only [Act.put, List.setIfInBounds_toArray, List.set_cons_succ, List.set_cons_zero]
        refine dw_skip rfl rfl rfl ?_
        simp only [Act.put, List.setIfInBounds_toArray, List.set_cons_succ, List.set_cons_zero]
        refine dw_skip rfl rfl rfl ?_
        simp only [Act.put, List.setIfInBounds_toArray, List.set_cons_succ, List.set_cons_zero]
        refine dw_skip rfl rfl rfl ?_
        simp only [Act.put, List.setIfInBounds_toArray, List.set_cons_succ, List.set_cons_zero]
        refine dw_skip rfl rfl rfl ?_
        simp only [Act.put, List.setIfInBounds_toArray, List.set_cons_succ, List.set_cons_zero]
        refine dw_skip rfl rfl rfl ?_
        simp only [Act.put, List.setIfInBounds_toArray, List.set_cons_succ, List.set_cons_zero]
        refine dw_skip rfl rfl rfl ?_
        simp only [Act.put, List.setIfInBounds_toArray, List.set_cons_succ, List.set_cons_zero]
        refine rel_nil ?_
        rintro wx2 HX2
        rintro _hrm _HG
        rw [HKE.out] at HX2
        clear _hrm _HG
        go_wp2_with fail
        go_ret
        exact ⟨by rw [HN.out] <;> rfl, HX2.below⟩
      have a1d : decide (x.id < 1) = false := by simpa using a1
      by_cases a2 : nx ≤ x.id
      · have a2d : decide (x.id ≥ nx) = true := by simpa using a2
        have HN := hid (show tabB nm cs nx (l.map Rw.row) = false from tabB_5 (by rw [HS.out]; exact okR_bad HX.out (.inr (.inl a2))))
        clear a1 a2
        obtain ⟨gb, hgb2⟩ : ∃ gb, gb = wr.heap.size := ⟨_, rfl⟩
        obtain ⟨KL, hKL⟩ : ∃ KL : List Hp, KL = [Hp.cst wr.heap.size 89 #[.int .i64 x.id, .slice x.A x.n x.c], .cst w.heap.size 34 #[.string nm, .slice A n c, .int .i64 nx, .slice (some ⟨g, o, none⟩) m d], .ro (SlR 4 A n (colCells cs)), .ro (RwsIn (some ⟨g, o, none⟩) m l)] := ⟨_, rfl⟩
        rw [← hKL] at K2
        rw [← hgb2] at hKL
        have HF : Hid (∀ wv, Hold M none w wv KL → wv.cell? ⟨gb, 0, none⟩ = some (.int .i64 x.id) ∧ wv.cell? ⟨gb, 1, none⟩ = some (.slice x.A x.n x.c) ∧ gb < wv.heap.size ∧ wv.cell? ⟨w.heap.size, 0, none⟩ = some (.string nm) ∧ wv.cell? ⟨w.heap.size, 1, none⟩ = some (.slice A n c) ∧ wv.cell? ⟨w.heap.size, 2, none⟩ = some (.int .i64 nx) ∧ wv.cell? ⟨w.heap.size, 3, none⟩ = some (.slice (some ⟨g, o, none⟩) m d) ∧ w.heap.size < wv.heap.size) := hid fun wv HC => by
          rw [hKL] at HC
          have b0 := HC.cst_ 0 rfl
          have b1 := HC.cst_ 1 rfl
          exact ⟨cell_of_row _ _ 0 _ _ _ b0, cell_of_row _ _ 1 _ _ _ b0, Blk.lt b0, cell_of_row _ _ 0 _ _ _ b1, cell_of_row _ _ 1 _ _ _ b1, cell_of_row _ _ 2 _ _ _ b1, cell_of_row _ _ 3 _ _ _ b1, Blk.lt b1⟩
        have HKL : Hid (∀ wv, Hold M none w wv KL → Ro wv (Mut M KL) (SlR 4 A n (colCells cs)) ∧ Ro wv (Mut M KL) (VlsIn x.A x.n x.vs)) := hid fun wv HC => by
          rw [hKL] at HC ⊢
          exact ⟨HC.ro 2 rfl, (HC.ro 3 rfl).imp fun w2 h2 => h2.2 x HXM.out⟩
        go_wp2_with fail
        rw [← hgb2]
        have HGB := hid hgb2
        have HKE := hid hKL
        clear hgb2 hKL
        generalize wr.alloc (.cells #[.int .i64 x.id, .slice x.A x.n x.c] 89) = w2 at *
        refine wp_region_any (by kernel_rfl) ?_
        refine wpAny_hold 33 71 (KL) (spL []) (by kernel_rfl) (by kernel_rfl) (by kernel_rfl) rfl ?_ (K2.drew) ?_
        · exact stays_nil _
        simp only [List.take_succ_cons, List.take_zero, List.drop_succ_cons, List.drop_zero, Act.put, List.getElem_toArray, List.getElem_cons_zero, List.getElem_cons_succ, List.setIfInBounds_toArray, List.set_cons_succ, List.set_cons_zero]
        refine dw_val rfl rfl rfl ?_; apply Exists.intro; refine ⟨fun wv HC => ?_, ?_⟩
        · obtain ⟨f0, f1, f2, f3, f4, f5, f6, f7⟩ := HF.out _ HC; go_simp <;> rfl
        simp only [Act.put, List.setIfInBounds_toArray, List.set_cons_succ, List.set_cons_zero]
        refine dw_val rfl rfl rfl ?_; apply Exists.intro; refine ⟨fun wv HC => ?_, ?_⟩
        · obtain ⟨f0, f1, f2, f3, f4, f5, f6, f7⟩ := HF.out _ HC; go_simp <;> rfl
        simp only [Act.put, List.setIfInBounds_toArray, List.set_cons_succ, List.set_cons_zero]
        refine dw_val rfl rfl rfl ?_; apply Exists.intro; refine ⟨fun wv HC => ?_, ?_⟩
        · obtain ⟨f0, f1, f2, f3, f4, f5, f6, f7⟩ := HF.out _ HC; go_simp <;> rfl
        simp only [Act.put, List.setIfInBounds_toArray, List.set_cons_succ, List.set_cons_zero]
        refine dw_val rfl rfl rfl ?_; apply Exists.intro; refine ⟨fun wv HC => ?_, ?_⟩
        · obtain ⟨f0, f1, f2, f3, f4, f5, f6, f7⟩ := HF.out _ HC; go_simp <;> rfl
        simp only [Act.put, List.setIfInBounds_toArray, List.set_cons_succ, List.set_cons_zero]
        refine dw_val rfl rfl rfl ?_; apply Exists.intro; refine ⟨fun wv HC => ?_, ?_⟩
        · obtain ⟨f0, f1, f2, f3, f4, f5, f6, f7⟩ := HF.out _ HC; go_simp <;> rfl
        simp only [Act.put, List.setIfInBounds_toArray, List.set_cons_succ, List.set_cons_zero]
        refine dw_val rfl rfl rfl ?_; apply Exists.intro; refine ⟨fun wv HC => ?_, ?_⟩
        · obtain ⟨f0, f1, f2, f3, f4, f5, f6, f7⟩ := HF.out _ HC; go_simp <;> rfl
        simp only [Act.put, List.setIfInBounds_toArray, List.set_cons_succ, List.set_cons_zero]
        refine dw_val rfl rfl rfl ?_; apply Exists.intro; refine ⟨fun wv HC => ?_, ?_⟩
        · obtain ⟨f0, f1, f2, f3, f4, f5, f6, f7⟩ := HF.out _ HC; go_simp <;> rfl
        simp only [Act.put, List.setIfInBounds_toArray, List.set_cons_succ, List.set_cons_zero]
        refine dw_val rfl rfl rfl ?_; apply Exists.intro; refine ⟨fun wv HC => ?_, ?_⟩
        · obtain ⟨f0, f1, f2, f3, f4, f5, f6, f7⟩ := HF.out _ HC; go_simp <;> rfl
        simp only [Act.put, List.setIfInBounds_toArray, List.set_cons_succ, List.set_cons_zero]
        refine dw_val rfl rfl rfl ?_; apply Exists.intro; refine ⟨fun wv HC => ?_, ?_⟩
        · obtain ⟨f0, f1, f2, f3, f4, f5, f6, f7⟩ := HF.out _ HC; go_simp <;> rfl
        simp only [Act.put, List.setIfInBounds_toArray, List.set_cons_succ, List.set_cons_zero]
        refine dw_val rfl rfl rfl ?_; apply Exists.intro; refine ⟨fun wv HC => ?_, ?_⟩
        · obtain ⟨f0, f1, f2, f3, f4, f5, f6, f7⟩ := HF.out _ HC; go_simp <;> rfl
        simp only [Act.put, List.setIfInBounds_toArray, List.set_cons_succ, List.set_cons_zero]
        refine dw_val rfl rfl rfl ?_; apply Exists.intro; refine ⟨fun wv HC => ?_, ?_⟩
        · obtain ⟨f0, f1, f2, f3, f4, f5, f6, f7⟩ := HF.out _ HC; go_simp <;> rfl
        simp only [Act.put, List.setIfInBounds_toArray, List.set_cons_succ, List.set_cons_zero]
        refine dw_skip rfl rfl rfl ?_
        simp only [Act.put, List.setIfInBounds_toArray, List.set_cons_succ, List.set_cons_zero]
        refine dw_skip rfl rfl rfl ?_
        simp only [Act.put, List.setIfInBounds_toArray, List.set_cons_succ, List.set_cons_zero]
        refine dw_skip rfl rfl rfl ?_
        simp only [Act.put, List.setIfInBounds_toArray, List.set_cons_succ, List.set_cons_zero]
        refine dw_skip rfl rfl rfl ?_
        simp only [Act.put, List.setIfInBounds_toArray, List.set_cons_succ, List.set_cons_zero]
        refine dw_skip rfl rfl rfl ?_
        simp only [Act.put, List.setIfInBounds_toArray, List.set_cons_succ, List.set_cons_zero]
        refine dw_skip rfl rfl rfl ?_
        simp only [Act.put, List.setIfInBounds_toArray, List.set_cons_succ, List.set_cons_zero]
        refine dw_skip rfl rfl rfl ?_
        simp only [Act.put, List.setIfInBounds_toArray, List.set_cons_succ, List.set_cons_zero]
        refine dw_skip rfl rfl rfl ?_
        simp only [Act.put, List.setIfInBounds_toArray, List.set_cons_succ, List.set_cons_zero]
        refine dw_skip rfl rfl rfl ?_
        simp only [Act.put, List.setIfInBounds_toArray, List.set_cons_succ, List.set_cons_zero]
        refine dw_skip rfl rfl rfl ?_
        simp only [Act.put, List.setIfInBounds_toArray, List.set_cons_succ, List.set_cons_zero]
        refine dw_skip rfl rfl rfl ?_
        simp only [Act.put, List.setIfInBounds_toArray, List.set_cons_succ, List.set_cons_zero]
        refine dw_skip rfl rfl rfl ?_
        simp only [Act.put, List.setIfInBounds_toArray, List.set_cons_succ, List.set_cons_zero]
        refine dw_skip rfl rfl rfl ?_
        simp only [Act.put, List.setIfInBounds_toArray, List.set_cons_succ, List.set_cons_zero]
        refine dw_skip rfl rfl rfl ?_
        simp only [Act.put, List.setIfInBounds_toArray, List.set_cons_succ, List.set_cons_zero]
        refine dw_val rfl rfl rfl ?_; apply Exists.intro; refine ⟨fun wv HC => ?_, ?_⟩
        · obtain ⟨f0, f1, f2, f3, f4, f5, f6, f7⟩ := HF.out _ HC; go_simp <;> rfl
        simp only [Act.put, List.setIfInBounds_toArray, List.set_cons_succ, List.set_cons_zero]
        refine dw_val rfl rfl rfl ?_; apply Exists.intro; refine ⟨fun wv HC => ?_, ?_⟩
        · obtain ⟨f0, f1, f2, f3, f4, f5, f6, f7⟩ := HF.out _ HC; go_simp <;> rfl
        simp only [Act.put, List.setIfInBounds_toArray, List.set_cons_succ, List.set_cons_zero]
        refine dw_skip rfl rfl rfl ?_
        simp only [Act.put, List.setIfInBounds_toArray, List.set_cons_succ, List.set_cons_zero]
        refine dw_skip rfl rfl rfl ?_
        simp only [Act.put, List.setIfInBounds_toArray, List.set_cons_succ, List.set_cons_zero]
        refine dw_skip rfl rfl rfl ?_
        simp only [Act.put, List.setIfInBounds_toArray, List.set_cons_succ, List.set_cons_zero]
        refine dw_skip rfl rfl rfl ?_
        simp only [Act.put, List.setIfInBounds_toArray, List.set_cons_succ, List.set_cons_zero]
        refine dw_skip rfl rfl rfl ?_
        simp only [Act.put, List.setIfInBounds_toArray, List.set_cons_succ, List.set_cons_zero]
        refine dw_skip rfl rfl rfl ?_
        simp only [Act.put, List.setIfInBounds_toArray, List.set_cons_succ, List.set_cons_zero]
        refine rel_nil ?_
        rintro wx2 HX2
        rintro _hrm _HG
        rw [HKE.out] at HX2
        clear _hrm _HG
        go_wp2_with fail
        go_ret
        exact ⟨by rw [HN.out] <;> rfl, HX2.below⟩
      have a2d : decide (x.id ≥ nx) = false := by simpa using a2
      have HA := hid (show ¬ x.id < 1 ∧ ¬ nx ≤ x.id from ⟨a1, a2⟩)
      clear a1 a2
      rcases Nat.eq_zero_or_pos j with hj0 | hj0
      · have HL0 := hid (HP.out.1 hj0)
        have HJ0 := hid hj0
        have hj0d : decide ((j : Int) > 0) = false := by simp; omega
        have hj0d2 : decide (0 < j) = false := by simp; omega
        have hj0d3 : decide ((0 : Int) < (j : Int)) = false := by simp; omega
        clear hj0
        obtain ⟨gb, hgb2⟩ : ∃ gb, gb = wr.heap.size := ⟨_, rfl⟩
        obtain ⟨KL, hKL⟩ : ∃ KL : List Hp, KL = [Hp.cst wr.heap.size 89 #[.int .i64 x.id, .slice x.A x.n x.c], .cst w.heap.size 34 #[.string nm, .slice A n c, .int .i64 nx, .slice (some ⟨g, o, none⟩) m d], .ro (SlR 4 A n (colCells cs)), .ro (RwsIn (some ⟨g, o, none⟩) m l)] := ⟨_, rfl⟩
        rw [← hKL] at K2
        rw [← hgb2] at hKL
        have HF : Hid (∀ wv, Hold M none w wv KL → wv.cell? ⟨gb, 0, none⟩ = some (.int .i64 x.id) ∧ wv.cell? ⟨gb, 1, none⟩ = some (.slice x.A x.n x.c) ∧ gb < wv.heap.size ∧ wv.cell? ⟨w.heap.size, 0, none⟩ = some (.string nm) ∧ wv.cell? ⟨w.heap.size, 1, none⟩ = some (.slice A n c) ∧ wv.cell? ⟨w.heap.size, 2, none⟩ = some (.int .i64 nx) ∧ wv.cell? ⟨w.heap.size, 3, none⟩ = some (.slice (some ⟨g, o, none⟩) m d) ∧ w.heap.size < wv.heap.size) := hid fun wv HC => by
          rw [hKL] at HC
          have b0 := HC.cst_ 0 rfl
          have b1 := HC.cst_ 1 rfl
          exact ⟨cell_of_row _ _ 0 _ _ _ b0, cell_of_row _ _ 1 _ _ _ b0, Blk.lt b0, cell_of_row _ _ 0 _ _ _ b1, cell_of_row _ _ 1 _ _ _ b1, cell_of_row _ _ 2 _ _ _ b1, cell_of_row _ _ 3 _ _ _ b1, Blk.lt b1⟩
        have HKL : Hid (∀ wv, Hold M none w wv KL → Ro wv (Mut M KL) (SlR 4 A n (colCells cs)) ∧ Ro wv (Mut M KL) (VlsIn x.A x.n x.vs)) := hid fun wv HC => by
          rw [hKL] at HC ⊢
          exact ⟨HC.ro 2 rfl, (HC.ro 3 rfl).imp fun w2 h2 => h2.2 x HXM.out⟩
        go_wp2_with fail
        rw [← hgb2]
        have HGB := hid hgb2
        have HKE := hid hKL
        clear hgb2 hKL
        generalize wr.alloc (.cells #[.int .i64 x.id, .slice x.A x.n x.c] 89) = w2 at *
        refine wp_region_any (by kernel_rfl) ?_
        refine wpAny_hold 33 71 (KL) (spL [(64, IsV (.int .i64 (fitsT cs x.vs)))]) (by kernel_rfl) (by kernel_rfl) (by kernel_rfl) rfl ?_ (K2.drew) ?_
        · exact stays_cons isV_mono (stays_nil _)
        simp only [List.take_succ_cons, List.take_zero, List.drop_succ_cons, List.drop_zero, Act.put, List.getElem_toArray, List.getElem_cons_zero, List.getElem_cons_succ, List.setIfInBounds_toArray, List.set_cons_succ, List.set_cons_zero]
        refine dw_val rfl rfl rfl ?_; apply Exists.intro; refine ⟨fun wv HC => ?_, ?_⟩
        · obtain ⟨f0, f1, f2, f3, f4, f5, f6, f7⟩ := HF.out _ HC; go_simp <;> rfl
        simp only [Act.put, List.setIfInBounds_toArray, List.set_cons_succ, List.set_cons_zero]
        refine dw_val rfl rfl rfl ?_; apply Exists.intro; refine ⟨fun wv HC => ?_, ?_⟩
        · obtain ⟨f0, f1, f2, f3, f4, f5, f6, f7⟩ := HF.out _ HC; go_simp <;> rfl
        simp only [Act.put, List.setIfInBounds_toArray, List.set_cons_succ, List.set_cons_zero]
        refine dw_val rfl rfl rfl ?_; apply Exists.intro; refine ⟨fun wv HC => ?_, ?_⟩
        · obtain ⟨f0, f1, f2, f3, f4, f5, f6, f7⟩ := HF.out _ HC; go_simp <;> rfl
        simp only [Act.put, List.setIfInBounds_toArray, List.set_cons_succ, List.set_cons_zero]
        refine dw_val rfl rfl rfl ?_; apply Exists.intro; refine ⟨fun wv HC => ?_, ?_⟩
        · obtain ⟨f0, f1, f2, f3, f4, f5, f6, f7⟩ := HF.out _ HC; go_simp <;> rfl
        simp only [Act.put, List.setIfInBounds_toArray, List.set_cons_succ, List.set_cons_zero]
        refine dw_val rfl rfl rfl ?_; apply Exists.intro; refine ⟨fun wv HC => ?_, ?_⟩
        · obtain ⟨f0, f1, f2, f3, f4, f5, f6, f7⟩ := HF.out _ HC; go_simp <;> rfl
        simp only [Act.put, List.setIfInBounds_toArray, List.set_cons_succ, List.set_cons_zero]
        refine dw_val rfl rfl rfl ?_; apply Exists.intro; refine ⟨fun wv HC => ?_, ?_⟩
        · obtain ⟨f0, f1, f2, f3, f4, f5, f6, f7⟩ := HF.out _ HC; go_simp <;> rfl
        simp only [Act.put, List.setIfInBounds_toArray, List.set_cons_succ, List.set_cons_zero]
        refine dw_val rfl rfl rfl ?_; apply Exists.intro; refine ⟨fun wv HC => ?_, ?_⟩
        · obtain ⟨f0, f1, f2, f3, f4, f5, f6, f7⟩ := HF.out _ HC; go_simp <;> rfl
        simp only [Act.put, List.setIfInBounds_toArray, List.set_cons_succ, List.set_cons_zero]
        refine dw_val rfl rfl rfl ?_; apply Exists.intro; refine ⟨fun wv HC => ?_, ?_⟩
        · obtain ⟨f0, f1, f2, f3, f4, f5, f6, f7⟩ := HF.out _ HC; go_simp <;> rfl
        simp only [Act.put, List.setIfInBounds_toArray, List.set_cons_succ, List.set_cons_zero]
        refine dw_val rfl rfl rfl ?_; apply Exists.intro; refine ⟨fun wv HC => ?_, ?_⟩
        · obtain ⟨f0, f1, f2, f3, f4, f5, f6, f7⟩ := HF.out _ HC; go_simp <;> rfl
        simp only [Act.put, List.setIfInBounds_toArray, List.set_cons_succ, List.set_cons_zero]
        refine dw_val rfl rfl rfl ?_; apply Exists.intro; refine ⟨fun wv HC => ?_, ?_⟩
        · obtain ⟨f0, f1, f2, f3, f4, f5, f6, f7⟩ := HF.out _ HC; go_simp <;> rfl
        simp only [Act.put, List.setIfInBounds_toArray, List.set_cons_succ, List.set_cons_zero]
        refine dw_val rfl rfl rfl ?_; apply Exists.intro; refine ⟨fun wv HC => ?_, ?_⟩
        · obtain ⟨f0, f1, f2, f3, f4, f5, f6, f7⟩ := HF.out _ HC; go_simp <;> rfl
        simp only [Act.put, List.setIfInBounds_toArray, List.set_cons_succ, List.set_cons_zero]
        refine dw_val rfl rfl rfl ?_; apply Exists.intro; refine ⟨fun wv HC => ?_, ?_⟩
        · obtain ⟨f0, f1, f2, f3, f4, f5, f6, f7⟩ := HF.out _ HC; go_simp <;> rfl
        simp only [Act.put, List.setIfInBounds_toArray, List.set_cons_succ, List.set_cons_zero]
        refine dw_val rfl rfl rfl ?_; apply Exists.intro; refine ⟨fun wv HC => ?_, ?_⟩
        · obtain ⟨f0, f1, f2, f3, f4, f5, f6, f7⟩ := HF.out _ HC; go_simp <;> rfl
        simp only [Act.put, List.setIfInBounds_toArray, List.set_cons_succ, List.set_cons_zero]
        refine dw_val rfl rfl rfl ?_; apply Exists.intro; refine ⟨fun wv HC => ?_, ?_⟩
        · obtain ⟨f0, f1, f2, f3, f4, f5, f6, f7⟩ := HF.out _ HC; go_simp <;> rfl
        simp only [Act.put, List.setIfInBounds_toArray, List.set_cons_succ, List.set_cons_zero]
        refine dw_skip rfl rfl rfl ?_
        simp only [Act.put, List.setIfInBounds_toArray, List.set_cons_succ, List.set_cons_zero]
        refine dw_skip rfl rfl rfl ?_
        simp only [Act.put, List.setIfInBounds_toArray, List.set_cons_succ, List.set_cons_zero]
        refine dw_skip rfl rfl rfl ?_
        simp only [Act.put, List.setIfInBounds_toArray, List.set_cons_succ, List.set_cons_zero]
        refine dw_skip rfl rfl rfl ?_
        simp only [Act.put, List.setIfInBounds_toArray, List.set_cons_succ, List.set_cons_zero]
        refine dw_skip rfl rfl rfl ?_
        simp only [Act.put, List.setIfInBounds_toArray, List.set_cons_succ, List.set_cons_zero]
        refine dw_skip rfl rfl rfl ?_
        simp only [Act.put, List.setIfInBounds_toArray, List.set_cons_succ, List.set_cons_zero]
        refine dw_skip rfl rfl rfl ?_
        simp only [Act.put, List.setIfInBounds_toArray, List.set_cons_succ, List.set_cons_zero]
        refine dw_skip rfl rfl rfl ?_
        simp only [Act.put, List.setIfInBounds_toArray, List.set_cons_succ, List.set_cons_zero]
        refine dw_skip rfl rfl rfl ?_
        simp only [Act.put, List.setIfInBounds_toArray, List.set_cons_succ, List.set_cons_zero]
        refine dw_skip rfl rfl rfl ?_
        simp only [Act.put, List.setIfInBounds_toArray, List.set_cons_succ, List.set_cons_zero]
        refine dw_val rfl rfl rfl ?_; apply Exists.intro; refine ⟨fun wv HC => ?_, ?_⟩
        · obtain ⟨f0, f1, f2, f3, f4, f5, f6, f7⟩ := HF.out _ HC; go_simp <;> rfl
        simp only [Act.put, List.setIfInBounds_toArray, List.set_cons_succ, List.set_cons_zero]
        refine dw_val rfl rfl rfl ?_; apply Exists.intro; refine ⟨fun wv HC => ?_, ?_⟩
        · obtain ⟨f0, f1, f2, f3, f4, f5, f6, f7⟩ := HF.out _ HC; go_simp <;> rfl
        simp only [Act.put, List.setIfInBounds_toArray, List.set_cons_succ, List.set_cons_zero]
        refine dw_val rfl rfl rfl ?_; apply Exists.intro; refine ⟨fun wv HC => ?_, ?_⟩
        · obtain ⟨f0, f1, f2, f3, f4, f5, f6, f7⟩ := HF.out _ HC; go_simp <;> rfl
        simp only [Act.put, List.setIfInBounds_toArray, List.set_cons_succ, List.set_cons_zero]
        refine dw_val rfl rfl rfl ?_; apply Exists.intro; refine ⟨fun wv HC => ?_, ?_⟩
        · obtain ⟨f0, f1, f2, f3, f4, f5, f6, f7⟩ := HF.out _ HC; go_simp <;> rfl
        simp only [Act.put, List.setIfInBounds_toArray, List.set_cons_succ, List.set_cons_zero]
        refine dw_val rfl rfl rfl ?_; apply Exists.intro; refine ⟨fun wv HC => ?_, ?_⟩
        · obtain ⟨f0, f1, f2, f3, f4, f5, f6, f7⟩ := HF.out _ HC; go_simp <;> rfl
        simp only [Act.put, List.setIfInBounds_toArray, List.set_cons_succ, List.set_cons_zero]
        refine dw_val rfl rfl rfl ?_; apply Exists.intro; refine ⟨fun wv HC => ?_, ?_⟩
        · obtain ⟨f0, f1, f2, f3, f4, f5, f6, f7⟩ := HF.out _ HC; go_simp <;> rfl
        simp only [Act.put, List.setIfInBounds_toArray, List.set_cons_succ, List.set_cons_zero]
        refine dw_val rfl rfl rfl ?_; apply Exists.intro; refine ⟨fun wv HC => ?_, ?_⟩
        · obtain ⟨f0, f1, f2, f3, f4, f5, f6, f7⟩ := HF.out _ HC; go_simp <;> rfl
        simp only [Act.put, List.setIfInBounds_toArray, List.set_cons_succ, List.set_cons_zero]
        refine dw_callR 64 (IsV (.int .i64 (fitsT cs x.vs))) (f := 73) (args := #[.agg #[.string nm, .slice A n c], .slice x.A x.n x.c]) rfl rfl rfl rfl (fun wv => ?_) (fun wv HC hrm hD => ?_) ?_
        · go_simp <;> rfl
        · refine (rtfits_any _ _ HC.mutLt nm A n c cs x.A x.n x.c x.vs ((HKL.out wv HC).1) ((HKL.out wv HC).2) hn hxn hrok.vs).mono ?_
          rintro e w5 ⟨rfl, b5⟩
          exact ⟨_, rfl, rfl, HC.call b5, RM.below b5⟩
        rintro u wx HCx hu
        obtain rfl : u = _ := hu
        clear HCx
        simp only [Act.put, List.setIfInBounds_toArray, List.set_cons_succ, List.set_cons_zero]
        refine dw_val rfl rfl rfl ?_; apply Exists.intro; refine ⟨fun wv HC => ?_, ?_⟩
        · obtain ⟨f0, f1, f2, f3, f4, f5, f6, f7⟩ := HF.out _ HC; go_simp <;> rfl
        simp only [Act.put, List.setIfInBounds_toArray, List.set_cons_succ, List.set_cons_zero]
        refine rel_nil ?_
        rintro wx2 HX2
        rintro _hrm _HG
        rw [HKE.out] at HX2
        clear _hrm _HG
        by_cases a3 : fitsT cs x.vs = 0
        · have HS2 := hid (show okR cs nx 0 (l.map Rw.row) = okR cs nx x.id ((l.map Rw.row).drop (j + 1)) by rw [HS.out]; exact okR_good HX.out (by have := HL0.out; have := HA.out; omega) (by have := HA.out; omega) a3)
          have HP2 := hid (show (j + 1 = 0 → x.id = 0) ∧ ∀ q, j + 1 = q + 1 → ∃ r : Rw, l[q]? = some r ∧ r.id = x.id from ⟨fun h => by omega, fun q hq => ⟨x, (show j = q by omega) ▸ HXL.out, rfl⟩⟩)
          have h0x : 0 ≤ x.id := by have := HA.out; omega
          rw [a3]
          clear a3
          go_wp2_with fail
          go_roundw
          case rel => exact ⟨j + 1, x.id, by omega, by go_num, h0x, HP2, HS2, HX2.drop (List.sublist_cons_self _ _)⟩
          case measure => simp [intOf]; omega
        · have a3d : (fitsT cs x.vs != 0) = true := by simp [a3]
          have HN := hid (show tabB nm cs nx (l.map Rw.row) = false from tabB_5 (by rw [HS.out]; exact okR_bad HX.out (.inr (.inr a3))))
          clear a3
          go_wp2_with fail
          go_ret
          exact ⟨by rw [HN.out] <;> rfl, HX2.below⟩
      · obtain ⟨p, hp⟩ : ∃ p, j = p + 1 := ⟨j - 1, by omega⟩
        obtain ⟨r, hr, hrl⟩ := HP.out.2 p hp
        have HR := hid hr
        have HRL := hid hrl
        clear hr hrl
        have hj0d : decide ((j : Int) > 0) = true := by simp; omega
        have hj0d2 : decide (0 < j) = true := by simp; omega
        have hj0d3 : decide ((0 : Int) < (j : Int)) = true := by simp; omega
        have hw1 : IntKind.i64.wrap ((j : Int) - 1) = (p : Int) := by rw [IntKind.wrap_i64]; omega
        have p0 : (0 : Int) ≤ (p : Int) := by omega
        have p1 : (p : Int) < (m : Int) := by omega
        have hpm : p < m := by omega
        have HPJ := hid hp
        clear hp hj0
        by_cases a4 : r.id ≥ x.id
        · have a4d : decide (r.id ≥ x.id) = true := by simpa using a4
          have HN := hid (show tabB nm cs nx (l.map Rw.row) = false from tabB_5 (by rw [HS.out]; exact okR_bad HX.out (.inl (show x.id ≤ lst by have := HRL.out; omega))))
          clear a4
          obtain ⟨gb, hgb2⟩ : ∃ gb, gb = wr.heap.size := ⟨_, rfl⟩
          obtain ⟨KL, hKL⟩ : ∃ KL : List Hp, KL = [Hp.cst wr.heap.size 89 #[.int .i64 x.id, .slice x.A x.n x.c], .cst w.heap.size 34 #[.string nm, .slice A n c, .int .i64 nx, .slice (some ⟨g, o, none⟩) m d], .ro (SlR 4 A n (colCells cs)), .ro (RwsIn (some ⟨g, o, none⟩) m l)] := ⟨_, rfl⟩
          rw [← hKL] at K2
          rw [← hgb2] at hKL
          have HF : Hid (∀ wv, Hold M none w wv KL → wv.cell? ⟨gb, 0, none⟩ = some (.int .i64 x.id) ∧ wv.cell? ⟨gb, 1, none⟩ = some (.slice x.A x.n x.c) ∧ gb < wv.heap.size ∧ wv.cell? ⟨w.heap.size, 0, none⟩ = some (.string nm) ∧ wv.cell? ⟨w.heap.size, 1, none⟩ = some (.slice A n c) ∧ wv.cell? ⟨w.heap.size, 2, none⟩ = some (.int .i64 nx) ∧ wv.cell? ⟨w.heap.size, 3, none⟩ = some (.slice (some ⟨g, o, none⟩) m d) ∧ w.heap.size < wv.heap.size ∧ wv.cell? ⟨g, o + p * 2, none⟩ = some (.int .i64 r.id) ∧ g < wv.heap.size) := hid fun wv HC => by
            rw [hKL] at HC
            have b0 := HC.cst_ 0 rfl
            have b1 := HC.cst_ 1 rfl
            obtain ⟨g', o', e', hl, e0, e1, _⟩ := (HC.ro 3 rfl).now.at_ HR.out
            obtain ⟨rfl, rfl⟩ : g = g' ∧ o = o' := by injection e' with e'; injection e' with a1 a2; exact ⟨a1, a2⟩
            exact ⟨cell_of_row _ _ 0 _ _ _ b0, cell_of_row _ _ 1 _ _ _ b0, Blk.lt b0, cell_of_row _ _ 0 _ _ _ b1, cell_of_row _ _ 1 _ _ _ b1, cell_of_row _ _ 2 _ _ _ b1, cell_of_row _ _ 3 _ _ _ b1, Blk.lt b1, e0, hl⟩
          have HKL : Hid (∀ wv, Hold M none w wv KL → Ro wv (Mut M KL) (SlR 4 A n (colCells cs)) ∧ Ro wv (Mut M KL) (VlsIn x.A x.n x.vs)) := hid fun wv HC => by
            rw [hKL] at HC ⊢
            exact ⟨HC.ro 2 rfl, (HC.ro 3 rfl).imp fun w2 h2 => h2.2 x HXM.out⟩
          go_wp2_with fail
          rw [← hgb2]
          have HGB := hid hgb2
          have HKE := hid hKL
          clear hgb2 hKL
          generalize wr.alloc (.cells #[.int .i64 x.id, .slice x.A x.n x.c] 89) = w2 at *
          refine wp_region_any (by kernel_rfl) ?_
          refine wpAny_hold 33 71 (KL) (spL []) (by kernel_rfl) (by kernel_rfl) (by kernel_rfl) rfl ?_ (K2.drew) ?_
          · exact stays_nil _
          simp only [List.take_succ_cons, List.take_zero, List.drop_succ_cons, List.drop_zero, Act.put, List.getElem_toArray, List.getElem_cons_zero, List.getElem_cons_succ, List.setIfInBounds_toArray, List.set_cons_succ, List.set_cons_zero]
          refine dw_val rfl rfl rfl ?_; apply Exists.intro; refine ⟨fun wv HC => ?_, ?_⟩
          · obtain ⟨f0, f1, f2, f3, f4, f5, f6, f7, f8, f9⟩ := HF.out _ HC; go_simp <;> rfl
          simp only [Act.put, List.setIfInBounds_toArray, List.set_cons_succ, List.set_cons_zero]
          refine dw_val rfl rfl rfl ?_; apply Exists.intro; refine ⟨fun wv HC => ?_, ?_⟩
          · obtain ⟨f0, f1, f2, f3, f4, f5, f6, f7, f8, f9⟩ := HF.out _ HC; go_simp <;> rfl
          simp only [Act.put, List.setIfInBounds_toArray, List.set_cons_succ, List.set_cons_zero]
          refine dw_val rfl rfl rfl ?_; apply Exists.intro; refine ⟨fun wv HC => ?_, ?_⟩
          · obtain ⟨f0, f1, f2, f3, f4, f5, f6, f7, f8, f9⟩ := HF.out _ HC; go_simp <;> rfl
          simp only [Act.put, List.setIfInBounds_toArray, List.set_cons_succ, List.set_cons_zero]
          refine dw_val rfl rfl rfl ?_; apply Exists.intro; refine ⟨fun wv HC => ?_, ?_⟩
          · obtain ⟨f0, f1, f2, f3, f4, f5, f6, f7, f8, f9⟩ := HF.out _ HC; go_simp <;> rfl
          simp only [Act.put, List.setIfInBounds_toArray, List.set_cons_succ, List.set_cons_zero]
          refine dw_val rfl rfl rfl ?_; apply Exists.intro; refine ⟨fun wv HC => ?_, ?_⟩
          · obtain ⟨f0, f1, f2, f3, f4, f5, f6, f7, f8, f9⟩ := HF.out _ HC; go_simp <;> rfl
          simp only [Act.put, List.setIfInBounds_toArray, List.set_cons_succ, List.set_cons_zero]
          refine dw_val rfl rfl rfl ?_; apply Exists.intro; refine ⟨fun wv HC => ?_, ?_⟩
          · obtain ⟨f0, f1, f2, f3, f4, f5, f6, f7, f8, f9⟩ := HF.out _ HC; go_simp <;> rfl
          simp only [Act.put, List.setIfInBounds_toArray, List.set_cons_succ, List.set_cons_zero]
          refine dw_val rfl rfl rfl ?_; apply Exists.intro; refine ⟨fun wv HC => ?_, ?_⟩
          · obtain ⟨f0, f1, f2, f3, f4, f5, f6, f7, f8, f9⟩ := HF.out _ HC; go_simp <;> rfl
          simp only [Act.put, List.setIfInBounds_toArray, List.set_cons_succ, List.set_cons_zero]
          refine dw_val rfl rfl rfl ?_; apply Exists.intro; refine ⟨fun wv HC => ?_, ?_⟩
          · obtain ⟨f0, f1, f2, f3, f4, f5, f6, f7, f8, f9⟩ := HF.out _ HC; go_simp <;> rfl
          simp only [Act.put, List.setIfInBounds_toArray, List.set_cons_succ, List.set_cons_zero]
          refine dw_val rfl rfl rfl ?_; apply Exists.intro; refine ⟨fun wv HC => ?_, ?_⟩
          · obtain ⟨f0, f1, f2, f3, f4, f5, f6, f7, f8, f9⟩ := HF.out _ HC; go_simp <;> rfl
          simp only [Act.put, List.setIfInBounds_toArray, List.set_cons_succ, List.set_cons_zero]
          refine dw_val rfl rfl rfl ?_; apply Exists.intro; refine ⟨fun wv HC => ?_, ?_⟩
          · obtain ⟨f0, f1, f2, f3, f4, f5, f6, f7, f8, f9⟩ := HF.out _ HC; go_simp <;> rfl
          simp only [Act.put, List.setIfInBounds_toArray, List.set_cons_succ, List.set_cons_zero]
          refine dw_val rfl rfl rfl ?_; apply Exists.intro; refine ⟨fun wv HC => ?_, ?_⟩
          · obtain ⟨f0, f1, f2, f3, f4, f5, f6, f7, f8, f9⟩ := HF.out _ HC; go_simp <;> rfl
          simp only [Act.put, List.setIfInBounds_toArray, List.set_cons_succ, List.set_cons_zero]
          refine dw_val rfl rfl rfl ?_; apply Exists.intro; refine ⟨fun wv HC => ?_, ?_⟩
          · obtain ⟨f0, f1, f2, f3, f4, f5, f6, f7, f8, f9⟩ := HF.out _ HC; go_simp <;> rfl
          simp only [Act.put, List.setIfInBounds_toArray, List.set_cons_succ, List.set_cons_zero]
          refine dw_val rfl rfl rfl ?_; apply Exists.intro; refine ⟨fun wv HC => ?_, ?_⟩
          · obtain ⟨f0, f1, f2, f3, f4, f5, f6, f7, f8, f9⟩ := HF.out _ HC; go_simp <;> rfl
          simp only [Act.put, List.setIfInBounds_toArray, List.set_cons_succ, List.set_cons_zero]
          refine dw_val rfl rfl rfl ?_; apply Exists.intro; refine ⟨fun wv HC => ?_, ?_⟩
          · obtain ⟨f0, f1, f2, f3, f4, f5, f6, f7, f8, f9⟩ := HF.out _ HC; go_simp <;> rfl
          simp only [Act.put, List.setIfInBounds_toArray, List.set_cons_succ, List.set_cons_zero]
          refine dw_val rfl rfl rfl ?_; apply Exists.intro; refine ⟨fun wv HC => ?_, ?_⟩
          · obtain ⟨f0, f1, f2, f3, f4, f5, f6, f7, f8, f9⟩ := HF.out _ HC; go_simp <;> rfl
          simp only [Act.put, List.setIfInBounds_toArray, List.set_cons_succ, List.set_cons_zero]
          refine dw_val rfl rfl rfl ?_; apply Exists.intro; refine ⟨fun wv HC => ?_, ?_⟩
          · obtain ⟨f0, f1, f2, f3, f4, f5, f6, f7, f8, f9⟩ := HF.out _ HC; go_simp <;> rfl
          simp only [Act.put, List.setIfInBounds_toArray, List.set_cons_succ, List.set_cons_zero]
          refine dw_val rfl rfl rfl ?_; apply Exists.intro; refine ⟨fun wv HC => ?_, ?_⟩
          · obtain ⟨f0, f1, f2, f3, f4, f5, f6, f7, f8, f9⟩ := HF.out _ HC; go_simp <;> rfl
          simp only [Act.put, List.setIfInBounds_toArray, List.set_cons_succ, List.set_cons_zero]
          refine dw_val rfl rfl rfl ?_; apply Exists.intro; refine ⟨fun wv HC => ?_, ?_⟩
          · obtain ⟨f0, f1, f2, f3, f4, f5, f6, f7, f8, f9⟩ := HF.out _ HC; go_simp <;> rfl
          simp only [Act.put, List.setIfInBounds_toArray, List.set_cons_succ, List.set_cons_zero]
          refine dw_val rfl rfl rfl ?_; apply Exists.intro; refine ⟨fun wv HC => ?_, ?_⟩
          · obtain ⟨f0, f1, f2, f3, f4, f5, f6, f7, f8, f9⟩ := HF.out _ HC; go_simp <;> rfl
          simp only [Act.put, List.setIfInBounds_toArray, List.set_cons_succ, List.set_cons_zero]
          refine dw_val rfl rfl rfl ?_; apply Exists.intro; refine ⟨fun wv HC => ?_, ?_⟩
          · obtain ⟨f0, f1, f2, f3, f4, f5, f6, f7, f8, f9⟩ := HF.out _ HC; go_simp <;> rfl
          simp only [Act.put, List.setIfInBounds_toArray, List.set_cons_succ, List.set_cons_zero]
          refine dw_val rfl rfl rfl ?_; apply Exists.intro; refine ⟨fun wv HC => ?_, ?_⟩
          · obtain ⟨f0, f1, f2, f3, f4, f5, f6, f7, f8, f9⟩ := HF.out _ HC; go_simp <;> rfl
          simp only [Act.put, List.setIfInBounds_toArray, List.set_cons_succ, List.set_cons_zero]
          refine dw_val rfl rfl rfl ?_; apply Exists.intro; refine ⟨fun wv HC => ?_, ?_⟩
          · obtain ⟨f0, f1, f2, f3, f4, f5, f6, f7, f8, f9⟩ := HF.out _ HC; go_simp <;> rfl
          simp only [Act.put, List.setIfInBounds_toArray, List.set_cons_succ, List.set_cons_zero]
          refine dw_val rfl rfl rfl ?_; apply Exists.intro; refine ⟨fun wv HC => ?_, ?_⟩
          · obtain ⟨f0, f1, f2, f3, f4, f5, f6, f7, f8, f9⟩ := HF.out _ HC; go_simp <;> rfl
          simp only [Act.put, List.setIfInBounds_toArray, List.set_cons_succ, List.set_cons_zero]
          refine dw_val rfl rfl rfl ?_; apply Exists.intro; refine ⟨fun wv HC => ?_, ?_⟩
          · obtain ⟨f0, f1, f2, f3, f4, f5, f6, f7, f8, f9⟩ := HF.out _ HC; go_simp <;> rfl
          simp only [Act.put, List.setIfInBounds_toArray, List.set_cons_succ, List.set_cons_zero]
          refine dw_val rfl rfl rfl ?_; apply Exists.intro; refine ⟨fun wv HC => ?_, ?_⟩
          · obtain ⟨f0, f1, f2, f3, f4, f5, f6, f7, f8, f9⟩ := HF.out _ HC; go_simp <;> rfl
          simp only [Act.put, List.setIfInBounds_toArray, List.set_cons_succ, List.set_cons_zero]
          refine dw_val rfl rfl rfl ?_; apply Exists.intro; refine ⟨fun wv HC => ?_, ?_⟩
          · obtain ⟨f0, f1, f2, f3, f4, f5, f6, f7, f8, f9⟩ := HF.out _ HC; go_simp <;> rfl
          simp only [Act.put, List.setIfInBounds_toArray, List.set_cons_succ, List.set_cons_zero]
          refine dw_val rfl rfl rfl ?_; apply Exists.intro; refine ⟨fun wv HC => ?_, ?_⟩
          · obtain ⟨f0, f1, f2, f3, f4, f5, f6, f7, f8, f9⟩ := HF.out _ HC; go_simp <;> rfl
          simp only [Act.put, List.setIfInBounds_toArray, List.set_cons_succ, List.set_cons_zero]
          refine dw_skip rfl rfl rfl ?_
          simp only [Act.put, List.setIfInBounds_toArray, List.set_cons_succ, List.set_cons_zero]
          refine dw_skip rfl rfl rfl ?_
          simp only [Act.put, List.setIfInBounds_toArray, List.set_cons_succ, List.set_cons_zero]
          refine dw_skip rfl rfl rfl ?_
          simp only [Act.put, List.setIfInBounds_toArray, List.set_cons_succ, List.set_cons_zero]
          refine dw_skip rfl rfl rfl ?_
          simp only [Act.put, List.setIfInBounds_toArray, List.set_cons_succ, List.set_cons_zero]
          refine dw_skip rfl rfl rfl ?_
          simp only [Act.put, List.setIfInBounds_toArray, List.set_cons_succ, List.set_cons_zero]
          refine dw_skip rfl rfl rfl ?_
          simp only [Act.put, List.setIfInBounds_toArray, List.set_cons_succ, List.set_cons_zero]
          refine rel_nil ?_
          rintro wx2 HX2
          rintro _hrm _HG
          rw [HKE.out] at HX2
          clear _hrm _HG
          go_wp2_with fail
          go_ret
          exact ⟨by rw [HN.out] <;> rfl, HX2.below⟩
        · have a4d : decide (r.id ≥ x.id) = false := by simpa using a4
          have HA4 := hid a4
          clear a4
          obtain ⟨gb, hgb2⟩ : ∃ gb, gb = wr.heap.size := ⟨_, rfl⟩
          obtain ⟨KL, hKL⟩ : ∃ KL : List Hp, KL = [Hp.cst wr.heap.size 89 #[.int .i64 x.id, .slice x.A x.n x.c], .cst w.heap.size 34 #[.string nm, .slice A n c, .int .i64 nx, .slice (some ⟨g, o, none⟩) m d], .ro (SlR 4 A n (colCells cs)), .ro (RwsIn (some ⟨g, o, none⟩) m l)] := ⟨_, rfl⟩
          rw [← hKL] at K2
          rw [← hgb2] at hKL
          have HF : Hid (∀ wv, Hold M none w wv KL → wv.cell? ⟨gb, 0, none⟩ = some (.int .i64 x.id) ∧ wv.cell? ⟨gb, 1, none⟩ = some (.slice x.A x.n x.c) ∧ gb < wv.heap.size ∧ wv.cell? ⟨w.heap.size, 0, none⟩ = some (.string nm) ∧ wv.cell? ⟨w.heap.size, 1, none⟩ = some (.slice A n c) ∧ wv.cell? ⟨w.heap.size, 2, none⟩ = some (.int .i64 nx) ∧ wv.cell? ⟨w.heap.size, 3, none⟩ = some (.slice (some ⟨g, o, none⟩) m d) ∧ w.heap.size < wv.heap.size ∧ wv.cell? ⟨g, o + p * 2, none⟩ = some (.int .i64 r.id) ∧ g < wv.heap.size) := hid fun wv HC => by
            rw [hKL] at HC
            have b0 := HC.cst_ 0 rfl
            have b1 := HC.cst_ 1 rfl
            obtain ⟨g', o', e', hl, e0, e1, _⟩ := (HC.ro 3 rfl).now.at_ HR.out
            obtain ⟨rfl, rfl⟩ : g = g' ∧ o = o' := by injection e' with e'; injection e' with a1 a2; exact ⟨a1, a2⟩
            exact ⟨cell_of_row _ _ 0 _ _ _ b0, cell_of_row _ _ 1 _ _ _ b0, Blk.lt b0, cell_of_row _ _ 0 _ _ _ b1, cell_of_row _ _ 1 _ _ _ b1, cell_of_row _ _ 2 _ _ _ b1, cell_of_row _ _ 3 _ _ _ b1, Blk.lt b1, e0, hl⟩
          have HKL : Hid (∀ wv, Hold M none w wv KL → Ro wv (Mut M KL) (SlR 4 A n (colCells cs)) ∧ Ro wv (Mut M KL) (VlsIn x.A x.n x.vs)) := hid fun wv HC => by
            rw [hKL] at HC ⊢
            exact ⟨HC.ro 2 rfl, (HC.ro 3 rfl).imp fun w2 h2 => h2.2 x HXM.out⟩
          go_wp2_with fail
          rw [← hgb2]
          have HGB := hid hgb2
          have HKE := hid hKL
          clear hgb2 hKL
          generalize wr.alloc (.cells #[.int .i64 x.id, .slice x.A x.n x.c] 89) = w2 at *
          refine wp_region_any (by kernel_rfl) ?_
          refine wpAny_hold 33 71 (KL) (spL [(64, IsV (.int .i64 (fitsT cs x.vs)))]) (by kernel_rfl) (by kernel_rfl) (by kernel_rfl) rfl ?_ (K2.drew) ?_
          · exact stays_cons isV_mono (stays_nil _)
          simp only [List.take_succ_cons, List.take_zero, List.drop_succ_cons, List.drop_zero, Act.put, List.getElem_toArray, List.getElem_cons_zero, List.getElem_cons_succ, List.setIfInBounds_toArray, List.set_cons_succ, List.set_cons_zero]
          refine dw_val rfl rfl rfl ?_; apply Exists.intro; refine ⟨fun wv HC => ?_, ?_⟩
          · obtain ⟨f0, f1, f2, f3, f4, f5, f6, f7, f8, f9⟩ := HF.out _ HC; go_simp <;> rfl
          simp only [Act.put, List.setIfInBounds_toArray, List.set_cons_succ, List.set_cons_zero]
          refine dw_val rfl rfl rfl ?_; apply Exists.intro; refine ⟨fun wv HC => ?_, ?_⟩
          · obtain ⟨f0, f1, f2, f3, f4, f5, f6, f7, f8, f9⟩ := HF.out _ HC; go_simp <;> rfl
          simp only [Act.put, List.setIfInBounds_toArray, List.set_cons_succ, List.set_cons_zero]
          refine dw_val rfl rfl rfl ?_; apply Exists.intro; refine ⟨fun wv HC => ?_, ?_⟩
          · obtain ⟨f0, f1, f2, f3, f4, f5, f6, f7, f8, f9⟩ := HF.out _ HC; go_simp <;> rfl
          simp only [Act.put, List.setIfInBounds_toArray, List.set_cons_succ, List.set_cons_zero]
          refine dw_val rfl rfl rfl ?_; apply Exists.intro; refine ⟨fun wv HC => ?_, ?_⟩
          · obtain ⟨f0, f1, f2, f3, f4, f5, f6, f7, f8, f9⟩ := HF.out _ HC; go_simp <;> rfl
          simp only [Act.put, List.setIfInBounds_toArray, List.set_cons_succ, List.set_cons_zero]
          refine dw_val rfl rfl rfl ?_; apply Exists.intro; refine ⟨fun wv HC => ?_, ?_⟩
          · obtain ⟨f0, f1, f2, f3, f4, f5, f6, f7, f8, f9⟩ := HF.out _ HC; go_simp <;> rfl
          simp only [Act.put, List.setIfInBounds_toArray, List.set_cons_succ, List.set_cons_zero]
          refine dw_val rfl rfl rfl ?_; apply Exists.intro; refine ⟨fun wv HC => ?_, ?_⟩
          · obtain ⟨f0, f1, f2, f3, f4, f5, f6, f7, f8, f9⟩ := HF.out _ HC; go_simp <;> rfl
          simp only [Act.put, List.setIfInBounds_toArray, List.set_cons_succ, List.set_cons_zero]
          refine dw_val rfl rfl rfl ?_; apply Exists.intro; refine ⟨fun wv HC => ?_, ?_⟩
          · obtain ⟨f0, f1, f2, f3, f4, f5, f6, f7, f8, f9⟩ := HF.out _ HC; go_simp <;> rfl
          simp only [Act.put, List.setIfInBounds_toArray, List.set_cons_succ, List.set_cons_zero]
          refine dw_val rfl rfl rfl ?_; apply Exists.intro; refine ⟨fun wv HC => ?_, ?_⟩
          · obtain ⟨f0, f1, f2, f3, f4, f5, f6, f7, f8, f9⟩ := HF.out _ HC; go_simp <;> rfl
          simp only [Act.put, List.setIfInBounds_toArray, List.set_cons_succ, List.set_cons_zero]
          refine dw_val rfl rfl rfl ?_; apply Exists.intro; refine ⟨fun wv HC => ?_, ?_⟩
          · obtain ⟨f0, f1, f2, f3, f4, f5, f6, f7, f8, f9⟩ := HF.out _ HC; go_simp <;> rfl
          simp only [Act.put, List.setIfInBounds_toArray, List.set_cons_succ, List.set_cons_zero]
          refine dw_val rfl rfl rfl ?_; apply Exists.intro; refine ⟨fun wv HC => ?_, ?_⟩
          · obtain ⟨f0, f1, f2, f3, f4, f5, f6, f7, f8, f9⟩ := HF.out _ HC; go_simp <;> rfl
          simp only [Act.put, List.setIfInBounds_toArray, List.set_cons_succ, List.set_cons_zero]
          refine dw_val rfl rfl rfl ?_; apply Exists.intro; refine ⟨fun wv HC => ?_, ?_⟩
          · obtain ⟨f0, f1, f2, f3, f4, f5, f6, f7, f8, f9⟩ := HF.out _ HC; go_simp <;> rfl
          simp only [Act.put, List.setIfInBounds_toArray, List.set_cons_succ, List.set_cons_zero]
          refine dw_val rfl rfl rfl ?_; apply Exists.intro; refine ⟨fun wv HC => ?_, ?_⟩
          · obtain ⟨f0, f1, f2, f3, f4, f5, f6, f7, f8, f9⟩ := HF.out _ HC; go_simp <;> rfl
          simp only [Act.put, List.setIfInBounds_toArray, List.set_cons_succ, List.set_cons_zero]
          refine dw_val rfl rfl rfl ?_; apply Exists.intro; refine ⟨fun wv HC => ?_, ?_⟩
          · obtain ⟨f0, f1, f2, f3, f4, f5, f6, f7, f8, f9⟩ := HF.out _ HC; go_simp <;> rfl
          simp only [Act.put, List.setIfInBounds_toArray, List.set_cons_succ, List.set_cons_zero]
          refine dw_val rfl rfl rfl ?_; apply Exists.intro; refine ⟨fun wv HC => ?_, ?_⟩
          · obtain ⟨f0, f1, f2, f3, f4, f5, f6, f7, f8, f9⟩ := HF.out _ HC; go_simp <;> rfl
          simp only [Act.put, List.setIfInBounds_toArray, List.set_cons_succ, List.set_cons_zero]
          refine dw_val rfl rfl rfl ?_; apply Exists.intro; refine ⟨fun wv HC => ?_, ?_⟩
          · obtain ⟨f0, f1, f2, f3, f4, f5, f6, f7, f8, f9⟩ := HF.out _ HC; go_simp <;> rfl
          simp only [Act.put, List.setIfInBounds_toArray, List.set_cons_succ, List.set_cons_zero]
          refine dw_val rfl rfl rfl ?_; apply Exists.intro; refine ⟨fun wv HC => ?_, ?_⟩
          · obtain ⟨f0, f1, f2, f3, f4, f5, f6, f7, f8, f9⟩ := HF.out _ HC; go_simp <;> rfl
          simp only [Act.put, List.setIfInBounds_toArray, List.set_cons_succ, List.set_cons_zero]
          refine dw_val rfl rfl rfl ?_; apply Exists.intro; refine ⟨fun wv HC => ?_, ?_⟩
          · obtain ⟨f0, f1, f2, f3, f4, f5, f6, f7, f8, f9⟩ := HF.out _ HC; go_simp <;> rfl
          simp only [Act.put, List.setIfInBounds_toArray, List.set_cons_succ, List.set_cons_zero]
          refine dw_val rfl rfl rfl ?_; apply Exists.intro; refine ⟨fun wv HC => ?_, ?_⟩
          · obtain ⟨f0, f1, f2, f3, f4, f5, f6, f7, f8, f9⟩ := HF.out _ HC; go_simp <;> rfl
          simp only [Act.put, List.setIfInBounds_toArray, List.set_cons_succ, List.set_cons_zero]
          refine dw_val rfl rfl rfl ?_; apply Exists.intro; refine ⟨fun wv HC => ?_, ?_⟩
          · obtain ⟨f0, f1, f2, f3, f4, f5, f6, f7, f8, f9⟩ := HF.out _ HC; go_simp <;> rfl
          simp only [Act.put, List.setIfInBounds_toArray, List.set_cons_succ, List.set_cons_zero]
          refine dw_val rfl rfl rfl ?_; apply Exists.intro; refine ⟨fun wv HC => ?_, ?_⟩
          · obtain ⟨f0, f1, f2, f3, f4, f5, f6, f7, f8, f9⟩ := HF.out _ HC; go_simp <;> rfl
          simp only [Act.put, List.setIfInBounds_toArray, List.set_cons_succ, List.set_cons_zero]
          refine dw_val rfl rfl rfl ?_; apply Exists.intro; refine ⟨fun wv HC => ?_, ?_⟩
          · obtain ⟨f0, f1, f2, f3, f4, f5, f6, f7, f8, f9⟩ := HF.out _ HC; go_simp <;> rfl
          simp only [Act.put, List.setIfInBounds_toArray, List.set_cons_succ, List.set_cons_zero]
          refine dw_val rfl rfl rfl ?_; apply Exists.intro; refine ⟨fun wv HC => ?_, ?_⟩
          · obtain ⟨f0, f1, f2, f3, f4, f5, f6, f7, f8, f9⟩ := HF.out _ HC; go_simp <;> rfl
          simp only [Act.put, List.setIfInBounds_toArray, List.set_cons_succ, List.set_cons_zero]
          refine dw_val rfl rfl rfl ?_; apply Exists.intro; refine ⟨fun wv HC => ?_, ?_⟩
          · obtain ⟨f0, f1, f2, f3, f4, f5, f6, f7, f8, f9⟩ := HF.out _ HC; go_simp <;> rfl
          simp only [Act.put, List.setIfInBounds_toArray, List.set_cons_succ, List.set_cons_zero]
          refine dw_val rfl rfl rfl ?_; apply Exists.intro; refine ⟨fun wv HC => ?_, ?_⟩
          · obtain ⟨f0, f1, f2, f3, f4, f5, f6, f7, f8, f9⟩ := HF.out _ HC; go_simp <;> rfl
          simp only [Act.put, List.setIfInBounds_toArray, List.set_cons_succ, List.set_cons_zero]
          refine dw_val rfl rfl rfl ?_; apply Exists.intro; refine ⟨fun wv HC => ?_, ?_⟩
          · obtain ⟨f0, f1, f2, f3, f4, f5, f6, f7, f8, f9⟩ := HF.out _ HC; go_simp <;> rfl
          simp only [Act.put, List.setIfInBounds_toArray, List.set_cons_succ, List.set_cons_zero]
          refine dw_val rfl rfl rfl ?_; apply Exists.intro; refine ⟨fun wv HC => ?_, ?_⟩
          · obtain ⟨f0, f1, f2, f3, f4, f5, f6, f7, f8, f9⟩ := HF.out _ HC; go_simp <;> rfl
          simp only [Act.put, List.setIfInBounds_toArray, List.set_cons_succ, List.set_cons_zero]
          refine dw_val rfl rfl rfl ?_; apply Exists.intro; refine ⟨fun wv HC => ?_, ?_⟩
          · obtain ⟨f0, f1, f2, f3, f4, f5, f6, f7, f8, f9⟩ := HF.out _ HC; go_simp <;> rfl
          simp only [Act.put, List.setIfInBounds_toArray, List.set_cons_succ, List.set_cons_zero]
          refine dw_val rfl rfl rfl ?_; apply Exists.intro; refine ⟨fun wv HC => ?_, ?_⟩
          · obtain ⟨f0, f1, f2, f3, f4, f5, f6, f7, f8, f9⟩ := HF.out _ HC; go_simp <;> rfl
          simp only [Act.put, List.setIfInBounds_toArray, List.set_cons_succ, List.set_cons_zero]
          refine dw_val rfl rfl rfl ?_; apply Exists.intro; refine ⟨fun wv HC => ?_, ?_⟩
          · obtain ⟨f0, f1, f2, f3, f4, f5, f6, f7, f8, f9⟩ := HF.out _ HC; go_simp <;> rfl
          simp only [Act.put, List.setIfInBounds_toArray, List.set_cons_succ, List.set_cons_zero]
          refine dw_val rfl rfl rfl ?_; apply Exists.intro; refine ⟨fun wv HC => ?_, ?_⟩
          · obtain ⟨f0, f1, f2, f3, f4, f5, f6, f7, f8, f9⟩ := HF.out _ HC; go_simp <;> rfl
          simp only [Act.put, List.setIfInBounds_toArray, List.set_cons_succ, List.set_cons_zero]
          refine dw_val rfl rfl rfl ?_; apply Exists.intro; refine ⟨fun wv HC => ?_, ?_⟩
          · obtain ⟨f0, f1, f2, f3, f4, f5, f6, f7, f8, f9⟩ := HF.out _ HC; go_simp <;> rfl
          simp only [Act.put, List.setIfInBounds_toArray, List.set_cons_succ, List.set_cons_zero]
          refine dw_callR 64 (IsV (.int .i64 (fitsT cs x.vs))) (f := 73) (args := #[.agg #[.string nm, .slice A n c], .slice x.A x.n x.c]) rfl rfl rfl rfl (fun wv => ?_) (fun wv HC hrm hD => ?_) ?_
          · go_simp <;> rfl
          · refine (rtfits_any _ _ HC.mutLt nm A n c cs x.A x.n x.c x.vs ((HKL.out wv HC).1) ((HKL.out wv HC).2) hn hxn hrok.vs).mono ?_
            rintro e w5 ⟨rfl, b5⟩
            exact ⟨_, rfl, rfl, HC.call b5, RM.below b5⟩
          rintro u wx HCx hu
          obtain rfl : u = _ := hu
          clear HCx
          simp only [Act.put, List.setIfInBounds_toArray, List.set_cons_succ, List.set_cons_zero]
          refine dw_val rfl rfl rfl ?_; apply Exists.intro; refine ⟨fun wv HC => ?_, ?_⟩
          · obtain ⟨f0, f1, f2, f3, f4, f5, f6, f7, f8, f9⟩ := HF.out _ HC; go_simp <;> rfl
          simp only [Act.put, List.setIfInBounds_toArray, List.set_cons_succ, List.set_cons_zero]
          refine rel_nil ?_
          rintro wx2 HX2
          rintro _hrm _HG
          rw [HKE.out] at HX2
          clear _hrm _HG
          by_cases a3 : fitsT cs x.vs = 0
          · have HS2 := hid (show okR cs nx 0 (l.map Rw.row) = okR cs nx x.id ((l.map Rw.row).drop (j + 1)) by rw [HS.out]; exact okR_good HX.out (by have := HA4.out; have := HRL.out; omega) (by have := HA.out; omega) a3)
            have HP2 := hid (show (j + 1 = 0 → x.id = 0) ∧ ∀ q, j + 1 = q + 1 → ∃ r : Rw, l[q]? = some r ∧ r.id = x.id from ⟨fun h => by omega, fun q hq => ⟨x, (show j = q by omega) ▸ HXL.out, rfl⟩⟩)
            have h0x : 0 ≤ x.id := by have := HA.out; omega
            rw [a3]
            clear a3
            go_wp2_with fail
            go_roundw
            case rel => exact ⟨j + 1, x.id, by omega, by go_num, h0x, HP2, HS2, HX2.drop (List.sublist_cons_self _ _)⟩
            case measure => simp [intOf]; omega
          · have a3d : (fitsT cs x.vs != 0) = true := by simp [a3]
            have HN := hid (show tabB nm cs nx (l.map Rw.row) = false from tabB_5 (by rw [HS.out]; exact okR_bad HX.out (.inr (.inr a3))))
            clear a3
            go_wp2_with fail
            go_ret
            exact ⟨by rw [HN.out] <;> rfl, HX2.below⟩
    · obtain rfl : j = m := by omega
      have hdd : decide ((j : Int) < (j : Int)) = false := by simp
      have HN := hid (show tabB nm cs nx (l.map Rw.row) = !dupB cs (l.map Rw.row) from tabB_6 HSB.out (by rw [HML.out]; omega) (by omega) (by omega) (by rw [HS.out]; exact okR_end (by rw [HML.out]; exact Nat.le_refl _)))
      have F3 := H.facts
      simp only [World.size_alloc, World.size_drew, factsL, cellsF, Nat.reduceAdd, List.toList_toArray, List.set_cons_zero, List.set_cons_succ, List.setIfInBounds_toArray, and_true, true_and] at F3
      go_wp2_with fail
      refine (rdup_any _ _ H.mutLt nm A n c cs nx B j d l (H.ro 1 rfl) (H.ro 2 rfl) hn hm hok).mono ?_
      rintro e w3 ⟨rfl, b3⟩
      have K3 := H.call b3
      go_wp2_with fail
      go_ret
      exact ⟨by rw [HN.out] <;> rfl, K3.below⟩
end Go.Proofs.YtljmclbedpceoaaGreatDoor

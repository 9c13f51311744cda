/- Rel2: Rel, where a move or an extract that is waited for only behind n (E) is taken as soon as it is ready. No program in sight. -/
import Derived.Test.YtedogodccblfeaaGreatDoorSDiffSaidMC
import Derived.Test.YtedogodccblfeaaGreatDoorSDiffSaidMB
import Derived.Test.YtedogodccblfeaaGreatDoorSDiffSaidMA
import Derived.Deep.RegionHeld3
import Derived.WalkSpells
import Derived.Orders
namespace Go.Proofs.YtedogodccblfeaaGreatDoor
open Go.RowKit
set_option linter.unusedVariables false
set_option linter.unusedSimpArgs false

/-- A change drawn. -/
def DrawnChg (w : World) (T : Nat) (M : Nat → Prop) (m : Nat) (e : Ending) (w' : World) : Prop :=
  ∃ (v : Value) (ins : List (List Vl)) (dels : List Int) (us : List Upd), e = .returned v ∧ ChgSlot M ins dels us v w' ∧ ins.length ≤ 3 ∧ dels.length ≤ m ∧ us.length ≤ m ∧ Tp w' T ∧ w.grownBy w' (some T)
def PrVals (l : List Pr) (w : World) : Prop := ∀ p ∈ l, VlsIn p.oA p.on p.old w ∧ VlsIn p.nA p.nn p.new w
def SlVals (l : List Sl) (w : World) : Prop := ∀ r ∈ l, VlsIn r.A r.n r.vs w
theorem sls_snoc {M : Nat → Prop} {w : World} {rs : List Sl} {r : Sl} (h : Ro w M (SlVals rs)) (k : Ro w M (VlsIn r.A r.n r.vs)) : Ro w M (SlVals (rs ++ [r])) := fun w2 h1 h2 x hx => by
  rcases List.mem_append.1 hx with hx | hx
  · exact h w2 h1 h2 x hx
  · simp at hx; subst hx; exact k w2 h1 h2
theorem sls_ok_snoc {l : List Sl} {x : Sl} (h : ∀ s ∈ l, s.ok) (k : x.ok) : ∀ s ∈ l ++ [x], s.ok := fun s hs => by
  rcases List.mem_append.1 hs with hs | hs
  · exact h s hs
  · simp at hs; subst hs; exact k
theorem prVals_app {M : Nat → Prop} {w : World} {a b : List Pr} (h : Ro w M (PrVals a)) (k : Ro w M (PrVals b)) : Ro w M (PrVals (a ++ b)) := fun w2 h1 h2 x hx => by
  rcases List.mem_append.1 hx with hx | hx
  · exact h w2 h1 h2 x hx
  · exact k w2 h1 h2 x hx
theorem prs_ok_app {a b : List Pr} (h : ∀ p ∈ a, p.ok) (k : ∀ p ∈ b, p.ok) : ∀ p ∈ a ++ b, p.ok := fun p hp => by
  rcases List.mem_append.1 hp with hp | hp
  · exact h p hp
  · exact k p hp
theorem prCells_one (l : List Pr) : ∀ u ∈ prCells l, u.oneCell' = true := fun u hu => by
  unfold prCells at hu
  rw [List.mem_flatMap] at hu
  obtain ⟨x, _, hx⟩ := hu
  simp only [Pr.cells, List.mem_cons, List.not_mem_nil, or_false] at hx
  rcases hx with rfl | rfl | rfl <;> rfl
theorem validB_k {k i : Int} {s : ByteArray} (h : validB k i s = true) : I64 k := by
  unfold validB at h
  unfold I64
  split at h
  · omega
  · split at h
    · omega
    · split at h
      · omega
      · split at h
        · omega
        · cases h
theorem Hold.renVl {M : Nat → Prop} {row : Option Nat} {w0 w : World} {L : List Hp} {e : TypeId} {v : Value} {n : Nat} {vs vs' : List Vl} (he : vs' = vs) (h : Hold M row w0 w (.own e 3 v n (vlCells vs) :: L)) : Hold M row w0 w (.own e 3 v n (vlCells vs') :: L) := by subst he; exact h
theorem Tryz.elPr : ElemT Tryz.prog 42 110 3 56 (.agg #[.int .i64 0, .slice none 0 0, .slice none 0 0]) := ⟨Tryz.underlying42, by kernel_rfl, rfl, by omega⟩
theorem Tryz.elSlc : ElemT Tryz.prog 74 51 1 24 (.slice none 0 0) := ⟨Tryz.underlying74, by kernel_rfl, rfl, by omega⟩
set_option maxHeartbeats 8000000 in
set_option maxRecDepth 100000 in
theorem chgof_any (M : Nat → Prop) (T : Nat) (w : World) (hM : ∀ b, M b → b < w.heap.size) (ht : Tp w T) (hMT : ∀ b, M b → T ≤ b) (nm : ByteArray) (A : Option Addr) (n c : Nat) (cs : List Col) (nx : Int) (B : Option Addr) (m d : Nat) (l : List Rw) (hD : Ro w (Mut M [.tp T]) (ColsIn A n cs)) (hE : Ro w (Mut M [.tp T]) (RwsIn B m l)) (hW : Ro w (Mut M [.tp T]) Wds) (hT : 2 < T)
    (hn1 : 1 ≤ n) (hn : n ≤ 1000) (hm : m ≤ 1000) (hok : ∀ x ∈ cs, ColOk x) (hfit : ∀ r ∈ l, r.vs.length = n) (hrok : ∀ r ∈ l, r.ok) : Calls Tryz.prog 25 #[.pointer (some ⟨T, 0, none⟩), .agg #[.string nm, .slice A n c, .int .i64 nx, .slice B m d]] w fun e w' => DrawnChg w T M m e w' := by
  have HL := hid (cols_n hD.now)
  have HLM := hid hE.now.len
  have HOKC := hid hok
  have HFIT := hid hfit
  have HROK := hid hrok
  clear hok hfit hrok
  have K0 := (((((((((Hold.startT M w T hM ht hMT).add hE).add (hD.less (mut_none rfl))).add ((hW.less (mut_none rfl)).less (mut_none rfl))).alloc_cst #[.string nm, .slice A n c, .int .i64 nx, .slice B m d] 58).alloc #[.slice none 0 0, .slice none 0 0, .slice none 0 0] 76).alloc #[.slice none 0 0, .slice none 0 0, .slice none 0 0] 76).add (show Ro _ _ (PrVals []) from fun _ _ _ r hr => nomatch hr)).nil 110 3).nil 3 1
  simp only [World.size_alloc] at K0
  clear hD hE hW
  go_enter Tryz.func25, Tryz.ntmps25
  go_wp2_with fail
  obtain ⟨gx, hgx⟩ : ∃ gx, gx = w.heap.size := ⟨_, rfl⟩
  obtain ⟨g4, hg4⟩ : ∃ g4, g4 = gx + 1 := ⟨_, rfl⟩
  obtain ⟨g5, hg5⟩ : ∃ g5, g5 = g4 + 1 := ⟨_, rfl⟩
  rw [← hgx, ← hg4, ← hg5] at K0 ⊢
  generalize ((w.alloc _).alloc _).alloc _ = w1 at K0 ⊢
  have HGX := hid hgx
  clear hgx hg4 hg5
  go_loopw [14] (fun iv wr => ∃ (j dn dc un uc : Nat) (D U : Option Addr) (dels : List Int) (ps : List Pr), j ≤ m ∧ iv = .int .i64 j ∧ dn ≤ j ∧ un ≤ j ∧ Hid (∀ p ∈ ps, p.ok) ∧ Hold M (some T) w wr [.own 3 1 (.slice D dn dc) dn (iCells dels), .own 110 3 (.slice U un uc) un (prCells ps), .ro (PrVals ps), .blk g5 76 #[.slice none 0 0, .slice D dn dc, .slice U un uc], .blk g4 76 #[.slice none 0 0, .slice none 0 0, .slice none 0 0], .cst gx 58 #[.string nm, .slice A n c, .int .i64 nx, .slice B m d], .ro Wds, .ro (ColsIn A n cs), .ro (RwsIn B m l), .tp T]) (fun iv _ => m - (intOf iv).toNat)
  case atStart => exact ⟨0, 0, 0, 0, 0, none, none, [], [], by omega, rfl, by omega, by omega, hid (fun p hp => nomatch hp), K0⟩
  case round =>
    clear K0
    obtain ⟨j, dn, dc, un, uc, D, U, dels, ps, hj, rfl, hdn, hun, HPS, H⟩ := hrel
    by_cases hlt : j < m
    · have hd : decide ((j : Int) < (m : Int)) = true := by simp; omega
      have j0 : (0 : Int) ≤ (j : Int) := by omega
      have j1 : (j : Int) < (m : Int) := by omega
      obtain ⟨x, hx⟩ := get_of HLM.out hlt
      obtain ⟨b, o, rfl, hb, c0, c1, hxv⟩ := (H.ro 8 rfl).now.at_ hx
      have HXO := hid (HROK.out x (List.mem_of_getElem? hx))
      have HXL := hid (HFIT.out x (List.mem_of_getElem? hx))
      have hxr : Ro wr _ (VlsIn x.A x.n x.vs) := (H.ro 8 rfl).imp fun w2 h2 => h2.2 x (List.mem_of_getElem? hx)
      obtain ⟨xid, xA, xn, xc, xvs⟩ := x
      dsimp only at *
      obtain rfl : n = xn := by have h1 := hxv.len; have h2 := HXL.out; omega
      obtain ⟨v0, hv0⟩ := get_of HXL.out (show 0 < n by omega)
      obtain ⟨bx, ox, rfl, rx⟩ := hxr.vlsAt hv0
      have HV0 := hid (HXO.out.vs v0 (List.mem_of_getElem? hv0))
      simp only [Nat.zero_mul, Nat.add_zero] at rx
      clear hx hxv hv0
      have K1 := ((H.add hxr).add (rx.less (mut_none rfl))).alloc_cst #[.int .i64 xid, .slice (some ⟨bx, ox, none⟩) n xc] 119
      clear H hxr rx
      obtain ⟨gr, hgr⟩ : ∃ gr, gr = wr.heap.size := ⟨_, rfl⟩
      rw [← hgr] at K1
      go_wp2_with fail
      rw [← hgr]
      clear hgr c0 c1
      refine (next_any T 4 _ (K1.tp_ 12 rfl) (by omega) (by omega)).mono ?_
      rintro e w2 ⟨z, rfl, z0, z1, t2, g2⟩
      have K2 := Hold.callT K1 12 rfl g2 t2
      clear K1 g2 t2
      have F2 := K2.facts
      simp only [factsL, cellsF, Nat.reduceAdd, zf, zl] at F2
      obtain rfl | rfl | hz : z = 0 ∨ z = 1 ∨ 2 ≤ z := by omega
      · have HCE := hid (show iCells dels ++ (#[Value.int .i64 xid]).toList = iCells (dels ++ [xid]) by simp [iCells])
        go_wp2_with (at_builtin; go_must (refine wpList_appH K2 3 rfl Tryz.elIntK #[.int .i64 xid] rfl (.tmp 23) (.tmp 26) rfl rfl _ rfl rfl rfl (by intro u hu; simp at hu; rcases hu with rfl; rfl) (by omega) (by omega) ?_); intro g9 cap9 w9 hc9 hm9 KB; rw [HCE.out] at KB; simp only [List.set_cons_zero, List.set_cons_succ] at KB; (have FB := KB.facts); simp only [factsL, cellsF, Nat.reduceAdd, zf, zl] at FB)
        have KC := (KB.store 6 rfl 1 (.slice (some ⟨g9, 0, none⟩) (dn + 1) cap9)).drop (List.Sublist.cons _ (List.Sublist.cons _ (List.Sublist.cons _ (List.Sublist.refl _))))
        go_roundw
        case rel => exact ⟨j + 1, dn + 1, cap9, un, uc, _, U, dels ++ [xid], ps, by omega, by first | rfl | go_num, by omega, by omega, HPS, KC⟩
        case measure => simp [intOf]; omega
      · skip
        go_wp2_with fail
        refine (trow_any (Mut M _) T _ K2.mutLt (K2.tp_ 12 rfl) (K2.get 12 rfl).2 nm A n c cs ((K2.ro 10 rfl).less (mut_tp (i := 12) rfl)) ((K2.ro 9 rfl).less (mut_tp (i := 12) rfl)) hT hn HOKC.out).mono ?_
        rintro e w4 ⟨Ar, nr, cr, vs, rfl, hnr, hvr, hfr, ho, t4, g4'⟩
        have K3 := Hold.addOwn K2 (Hold.callT K2 12 rfl g4' t4) (RM.grown g4' (.inr ⟨_, List.mem_of_getElem? (i := 12) rfl, rfl⟩)) ho
        obtain rfl : n = nr := by have h1 := fitsAll_len hfr; have h2 := HL.out; omega
        have hcr := own_caps (K3.get 0 rfl)
        replace hcr := And.intro hcr.1 hcr.2.1
        have HVS := hid (show vs.length = n ∧ ∀ v ∈ vs, v.ok from ⟨hnr.symm, hvr⟩)
        obtain ⟨ga, rfl⟩ : ∃ ga, Ar = some ⟨ga, 0, none⟩ := by
          rcases own_addr (K3.get 0 rfl) with ⟨_, h, _⟩ | ⟨g, h, _⟩
          · omega
          · exact ⟨g, h⟩
        clear K2 ho t4 g4' hnr hvr hfr F2
        have F3 := K3.facts
        simp only [factsL, cellsF, Nat.reduceAdd, zf, zl] at F3
        go_wp2_with fail
        refine (bool_any T 2 _ (K3.tp_ 13 rfl) (by omega) (by omega)).mono ?_
        rintro e wb ⟨bb, rfl, tb, gb⟩
        have K4 := Hold.callT K3 13 rfl gb tb
        clear K3 gb tb
        have F4 := K4.facts
        simp only [factsL, cellsF, Nat.reduceAdd, zf, zl] at F4
        cases bb
        · skip
          have KE8 := K4
          clear K4
          go_wp2_with fail
          refine (bool_any T 8 _ (KE8.tp_ 13 rfl) (by omega) (by omega)).mono ?_
          rintro e wb ⟨bb, rfl, tb, gb⟩
          have KF8 := Hold.callT KE8 13 rfl gb tb
          clear KE8 gb tb
          have FF8 := KF8.facts
          simp only [factsL, cellsF, Nat.reduceAdd, zf, zl] at FF8
          cases bb
          · skip
            have KV := KF8
            clear KF8
            go_wp2_with fail
            refine (bool_any T 12 _ (KV.tp_ 13 rfl) (by omega) (by omega)).mono ?_
            rintro e wb ⟨bb, rfl, tb, gb⟩
            have KP := Hold.callT KV 13 rfl gb tb
            clear KV gb tb
            have FP := KP.facts
            simp only [factsL, cellsF, Nat.reduceAdd, zf, zl] at FP
            cases bb
            · skip
              have KC := KP
              clear KP
              have KS := KC.sealRow 0 rfl
              simp only [List.set_cons_zero] at KS
              obtain ⟨KL, hKL, KN⟩ := KS.name
              have HF : Hid (∀ wv, Hold M (some T) w wv KL → (wv.cell? ⟨g5, 0, none⟩ = some (.slice none 0 0) ∧ wv.cell? ⟨g5, 1, none⟩ = some (.slice D dn dc) ∧ wv.cell? ⟨g5, 2, none⟩ = some (.slice U un uc) ∧ g5 < wv.heap.size) ∧ wv.cell? ⟨gr, 0, none⟩ = some (.int .i64 xid) ∧ wv.cell? ⟨gr, 1, none⟩ = some (.slice (some ⟨bx, ox, none⟩) n xc) ∧ gr < wv.heap.size) := hid fun wv HC => by
                rw [hKL] at HC
                have y1 := HC.blk_ 7 rfl
                have y2 := HC.cst_ 1 rfl
                exact ⟨⟨cell_of_row _ _ 0 _ _ _ y1, cell_of_row _ _ 1 _ _ _ y1, cell_of_row _ _ 2 _ _ _ y1, Blk.lt y1⟩, cell_of_row _ _ 0 _ _ _ y2, cell_of_row _ _ 1 _ _ _ y2, Blk.lt y2⟩
              have HRX : Hid (∀ wv, Hold M (some T) w wv KL → Ro wv (Mut M KL) (VlsIn (some ⟨bx, ox, none⟩) n xvs) ∧ Ro wv (Mut M KL) (VlsIn (some ⟨ga, 0, none⟩) n vs)) := hid fun wv HC => by
                rw [hKL] at HC ⊢
                exact ⟨HC.ro 3 rfl, HC.ro 0 rfl⟩
              have HKL := hid hKL
              clear hKL KS KC
              go_wp2_with fail
              refine wp_region_any (by kernel_rfl) ?_
              refine wpAny_hold 10 98 (KL) (spL [(64, VlsSlot (Mut M KL) xvs), (66, PrSlot (Mut M KL) (xid, xvs, vs)), (67, PrsSlot (Mut M KL) [(xid, xvs, vs)])]) (by kernel_rfl) (by kernel_rfl) (by kernel_rfl) rfl ?_ (KN.drew) ?_
              · exact stays_cons vlsSlot_mono (stays_cons prSlot_mono (stays_cons prsSlot_mono (stays_nil _)))
              simp only [zd, Act.put, List.getElem_toArray, List.getElem_cons_zero, List.getElem_cons_succ, zl]
              refine dw_val rfl rfl rfl ?_; apply Exists.intro; refine ⟨fun wv HC => ?_, ?_⟩
              ·  go_simp <;> rfl
              simp only [Act.put, zl]
              refine dw_val rfl rfl rfl ?_; apply Exists.intro; refine ⟨fun wv HC => ?_, ?_⟩
              · obtain ⟨⟨f0, f1, f2, f3⟩, f4, f5, f6⟩ := HF.out _ HC; go_simp <;> rfl
              simp only [Act.put, zl]
              refine dw_val rfl rfl rfl ?_; apply Exists.intro; refine ⟨fun wv HC => ?_, ?_⟩
              ·  go_simp <;> rfl
              simp only [Act.put, zl]
              refine dw_val rfl rfl rfl ?_; apply Exists.intro; refine ⟨fun wv HC => ?_, ?_⟩
              · obtain ⟨⟨f0, f1, f2, f3⟩, f4, f5, f6⟩ := HF.out _ HC; go_simp <;> rfl
              simp only [Act.put, zl]
              refine dw_val rfl rfl rfl ?_; apply Exists.intro; refine ⟨fun wv HC => ?_, ?_⟩
              ·  go_simp <;> rfl
              simp only [Act.put, zl]
              refine dw_val rfl rfl rfl ?_; apply Exists.intro; refine ⟨fun wv HC => ?_, ?_⟩
              · obtain ⟨⟨f0, f1, f2, f3⟩, f4, f5, f6⟩ := HF.out _ HC; go_simp <;> rfl
              simp only [Act.put, zl]
              refine dw_clone Tryz.elVl 64 (VlsSlot (Mut M KL) xvs) rfl rfl rfl rfl (.const (.slice none 0 0)) (.tmp 63) rfl rfl (A := some ⟨bx, ox, none⟩) (m := n) (c := xc) (ys := vlCells xvs) rfl (one_vls _) (by omega) (by omega) (fun wv HC hD => ((HRX.out _ HC).1).now) (fun C9 c9 wv HC q1 q2 hro => ⟨C9, n, c9, rfl, HXL.out.symm, q1, q2, hro⟩) ?_
              rintro u wx HCx ⟨A64, n64, c64, rfl, -, -, -, -⟩
              clear HCx
              simp only [Act.put, zl]
              refine dw_val rfl rfl rfl ?_; apply Exists.intro; refine ⟨fun wv HC => ?_, ?_⟩
              ·  go_simp <;> rfl
              simp only [Act.put, zl]
              refine dw_valC 66 (PrSlot (Mut M KL) (xid, xvs, vs)) rfl rfl rfl rfl (.agg #[.int .i64 xid, .slice A64 n64 c64, .slice (some ⟨ga, 0, none⟩) n cr]) (fun wv HC => ?_) (fun wv HC hD => ?_) ?_
              · go_simp <;> rfl
              · have ha : VlsSlot (Mut M KL) xvs (.slice A64 n64 c64) wv := deps_at hD 6 rfl (by kernel_rfl) rfl rfl
                exact prSlot_of HXO.out.id HXO.out.vs HVS.out.2 ha ⟨_, n, cr, rfl, HVS.out.1.symm, hcr.1, hcr.2, (HRX.out _ HC).2⟩
              simp only [Act.put, zl]
              refine dw_new #[.int .i64 xid, .slice A64 n64 c64, .slice (some ⟨ga, 0, none⟩) n cr] 110 67 (PrsSlot (Mut M KL) [(xid, xvs, vs)]) (fun g => .slice (some ⟨g, 0, none⟩) 1 1) rfl rfl rfl rfl (fun wv => ?_) (fun wv HC _hrm hD hro => ?_) ?_
              · go_simp <;> rfl
              · have hrr := RM.alloc (Mut M KL) wv (.cells #[.int .i64 xid, .slice A64 n64 c64, .slice (some ⟨ga, 0, none⟩) n cr] 110)
                have h0 : PrSlot (Mut M KL) (xid, xvs, vs) (.agg #[.int .i64 xid, .slice A64 n64 c64, .slice (some ⟨ga, 0, none⟩) n cr]) wv := deps_at hD 8 rfl (by kernel_rfl) rfl rfl
                replace h0 := prSlot_mono _ _ _ hrr h0
                exact prsSlot_one (hro _ HC.mutLt) (fun i j k e1 => Value.agg.inj e1) h0
              rintro g67 wg HCg hsl
              simp only [Act.put, zl]
              clear hsl HCg
              refine rel_nil ?_
              rintro wx5 HX5
              rintro _hrm HGW
              have hb2 : PrsSlot (Mut M KL) [(xid, xvs, vs)] (.slice (some ⟨g67, 0, none⟩) 1 1) wx5 := (GW_on (d := 67) rfl).1 (HGW 9 _ rfl (by omega))
              clear HGW _hrm
              obtain ⟨Aq, nq, cq, pq, heq, -, -, hpm, hpok, hpr⟩ := hb2
              obtain ⟨rfl, rfl, rfl⟩ : some ⟨g67, 0, none⟩ = Aq ∧ 1 = nq ∧ 1 = cq := by injection heq with h1 h2 h3; exact ⟨h1, h2, h3⟩
              clear heq
              rw [HKL.out] at HX5 hpr
              have HPO := hid (prs_ok_app HPS.out hpok)
              have HPE := hid (show prCells ps ++ prCells pq = prCells (ps ++ pq) by simp [prCells])
              have KA := HX5.add (hpr.imp fun w h => (h.2 : PrVals pq w))
              have k5 := hid ((hpr.imp fun w h => h.1).now)
              clear HX5 hpr hpm hpok HF HRX KN
              have FA := KA.facts
              simp only [factsL, cellsF, Nat.reduceAdd, zf, zl] at FA
              go_wp2_with (at_builtin; go_must (refine wpList_appAllH KA 6 rfl Tryz.elPr k5.out rfl (.tmp 59) (.tmp 67) rfl rfl rfl (prCells_one pq) (by omega) (by omega) ?_); intro C' cap' w6 hc6 hm6 KB; rw [HPE.out] at KB; simp only [List.set_cons_zero, List.set_cons_succ] at KB; (have FB := KB.facts); simp only [factsL, cellsF, Nat.reduceAdd, zf, zl] at FB)
              have KD := KB.store 8 rfl 2 (.slice C' (un + 1) cap')
              have KE := (KD.swapRo 7 rfl (prVals_app (KD.ro 7 rfl) (KD.ro 0 rfl))).drop (List.Sublist.cons _ (List.Sublist.cons _ (List.Sublist.cons _ (List.Sublist.cons _ (List.Sublist.cons _ (List.Sublist.refl _))))))
              go_wp2_with fail
              go_roundw
              case rel => exact ⟨j + 1, dn, dc, un + 1, cap', D, C', dels, ps ++ pq, by omega, by first | rfl | go_num, by omega, by omega, HPO, KE⟩
              case measure => simp [intOf]; omega
            · skip
              go_wp2_with fail
              refine (next_any T (n : Int) _ (KP.tp_ 13 rfl) (by omega) (by omega)).mono ?_
              rintro e wc ⟨q, rfl, q0, q1, tc, gc⟩
              obtain ⟨q, rfl⟩ := Int.eq_ofNat_of_zero_le q0
              have KQ := Hold.callT KP 13 rfl gc tc
              clear KP gc tc FP
              have FQ := KQ.facts
              simp only [factsL, cellsF, Nat.reduceAdd, zf, zl] at FQ
              go_wp2_with fail
              refine (value_any T _ (KQ.tp_ 13 rfl) (KQ.ro 10 rfl).now hT).mono ?_
              rintro e wd ⟨kv, iv, sv, rfl, hv, hsv, hiv, td, _, gd⟩
              have KR := Hold.callT KQ 13 rfl gd td
              clear KQ gd td FQ
              have HQL := hid (show q < vs.length by have := HVS.out.1; omega)
              obtain ⟨uq, huq⟩ : ∃ uq, vs[q]? = some uq := ⟨_, List.getElem?_eq_getElem HQL.out⟩
              obtain ⟨⟨z0, z1, z2⟩, ⟨z3, z4, z5⟩, z6⟩ := own_vl (KR.get 0 rfl) huq
              clear huq
              have KC := KR.putVl 0 rfl q HQL.out ⟨kv, iv, sv⟩
              simp only [List.set_cons_zero] at KC
              have HVS := hid (show (vs.set q ⟨kv, iv, sv⟩).length = n ∧ ∀ v ∈ vs.set q ⟨kv, iv, sv⟩, v.ok from ⟨by rw [List.length_set]; exact HVS.out.1, oks_set HVS.out.2 ⟨validB_k hv, hiv, by show sv.size ≤ maxLen; unfold maxLen; omega⟩⟩)
              clear hv KR
              generalize vs.set q ⟨kv, iv, sv⟩ = vs at HVS KC
              have FC := KC.facts
              simp only [factsL, cellsF, Nat.reduceAdd, zf, zl] at FC
              have KS := KC.sealRow 0 rfl
              simp only [List.set_cons_zero] at KS
              obtain ⟨KL, hKL, KN⟩ := KS.name
              have HF : Hid (∀ wv, Hold M (some T) w wv KL → (wv.cell? ⟨g5, 0, none⟩ = some (.slice none 0 0) ∧ wv.cell? ⟨g5, 1, none⟩ = some (.slice D dn dc) ∧ wv.cell? ⟨g5, 2, none⟩ = some (.slice U un uc) ∧ g5 < wv.heap.size) ∧ wv.cell? ⟨gr, 0, none⟩ = some (.int .i64 xid) ∧ wv.cell? ⟨gr, 1, none⟩ = some (.slice (some ⟨bx, ox, none⟩) n xc) ∧ gr < wv.heap.size) := hid fun wv HC => by
                rw [hKL] at HC
                have y1 := HC.blk_ 7 rfl
                have y2 := HC.cst_ 1 rfl
                exact ⟨⟨cell_of_row _ _ 0 _ _ _ y1, cell_of_row _ _ 1 _ _ _ y1, cell_of_row _ _ 2 _ _ _ y1, Blk.lt y1⟩, cell_of_row _ _ 0 _ _ _ y2, cell_of_row _ _ 1 _ _ _ y2, Blk.lt y2⟩
              have HRX : Hid (∀ wv, Hold M (some T) w wv KL → Ro wv (Mut M KL) (VlsIn (some ⟨bx, ox, none⟩) n xvs) ∧ Ro wv (Mut M KL) (VlsIn (some ⟨ga, 0, none⟩) n vs)) := hid fun wv HC => by
                rw [hKL] at HC ⊢
                exact ⟨HC.ro 3 rfl, HC.ro 0 rfl⟩
              have HKL := hid hKL
              clear hKL KS KC
              go_wp2_with fail
              refine wp_region_any (by kernel_rfl) ?_
              refine wpAny_hold 10 98 (KL) (spL [(64, VlsSlot (Mut M KL) xvs), (66, PrSlot (Mut M KL) (xid, xvs, vs)), (67, PrsSlot (Mut M KL) [(xid, xvs, vs)])]) (by kernel_rfl) (by kernel_rfl) (by kernel_rfl) rfl ?_ (KN.drew) ?_
              · exact stays_cons vlsSlot_mono (stays_cons prSlot_mono (stays_cons prsSlot_mono (stays_nil _)))
              simp only [zd, Act.put, List.getElem_toArray, List.getElem_cons_zero, List.getElem_cons_succ, zl]
              refine dw_val rfl rfl rfl ?_; apply Exists.intro; refine ⟨fun wv HC => ?_, ?_⟩
              ·  go_simp <;> rfl
              simp only [Act.put, zl]
              refine dw_val rfl rfl rfl ?_; apply Exists.intro; refine ⟨fun wv HC => ?_, ?_⟩
              · obtain ⟨⟨f0, f1, f2, f3⟩, f4, f5, f6⟩ := HF.out _ HC; go_simp <;> rfl
              simp only [Act.put, zl]
              refine dw_val rfl rfl rfl ?_; apply Exists.intro; refine ⟨fun wv HC => ?_, ?_⟩
              ·  go_simp <;> rfl
              simp only [Act.put, zl]
              refine dw_val rfl rfl rfl ?_; apply Exists.intro; refine ⟨fun wv HC => ?_, ?_⟩
              · obtain ⟨⟨f0, f1, f2, f3⟩, f4, f5, f6⟩ := HF.out _ HC; go_simp <;> rfl
              simp only [Act.put, zl]
              refine dw_val rfl rfl rfl ?_; apply Exists.intro; refine ⟨fun wv HC => ?_, ?_⟩
              ·  go_simp <;> rfl
              simp only [Act.put, zl]
              refine dw_val rfl rfl rfl ?_; apply Exists.intro; refine ⟨fun wv HC => ?_, ?_⟩
              · obtain ⟨⟨f0, f1, f2, f3⟩, f4, f5, f6⟩ := HF.out _ HC; go_simp <;> rfl
              simp only [Act.put, zl]
              refine dw_clone Tryz.elVl 64 (VlsSlot (Mut M KL) xvs) rfl rfl rfl rfl (.const (.slice none 0 0)) (.tmp 63) rfl rfl (A := some ⟨bx, ox, none⟩) (m := n) (c := xc) (ys := vlCells xvs) rfl (one_vls _) (by omega) (by omega) (fun wv HC hD => ((HRX.out _ HC).1).now) (fun C9 c9 wv HC q1 q2 hro => ⟨C9, n, c9, rfl, HXL.out.symm, q1, q2, hro⟩) ?_
              rintro u wx HCx ⟨A64, n64, c64, rfl, -, -, -, -⟩
              clear HCx
              simp only [Act.put, zl]
              refine dw_val rfl rfl rfl ?_; apply Exists.intro; refine ⟨fun wv HC => ?_, ?_⟩
              ·  go_simp <;> rfl
              simp only [Act.put, zl]
              refine dw_valC 66 (PrSlot (Mut M KL) (xid, xvs, vs)) rfl rfl rfl rfl (.agg #[.int .i64 xid, .slice A64 n64 c64, .slice (some ⟨ga, 0, none⟩) n cr]) (fun wv HC => ?_) (fun wv HC hD => ?_) ?_
              · go_simp <;> rfl
              · have ha : VlsSlot (Mut M KL) xvs (.slice A64 n64 c64) wv := deps_at hD 6 rfl (by kernel_rfl) rfl rfl
                exact prSlot_of HXO.out.id HXO.out.vs HVS.out.2 ha ⟨_, n, cr, rfl, HVS.out.1.symm, hcr.1, hcr.2, (HRX.out _ HC).2⟩
              simp only [Act.put, zl]
              refine dw_new #[.int .i64 xid, .slice A64 n64 c64, .slice (some ⟨ga, 0, none⟩) n cr] 110 67 (PrsSlot (Mut M KL) [(xid, xvs, vs)]) (fun g => .slice (some ⟨g, 0, none⟩) 1 1) rfl rfl rfl rfl (fun wv => ?_) (fun wv HC _hrm hD hro => ?_) ?_
              · go_simp <;> rfl
              · have hrr := RM.alloc (Mut M KL) wv (.cells #[.int .i64 xid, .slice A64 n64 c64, .slice (some ⟨ga, 0, none⟩) n cr] 110)
                have h0 : PrSlot (Mut M KL) (xid, xvs, vs) (.agg #[.int .i64 xid, .slice A64 n64 c64, .slice (some ⟨ga, 0, none⟩) n cr]) wv := deps_at hD 8 rfl (by kernel_rfl) rfl rfl
                replace h0 := prSlot_mono _ _ _ hrr h0
                exact prsSlot_one (hro _ HC.mutLt) (fun i j k e1 => Value.agg.inj e1) h0
              rintro g67 wg HCg hsl
              simp only [Act.put, zl]
              clear hsl HCg
              refine rel_nil ?_
              rintro wx5 HX5
              rintro _hrm HGW
              have hb2 : PrsSlot (Mut M KL) [(xid, xvs, vs)] (.slice (some ⟨g67, 0, none⟩) 1 1) wx5 := (GW_on (d := 67) rfl).1 (HGW 9 _ rfl (by omega))
              clear HGW _hrm
              obtain ⟨Aq, nq, cq, pq, heq, -, -, hpm, hpok, hpr⟩ := hb2
              obtain ⟨rfl, rfl, rfl⟩ : some ⟨g67, 0, none⟩ = Aq ∧ 1 = nq ∧ 1 = cq := by injection heq with h1 h2 h3; exact ⟨h1, h2, h3⟩
              clear heq
              rw [HKL.out] at HX5 hpr
              have HPO := hid (prs_ok_app HPS.out hpok)
              have HPE := hid (show prCells ps ++ prCells pq = prCells (ps ++ pq) by simp [prCells])
              have KA := HX5.add (hpr.imp fun w h => (h.2 : PrVals pq w))
              have k5 := hid ((hpr.imp fun w h => h.1).now)
              clear HX5 hpr hpm hpok HF HRX KN
              have FA := KA.facts
              simp only [factsL, cellsF, Nat.reduceAdd, zf, zl] at FA
              go_wp2_with (at_builtin; go_must (refine wpList_appAllH KA 6 rfl Tryz.elPr k5.out rfl (.tmp 59) (.tmp 67) rfl rfl rfl (prCells_one pq) (by omega) (by omega) ?_); intro C' cap' w6 hc6 hm6 KB; rw [HPE.out] at KB; simp only [List.set_cons_zero, List.set_cons_succ] at KB; (have FB := KB.facts); simp only [factsL, cellsF, Nat.reduceAdd, zf, zl] at FB)
              have KD := KB.store 8 rfl 2 (.slice C' (un + 1) cap')
              have KE := (KD.swapRo 7 rfl (prVals_app (KD.ro 7 rfl) (KD.ro 0 rfl))).drop (List.Sublist.cons _ (List.Sublist.cons _ (List.Sublist.cons _ (List.Sublist.cons _ (List.Sublist.cons _ (List.Sublist.refl _))))))
              go_wp2_with fail
              go_roundw
              case rel => exact ⟨j + 1, dn, dc, un + 1, cap', D, C', dels, ps ++ pq, by omega, by first | rfl | go_num, by omega, by omega, HPO, KE⟩
              case measure => simp [intOf]; omega
          · skip
            have KN := KF8.nil 117 3
            have k5 := hid ((KF8.ro 3 rfl).now)
            go_wp2_with (at_builtin; go_must (refine wpList_appAllH KN 0 rfl Tryz.elVl k5.out rfl (.const (.slice none 0 0)) (.tmp 46) rfl rfl rfl (one_vls _) (by omega) (by omega) ?_); intro C9 cap9 w9 hc9 hm9 KB; (try simp only [Nat.zero_add] at hc9 ⊢); simp only [Nat.zero_add, List.nil_append, List.set_cons_zero, List.set_cons_succ] at KB; (have FB := KB.facts); simp only [factsL, cellsF, Nat.reduceAdd, zf, zl] at FB)
            have KV := KB.drop (List.Sublist.cons_cons _ (List.sublist_cons_self _ _))
            obtain ⟨ga, rfl⟩ : ∃ ga, C9 = some ⟨ga, 0, none⟩ := by
              rcases own_addr (KV.get 0 rfl) with ⟨_, h, _⟩ | ⟨g, h, _⟩
              · omega
              · exact ⟨g, h⟩
            obtain ⟨vs, hvs⟩ : ∃ vs, vs = xvs := ⟨_, rfl⟩
            have HVS := hid (show vs.length = n ∧ ∀ v ∈ vs, v.ok by rw [hvs]; exact ⟨HXL.out, HXO.out.vs⟩)
            replace KV := Hold.renVl hvs KV
            clear hvs KB FB KN KF8 FF8 k5
            obtain ⟨cr, rfl⟩ : ∃ cr, cr = cap9 := ⟨_, rfl⟩
            have hcr := And.intro hc9 hm9
            have FV := KV.facts
            simp only [factsL, cellsF, Nat.reduceAdd, zf, zl] at FV
            go_wp2_with fail
            refine (bool_any T 12 _ (KV.tp_ 13 rfl) (by omega) (by omega)).mono ?_
            rintro e wb ⟨bb, rfl, tb, gb⟩
            have KP := Hold.callT KV 13 rfl gb tb
            clear KV gb tb
            have FP := KP.facts
            simp only [factsL, cellsF, Nat.reduceAdd, zf, zl] at FP
            cases bb
            · skip
              have KC := KP
              clear KP
              have KS := KC.sealRow 0 rfl
              simp only [List.set_cons_zero] at KS
              obtain ⟨KL, hKL, KN⟩ := KS.name
              have HF : Hid (∀ wv, Hold M (some T) w wv KL → (wv.cell? ⟨g5, 0, none⟩ = some (.slice none 0 0) ∧ wv.cell? ⟨g5, 1, none⟩ = some (.slice D dn dc) ∧ wv.cell? ⟨g5, 2, none⟩ = some (.slice U un uc) ∧ g5 < wv.heap.size) ∧ wv.cell? ⟨gr, 0, none⟩ = some (.int .i64 xid) ∧ wv.cell? ⟨gr, 1, none⟩ = some (.slice (some ⟨bx, ox, none⟩) n xc) ∧ gr < wv.heap.size) := hid fun wv HC => by
                rw [hKL] at HC
                have y1 := HC.blk_ 7 rfl
                have y2 := HC.cst_ 1 rfl
                exact ⟨⟨cell_of_row _ _ 0 _ _ _ y1, cell_of_row _ _ 1 _ _ _ y1, cell_of_row _ _ 2 _ _ _ y1, Blk.lt y1⟩, cell_of_row _ _ 0 _ _ _ y2, cell_of_row _ _ 1 _ _ _ y2, Blk.lt y2⟩
              have HRX : Hid (∀ wv, Hold M (some T) w wv KL → Ro wv (Mut M KL) (VlsIn (some ⟨bx, ox, none⟩) n xvs) ∧ Ro wv (Mut M KL) (VlsIn (some ⟨ga, 0, none⟩) n vs)) := hid fun wv HC => by
                rw [hKL] at HC ⊢
                exact ⟨HC.ro 3 rfl, HC.ro 0 rfl⟩
              have HKL := hid hKL
              clear hKL KS KC
              go_wp2_with fail
              refine wp_region_any (by kernel_rfl) ?_
              refine wpAny_hold 10 98 (KL) (spL [(64, VlsSlot (Mut M KL) xvs), (66, PrSlot (Mut M KL) (xid, xvs, vs)), (67, PrsSlot (Mut M KL) [(xid, xvs, vs)])]) (by kernel_rfl) (by kernel_rfl) (by kernel_rfl) rfl ?_ (KN.drew) ?_
              · exact stays_cons vlsSlot_mono (stays_cons prSlot_mono (stays_cons prsSlot_mono (stays_nil _)))
              simp only [zd, Act.put, List.getElem_toArray, List.getElem_cons_zero, List.getElem_cons_succ, zl]
              refine dw_val rfl rfl rfl ?_; apply Exists.intro; refine ⟨fun wv HC => ?_, ?_⟩
              ·  go_simp <;> rfl
              simp only [Act.put, zl]
              refine dw_val rfl rfl rfl ?_; apply Exists.intro; refine ⟨fun wv HC => ?_, ?_⟩
              · obtain ⟨⟨f0, f1, f2, f3⟩, f4, f5, f6⟩ := HF.out _ HC; go_simp <;> rfl
              simp only [Act.put, zl]
              refine dw_val rfl rfl rfl ?_; apply Exists.intro; refine ⟨fun wv HC => ?_, ?_⟩
              ·  go_simp <;> rfl
              simp only [Act.put, zl]
              refine dw_val rfl rfl rfl ?_; apply Exists.intro; refine ⟨fun wv HC => ?_, ?_⟩
              · obtain ⟨⟨f0, f1, f2, f3⟩, f4, f5, f6⟩ := HF.out _ HC; go_simp <;> rfl
              simp only [Act.put, zl]
              refine dw_val rfl rfl rfl ?_; apply Exists.intro; refine ⟨fun wv HC => ?_, ?_⟩
              ·  go_simp <;> rfl
              simp only [Act.put, zl]
              refine dw_val rfl rfl rfl ?_; apply Exists.intro; refine ⟨fun wv HC => ?_, ?_⟩
              · obtain ⟨⟨f0, f1, f2, f3⟩, f4, f5, f6⟩ := HF.out _ HC; go_simp <;> rfl
              simp only [Act.put, zl]
              refine dw_clone Tryz.elVl 64 (VlsSlot (Mut M KL) xvs) rfl rfl rfl rfl (.const (.slice none 0 0)) (.tmp 63) rfl rfl (A := some ⟨bx, ox, none⟩) (m := n) (c := xc) (ys := vlCells xvs) rfl (one_vls _) (by omega) (by omega) (fun wv HC hD => ((HRX.out _ HC).1).now) (fun C9 c9 wv HC q1 q2 hro => ⟨C9, n, c9, rfl, HXL.out.symm, q1, q2, hro⟩) ?_
              rintro u wx HCx ⟨A64, n64, c64, rfl, -, -, -, -⟩
              clear HCx
              simp only [Act.put, zl]
              refine dw_val rfl rfl rfl ?_; apply Exists.intro; refine ⟨fun wv HC => ?_, ?_⟩
              ·  go_simp <;> rfl
              simp only [Act.put, zl]
              refine dw_valC 66 (PrSlot (Mut M KL) (xid, xvs, vs)) rfl rfl rfl rfl (.agg #[.int .i64 xid, .slice A64 n64 c64, .slice (some ⟨ga, 0, none⟩) n cr]) (fun wv HC => ?_) (fun wv HC hD => ?_) ?_
              · go_simp <;> rfl
              · have ha : VlsSlot (Mut M KL) xvs (.slice A64 n64 c64) wv := deps_at hD 6 rfl (by kernel_rfl) rfl rfl
                exact prSlot_of HXO.out.id HXO.out.vs HVS.out.2 ha ⟨_, n, cr, rfl, HVS.out.1.symm, hcr.1, hcr.2, (HRX.out _ HC).2⟩
              simp only [Act.put, zl]
              refine dw_new #[.int .i64 xid, .slice A64 n64 c64, .slice (some ⟨ga, 0, none⟩) n cr] 110 67 (PrsSlot (Mut M KL) [(xid, xvs, vs)]) (fun g => .slice (some ⟨g, 0, none⟩) 1 1) rfl rfl rfl rfl (fun wv => ?_) (fun wv HC _hrm hD hro => ?_) ?_
              · go_simp <;> rfl
              · have hrr := RM.alloc (Mut M KL) wv (.cells #[.int .i64 xid, .slice A64 n64 c64, .slice (some ⟨ga, 0, none⟩) n cr] 110)
                have h0 : PrSlot (Mut M KL) (xid, xvs, vs) (.agg #[.int .i64 xid, .slice A64 n64 c64, .slice (some ⟨ga, 0, none⟩) n cr]) wv := deps_at hD 8 rfl (by kernel_rfl) rfl rfl
                replace h0 := prSlot_mono _ _ _ hrr h0
                exact prsSlot_one (hro _ HC.mutLt) (fun i j k e1 => Value.agg.inj e1) h0
              rintro g67 wg HCg hsl
              simp only [Act.put, zl]
              clear hsl HCg
              refine rel_nil ?_
              rintro wx5 HX5
              rintro _hrm HGW
              have hb2 : PrsSlot (Mut M KL) [(xid, xvs, vs)] (.slice (some ⟨g67, 0, none⟩) 1 1) wx5 := (GW_on (d := 67) rfl).1 (HGW 9 _ rfl (by omega))
              clear HGW _hrm
              obtain ⟨Aq, nq, cq, pq, heq, -, -, hpm, hpok, hpr⟩ := hb2
              obtain ⟨rfl, rfl, rfl⟩ : some ⟨g67, 0, none⟩ = Aq ∧ 1 = nq ∧ 1 = cq := by injection heq with h1 h2 h3; exact ⟨h1, h2, h3⟩
              clear heq
              rw [HKL.out] at HX5 hpr
              have HPO := hid (prs_ok_app HPS.out hpok)
              have HPE := hid (show prCells ps ++ prCells pq = prCells (ps ++ pq) by simp [prCells])
              have KA := HX5.add (hpr.imp fun w h => (h.2 : PrVals pq w))
              have k5 := hid ((hpr.imp fun w h => h.1).now)
              clear HX5 hpr hpm hpok HF HRX KN
              have FA := KA.facts
              simp only [factsL, cellsF, Nat.reduceAdd, zf, zl] at FA
              go_wp2_with (at_builtin; go_must (refine wpList_appAllH KA 6 rfl Tryz.elPr k5.out rfl (.tmp 59) (.tmp 67) rfl rfl rfl (prCells_one pq) (by omega) (by omega) ?_); intro C' cap' w6 hc6 hm6 KB; rw [HPE.out] at KB; simp only [List.set_cons_zero, List.set_cons_succ] at KB; (have FB := KB.facts); simp only [factsL, cellsF, Nat.reduceAdd, zf, zl] at FB)
              have KD := KB.store 8 rfl 2 (.slice C' (un + 1) cap')
              have KE := (KD.swapRo 7 rfl (prVals_app (KD.ro 7 rfl) (KD.ro 0 rfl))).drop (List.Sublist.cons _ (List.Sublist.cons _ (List.Sublist.cons _ (List.Sublist.cons _ (List.Sublist.cons _ (List.Sublist.refl _))))))
              go_wp2_with fail
              go_roundw
              case rel => exact ⟨j + 1, dn, dc, un + 1, cap', D, C', dels, ps ++ pq, by omega, by first | rfl | go_num, by omega, by omega, HPO, KE⟩
              case measure => simp [intOf]; omega
            · skip
              go_wp2_with fail
              refine (next_any T (n : Int) _ (KP.tp_ 13 rfl) (by omega) (by omega)).mono ?_
              rintro e wc ⟨q, rfl, q0, q1, tc, gc⟩
              obtain ⟨q, rfl⟩ := Int.eq_ofNat_of_zero_le q0
              have KQ := Hold.callT KP 13 rfl gc tc
              clear KP gc tc FP
              have FQ := KQ.facts
              simp only [factsL, cellsF, Nat.reduceAdd, zf, zl] at FQ
              go_wp2_with fail
              refine (value_any T _ (KQ.tp_ 13 rfl) (KQ.ro 10 rfl).now hT).mono ?_
              rintro e wd ⟨kv, iv, sv, rfl, hv, hsv, hiv, td, _, gd⟩
              have KR := Hold.callT KQ 13 rfl gd td
              clear KQ gd td FQ
              have HQL := hid (show q < vs.length by have := HVS.out.1; omega)
              obtain ⟨uq, huq⟩ : ∃ uq, vs[q]? = some uq := ⟨_, List.getElem?_eq_getElem HQL.out⟩
              obtain ⟨⟨z0, z1, z2⟩, ⟨z3, z4, z5⟩, z6⟩ := own_vl (KR.get 0 rfl) huq
              clear huq
              have KC := KR.putVl 0 rfl q HQL.out ⟨kv, iv, sv⟩
              simp only [List.set_cons_zero] at KC
              have HVS := hid (show (vs.set q ⟨kv, iv, sv⟩).length = n ∧ ∀ v ∈ vs.set q ⟨kv, iv, sv⟩, v.ok from ⟨by rw [List.length_set]; exact HVS.out.1, oks_set HVS.out.2 ⟨validB_k hv, hiv, by show sv.size ≤ maxLen; unfold maxLen; omega⟩⟩)
              clear hv KR
              generalize vs.set q ⟨kv, iv, sv⟩ = vs at HVS KC
              have FC := KC.facts
              simp only [factsL, cellsF, Nat.reduceAdd, zf, zl] at FC
              have KS := KC.sealRow 0 rfl
              simp only [List.set_cons_zero] at KS
              obtain ⟨KL, hKL, KN⟩ := KS.name
              have HF : Hid (∀ wv, Hold M (some T) w wv KL → (wv.cell? ⟨g5, 0, none⟩ = some (.slice none 0 0) ∧ wv.cell? ⟨g5, 1, none⟩ = some (.slice D dn dc) ∧ wv.cell? ⟨g5, 2, none⟩ = some (.slice U un uc) ∧ g5 < wv.heap.size) ∧ wv.cell? ⟨gr, 0, none⟩ = some (.int .i64 xid) ∧ wv.cell? ⟨gr, 1, none⟩ = some (.slice (some ⟨bx, ox, none⟩) n xc) ∧ gr < wv.heap.size) := hid fun wv HC => by
                rw [hKL] at HC
                have y1 := HC.blk_ 7 rfl
                have y2 := HC.cst_ 1 rfl
                exact ⟨⟨cell_of_row _ _ 0 _ _ _ y1, cell_of_row _ _ 1 _ _ _ y1, cell_of_row _ _ 2 _ _ _ y1, Blk.lt y1⟩, cell_of_row _ _ 0 _ _ _ y2, cell_of_row _ _ 1 _ _ _ y2, Blk.lt y2⟩
              have HRX : Hid (∀ wv, Hold M (some T) w wv KL → Ro wv (Mut M KL) (VlsIn (some ⟨bx, ox, none⟩) n xvs) ∧ Ro wv (Mut M KL) (VlsIn (some ⟨ga, 0, none⟩) n vs)) := hid fun wv HC => by
                rw [hKL] at HC ⊢
                exact ⟨HC.ro 3 rfl, HC.ro 0 rfl⟩
              have HKL := hid hKL
              clear hKL KS KC
              go_wp2_with fail
              refine wp_region_any (by kernel_rfl) ?_
              refine wpAny_hold 10 98 (KL) (spL [(64, VlsSlot (Mut M KL) xvs), (66, PrSlot (Mut M KL) (xid, xvs, vs)), (67, PrsSlot (Mut M KL) [(xid, xvs, vs)])]) (by kernel_rfl) (by kernel_rfl) (by kernel_rfl) rfl ?_ (KN.drew) ?_
              · exact stays_cons vlsSlot_mono (stays_cons prSlot_mono (stays_cons prsSlot_mono (stays_nil _)))
              simp only [zd, Act.put, List.getElem_toArray, List.getElem_cons_zero, List.getElem_cons_succ, zl]
              refine dw_val rfl rfl rfl ?_; apply Exists.intro; refine ⟨fun wv HC => ?_, ?_⟩
              ·  go_simp <;> rfl
              simp only [Act.put, zl]
              refine dw_val rfl rfl rfl ?_; apply Exists.intro; refine ⟨fun wv HC => ?_, ?_⟩
              · obtain ⟨⟨f0, f1, f2, f3⟩, f4, f5, f6⟩ := HF.out _ HC; go_simp <;> rfl
              simp only [Act.put, zl]
              refine dw_val rfl rfl rfl ?_; apply Exists.intro; refine ⟨fun wv HC => ?_, ?_⟩
              ·  go_simp <;> rfl
              simp only [Act.put, zl]
              refine dw_val rfl rfl rfl ?_; apply Exists.intro; refine ⟨fun wv HC => ?_, ?_⟩
              · obtain ⟨⟨f0, f1, f2, f3⟩, f4, f5, f6⟩ := HF.out _ HC; go_simp <;> rfl
              simp only [Act.put, zl]
              refine dw_val rfl rfl rfl ?_; apply Exists.intro; refine ⟨fun wv HC => ?_, ?_⟩
              ·  go_simp <;> rfl
              simp only [Act.put, zl]
              refine dw_val rfl rfl rfl ?_; apply Exists.intro; refine ⟨fun wv HC => ?_, ?_⟩
              · obtain ⟨⟨f0, f1, f2, f3⟩, f4, f5, f6⟩ := HF.out _ HC; go_simp <;> rfl
              simp only [Act.put, zl]
              refine dw_clone Tryz.elVl 64 (VlsSlot (Mut M KL) xvs) rfl rfl rfl rfl (.const (.slice none 0 0)) (.tmp 63) rfl rfl (A := some ⟨bx, ox, none⟩) (m := n) (c := xc) (ys := vlCells xvs) rfl (one_vls _) (by omega) (by omega) (fun wv HC hD => ((HRX.out _ HC).1).now) (fun C9 c9 wv HC q1 q2 hro => ⟨C9, n, c9, rfl, HXL.out.symm, q1, q2, hro⟩) ?_
              rintro u wx HCx ⟨A64, n64, c64, rfl, -, -, -, -⟩
              clear HCx
              simp only [Act.put, zl]
              refine dw_val rfl rfl rfl ?_; apply Exists.intro; refine ⟨fun wv HC => ?_, ?_⟩
              ·  go_simp <;> rfl
              simp only [Act.put, zl]
              refine dw_valC 66 (PrSlot (Mut M KL) (xid, xvs, vs)) rfl rfl rfl rfl (.agg #[.int .i64 xid, .slice A64 n64 c64, .slice (some ⟨ga, 0, none⟩) n cr]) (fun wv HC => ?_) (fun wv HC hD => ?_) ?_
              · go_simp <;> rfl
              · have ha : VlsSlot (Mut M KL) xvs (.slice A64 n64 c64) wv := deps_at hD 6 rfl (by kernel_rfl) rfl rfl
                exact prSlot_of HXO.out.id HXO.out.vs HVS.out.2 ha ⟨_, n, cr, rfl, HVS.out.1.symm, hcr.1, hcr.2, (HRX.out _ HC).2⟩
              simp only [Act.put, zl]
              refine dw_new #[.int .i64 xid, .slice A64 n64 c64, .slice (some ⟨ga, 0, none⟩) n cr] 110 67 (PrsSlot (Mut M KL) [(xid, xvs, vs)]) (fun g => .slice (some ⟨g, 0, none⟩) 1 1) rfl rfl rfl rfl (fun wv => ?_) (fun wv HC _hrm hD hro => ?_) ?_
              · go_simp <;> rfl
              · have hrr := RM.alloc (Mut M KL) wv (.cells #[.int .i64 xid, .slice A64 n64 c64, .slice (some ⟨ga, 0, none⟩) n cr] 110)
                have h0 : PrSlot (Mut M KL) (xid, xvs, vs) (.agg #[.int .i64 xid, .slice A64 n64 c64, .slice (some ⟨ga, 0, none⟩) n cr]) wv := deps_at hD 8 rfl (by kernel_rfl) rfl rfl
                replace h0 := prSlot_mono _ _ _ hrr h0
                exact prsSlot_one (hro _ HC.mutLt) (fun i j k e1 => Value.agg.inj e1) h0
              rintro g67 wg HCg hsl
              simp only [Act.put, zl]
              clear hsl HCg
              refine rel_nil ?_
              rintro wx5 HX5
              rintro _hrm HGW
              have hb2 : PrsSlot (Mut M KL) [(xid, xvs, vs)] (.slice (some ⟨g67, 0, none⟩) 1 1) wx5 := (GW_on (d := 67) rfl).1 (HGW 9 _ rfl (by omega))
              clear HGW _hrm
              obtain ⟨Aq, nq, cq, pq, heq, -, -, hpm, hpok, hpr⟩ := hb2
              obtain ⟨rfl, rfl, rfl⟩ : some ⟨g67, 0, none⟩ = Aq ∧ 1 = nq ∧ 1 = cq := by injection heq with h1 h2 h3; exact ⟨h1, h2, h3⟩
              clear heq
              rw [HKL.out] at HX5 hpr
              have HPO := hid (prs_ok_app HPS.out hpok)
              have HPE := hid (show prCells ps ++ prCells pq = prCells (ps ++ pq) by simp [prCells])
              have KA := HX5.add (hpr.imp fun w h => (h.2 : PrVals pq w))
              have k5 := hid ((hpr.imp fun w h => h.1).now)
              clear HX5 hpr hpm hpok HF HRX KN
              have FA := KA.facts
              simp only [factsL, cellsF, Nat.reduceAdd, zf, zl] at FA
              go_wp2_with (at_builtin; go_must (refine wpList_appAllH KA 6 rfl Tryz.elPr k5.out rfl (.tmp 59) (.tmp 67) rfl rfl rfl (prCells_one pq) (by omega) (by omega) ?_); intro C' cap' w6 hc6 hm6 KB; rw [HPE.out] at KB; simp only [List.set_cons_zero, List.set_cons_succ] at KB; (have FB := KB.facts); simp only [factsL, cellsF, Nat.reduceAdd, zf, zl] at FB)
              have KD := KB.store 8 rfl 2 (.slice C' (un + 1) cap')
              have KE := (KD.swapRo 7 rfl (prVals_app (KD.ro 7 rfl) (KD.ro 0 rfl))).drop (List.Sublist.cons _ (List.Sublist.cons _ (List.Sublist.cons _ (List.Sublist.cons _ (List.Sublist.cons _ (List.Sublist.refl _))))))
              go_wp2_with fail
              go_roundw
              case rel => exact ⟨j + 1, dn, dc, un + 1, cap', D, C', dels, ps ++ pq, by omega, by first | rfl | go_num, by omega, by omega, HPO, KE⟩
              case measure => simp [intOf]; omega
        · skip
          obtain ⟨uq, huq⟩ : ∃ uq, vs[0]? = some uq := ⟨_, List.getElem?_eq_getElem (by have := HVS.out.1; omega)⟩
          obtain ⟨⟨y0, y1, y2⟩, ⟨y3, y4, y5⟩, y6⟩ := own_vl (K4.get 0 rfl) huq
          have ⟨x0, x1, x2, x3⟩ := (K4.ro 2 rfl).now
          clear huq
          have KE8 := K4.putVl 0 rfl 0 (by have := HVS.out.1; omega) v0
          simp only [Nat.zero_mul, Nat.zero_add, List.set_cons_zero] at KE8 y0 y1 y2 y3 y4 y5
          have HVS := hid (show (vs.set 0 v0).length = n ∧ ∀ v ∈ vs.set 0 v0, v.ok from ⟨by rw [List.length_set]; exact HVS.out.1, oks_set HVS.out.2 HV0.out⟩)
          generalize vs.set 0 v0 = vs at HVS KE8
          clear K4
          have FE8 := KE8.facts
          simp only [factsL, cellsF, Nat.reduceAdd, zf, zl] at FE8
          go_wp2_with fail
          refine (bool_any T 8 _ (KE8.tp_ 13 rfl) (by omega) (by omega)).mono ?_
          rintro e wb ⟨bb, rfl, tb, gb⟩
          have KF8 := Hold.callT KE8 13 rfl gb tb
          clear KE8 gb tb
          have FF8 := KF8.facts
          simp only [factsL, cellsF, Nat.reduceAdd, zf, zl] at FF8
          cases bb
          · skip
            have KV := KF8
            clear KF8
            go_wp2_with fail
            refine (bool_any T 12 _ (KV.tp_ 13 rfl) (by omega) (by omega)).mono ?_
            rintro e wb ⟨bb, rfl, tb, gb⟩
            have KP := Hold.callT KV 13 rfl gb tb
            clear KV gb tb
            have FP := KP.facts
            simp only [factsL, cellsF, Nat.reduceAdd, zf, zl] at FP
            cases bb
            · skip
              have KC := KP
              clear KP
              have KS := KC.sealRow 0 rfl
              simp only [List.set_cons_zero] at KS
              obtain ⟨KL, hKL, KN⟩ := KS.name
              have HF : Hid (∀ wv, Hold M (some T) w wv KL → (wv.cell? ⟨g5, 0, none⟩ = some (.slice none 0 0) ∧ wv.cell? ⟨g5, 1, none⟩ = some (.slice D dn dc) ∧ wv.cell? ⟨g5, 2, none⟩ = some (.slice U un uc) ∧ g5 < wv.heap.size) ∧ wv.cell? ⟨gr, 0, none⟩ = some (.int .i64 xid) ∧ wv.cell? ⟨gr, 1, none⟩ = some (.slice (some ⟨bx, ox, none⟩) n xc) ∧ gr < wv.heap.size) := hid fun wv HC => by
                rw [hKL] at HC
                have y1 := HC.blk_ 7 rfl
                have y2 := HC.cst_ 1 rfl
                exact ⟨⟨cell_of_row _ _ 0 _ _ _ y1, cell_of_row _ _ 1 _ _ _ y1, cell_of_row _ _ 2 _ _ _ y1, Blk.lt y1⟩, cell_of_row _ _ 0 _ _ _ y2, cell_of_row _ _ 1 _ _ _ y2, Blk.lt y2⟩
              have HRX : Hid (∀ wv, Hold M (some T) w wv KL → Ro wv (Mut M KL) (VlsIn (some ⟨bx, ox, none⟩) n xvs) ∧ Ro wv (Mut M KL) (VlsIn (some ⟨ga, 0, none⟩) n vs)) := hid fun wv HC => by
                rw [hKL] at HC ⊢
                exact ⟨HC.ro 3 rfl, HC.ro 0 rfl⟩
              have HKL := hid hKL
              clear hKL KS KC
              go_wp2_with fail
              refine wp_region_any (by kernel_rfl) ?_
              refine wpAny_hold 10 98 (KL) (spL [(64, VlsSlot (Mut M KL) xvs), (66, PrSlot (Mut M KL) (xid, xvs, vs)), (67, PrsSlot (Mut M KL) [(xid, xvs, vs)])]) (by kernel_rfl) (by kernel_rfl) (by kernel_rfl) rfl ?_ (KN.drew) ?_
              · exact stays_cons vlsSlot_mono (stays_cons prSlot_mono (stays_cons prsSlot_mono (stays_nil _)))
              simp only [zd, Act.put, List.getElem_toArray, List.getElem_cons_zero, List.getElem_cons_succ, zl]
              refine dw_val rfl rfl rfl ?_; apply Exists.intro; refine ⟨fun wv HC => ?_, ?_⟩
              ·  go_simp <;> rfl
              simp only [Act.put, zl]
              refine dw_val rfl rfl rfl ?_; apply Exists.intro; refine ⟨fun wv HC => ?_, ?_⟩
              · obtain ⟨⟨f0, f1, f2, f3⟩, f4, f5, f6⟩ := HF.out _ HC; go_simp <;> rfl
              simp only [Act.put, zl]
              refine dw_val rfl rfl rfl ?_; apply Exists.intro; refine ⟨fun wv HC => ?_, ?_⟩
              ·  go_simp <;> rfl
              simp only [Act.put, zl]
              refine dw_val rfl rfl rfl ?_; apply Exists.intro; refine ⟨fun wv HC => ?_, ?_⟩
              · obtain ⟨⟨f0, f1, f2, f3⟩, f4, f5, f6⟩ := HF.out _ HC; go_simp <;> rfl
              simp only [Act.put, zl]
              refine dw_val rfl rfl rfl ?_; apply Exists.intro; refine ⟨fun wv HC => ?_, ?_⟩
              ·  go_simp <;> rfl
              simp only [Act.put, zl]
              refine dw_val rfl rfl rfl ?_; apply Exists.intro; refine ⟨fun wv HC => ?_, ?_⟩
              · obtain ⟨⟨f0, f1, f2, f3⟩, f4, f5, f6⟩ := HF.out _ HC; go_simp <;> rfl
              simp only [Act.put, zl]
              refine dw_clone Tryz.elVl 64 (VlsSlot (Mut M KL) xvs) rfl rfl rfl rfl (.const (.slice none 0 0)) (.tmp 63) rfl rfl (A := some ⟨bx, ox, none⟩) (m := n) (c := xc) (ys := vlCells xvs) rfl (one_vls _) (by omega) (by omega) (fun wv HC hD => ((HRX.out _ HC).1).now) (fun C9 c9 wv HC q1 q2 hro => ⟨C9, n, c9, rfl, HXL.out.symm, q1, q2, hro⟩) ?_
              rintro u wx HCx ⟨A64, n64, c64, rfl, -, -, -, -⟩
              clear HCx
              simp only [Act.put, zl]
              refine dw_val rfl rfl rfl ?_; apply Exists.intro; refine ⟨fun wv HC => ?_, ?_⟩
              ·  go_simp <;> rfl
              simp only [Act.put, zl]
              refine dw_valC 66 (PrSlot (Mut M KL) (xid, xvs, vs)) rfl rfl rfl rfl (.agg #[.int .i64 xid, .slice A64 n64 c64, .slice (some ⟨ga, 0, none⟩) n cr]) (fun wv HC => ?_) (fun wv HC hD => ?_) ?_
              · go_simp <;> rfl
              · have ha : VlsSlot (Mut M KL) xvs (.slice A64 n64 c64) wv := deps_at hD 6 rfl (by kernel_rfl) rfl rfl
                exact prSlot_of HXO.out.id HXO.out.vs HVS.out.2 ha ⟨_, n, cr, rfl, HVS.out.1.symm, hcr.1, hcr.2, (HRX.out _ HC).2⟩
              simp only [Act.put, zl]
              refine dw_new #[.int .i64 xid, .slice A64 n64 c64, .slice (some ⟨ga, 0, none⟩) n cr] 110 67 (PrsSlot (Mut M KL) [(xid, xvs, vs)]) (fun g => .slice (some ⟨g, 0, none⟩) 1 1) rfl rfl rfl rfl (fun wv => ?_) (fun wv HC _hrm hD hro => ?_) ?_
              · go_simp <;> rfl
              · have hrr := RM.alloc (Mut M KL) wv (.cells #[.int .i64 xid, .slice A64 n64 c64, .slice (some ⟨ga, 0, none⟩) n cr] 110)
                have h0 : PrSlot (Mut M KL) (xid, xvs, vs) (.agg #[.int .i64 xid, .slice A64 n64 c64, .slice (some ⟨ga, 0, none⟩) n cr]) wv := deps_at hD 8 rfl (by kernel_rfl) rfl rfl
                replace h0 := prSlot_mono _ _ _ hrr h0
                exact prsSlot_one (hro _ HC.mutLt) (fun i j k e1 => Value.agg.inj e1) h0
              rintro g67 wg HCg hsl
              simp only [Act.put, zl]
              clear hsl HCg
              refine rel_nil ?_
              rintro wx5 HX5
              rintro _hrm HGW
              have hb2 : PrsSlot (Mut M KL) [(xid, xvs, vs)] (.slice (some ⟨g67, 0, none⟩) 1 1) wx5 := (GW_on (d := 67) rfl).1 (HGW 9 _ rfl (by omega))
              clear HGW _hrm
              obtain ⟨Aq, nq, cq, pq, heq, -, -, hpm, hpok, hpr⟩ := hb2
              obtain ⟨rfl, rfl, rfl⟩ : some ⟨g67, 0, none⟩ = Aq ∧ 1 = nq ∧ 1 = cq := by injection heq with h1 h2 h3; exact ⟨h1, h2, h3⟩
              clear heq
              rw [HKL.out] at HX5 hpr
              have HPO := hid (prs_ok_app HPS.out hpok)
              have HPE := hid (show prCells ps ++ prCells pq = prCells (ps ++ pq) by simp [prCells])
              have KA := HX5.add (hpr.imp fun w h => (h.2 : PrVals pq w))
              have k5 := hid ((hpr.imp fun w h => h.1).now)
              clear HX5 hpr hpm hpok HF HRX KN
              have FA := KA.facts
              simp only [factsL, cellsF, Nat.reduceAdd, zf, zl] at FA
              go_wp2_with (at_builtin; go_must (refine wpList_appAllH KA 6 rfl Tryz.elPr k5.out rfl (.tmp 59) (.tmp 67) rfl rfl rfl (prCells_one pq) (by omega) (by omega) ?_); intro C' cap' w6 hc6 hm6 KB; rw [HPE.out] at KB; simp only [List.set_cons_zero, List.set_cons_succ] at KB; (have FB := KB.facts); simp only [factsL, cellsF, Nat.reduceAdd, zf, zl] at FB)
              have KD := KB.store 8 rfl 2 (.slice C' (un + 1) cap')
              have KE := (KD.swapRo 7 rfl (prVals_app (KD.ro 7 rfl) (KD.ro 0 rfl))).drop (List.Sublist.cons _ (List.Sublist.cons _ (List.Sublist.cons _ (List.Sublist.cons _ (List.Sublist.cons _ (List.Sublist.refl _))))))
              go_wp2_with fail
              go_roundw
              case rel => exact ⟨j + 1, dn, dc, un + 1, cap', D, C', dels, ps ++ pq, by omega, by first | rfl | go_num, by omega, by omega, HPO, KE⟩
              case measure => simp [intOf]; omega
            · skip
              go_wp2_with fail
              refine (next_any T (n : Int) _ (KP.tp_ 13 rfl) (by omega) (by omega)).mono ?_
              rintro e wc ⟨q, rfl, q0, q1, tc, gc⟩
              obtain ⟨q, rfl⟩ := Int.eq_ofNat_of_zero_le q0
              have KQ := Hold.callT KP 13 rfl gc tc
              clear KP gc tc FP
              have FQ := KQ.facts
              simp only [factsL, cellsF, Nat.reduceAdd, zf, zl] at FQ
              go_wp2_with fail
              refine (value_any T _ (KQ.tp_ 13 rfl) (KQ.ro 10 rfl).now hT).mono ?_
              rintro e wd ⟨kv, iv, sv, rfl, hv, hsv, hiv, td, _, gd⟩
              have KR := Hold.callT KQ 13 rfl gd td
              clear KQ gd td FQ
              have HQL := hid (show q < vs.length by have := HVS.out.1; omega)
              obtain ⟨uq, huq⟩ : ∃ uq, vs[q]? = some uq := ⟨_, List.getElem?_eq_getElem HQL.out⟩
              obtain ⟨⟨z0, z1, z2⟩, ⟨z3, z4, z5⟩, z6⟩ := own_vl (KR.get 0 rfl) huq
              clear huq
              have KC := KR.putVl 0 rfl q HQL.out ⟨kv, iv, sv⟩
              simp only [List.set_cons_zero] at KC
              have HVS := hid (show (vs.set q ⟨kv, iv, sv⟩).length = n ∧ ∀ v ∈ vs.set q ⟨kv, iv, sv⟩, v.ok from ⟨by rw [List.length_set]; exact HVS.out.1, oks_set HVS.out.2 ⟨validB_k hv, hiv, by show sv.size ≤ maxLen; unfold maxLen; omega⟩⟩)
              clear hv KR
              generalize vs.set q ⟨kv, iv, sv⟩ = vs at HVS KC
              have FC := KC.facts
              simp only [factsL, cellsF, Nat.reduceAdd, zf, zl] at FC
              have KS := KC.sealRow 0 rfl
              simp only [List.set_cons_zero] at KS
              obtain ⟨KL, hKL, KN⟩ := KS.name
              have HF : Hid (∀ wv, Hold M (some T) w wv KL → (wv.cell? ⟨g5, 0, none⟩ = some (.slice none 0 0) ∧ wv.cell? ⟨g5, 1, none⟩ = some (.slice D dn dc) ∧ wv.cell? ⟨g5, 2, none⟩ = some (.slice U un uc) ∧ g5 < wv.heap.size) ∧ wv.cell? ⟨gr, 0, none⟩ = some (.int .i64 xid) ∧ wv.cell? ⟨gr, 1, none⟩ = some (.slice (some ⟨bx, ox, none⟩) n xc) ∧ gr < wv.heap.size) := hid fun wv HC => by
                rw [hKL] at HC
                have y1 := HC.blk_ 7 rfl
                have y2 := HC.cst_ 1 rfl
                exact ⟨⟨cell_of_row _ _ 0 _ _ _ y1, cell_of_row _ _ 1 _ _ _ y1, cell_of_row _ _ 2 _ _ _ y1, Blk.lt y1⟩, cell_of_row _ _ 0 _ _ _ y2, cell_of_row _ _ 1 _ _ _ y2, Blk.lt y2⟩
              have HRX : Hid (∀ wv, Hold M (some T) w wv KL → Ro wv (Mut M KL) (VlsIn (some ⟨bx, ox, none⟩) n xvs) ∧ Ro wv (Mut M KL) (VlsIn (some ⟨ga, 0, none⟩) n vs)) := hid fun wv HC => by
                rw [hKL] at HC ⊢
                exact ⟨HC.ro 3 rfl, HC.ro 0 rfl⟩
              have HKL := hid hKL
              clear hKL KS KC
              go_wp2_with fail
              refine wp_region_any (by kernel_rfl) ?_
              refine wpAny_hold 10 98 (KL) (spL [(64, VlsSlot (Mut M KL) xvs), (66, PrSlot (Mut M KL) (xid, xvs, vs)), (67, PrsSlot (Mut M KL) [(xid, xvs, vs)])]) (by kernel_rfl) (by kernel_rfl) (by kernel_rfl) rfl ?_ (KN.drew) ?_
              · exact stays_cons vlsSlot_mono (stays_cons prSlot_mono (stays_cons prsSlot_mono (stays_nil _)))
              simp only [zd, Act.put, List.getElem_toArray, List.getElem_cons_zero, List.getElem_cons_succ, zl]
              refine dw_val rfl rfl rfl ?_; apply Exists.intro; refine ⟨fun wv HC => ?_, ?_⟩
              ·  go_simp <;> rfl
              simp only [Act.put, zl]
              refine dw_val rfl rfl rfl ?_; apply Exists.intro; refine ⟨fun wv HC => ?_, ?_⟩
              · obtain ⟨⟨f0, f1, f2, f3⟩, f4, f5, f6⟩ := HF.out _ HC; go_simp <;> rfl
              simp only [Act.put, zl]
              refine dw_val rfl rfl rfl ?_; apply Exists.intro; refine ⟨fun wv HC => ?_, ?_⟩
              ·  go_simp <;> rfl
              simp only [Act.put, zl]
              refine dw_val rfl rfl rfl ?_; apply Exists.intro; refine ⟨fun wv HC => ?_, ?_⟩
              · obtain ⟨⟨f0, f1, f2, f3⟩, f4, f5, f6⟩ := HF.out _ HC; go_simp <;> rfl
              simp only [Act.put, zl]
              refine dw_val rfl rfl rfl ?_; apply Exists.intro; refine ⟨fun wv HC => ?_, ?_⟩
              ·  go_simp <;> rfl
              simp only [Act.put, zl]
              refine dw_val rfl rfl rfl ?_; apply Exists.intro; refine ⟨fun wv HC => ?_, ?_⟩
              · obtain ⟨⟨f0, f1, f2, f3⟩, f4, f5, f6⟩ := HF.out _ HC; go_simp <;> rfl
              simp only [Act.put, zl]
              refine dw_clone Tryz.elVl 64 (VlsSlot (Mut M KL) xvs) rfl rfl rfl rfl (.const (.slice none 0 0)) (.tmp 63) rfl rfl (A := some ⟨bx, ox, none⟩) (m := n) (c := xc) (ys := vlCells xvs) rfl (one_vls _) (by omega) (by omega) (fun wv HC hD => ((HRX.out _ HC).1).now) (fun C9 c9 wv HC q1 q2 hro => ⟨C9, n, c9, rfl, HXL.out.symm, q1, q2, hro⟩) ?_
              rintro u wx HCx ⟨A64, n64, c64, rfl, -, -, -, -⟩
              clear HCx
              simp only [Act.put, zl]
              refine dw_val rfl rfl rfl ?_; apply Exists.intro; refine ⟨fun wv HC => ?_, ?_⟩
              ·  go_simp <;> rfl
              simp only [Act.put, zl]
              refine dw_valC 66 (PrSlot (Mut M KL) (xid, xvs, vs)) rfl rfl rfl rfl (.agg #[.int .i64 xid, .slice A64 n64 c64, .slice (some ⟨ga, 0, none⟩) n cr]) (fun wv HC => ?_) (fun wv HC hD => ?_) ?_
              · go_simp <;> rfl
              · have ha : VlsSlot (Mut M KL) xvs (.slice A64 n64 c64) wv := deps_at hD 6 rfl (by kernel_rfl) rfl rfl
                exact prSlot_of HXO.out.id HXO.out.vs HVS.out.2 ha ⟨_, n, cr, rfl, HVS.out.1.symm, hcr.1, hcr.2, (HRX.out _ HC).2⟩
              simp only [Act.put, zl]
              refine dw_new #[.int .i64 xid, .slice A64 n64 c64, .slice (some ⟨ga, 0, none⟩) n cr] 110 67 (PrsSlot (Mut M KL) [(xid, xvs, vs)]) (fun g => .slice (some ⟨g, 0, none⟩) 1 1) rfl rfl rfl rfl (fun wv => ?_) (fun wv HC _hrm hD hro => ?_) ?_
              · go_simp <;> rfl
              · have hrr := RM.alloc (Mut M KL) wv (.cells #[.int .i64 xid, .slice A64 n64 c64, .slice (some ⟨ga, 0, none⟩) n cr] 110)
                have h0 : PrSlot (Mut M KL) (xid, xvs, vs) (.agg #[.int .i64 xid, .slice A64 n64 c64, .slice (some ⟨ga, 0, none⟩) n cr]) wv := deps_at hD 8 rfl (by kernel_rfl) rfl rfl
                replace h0 := prSlot_mono _ _ _ hrr h0
                exact prsSlot_one (hro _ HC.mutLt) (fun i j k e1 => Value.agg.inj e1) h0
              rintro g67 wg HCg hsl
              simp only [Act.put, zl]
              clear hsl HCg
              refine rel_nil ?_
              rintro wx5 HX5
              rintro _hrm HGW
              have hb2 : PrsSlot (Mut M KL) [(xid, xvs, vs)] (.slice (some ⟨g67, 0, none⟩) 1 1) wx5 := (GW_on (d := 67) rfl).1 (HGW 9 _ rfl (by omega))
              clear HGW _hrm
              obtain ⟨Aq, nq, cq, pq, heq, -, -, hpm, hpok, hpr⟩ := hb2
              obtain ⟨rfl, rfl, rfl⟩ : some ⟨g67, 0, none⟩ = Aq ∧ 1 = nq ∧ 1 = cq := by injection heq with h1 h2 h3; exact ⟨h1, h2, h3⟩
              clear heq
              rw [HKL.out] at HX5 hpr
              have HPO := hid (prs_ok_app HPS.out hpok)
              have HPE := hid (show prCells ps ++ prCells pq = prCells (ps ++ pq) by simp [prCells])
              have KA := HX5.add (hpr.imp fun w h => (h.2 : PrVals pq w))
              have k5 := hid ((hpr.imp fun w h => h.1).now)
              clear HX5 hpr hpm hpok HF HRX KN
              have FA := KA.facts
              simp only [factsL, cellsF, Nat.reduceAdd, zf, zl] at FA
              go_wp2_with (at_builtin; go_must (refine wpList_appAllH KA 6 rfl Tryz.elPr k5.out rfl (.tmp 59) (.tmp 67) rfl rfl rfl (prCells_one pq) (by omega) (by omega) ?_); intro C' cap' w6 hc6 hm6 KB; rw [HPE.out] at KB; simp only [List.set_cons_zero, List.set_cons_succ] at KB; (have FB := KB.facts); simp only [factsL, cellsF, Nat.reduceAdd, zf, zl] at FB)
              have KD := KB.store 8 rfl 2 (.slice C' (un + 1) cap')
              have KE := (KD.swapRo 7 rfl (prVals_app (KD.ro 7 rfl) (KD.ro 0 rfl))).drop (List.Sublist.cons _ (List.Sublist.cons _ (List.Sublist.cons _ (List.Sublist.cons _ (List.Sublist.cons _ (List.Sublist.refl _))))))
              go_wp2_with fail
              go_roundw
              case rel => exact ⟨j + 1, dn, dc, un + 1, cap', D, C', dels, ps ++ pq, by omega, by first | rfl | go_num, by omega, by omega, HPO, KE⟩
              case measure => simp [intOf]; omega
          · skip
            have KN := KF8.nil 117 3
            have k5 := hid ((KF8.ro 3 rfl).now)
            go_wp2_with (at_builtin; go_must (refine wpList_appAllH KN 0 rfl Tryz.elVl k5.out rfl (.const (.slice none 0 0)) (.tmp 46) rfl rfl rfl (one_vls _) (by omega) (by omega) ?_); intro C9 cap9 w9 hc9 hm9 KB; (try simp only [Nat.zero_add] at hc9 ⊢); simp only [Nat.zero_add, List.nil_append, List.set_cons_zero, List.set_cons_succ] at KB; (have FB := KB.facts); simp only [factsL, cellsF, Nat.reduceAdd, zf, zl] at FB)
            have KV := KB.drop (List.Sublist.cons_cons _ (List.sublist_cons_self _ _))
            obtain ⟨ga, rfl⟩ : ∃ ga, C9 = some ⟨ga, 0, none⟩ := by
              rcases own_addr (KV.get 0 rfl) with ⟨_, h, _⟩ | ⟨g, h, _⟩
              · omega
              · exact ⟨g, h⟩
            obtain ⟨vs, hvs⟩ : ∃ vs, vs = xvs := ⟨_, rfl⟩
            have HVS := hid (show vs.length = n ∧ ∀ v ∈ vs, v.ok by rw [hvs]; exact ⟨HXL.out, HXO.out.vs⟩)
            replace KV := Hold.renVl hvs KV
            clear hvs KB FB KN KF8 FF8 k5
            obtain ⟨cr, rfl⟩ : ∃ cr, cr = cap9 := ⟨_, rfl⟩
            have hcr := And.intro hc9 hm9
            have FV := KV.facts
            simp only [factsL, cellsF, Nat.reduceAdd, zf, zl] at FV
            go_wp2_with fail
            refine (bool_any T 12 _ (KV.tp_ 13 rfl) (by omega) (by omega)).mono ?_
            rintro e wb ⟨bb, rfl, tb, gb⟩
            have KP := Hold.callT KV 13 rfl gb tb
            clear KV gb tb
            have FP := KP.facts
            simp only [factsL, cellsF, Nat.reduceAdd, zf, zl] at FP
            cases bb
            · skip
              have KC := KP
              clear KP
              have KS := KC.sealRow 0 rfl
              simp only [List.set_cons_zero] at KS
              obtain ⟨KL, hKL, KN⟩ := KS.name
              have HF : Hid (∀ wv, Hold M (some T) w wv KL → (wv.cell? ⟨g5, 0, none⟩ = some (.slice none 0 0) ∧ wv.cell? ⟨g5, 1, none⟩ = some (.slice D dn dc) ∧ wv.cell? ⟨g5, 2, none⟩ = some (.slice U un uc) ∧ g5 < wv.heap.size) ∧ wv.cell? ⟨gr, 0, none⟩ = some (.int .i64 xid) ∧ wv.cell? ⟨gr, 1, none⟩ = some (.slice (some ⟨bx, ox, none⟩) n xc) ∧ gr < wv.heap.size) := hid fun wv HC => by
                rw [hKL] at HC
                have y1 := HC.blk_ 7 rfl
                have y2 := HC.cst_ 1 rfl
                exact ⟨⟨cell_of_row _ _ 0 _ _ _ y1, cell_of_row _ _ 1 _ _ _ y1, cell_of_row _ _ 2 _ _ _ y1, Blk.lt y1⟩, cell_of_row _ _ 0 _ _ _ y2, cell_of_row _ _ 1 _ _ _ y2, Blk.lt y2⟩
              have HRX : Hid (∀ wv, Hold M (some T) w wv KL → Ro wv (Mut M KL) (VlsIn (some ⟨bx, ox, none⟩) n xvs) ∧ Ro wv (Mut M KL) (VlsIn (some ⟨ga, 0, none⟩) n vs)) := hid fun wv HC => by
                rw [hKL] at HC ⊢
                exact ⟨HC.ro 3 rfl, HC.ro 0 rfl⟩
              have HKL := hid hKL
              clear hKL KS KC
              go_wp2_with fail
              refine wp_region_any (by kernel_rfl) ?_
              refine wpAny_hold 10 98 (KL) (spL [(64, VlsSlot (Mut M KL) xvs), (66, PrSlot (Mut M KL) (xid, xvs, vs)), (67, PrsSlot (Mut M KL) [(xid, xvs, vs)])]) (by kernel_rfl) (by kernel_rfl) (by kernel_rfl) rfl ?_ (KN.drew) ?_
              · exact stays_cons vlsSlot_mono (stays_cons prSlot_mono (stays_cons prsSlot_mono (stays_nil _)))
              simp only [zd, Act.put, List.getElem_toArray, List.getElem_cons_zero, List.getElem_cons_succ, zl]
              refine dw_val rfl rfl rfl ?_; apply Exists.intro; refine ⟨fun wv HC => ?_, ?_⟩
              ·  go_simp <;> rfl
              simp only [Act.put, zl]
              refine dw_val rfl rfl rfl ?_; apply Exists.intro; refine ⟨fun wv HC => ?_, ?_⟩
              · obtain ⟨⟨f0, f1, f2, f3⟩, f4, f5, f6⟩ := HF.out _ HC; go_simp <;> rfl
              simp only [Act.put, zl]
              refine dw_val rfl rfl rfl ?_; apply Exists.intro; refine ⟨fun wv HC => ?_, ?_⟩
              ·  go_simp <;> rfl
              simp only [Act.put, zl]
              refine dw_val rfl rfl rfl ?_; apply Exists.intro; refine ⟨fun wv HC => ?_, ?_⟩
              · obtain ⟨⟨f0, f1, f2, f3⟩, f4, f5, f6⟩ := HF.out _ HC; go_simp <;> rfl
              simp only [Act.put, zl]
              refine dw_val rfl rfl rfl ?_; apply Exists.intro; refine ⟨fun wv HC => ?_, ?_⟩
              ·  go_simp <;> rfl
              simp only [Act.put, zl]
              refine dw_val rfl rfl rfl ?_; apply Exists.intro; refine ⟨fun wv HC => ?_, ?_⟩
              · obtain ⟨⟨f0, f1, f2, f3⟩, f4, f5, f6⟩ := HF.out _ HC; go_simp <;> rfl
              simp only [Act.put, zl]
              refine dw_clone Tryz.elVl 64 (VlsSlot (Mut M KL) xvs) rfl rfl rfl rfl (.const (.slice none 0 0)) (.tmp 63) rfl rfl (A := some ⟨bx, ox, none⟩) (m := n) (c := xc) (ys := vlCells xvs) rfl (one_vls _) (by omega) (by omega) (fun wv HC hD => ((HRX.out _ HC).1).now) (fun C9 c9 wv HC q1 q2 hro => ⟨C9, n, c9, rfl, HXL.out.symm, q1, q2, hro⟩) ?_
              rintro u wx HCx ⟨A64, n64, c64, rfl, -, -, -, -⟩
              clear HCx
              simp only [Act.put, zl]
              refine dw_val rfl rfl rfl ?_; apply Exists.intro; refine ⟨fun wv HC => ?_, ?_⟩
              ·  go_simp <;> rfl
              simp only [Act.put, zl]
              refine dw_valC 66 (PrSlot (Mut M KL) (xid, xvs, vs)) rfl rfl rfl rfl (.agg #[.int .i64 xid, .slice A64 n64 c64, .slice (some ⟨ga, 0, none⟩) n cr]) (fun wv HC => ?_) (fun wv HC hD => ?_) ?_
              · go_simp <;> rfl
              · have ha : VlsSlot (Mut M KL) xvs (.slice A64 n64 c64) wv := deps_at hD 6 rfl (by kernel_rfl) rfl rfl
                exact prSlot_of HXO.out.id HXO.out.vs HVS.out.2 ha ⟨_, n, cr, rfl, HVS.out.1.symm, hcr.1, hcr.2, (HRX.out _ HC).2⟩
              simp only [Act.put, zl]
              refine dw_new #[.int .i64 xid, .slice A64 n64 c64, .slice (some ⟨ga, 0, none⟩) n cr] 110 67 (PrsSlot (Mut M KL) [(xid, xvs, vs)]) (fun g => .slice (some ⟨g, 0, none⟩) 1 1) rfl rfl rfl rfl (fun wv => ?_) (fun wv HC _hrm hD hro => ?_) ?_
              · go_simp <;> rfl
              · have hrr := RM.alloc (Mut M KL) wv (.cells #[.int .i64 xid, .slice A64 n64 c64, .slice (some ⟨ga, 0, none⟩) n cr] 110)
                have h0 : PrSlot (Mut M KL) (xid, xvs, vs) (.agg #[.int .i64 xid, .slice A64 n64 c64, .slice (some ⟨ga, 0, none⟩) n cr]) wv := deps_at hD 8 rfl (by kernel_rfl) rfl rfl
                replace h0 := prSlot_mono _ _ _ hrr h0
                exact prsSlot_one (hro _ HC.mutLt) (fun i j k e1 => Value.agg.inj e1) h0
              rintro g67 wg HCg hsl
              simp only [Act.put, zl]
              clear hsl HCg
              refine rel_nil ?_
              rintro wx5 HX5
              rintro _hrm HGW
              have hb2 : PrsSlot (Mut M KL) [(xid, xvs, vs)] (.slice (some ⟨g67, 0, none⟩) 1 1) wx5 := (GW_on (d := 67) rfl).1 (HGW 9 _ rfl (by omega))
              clear HGW _hrm
              obtain ⟨Aq, nq, cq, pq, heq, -, -, hpm, hpok, hpr⟩ := hb2
              obtain ⟨rfl, rfl, rfl⟩ : some ⟨g67, 0, none⟩ = Aq ∧ 1 = nq ∧ 1 = cq := by injection heq with h1 h2 h3; exact ⟨h1, h2, h3⟩
              clear heq
              rw [HKL.out] at HX5 hpr
              have HPO := hid (prs_ok_app HPS.out hpok)
              have HPE := hid (show prCells ps ++ prCells pq = prCells (ps ++ pq) by simp [prCells])
              have KA := HX5.add (hpr.imp fun w h => (h.2 : PrVals pq w))
              have k5 := hid ((hpr.imp fun w h => h.1).now)
              clear HX5 hpr hpm hpok HF HRX KN
              have FA := KA.facts
              simp only [factsL, cellsF, Nat.reduceAdd, zf, zl] at FA
              go_wp2_with (at_builtin; go_must (refine wpList_appAllH KA 6 rfl Tryz.elPr k5.out rfl (.tmp 59) (.tmp 67) rfl rfl rfl (prCells_one pq) (by omega) (by omega) ?_); intro C' cap' w6 hc6 hm6 KB; rw [HPE.out] at KB; simp only [List.set_cons_zero, List.set_cons_succ] at KB; (have FB := KB.facts); simp only [factsL, cellsF, Nat.reduceAdd, zf, zl] at FB)
              have KD := KB.store 8 rfl 2 (.slice C' (un + 1) cap')
              have KE := (KD.swapRo 7 rfl (prVals_app (KD.ro 7 rfl) (KD.ro 0 rfl))).drop (List.Sublist.cons _ (List.Sublist.cons _ (List.Sublist.cons _ (List.Sublist.cons _ (List.Sublist.cons _ (List.Sublist.refl _))))))
              go_wp2_with fail
              go_roundw
              case rel => exact ⟨j + 1, dn, dc, un + 1, cap', D, C', dels, ps ++ pq, by omega, by first | rfl | go_num, by omega, by omega, HPO, KE⟩
              case measure => simp [intOf]; omega
            · skip
              go_wp2_with fail
              refine (next_any T (n : Int) _ (KP.tp_ 13 rfl) (by omega) (by omega)).mono ?_
              rintro e wc ⟨q, rfl, q0, q1, tc, gc⟩
              obtain ⟨q, rfl⟩ := Int.eq_ofNat_of_zero_le q0
              have KQ := Hold.callT KP 13 rfl gc tc
              clear KP gc tc FP
              have FQ := KQ.facts
              simp only [factsL, cellsF, Nat.reduceAdd, zf, zl] at FQ
              go_wp2_with fail
              refine (value_any T _ (KQ.tp_ 13 rfl) (KQ.ro 10 rfl).now hT).mono ?_
              rintro e wd ⟨kv, iv, sv, rfl, hv, hsv, hiv, td, _, gd⟩
              have KR := Hold.callT KQ 13 rfl gd td
              clear KQ gd td FQ
              have HQL := hid (show q < vs.length by have := HVS.out.1; omega)
              obtain ⟨uq, huq⟩ : ∃ uq, vs[q]? = some uq := ⟨_, List.getElem?_eq_getElem HQL.out⟩
              obtain ⟨⟨z0, z1, z2⟩, ⟨z3, z4, z5⟩, z6⟩ := own_vl (KR.get 0 rfl) huq
              clear huq
              have KC := KR.putVl 0 rfl q HQL.out ⟨kv, iv, sv⟩
              simp only [List.set_cons_zero] at KC
              have HVS := hid (show (vs.set q ⟨kv, iv, sv⟩).length = n ∧ ∀ v ∈ vs.set q ⟨kv, iv, sv⟩, v.ok from ⟨by rw [List.length_set]; exact HVS.out.1, oks_set HVS.out.2 ⟨validB_k hv, hiv, by show sv.size ≤ maxLen; unfold maxLen; omega⟩⟩)
              clear hv KR
              generalize vs.set q ⟨kv, iv, sv⟩ = vs at HVS KC
              have FC := KC.facts
              simp only [factsL, cellsF, Nat.reduceAdd, zf, zl] at FC
              have KS := KC.sealRow 0 rfl
              simp only [List.set_cons_zero] at KS
              obtain ⟨KL, hKL, KN⟩ := KS.name
              have HF : Hid (∀ wv, Hold M (some T) w wv KL → (wv.cell? ⟨g5, 0, none⟩ = some (.slice none 0 0) ∧ wv.cell? ⟨g5, 1, none⟩ = some (.slice D dn dc) ∧ wv.cell? ⟨g5, 2, none⟩ = some (.slice U un uc) ∧ g5 < wv.heap.size) ∧ wv.cell? ⟨gr, 0, none⟩ = some (.int .i64 xid) ∧ wv.cell? ⟨gr, 1, none⟩ = some (.slice (some ⟨bx, ox, none⟩) n xc) ∧ gr < wv.heap.size) := hid fun wv HC => by
                rw [hKL] at HC
                have y1 := HC.blk_ 7 rfl
                have y2 := HC.cst_ 1 rfl
                exact ⟨⟨cell_of_row _ _ 0 _ _ _ y1, cell_of_row _ _ 1 _ _ _ y1, cell_of_row _ _ 2 _ _ _ y1, Blk.lt y1⟩, cell_of_row _ _ 0 _ _ _ y2, cell_of_row _ _ 1 _ _ _ y2, Blk.lt y2⟩
              have HRX : Hid (∀ wv, Hold M (some T) w wv KL → Ro wv (Mut M KL) (VlsIn (some ⟨bx, ox, none⟩) n xvs) ∧ Ro wv (Mut M KL) (VlsIn (some ⟨ga, 0, none⟩) n vs)) := hid fun wv HC => by
                rw [hKL] at HC ⊢
                exact ⟨HC.ro 3 rfl, HC.ro 0 rfl⟩
              have HKL := hid hKL
              clear hKL KS KC
              go_wp2_with fail
              refine wp_region_any (by kernel_rfl) ?_
              refine wpAny_hold 10 98 (KL) (spL [(64, VlsSlot (Mut M KL) xvs), (66, PrSlot (Mut M KL) (xid, xvs, vs)), (67, PrsSlot (Mut M KL) [(xid, xvs, vs)])]) (by kernel_rfl) (by kernel_rfl) (by kernel_rfl) rfl ?_ (KN.drew) ?_
              · exact stays_cons vlsSlot_mono (stays_cons prSlot_mono (stays_cons prsSlot_mono (stays_nil _)))
              simp only [zd, Act.put, List.getElem_toArray, List.getElem_cons_zero, List.getElem_cons_succ, zl]
              refine dw_val rfl rfl rfl ?_; apply Exists.intro; refine ⟨fun wv HC => ?_, ?_⟩
              ·  go_simp <;> rfl
              simp only [Act.put, zl]
              refine dw_val rfl rfl rfl ?_; apply Exists.intro; refine ⟨fun wv HC => ?_, ?_⟩
              · obtain ⟨⟨f0, f1, f2, f3⟩, f4, f5, f6⟩ := HF.out _ HC; go_simp <;> rfl
              simp only [Act.put, zl]
              refine dw_val rfl rfl rfl ?_; apply Exists.intro; refine ⟨fun wv HC => ?_, ?_⟩
              ·  go_simp <;> rfl
              simp only [Act.put, zl]
              refine dw_val rfl rfl rfl ?_; apply Exists.intro; refine ⟨fun wv HC => ?_, ?_⟩
              · obtain ⟨⟨f0, f1, f2, f3⟩, f4, f5, f6⟩ := HF.out _ HC; go_simp <;> rfl
              simp only [Act.put, zl]
              refine dw_val rfl rfl rfl ?_; apply Exists.intro; refine ⟨fun wv HC => ?_, ?_⟩
              ·  go_simp <;> rfl
              simp only [Act.put, zl]
              refine dw_val rfl rfl rfl ?_; apply Exists.intro; refine ⟨fun wv HC => ?_, ?_⟩
              · obtain ⟨⟨f0, f1, f2, f3⟩, f4, f5, f6⟩ := HF.out _ HC; go_simp <;> rfl
              simp only [Act.put, zl]
              refine dw_clone Tryz.elVl 64 (VlsSlot (Mut M KL) xvs) rfl rfl rfl rfl (.const (.slice none 0 0)) (.tmp 63) rfl rfl (A := some ⟨bx, ox, none⟩) (m := n) (c := xc) (ys := vlCells xvs) rfl (one_vls _) (by omega) (by omega) (fun wv HC hD => ((HRX.out _ HC).1).now) (fun C9 c9 wv HC q1 q2 hro => ⟨C9, n, c9, rfl, HXL.out.symm, q1, q2, hro⟩) ?_
              rintro u wx HCx ⟨A64, n64, c64, rfl, -, -, -, -⟩
              clear HCx
              simp only [Act.put, zl]
              refine dw_val rfl rfl rfl ?_; apply Exists.intro; refine ⟨fun wv HC => ?_, ?_⟩
              ·  go_simp <;> rfl
              simp only [Act.put, zl]
              refine dw_valC 66 (PrSlot (Mut M KL) (xid, xvs, vs)) rfl rfl rfl rfl (.agg #[.int .i64 xid, .slice A64 n64 c64, .slice (some ⟨ga, 0, none⟩) n cr]) (fun wv HC => ?_) (fun wv HC hD => ?_) ?_
              · go_simp <;> rfl
              · have ha : VlsSlot (Mut M KL) xvs (.slice A64 n64 c64) wv := deps_at hD 6 rfl (by kernel_rfl) rfl rfl
                exact prSlot_of HXO.out.id HXO.out.vs HVS.out.2 ha ⟨_, n, cr, rfl, HVS.out.1.symm, hcr.1, hcr.2, (HRX.out _ HC).2⟩
              simp only [Act.put, zl]
              refine dw_new #[.int .i64 xid, .slice A64 n64 c64, .slice (some ⟨ga, 0, none⟩) n cr] 110 67 (PrsSlot (Mut M KL) [(xid, xvs, vs)]) (fun g => .slice (some ⟨g, 0, none⟩) 1 1) rfl rfl rfl rfl (fun wv => ?_) (fun wv HC _hrm hD hro => ?_) ?_
              · go_simp <;> rfl
              · have hrr := RM.alloc (Mut M KL) wv (.cells #[.int .i64 xid, .slice A64 n64 c64, .slice (some ⟨ga, 0, none⟩) n cr] 110)
                have h0 : PrSlot (Mut M KL) (xid, xvs, vs) (.agg #[.int .i64 xid, .slice A64 n64 c64, .slice (some ⟨ga, 0, none⟩) n cr]) wv := deps_at hD 8 rfl (by kernel_rfl) rfl rfl
                replace h0 := prSlot_mono _ _ _ hrr h0
                exact prsSlot_one (hro _ HC.mutLt) (fun i j k e1 => Value.agg.inj e1) h0
              rintro g67 wg HCg hsl
              simp only [Act.put, zl]
              clear hsl HCg
              refine rel_nil ?_
              rintro wx5 HX5
              rintro _hrm HGW
              have hb2 : PrsSlot (Mut M KL) [(xid, xvs, vs)] (.slice (some ⟨g67, 0, none⟩) 1 1) wx5 := (GW_on (d := 67) rfl).1 (HGW 9 _ rfl (by omega))
              clear HGW _hrm
              obtain ⟨Aq, nq, cq, pq, heq, -, -, hpm, hpok, hpr⟩ := hb2
              obtain ⟨rfl, rfl, rfl⟩ : some ⟨g67, 0, none⟩ = Aq ∧ 1 = nq ∧ 1 = cq := by injection heq with h1 h2 h3; exact ⟨h1, h2, h3⟩
              clear heq
              rw [HKL.out] at HX5 hpr
              have HPO := hid (prs_ok_app HPS.out hpok)
              have HPE := hid (show prCells ps ++ prCells pq = prCells (ps ++ pq) by simp [prCells])
              have KA := HX5.add (hpr.imp fun w h => (h.2 : PrVals pq w))
              have k5 := hid ((hpr.imp fun w h => h.1).now)
              clear HX5 hpr hpm hpok HF HRX KN
              have FA := KA.facts
              simp only [factsL, cellsF, Nat.reduceAdd, zf, zl] at FA
              go_wp2_with (at_builtin; go_must (refine wpList_appAllH KA 6 rfl Tryz.elPr k5.out rfl (.tmp 59) (.tmp 67) rfl rfl rfl (prCells_one pq) (by omega) (by omega) ?_); intro C' cap' w6 hc6 hm6 KB; rw [HPE.out] at KB; simp only [List.set_cons_zero, List.set_cons_succ] at KB; (have FB := KB.facts); simp only [factsL, cellsF, Nat.reduceAdd, zf, zl] at FB)
              have KD := KB.store 8 rfl 2 (.slice C' (un + 1) cap')
              have KE := (KD.swapRo 7 rfl (prVals_app (KD.ro 7 rfl) (KD.ro 0 rfl))).drop (List.Sublist.cons _ (List.Sublist.cons _ (List.Sublist.cons _ (List.Sublist.cons _ (List.Sublist.cons _ (List.Sublist.refl _))))))
              go_wp2_with fail
              go_roundw
              case rel => exact ⟨j + 1, dn, dc, un + 1, cap', D, C', dels, ps ++ pq, by omega, by first | rfl | go_num, by omega, by omega, HPO, KE⟩
              case measure => simp [intOf]; omega
      · have z2 : (z == 0) = false := by rw [beq_eq_false_iff_ne]; omega
        have z3 : (z == 1) = false := by rw [beq_eq_false_iff_ne]; omega
        go_wp2_with fail
        have KC := K2.drop (List.Sublist.cons _ (List.Sublist.cons _ (List.Sublist.cons _ (List.Sublist.refl _))))
        go_roundw
        case rel => exact ⟨j + 1, dn, dc, un, uc, _, U, dels, ps, by omega, by first | rfl | go_num, by omega, by omega, HPS, KC⟩
        case measure => simp [intOf]; omega
    · obtain rfl : m = j := by omega
      have hd : decide ((m : Int) < (m : Int)) = false := by simp
      clear hlt
      obtain ⟨hdc1, hdc2, _⟩ := own_caps (H.get 0 rfl)
      obtain ⟨huc1, huc2, _⟩ := own_caps (H.get 1 rfl)
      have KS := H.sealRow 0 rfl
      simp only [List.set_cons_zero] at KS
      have KS2 := KS.sealRow 1 rfl
      simp only [List.set_cons_zero, List.set_cons_succ] at KS2
      clear H KS
      go_wp2_with fail
      refine (next_any T 4 _ (KS2.tp_ 9 rfl) (by omega) (by omega)).mono ?_
      rintro e w3 ⟨i0, rfl, i00, i01, t3, g3⟩
      obtain ⟨i0, rfl⟩ := Int.eq_ofNat_of_zero_le i00
      have K2 := ((Hold.callT KS2 9 rfl g3 t3).add (show Ro _ _ (SlVals []) from fun _ _ _ r hr => nomatch hr)).nil 51 1
      have hi0 : i0 ≤ 3 := by omega
      clear KS2 g3 t3 i00 i01
      go_wp2_with fail
      clear hd
      go_loopw [9] (fun iv wr => ∃ (i k ic : Nat) (I : Option Addr) (si : List Sl), iv = .int .i64 i ∧ i + k ≤ 3 ∧ Hid (∀ s ∈ si, s.ok) ∧ Hold M (some T) w wr [.own 51 1 (.slice I k ic) k (slCells si), .ro (SlVals si), .ro (SlR 1 D dn (iCells dels)), .ro (SlR 3 U un (prCells ps)), .ro (PrVals ps), .blk g5 76 #[.slice I k ic, .slice D dn dc, .slice U un uc], .blk g4 76 #[.slice none 0 0, .slice none 0 0, .slice none 0 0], .cst gx 58 #[.string nm, .slice A n c, .int .i64 nx, .slice B m d], .ro Wds, .ro (ColsIn A n cs), .ro (RwsIn B m l), .tp T]) (fun iv _ => (intOf iv).toNat)
      case atStart => exact ⟨i0, 0, 0, none, [], rfl, by omega, hid (fun s hs => nomatch hs), K2⟩
      case round =>
        clear K2 hi0
        obtain ⟨i, k, ic, I, si, rfl, hik, HSI, H⟩ := hrel
        by_cases hlt : 0 < i
        · obtain ⟨i, rfl⟩ : ∃ i', i = i' + 1 := ⟨i - 1, by omega⟩
          have hd : decide (((i + 1 : Nat) : Int) > 0) = true := by rw [decide_eq_true_iff]; omega
          clear hlt
          have FH := H.facts
          simp only [factsL, cellsF, Nat.reduceAdd, zf, zl] at FH
          go_wp2_with fail
          refine (trow_any (Mut M _) T _ H.mutLt (H.tp_ 11 rfl) (H.get 11 rfl).2 nm A n c cs ((H.ro 9 rfl).less (mut_tp (i := 11) rfl)) ((H.ro 8 rfl).less (mut_tp (i := 11) rfl)) hT hn HOKC.out).mono ?_
          rintro e w4 ⟨Ar, nr, cr, vs, rfl, hnr, hvr, hfr, ho, t4, g4'⟩
          have KV := Hold.addOwn H (Hold.callT H 11 rfl g4' t4) (RM.grown g4' (.inr ⟨_, List.mem_of_getElem? (i := 11) rfl, rfl⟩)) ho
          obtain rfl : n = nr := by have h1 := fitsAll_len hfr; have h2 := HL.out; omega
          have hcr := own_caps (KV.get 0 rfl)
          replace hcr := And.intro hcr.1 hcr.2.1
          have HVS := hid (show vs.length = n ∧ ∀ v ∈ vs, v.ok from ⟨hnr.symm, hvr⟩)
          obtain ⟨ga, rfl⟩ : ∃ ga, Ar = some ⟨ga, 0, none⟩ := by
            rcases own_addr (KV.get 0 rfl) with ⟨_, h, _⟩ | ⟨g, h, _⟩
            · omega
            · exact ⟨g, h⟩
          clear H ho t4 g4' hnr hvr hfr FH
          have FV := KV.facts
          simp only [factsL, cellsF, Nat.reduceAdd, zf, zl] at FV
          go_wp2_with fail
          refine (bool_any T 12 _ (KV.tp_ 12 rfl) (by omega) (by omega)).mono ?_
          rintro e wb ⟨bb, rfl, tb, gb⟩
          have KP := Hold.callT KV 12 rfl gb tb
          clear KV gb tb
          have FP := KP.facts
          simp only [factsL, cellsF, Nat.reduceAdd, zf, zl] at FP
          cases bb
          · skip
            have KC := KP
            clear KP
            have KS := KC.sealRow 0 rfl
            simp only [List.set_cons_zero] at KS
            have HCE := hid (show slCells si ++ (#[Value.slice (some ⟨ga, 0, none⟩) n cr]).toList = slCells (si ++ [⟨some ⟨ga, 0, none⟩, n, cr, vs⟩]) by simp [slCells, Sl.cells])
            have HSO := hid (sls_ok_snoc HSI.out (x := ⟨some ⟨ga, 0, none⟩, n, cr, vs⟩) ⟨hcr.1, hcr.2, HVS.out.2⟩)
            clear KC
            have FS := KS.facts
            simp only [factsL, cellsF, Nat.reduceAdd, zf, zl] at FS
            go_wp2_with (at_builtin; go_must (refine wpList_appH KS 1 rfl Tryz.elSlc #[.slice (some ⟨ga, 0, none⟩) n cr] rfl (.tmp 92) (.tmp 94) rfl rfl _ (by first | rfl | simp [World.setCell]) rfl rfl (by intro u hu; simp at hu; rcases hu with rfl; rfl) (by omega) (by omega) ?_); intro g9 cap9 w9 hc9 hm9 KB; rw [HCE.out] at KB; simp only [List.set_cons_zero, List.set_cons_succ] at KB; (have FB := KB.facts); simp only [factsL, cellsF, Nat.reduceAdd, zf, zl] at FB)
            have KD := KB.store 6 rfl 0 (.slice (some ⟨g9, 0, none⟩) (k + 1) cap9)
            have KE := (KD.swapRo 2 rfl (sls_snoc (r := ⟨some ⟨ga, 0, none⟩, n, cr, vs⟩) (KD.ro 2 rfl) (KD.ro 0 rfl))).drop (List.sublist_cons_self _ _)
            go_roundw
            case rel => exact ⟨i, k + 1, cap9, _, _, by first | rfl | go_num, by omega, HSO, KE⟩
            case measure => simp [intOf] <;> omega
          · skip
            go_wp2_with fail
            refine (next_any T (n : Int) _ (KP.tp_ 12 rfl) (by omega) (by omega)).mono ?_
            rintro e wc ⟨q, rfl, q0, q1, tc, gc⟩
            obtain ⟨q, rfl⟩ := Int.eq_ofNat_of_zero_le q0
            have KQ := Hold.callT KP 12 rfl gc tc
            clear KP gc tc FP
            have FQ := KQ.facts
            simp only [factsL, cellsF, Nat.reduceAdd, zf, zl] at FQ
            go_wp2_with fail
            refine (value_any T _ (KQ.tp_ 12 rfl) (KQ.ro 9 rfl).now hT).mono ?_
            rintro e wd ⟨kv, iv, sv, rfl, hv, hsv, hiv, td, _, gd⟩
            have KR := Hold.callT KQ 12 rfl gd td
            clear KQ gd td FQ
            have HQL := hid (show q < vs.length by have := HVS.out.1; omega)
            obtain ⟨uq, huq⟩ : ∃ uq, vs[q]? = some uq := ⟨_, List.getElem?_eq_getElem HQL.out⟩
            obtain ⟨⟨z0, z1, z2⟩, ⟨z3, z4, z5⟩, z6⟩ := own_vl (KR.get 0 rfl) huq
            clear huq
            have KC := KR.putVl 0 rfl q HQL.out ⟨kv, iv, sv⟩
            simp only [List.set_cons_zero] at KC
            have HVS := hid (show (vs.set q ⟨kv, iv, sv⟩).length = n ∧ ∀ v ∈ vs.set q ⟨kv, iv, sv⟩, v.ok from ⟨by rw [List.length_set]; exact HVS.out.1, oks_set HVS.out.2 ⟨validB_k hv, hiv, by show sv.size ≤ maxLen; unfold maxLen; omega⟩⟩)
            clear hv KR
            generalize vs.set q ⟨kv, iv, sv⟩ = vs at HVS KC
            have FC := KC.facts
            simp only [factsL, cellsF, Nat.reduceAdd, zf, zl] at FC
            have KS := KC.sealRow 0 rfl
            simp only [List.set_cons_zero] at KS
            have HCE := hid (show slCells si ++ (#[Value.slice (some ⟨ga, 0, none⟩) n cr]).toList = slCells (si ++ [⟨some ⟨ga, 0, none⟩, n, cr, vs⟩]) by simp [slCells, Sl.cells])
            have HSO := hid (sls_ok_snoc HSI.out (x := ⟨some ⟨ga, 0, none⟩, n, cr, vs⟩) ⟨hcr.1, hcr.2, HVS.out.2⟩)
            clear KC
            have FS := KS.facts
            simp only [factsL, cellsF, Nat.reduceAdd, zf, zl] at FS
            go_wp2_with (at_builtin; go_must (refine wpList_appH KS 1 rfl Tryz.elSlc #[.slice (some ⟨ga, 0, none⟩) n cr] rfl (.tmp 92) (.tmp 94) rfl rfl _ (by first | rfl | simp [World.setCell]) rfl rfl (by intro u hu; simp at hu; rcases hu with rfl; rfl) (by omega) (by omega) ?_); intro g9 cap9 w9 hc9 hm9 KB; rw [HCE.out] at KB; simp only [List.set_cons_zero, List.set_cons_succ] at KB; (have FB := KB.facts); simp only [factsL, cellsF, Nat.reduceAdd, zf, zl] at FB)
            have KD := KB.store 6 rfl 0 (.slice (some ⟨g9, 0, none⟩) (k + 1) cap9)
            have KE := (KD.swapRo 2 rfl (sls_snoc (r := ⟨some ⟨ga, 0, none⟩, n, cr, vs⟩) (KD.ro 2 rfl) (KD.ro 0 rfl))).drop (List.sublist_cons_self _ _)
            go_roundw
            case rel => exact ⟨i, k + 1, cap9, _, _, by first | rfl | go_num, by omega, HSO, KE⟩
            case measure => simp [intOf] <;> omega
        · obtain rfl : i = 0 := by omega
          have hd : decide (((0 : Nat) : Int) > 0) = false := by decide
          have F := H.facts
          simp only [factsL, cellsF, Nat.reduceAdd, zf, zl] at F
          obtain ⟨hic1, hic2, _⟩ := own_caps (H.get 0 rfl)
          have KS := H.sealRow 0 rfl
          simp only [List.set_cons_zero] at KS
          have KN := ((KS.store 6 rfl 0 (.slice I k ic)).store 6 rfl 1 (.slice D dn dc)).store 6 rfl 2 (.slice U un uc)
          have r0 := KN.roOut 0 rfl
          have r1 := KN.roOut 1 rfl
          have r2 := KN.roOut 2 rfl
          have r3 := KN.roOut 3 rfl
          have r4 := KN.roOut 4 rfl
          clear KS
          have HI := hid (show si.length = k by have h := (show Rd _ _ _ _ _ _ from r0.now).1; rw [slCells_len] at h; omega)
          have HDL := hid (show dels.length = dn by have h := (show Rd _ _ _ _ _ _ from r2.now).1; rw [iCells_len] at h; omega)
          have HUL := hid (show ps.length = un by have h := (show Rd _ _ _ _ _ _ from r3.now).1; rw [prCells_len] at h; omega)
          go_wp2_with fail
          exact bodyPost_ret (v := .agg #[.slice I k ic, .slice D dn dc, .slice U un uc]) (by simp [results, Tryz.results25, go_sem, F]) rfl ⟨_, si.map Sl.vs, dels, ps.map Pr.upd, rfl, chgSlot_of ⟨I, k, ic, si, rfl, hic1, hic2, rfl, HSI.out, r0.and r1⟩ ⟨D, dn, dc, rfl, hdc1, hdc2, r2⟩ ⟨U, un, uc, ps, rfl, huc1, huc2, rfl, HPS.out, r3.and r4⟩, by rw [List.length_map, HI.out]; omega, by rw [HDL.out]; omega, by rw [List.length_map, HUL.out]; omega, KN.tp_ 11 rfl, KN.grow⟩
end Go.Proofs.YtedogodccblfeaaGreatDoor

namespace Go.Proofs.YtedogodccblfeaaGreatDoor
open Go.RowKit
set_option linter.unusedVariables false
set_option linter.unusedSimpArgs false

theorem tbAt_less {w : World} {M M' : Nat → Prop} {v : Value} {t : Tb} (h : TbAt w M v t) (hM : ∀ b, M' b → M b) : TbAt w M' v t := by
  obtain ⟨A, n, c, B, m, d, l, h1, h2, h3, h4, h5, h6, h7, h8, h9⟩ := h
  exact ⟨A, n, c, B, m, d, l, h1, h2, h3, h4, h5, h6.less hM, h7.less hM, h8, h9⟩
/-- a valid table of a schema of the three -/
structure VTab (t : Tb) : Prop where
  sch : SchOk t.nm t.cs
  val : tabB t.nm t.cs t.nx t.rs = true
theorem VTab.fit {t : Tb} (h : VTab t) {l : List Rw} (hl : l.map Rw.row = t.rs) : ∀ r ∈ l, r.vs.length = t.cs.length := fun r hr => by
  obtain ⟨_, _, _, _, hok, _⟩ := tabB_ok h.val
  exact fitsT_len (okR_fits hok r.row (by rw [← hl]; exact List.mem_map_of_mem hr))
theorem VTab.rows {t : Tb} (h : VTab t) : t.rs.length ≤ 100 := (tabB_ok h.val).2.1
theorem VTab.len {t : Tb} (h : VTab t) : ∀ r ∈ t.rs, r.2.length ≤ 4 := fun r hr => by
  obtain ⟨_, _, _, _, hok, _⟩ := tabB_ok h.val
  have h1 := fitsT_len (okR_fits hok r hr)
  have h2 := h.sch.len
  omega
theorem chgof_slot (M : Nat → Prop) (T : Nat) (w : World) (hM : ∀ b, M b → b < w.heap.size) (ht : Tp w T) (hMT : ∀ b, M b → T ≤ b) (v : Value) (t : Tb) (hT : TbAt w (Mut M [.tp T]) v t) (hv : VTab t) (hW : Ro w (Mut M [.tp T]) Wds) (hw : 2 < T) :
    Calls Tryz.prog 25 #[.pointer (some ⟨T, 0, none⟩), v] w fun e w' => DrawnChg w T M t.rs.length e w' := by
  obtain ⟨A, n, c, B, m, d, l, rfl, h1, h2, h3, h4, h5, h6, h7, h8⟩ := hT
  have hn : t.cs.length = n := cols_n h5.now
  have hm : l.length = m := h6.now.len
  have hml : t.rs.length = m := by rw [← h8, List.length_map, hm]
  have hl := hv.sch.len
  have hr := hv.rows
  rw [hml]
  exact chgof_any M T w hM ht hMT t.nm A n c t.cs t.nx B m d l h5 h6 hW hw (by omega) (by omega) (by omega) hv.sch.col (fun r hr => by rw [← hn]; exact hv.fit h8 r hr) h7
theorem tspoil_slot (M : Nat → Prop) (T : Nat) (w : World) (hM : ∀ b, M b → b < w.heap.size) (ht : Tp w T) (hMT : ∀ b, M b → T ≤ b) (v : Value) (t : Tb) (hT : TbAt w (Mut M [.tp T]) v t) (hv : VTab t) (hW : Ro w (Mut M [.tp T]) Wds) (hw : 2 < T) :
    Calls Tryz.prog 37 #[.pointer (some ⟨T, 0, none⟩), v] w fun e w' => SomeTab w T M e w' := by
  obtain ⟨A, n, c, B, m, d, l, rfl, h1, h2, h3, h4, h5, h6, h7, h8⟩ := hT
  have hn : t.cs.length = n := cols_n h5.now
  have hm : l.length = m := h6.now.len
  have hml : t.rs.length = m := by rw [← h8, List.length_map, hm]
  have hl := hv.sch.len
  have hr := hv.rows
  exact tspoil_any M T w hM ht hMT t.nm A n c t.cs t.nx B m d l h5 h6 hW hw (by omega) (by omega) h1 h2 (by omega) (fun r hr => by rw [← hn]; exact hv.fit h8 r hr) h7 hv.sch.nm hv.sch.cs
theorem tof_slot (M : Nat → Prop) (T : Nat) (w : World) (hM : ∀ b, M b → b < w.heap.size) (ht : Tp w T) (hMT : ∀ b, M b → T ≤ b) (nm : ByteArray) (A : Option Addr) (n c : Nat) (cs : List Col) (N : Nat) (hD : Ro w (Mut M [.tp T]) (ColsIn A n cs)) (hc1 : n ≤ c) (hc2 : c ≤ 9223372036854775807) (hs : SchOk nm cs) (hW : Ro w (Mut M [.tp T]) Wds) (hw : 2 < T) (hN : N ≤ 50) :
    Calls Tryz.prog 30 #[.pointer (some ⟨T, 0, none⟩), .agg #[.string nm, .slice A n c], .int .i64 N] w fun e w' => ∃ (v : Value) (t : Tb), e = .returned v ∧ TbAt w' M v t ∧ VTab t ∧ t.nm = nm ∧ t.cs = cs ∧ t.rs.length ≤ N ∧ Tp w' T ∧ w.grownBy w' (some T) := by
  have hn : cs.length = n := cols_n hD.now
  have hl := hs.len
  refine (tof_any M T w hM ht hMT nm A n c cs N hD hW hw (by omega) hc1 hc2 hs.col hs.val hs.key hN).mono ?_
  rintro e w' ⟨v, nx, rs, rfl, hT, hv, hr, t1, g1⟩
  exact ⟨v, _, rfl, hT, ⟨hs, hv⟩, rfl, rfl, hr, t1, g1⟩
end Go.Proofs.YtedogodccblfeaaGreatDoor

namespace Go.Proofs.YtedogodccblfeaaGreatDoor
open Go.RowKit
set_option linter.unusedVariables false
set_option linter.unusedSimpArgs false

structure Te where
  nm : ByteArray
  A : Option Addr
  n : Nat
  c : Nat
  cs : List Col
  nx : Int
  B : Option Addr
  m : Nat
  d : Nat
  l : List Rw
def Te.cells (x : Te) : List Value := [.string x.nm, .slice x.A x.n x.c, .int .i64 x.nx, .slice x.B x.m x.d]
def Te.val (x : Te) : Value := .agg #[.string x.nm, .slice x.A x.n x.c, .int .i64 x.nx, .slice x.B x.m x.d]
def Te.tb (x : Te) : Tb := ⟨x.nm, x.cs, x.nx, x.l.map Rw.row⟩
def TeIn (x : Te) (w : World) : Prop := ColsIn x.A x.n x.cs w ∧ RwsIn x.B x.m x.l w
structure Te.ok (x : Te) : Prop where
  nc : x.n ≤ x.c
  c : x.c ≤ 9223372036854775807
  md : x.m ≤ x.d
  d : x.d ≤ 9223372036854775807
  l : ∀ r ∈ x.l, r.ok
theorem tb_te {w : World} {M : Nat → Prop} {v : Value} {t : Tb} (h : TbAt w M v t) : ∃ x : Te, v = x.val ∧ x.tb = t ∧ x.ok ∧ Ro w M (TeIn x) := by
  obtain ⟨A, n, c, B, m, d, l, rfl, h1, h2, h3, h4, h5, h6, h7, h8⟩ := h
  exact ⟨⟨t.nm, A, n, c, t.cs, t.nx, B, m, d, l⟩, rfl, by simp only [Te.tb, h8], ⟨h1, h2, h3, h4, h7⟩, h5.and h6⟩
theorem te_tb {w : World} {M : Nat → Prop} {x : Te} (h : x.ok) (r : Ro w M (TeIn x)) : TbAt w M x.val x.tb :=
  ⟨x.A, x.n, x.c, x.B, x.m, x.d, x.l, rfl, h.nc, h.c, h.md, h.d, r.imp fun w h => h.1, r.imp fun w h => h.2, h.l, rfl⟩
/-- a table within the limits that the contracts ask -/
structure TbM (t : Tb) : Prop where
  nm : t.nm.size ≤ maxLen
  cs : ∀ x ∈ t.cs, x.name.size ≤ maxLen
  rs : t.rs.length ≤ 4398046511104
  row : ∀ r ∈ t.rs, r.2.length ≤ 4398046511104
def teCells (l : List Te) : List Value := l.flatMap Te.cells
theorem teCells_len (l : List Te) : (teCells l).length = l.length * 4 := flat_len _ 4 (fun _ => rfl) l
def TesIn (A : Option Addr) (n : Nat) (l : List Te) (w : World) : Prop := SlR 4 A n (teCells l) w ∧ ∀ x ∈ l, TeIn x w
theorem TesIn.len {w : World} {A : Option Addr} {n : Nat} {l : List Te} (h : TesIn A n l w) : l.length = n := by
  have := (show Rd w w.heap.size 4 A n (teCells l) from h.1).1
  rw [teCells_len] at this
  omega
theorem TesIn.at_ {w : World} {A : Option Addr} {n : Nat} {l : List Te} (h : TesIn A n l w) {k : Nat} {x : Te} (hx : l[k]? = some x) :
    ∃ b o, A = some ⟨b, o, none⟩ ∧ b < w.heap.size ∧ w.cell? ⟨b, o + k * 4, none⟩ = some (.string x.nm) ∧ w.cell? ⟨b, o + k * 4 + 1, none⟩ = some (.slice x.A x.n x.c) ∧ w.cell? ⟨b, o + k * 4 + 2, none⟩ = some (.int .i64 x.nx) ∧ w.cell? ⟨b, o + k * 4 + 3, none⟩ = some (.slice x.B x.m x.d) ∧ TeIn x w := by
  have hk : k < n := by rw [← h.len]; exact (List.getElem?_eq_some_iff.1 hx).1
  obtain ⟨b, o, e, hb, hc⟩ := (show Rd w w.heap.size 4 A n (teCells l) from h.1).2 (by omega)
  exact ⟨b, o, e, hb, hc _ _ (flat_get Te.cells 4 (fun _ => rfl) l k 0 x (by omega) hx), hc _ _ (flat_get Te.cells 4 (fun _ => rfl) l k 1 x (by omega) hx), hc _ _ (flat_get Te.cells 4 (fun _ => rfl) l k 2 x (by omega) hx), hc _ _ (flat_get Te.cells 4 (fun _ => rfl) l k 3 x (by omega) hx), h.2 x (List.mem_of_getElem? hx)⟩
theorem one_tes (l : List Te) : ∀ u ∈ teCells l, u.oneCell' = true := fun u hu => by
  unfold teCells at hu
  rw [List.mem_flatMap] at hu
  obtain ⟨x, _, hx⟩ := hu
  simp only [Te.cells, List.mem_cons, List.not_mem_nil, or_false] at hx
  rcases hx with rfl | rfl | rfl | rfl <;> rfl
/-- a literal list of tables in a new block -/
theorem tes_block {w : World} {M : Nat → Prop} {g : Nat} {t : TypeId} {cs : Array Value} {l : List Te} (h : Ro w M (fun w => w.heap[g]? = some (.cells cs t (0, 0)))) (hl : cs.toList = teCells l) (hr : ∀ x ∈ l, Ro w M (TeIn x)) : Ro w M (TesIn (some ⟨g, 0, none⟩) l.length l) := by
  have h1 : Ro w M (SlR 4 (some ⟨g, 0, none⟩) l.length cs.toList) := ro_block h (by rw [hl, teCells_len])
  rw [hl] at h1
  exact h1.and fun w2 a b x hx => hr x hx w2 a b
end Go.Proofs.YtedogodccblfeaaGreatDoor

namespace Go.Proofs.YtedogodccblfeaaGreatDoor
open Go.RowKit
set_option linter.unusedVariables false
set_option linter.unusedSimpArgs false
set_option maxHeartbeats 4000000 in
set_option maxRecDepth 100000 in
theorem rtvalid_any (M : Nat → Prop) (w : World) (hM : ∀ b, M b → b < w.heap.size) (nm : ByteArray) (A : Option Addr) (n c : Nat) (cs : List Col) (nx : Int) (B : Option Addr) (m d : Nat) (l : List Rw) (hD : Ro w M (SlR 4 A n (colCells cs))) (hE : Ro w M (RwsIn B m l)) (hn : n ≤ 9223372036854775807) (hm : m ≤ 4611686018427387904) (hok : ∀ r ∈ l, r.ok) (hs : nm.size ≤ maxLen) (hcs : ∀ x ∈ cs, x.name.size ≤ maxLen) :
    Calls Tryz.prog 58 #[.agg #[.string nm, .slice A n c, .int .i64 nx, .slice B m d]] w fun e w' => e = .returned (.bool (tabB nm cs nx (l.map Rw.row))) ∧ Below w.heap.size w w' := by
  have HL := hid hE.now.len
  have HML := hid (show (l.map Rw.row).length = m by rw [List.length_map, HL.out])
  have K0 := (((Hold.start M w hM).add (hE.less (by simp [Mut]))).add (hD.less (by simp [Mut, Hp.foot]))).alloc_cst #[.string nm, .slice A n c, .int .i64 nx, .slice B m d] 58
  have F0 := K0.facts
  simp only [factsL, cellsF, Nat.reduceAdd, zf, zl] at F0
  clear hD hE
  go_enter Tryz.func58, Tryz.ntmps58
  go_wp2_with fail
  refine (rsvalid_any _ _ K0.mutLt nm A n c cs (K0.ro 1 rfl) hn hs hcs).mono ?_
  rintro e w1 ⟨rfl, b1⟩
  have K1 := K0.call b1
  clear K0 b1 F0
  have F1 := K1.facts
  simp only [factsL, cellsF, Nat.reduceAdd, zf, zl] at F1
  cases hsb : schemaB nm cs
  · have HN := hid (show tabB nm cs nx (l.map Rw.row) = false from tabB_1 hsb)
    go_wp2_with fail
    go_ret
    exact ⟨by rw [HN.out] <;> rfl, K1.below⟩
  have HSB := hid hsb; clear hsb
  by_cases h1 : 100 < m
  · have h1d : decide ((m : Int) > 100) = true := by simp; omega
    have HN := hid (show tabB nm cs nx (l.map Rw.row) = false from tabB_2 (by rw [HML.out]; exact h1))
    go_wp2_with fail
    go_ret
    exact ⟨by rw [HN.out] <;> rfl, K1.below⟩
  have h1d : decide ((m : Int) > 100) = false := by simp; omega
  by_cases h2 : nx < 1
  · have h2d : decide (nx < 1) = true := by simpa using h2
    have HN := hid (show tabB nm cs nx (l.map Rw.row) = false from tabB_3 h2)
    go_wp2_with fail
    go_ret
    exact ⟨by rw [HN.out] <;> rfl, K1.below⟩
  have h2d : decide (nx < 1) = false := by simpa using h2
  by_cases h3 : 2147483648 < nx
  · have h3d : decide (nx > 2147483648) = true := by simpa using h3
    have HN := hid (show tabB nm cs nx (l.map Rw.row) = false from tabB_4 h3)
    go_wp2_with fail
    go_ret
    exact ⟨by rw [HN.out] <;> rfl, K1.below⟩
  have h3d : decide (nx > 2147483648) = false := by simpa using h3
  go_wp2_with fail
  clear F1
  go_loopw [28] (fun iv wr => ∃ (j : Nat) (lst : Int), j ≤ m ∧ iv = .int .i64 j ∧ 0 ≤ lst ∧ Hid ((j = 0 → lst = 0) ∧ ∀ p, j = p + 1 → ∃ r : Rw, l[p]? = some r ∧ r.id = lst) ∧ Hid (okR cs nx 0 (l.map Rw.row) = okR cs nx lst ((l.map Rw.row).drop j)) ∧ Hold M none w wr [.cst w.heap.size 58 #[.string nm, .slice A n c, .int .i64 nx, .slice B m d], .ro (SlR 4 A n (colCells cs)), .ro (RwsIn B m l)]) (fun iv _ => m - (intOf iv).toNat)
  case atStart => exact ⟨0, 0, by omega, rfl, by omega, hid ⟨fun _ => rfl, fun p hp => by omega⟩, hid rfl, K1⟩
  case round =>
    clear K1
    obtain ⟨j, lst, hj, rfl, hl0, HP, HS, H⟩ := hrel
    by_cases hlt : j < m
    · have hdd : decide ((j : Int) < (m : Int)) = true := by simp; omega
      have j0 : (0 : Int) ≤ (j : Int) := by omega
      obtain ⟨x, hx⟩ := get_of HL.out hlt
      obtain ⟨g, o, rfl, hgb, c0, c1, hvi⟩ := (H.ro 2 rfl).now.at_ hx
      have hrok := hok x (List.mem_of_getElem? hx)
      have HX := hid (show (l.map Rw.row)[j]? = some (x.id, x.vs) by simp [hx, Rw.row])
      have HXM := hid (List.mem_of_getElem? hx)
      have HXL := hid hx
      have K2 := H.alloc_cst #[.int .i64 x.id, .slice x.A x.n x.c] 119
      clear hx
      have hxn : x.n ≤ 9223372036854775807 := Nat.le_trans hrok.nc hrok.c
      by_cases a1 : x.id < 1
      · have a1d : decide (x.id < 1) = true := by simpa using a1
        have HN := hid (show tabB nm cs nx (l.map Rw.row) = false from tabB_5 (by rw [HS.out]; exact okR_bad HX.out (.inl (show x.id ≤ lst by omega))))
        clear a1
        obtain ⟨gb, hgb2⟩ : ∃ gb, gb = wr.heap.size := ⟨_, rfl⟩
        obtain ⟨KL, hKL⟩ : ∃ KL : List Hp, KL = [Hp.cst wr.heap.size 119 #[.int .i64 x.id, .slice x.A x.n x.c], .cst w.heap.size 58 #[.string nm, .slice A n c, .int .i64 nx, .slice (some ⟨g, o, none⟩) m d], .ro (SlR 4 A n (colCells cs)), .ro (RwsIn (some ⟨g, o, none⟩) m l)] := ⟨_, rfl⟩
        rw [← hKL] at K2
        rw [← hgb2] at hKL
        have HF : Hid (∀ wv, Hold M none w wv KL → wv.cell? ⟨gb, 0, none⟩ = some (.int .i64 x.id) ∧ wv.cell? ⟨gb, 1, none⟩ = some (.slice x.A x.n x.c) ∧ gb < wv.heap.size ∧ wv.cell? ⟨w.heap.size, 0, none⟩ = some (.string nm) ∧ wv.cell? ⟨w.heap.size, 1, none⟩ = some (.slice A n c) ∧ wv.cell? ⟨w.heap.size, 2, none⟩ = some (.int .i64 nx) ∧ wv.cell? ⟨w.heap.size, 3, none⟩ = some (.slice (some ⟨g, o, none⟩) m d) ∧ w.heap.size < wv.heap.size) := hid fun wv HC => by
          rw [hKL] at HC
          have b0 := HC.cst_ 0 rfl
          have b1 := HC.cst_ 1 rfl
          exact ⟨cell_of_row _ _ 0 _ _ _ b0, cell_of_row _ _ 1 _ _ _ b0, Blk.lt b0, cell_of_row _ _ 0 _ _ _ b1, cell_of_row _ _ 1 _ _ _ b1, cell_of_row _ _ 2 _ _ _ b1, cell_of_row _ _ 3 _ _ _ b1, Blk.lt b1⟩
        have HKL : Hid (∀ wv, Hold M none w wv KL → Ro wv (Mut M KL) (SlR 4 A n (colCells cs)) ∧ Ro wv (Mut M KL) (VlsIn x.A x.n x.vs)) := hid fun wv HC => by
          rw [hKL] at HC ⊢
          exact ⟨HC.ro 2 rfl, (HC.ro 3 rfl).imp fun w2 h2 => h2.2 x HXM.out⟩
        go_wp2_with fail
        rw [← hgb2]
        have HGB := hid hgb2
        have HKE := hid hKL
        clear hgb2 hKL
        generalize wr.alloc (.cells #[.int .i64 x.id, .slice x.A x.n x.c] 119) = w2 at *
        refine wp_region_any (by kernel_rfl) ?_
        refine wpAny_hold 33 71 (KL) (spL []) (by kernel_rfl) (by kernel_rfl) (by kernel_rfl) rfl ?_ (K2.drew) ?_
        · exact stays_nil _
        simp only [zd, Act.put, List.getElem_toArray, List.getElem_cons_zero, List.getElem_cons_succ, zl]
        refine dw_val rfl rfl rfl ?_; apply Exists.intro; refine ⟨fun wv HC => ?_, ?_⟩
        · obtain ⟨f0, f1, f2, f3, f4, f5, f6, f7⟩ := HF.out _ HC; go_simp <;> rfl
        simp only [Act.put, zl]
        refine dw_val rfl rfl rfl ?_; apply Exists.intro; refine ⟨fun wv HC => ?_, ?_⟩
        · obtain ⟨f0, f1, f2, f3, f4, f5, f6, f7⟩ := HF.out _ HC; go_simp <;> rfl
        simp only [Act.put, zl]
        refine dw_val rfl rfl rfl ?_; apply Exists.intro; refine ⟨fun wv HC => ?_, ?_⟩
        · obtain ⟨f0, f1, f2, f3, f4, f5, f6, f7⟩ := HF.out _ HC; go_simp <;> rfl
        simp only [Act.put, zl]
        refine dw_val rfl rfl rfl ?_; apply Exists.intro; refine ⟨fun wv HC => ?_, ?_⟩
        · obtain ⟨f0, f1, f2, f3, f4, f5, f6, f7⟩ := HF.out _ HC; go_simp <;> rfl
        simp only [Act.put, zl]
        refine dw_skip rfl rfl rfl ?_
        simp only [Act.put, zl]
        refine dw_skip rfl rfl rfl ?_
        simp only [Act.put, zl]
        refine dw_skip rfl rfl rfl ?_
        simp only [Act.put, zl]
        refine dw_skip rfl rfl rfl ?_
        simp only [Act.put, zl]
        refine dw_skip rfl rfl rfl ?_
        simp only [Act.put, zl]
        refine dw_val rfl rfl rfl ?_; apply Exists.intro; refine ⟨fun wv HC => ?_, ?_⟩
        · obtain ⟨f0, f1, f2, f3, f4, f5, f6, f7⟩ := HF.out _ HC; go_simp <;> rfl
        simp only [Act.put, zl]
        refine dw_val rfl rfl rfl ?_; apply Exists.intro; refine ⟨fun wv HC => ?_, ?_⟩
        · obtain ⟨f0, f1, f2, f3, f4, f5, f6, f7⟩ := HF.out _ HC; go_simp <;> rfl
        simp only [Act.put, zl]
        refine dw_skip rfl rfl rfl ?_
        simp only [Act.put, zl]
        refine dw_skip rfl rfl rfl ?_
        simp only [Act.put, zl]
        refine dw_skip rfl rfl rfl ?_
        simp only [Act.put, zl]
        refine dw_skip rfl rfl rfl ?_
        simp only [Act.put, zl]
        refine dw_skip rfl rfl rfl ?_
        simp only [Act.put, zl]
        refine dw_skip rfl rfl rfl ?_
        simp only [Act.put, zl]
        refine dw_skip rfl rfl rfl ?_
        simp only [Act.put, zl]
        refine dw_skip rfl rfl rfl ?_
        simp only [Act.put, zl]
        refine dw_skip rfl rfl rfl ?_
        simp only [Act.put, zl]
        refine dw_skip rfl rfl rfl ?_
        simp only [Act.put, zl]
        refine dw_skip rfl rfl rfl ?_
        simp only [Act.put, zl]
        refine dw_skip rfl rfl rfl ?_
        simp only [Act.put, zl]
        refine dw_skip rfl rfl rfl ?_
        simp only [Act.put, zl]
        refine dw_skip rfl rfl rfl ?_
        simp only [Act.put, zl]
        refine dw_val rfl rfl rfl ?_; apply Exists.intro; refine ⟨fun wv HC => ?_, ?_⟩
        · obtain ⟨f0, f1, f2, f3, f4, f5, f6, f7⟩ := HF.out _ HC; go_simp <;> rfl
        simp only [Act.put, zl]
        refine dw_val rfl rfl rfl ?_; apply Exists.intro; refine ⟨fun wv HC => ?_, ?_⟩
        · obtain ⟨f0, f1, f2, f3, f4, f5, f6, f7⟩ := HF.out _ HC; go_simp <;> rfl
        simp only [Act.put, zl]
        refine dw_skip rfl rfl rfl ?_
        simp only [Act.put, zl]
        refine dw_skip rfl rfl rfl ?_
        simp only [Act.put, zl]
        refine dw_skip rfl rfl rfl ?_
        simp only [Act.put, zl]
        refine dw_skip rfl rfl rfl ?_
        simp only [Act.put, zl]
        refine dw_skip rfl rfl rfl ?_
        simp only [Act.put, zl]
        refine dw_skip rfl rfl rfl ?_
        simp only [Act.put, zl]
        refine rel_nil ?_
        rintro wx2 HX2
        rintro _hrm _HG
        rw [HKE.out] at HX2
        clear _hrm _HG
        go_wp2_with fail
        go_ret
        exact ⟨by rw [HN.out] <;> rfl, HX2.below⟩
      have a1d : decide (x.id < 1) = false := by simpa using a1
      by_cases a2 : nx ≤ x.id
      · have a2d : decide (x.id ≥ nx) = true := by simpa using a2
        have HN := hid (show tabB nm cs nx (l.map Rw.row) = false from tabB_5 (by rw [HS.out]; exact okR_bad HX.out (.inr (.inl a2))))
        clear a1 a2
        obtain ⟨gb, hgb2⟩ : ∃ gb, gb = wr.heap.size := ⟨_, rfl⟩
        obtain ⟨KL, hKL⟩ : ∃ KL : List Hp, KL = [Hp.cst wr.heap.size 119 #[.int .i64 x.id, .slice x.A x.n x.c], .cst w.heap.size 58 #[.string nm, .slice A n c, .int .i64 nx, .slice (some ⟨g, o, none⟩) m d], .ro (SlR 4 A n (colCells cs)), .ro (RwsIn (some ⟨g, o, none⟩) m l)] := ⟨_, rfl⟩
        rw [← hKL] at K2
        rw [← hgb2] at hKL
        have HF : Hid (∀ wv, Hold M none w wv KL → wv.cell? ⟨gb, 0, none⟩ = some (.int .i64 x.id) ∧ wv.cell? ⟨gb, 1, none⟩ = some (.slice x.A x.n x.c) ∧ gb < wv.heap.size ∧ wv.cell? ⟨w.heap.size, 0, none⟩ = some (.string nm) ∧ wv.cell? ⟨w.heap.size, 1, none⟩ = some (.slice A n c) ∧ wv.cell? ⟨w.heap.size, 2, none⟩ = some (.int .i64 nx) ∧ wv.cell? ⟨w.heap.size, 3, none⟩ = some (.slice (some ⟨g, o, none⟩) m d) ∧ w.heap.size < wv.heap.size) := hid fun wv HC => by
          rw [hKL] at HC
          have b0 := HC.cst_ 0 rfl
          have b1 := HC.cst_ 1 rfl
          exact ⟨cell_of_row _ _ 0 _ _ _ b0, cell_of_row _ _ 1 _ _ _ b0, Blk.lt b0, cell_of_row _ _ 0 _ _ _ b1, cell_of_row _ _ 1 _ _ _ b1, cell_of_row _ _ 2 _ _ _ b1, cell_of_row _ _ 3 _ _ _ b1, Blk.lt b1⟩
        have HKL : Hid (∀ wv, Hold M none w wv KL → Ro wv (Mut M KL) (SlR 4 A n (colCells cs)) ∧ Ro wv (Mut M KL) (VlsIn x.A x.n x.vs)) := hid fun wv HC => by
          rw [hKL] at HC ⊢
          exact ⟨HC.ro 2 rfl, (HC.ro 3 rfl).imp fun w2 h2 => h2.2 x HXM.out⟩
        go_wp2_with fail
        rw [← hgb2]
        have HGB := hid hgb2
        have HKE := hid hKL
        clear hgb2 hKL
        generalize wr.alloc (.cells #[.int .i64 x.id, .slice x.A x.n x.c] 119) = w2 at *
        refine wp_region_any (by kernel_rfl) ?_
        refine wpAny_hold 33 71 (KL) (spL []) (by kernel_rfl) (by kernel_rfl) (by kernel_rfl) rfl ?_ (K2.drew) ?_
        · exact stays_nil _
        simp only [zd, Act.put, List.getElem_toArray, List.getElem_cons_zero, List.getElem_cons_succ, zl]
        refine dw_val rfl rfl rfl ?_; apply Exists.intro; refine ⟨fun wv HC => ?_, ?_⟩
        · obtain ⟨f0, f1, f2, f3, f4, f5, f6, f7⟩ := HF.out _ HC; go_simp <;> rfl
        simp only [Act.put, zl]
        refine dw_val rfl rfl rfl ?_; apply Exists.intro; refine ⟨fun wv HC => ?_, ?_⟩
        · obtain ⟨f0, f1, f2, f3, f4, f5, f6, f7⟩ := HF.out _ HC; go_simp <;> rfl
        simp only [Act.put, zl]
        refine dw_val rfl rfl rfl ?_; apply Exists.intro; refine ⟨fun wv HC => ?_, ?_⟩
        · obtain ⟨f0, f1, f2, f3, f4, f5, f6, f7⟩ := HF.out _ HC; go_simp <;> rfl
        simp only [Act.put, zl]
        refine dw_val rfl rfl rfl ?_; apply Exists.intro; refine ⟨fun wv HC => ?_, ?_⟩
        · obtain ⟨f0, f1, f2, f3, f4, f5, f6, f7⟩ := HF.out _ HC; go_simp <;> rfl
        simp only [Act.put, zl]
        refine dw_val rfl rfl rfl ?_; apply Exists.intro; refine ⟨fun wv HC => ?_, ?_⟩
        · obtain ⟨f0, f1, f2, f3, f4, f5, f6, f7⟩ := HF.out _ HC; go_simp <;> rfl
        simp only [Act.put, zl]
        refine dw_val rfl rfl rfl ?_; apply Exists.intro; refine ⟨fun wv HC => ?_, ?_⟩
        · obtain ⟨f0, f1, f2, f3, f4, f5, f6, f7⟩ := HF.out _ HC; go_simp <;> rfl
        simp only [Act.put, zl]
        refine dw_val rfl rfl rfl ?_; apply Exists.intro; refine ⟨fun wv HC => ?_, ?_⟩
        · obtain ⟨f0, f1, f2, f3, f4, f5, f6, f7⟩ := HF.out _ HC; go_simp <;> rfl
        simp only [Act.put, zl]
        refine dw_val rfl rfl rfl ?_; apply Exists.intro; refine ⟨fun wv HC => ?_, ?_⟩
        · obtain ⟨f0, f1, f2, f3, f4, f5, f6, f7⟩ := HF.out _ HC; go_simp <;> rfl
        simp only [Act.put, zl]
        refine dw_val rfl rfl rfl ?_; apply Exists.intro; refine ⟨fun wv HC => ?_, ?_⟩
        · obtain ⟨f0, f1, f2, f3, f4, f5, f6, f7⟩ := HF.out _ HC; go_simp <;> rfl
        simp only [Act.put, zl]
        refine dw_val rfl rfl rfl ?_; apply Exists.intro; refine ⟨fun wv HC => ?_, ?_⟩
        · obtain ⟨f0, f1, f2, f3, f4, f5, f6, f7⟩ := HF.out _ HC; go_simp <;> rfl
        simp only [Act.put, zl]
        refine dw_val rfl rfl rfl ?_; apply Exists.intro; refine ⟨fun wv HC => ?_, ?_⟩
        · obtain ⟨f0, f1, f2, f3, f4, f5, f6, f7⟩ := HF.out _ HC; go_simp <;> rfl
        simp only [Act.put, zl]
        refine dw_skip rfl rfl rfl ?_
        simp only [Act.put, zl]
        refine dw_skip rfl rfl rfl ?_
        simp only [Act.put, zl]
        refine dw_skip rfl rfl rfl ?_
        simp only [Act.put, zl]
        refine dw_skip rfl rfl rfl ?_
        simp only [Act.put, zl]
        refine dw_skip rfl rfl rfl ?_
        simp only [Act.put, zl]
        refine dw_skip rfl rfl rfl ?_
        simp only [Act.put, zl]
        refine dw_skip rfl rfl rfl ?_
        simp only [Act.put, zl]
        refine dw_skip rfl rfl rfl ?_
        simp only [Act.put, zl]
        refine dw_skip rfl rfl rfl ?_
        simp only [Act.put, zl]
        refine dw_skip rfl rfl rfl ?_
        simp only [Act.put, zl]
        refine dw_skip rfl rfl rfl ?_
        simp only [Act.put, zl]
        refine dw_skip rfl rfl rfl ?_
        simp only [Act.put, zl]
        refine dw_skip rfl rfl rfl ?_
        simp only [Act.put, zl]
        refine dw_skip rfl rfl rfl ?_
        simp only [Act.put, zl]
        refine dw_val rfl rfl rfl ?_; apply Exists.intro; refine ⟨fun wv HC => ?_, ?_⟩
        · obtain ⟨f0, f1, f2, f3, f4, f5, f6, f7⟩ := HF.out _ HC; go_simp <;> rfl
        simp only [Act.put, zl]
        refine dw_val rfl rfl rfl ?_; apply Exists.intro; refine ⟨fun wv HC => ?_, ?_⟩
        · obtain ⟨f0, f1, f2, f3, f4, f5, f6, f7⟩ := HF.out _ HC; go_simp <;> rfl
        simp only [Act.put, zl]
        refine dw_skip rfl rfl rfl ?_
        simp only [Act.put, zl]
        refine dw_skip rfl rfl rfl ?_
        simp only [Act.put, zl]
        refine dw_skip rfl rfl rfl ?_
        simp only [Act.put, zl]
        refine dw_skip rfl rfl rfl ?_
        simp only [Act.put, zl]
        refine dw_skip rfl rfl rfl ?_
        simp only [Act.put, zl]
        refine dw_skip rfl rfl rfl ?_
        simp only [Act.put, zl]
        refine rel_nil ?_
        rintro wx2 HX2
        rintro _hrm _HG
        rw [HKE.out] at HX2
        clear _hrm _HG
        go_wp2_with fail
        go_ret
        exact ⟨by rw [HN.out] <;> rfl, HX2.below⟩
      have a2d : decide (x.id ≥ nx) = false := by simpa using a2
      have HA := hid (show ¬ x.id < 1 ∧ ¬ nx ≤ x.id from ⟨a1, a2⟩)
      clear a1 a2
      rcases Nat.eq_zero_or_pos j with hj0 | hj0
      · have HL0 := hid (HP.out.1 hj0)
        have HJ0 := hid hj0
        have hj0d : decide ((j : Int) > 0) = false := by simp; omega
        have hj0d2 : decide (0 < j) = false := by simp; omega
        have hj0d3 : decide ((0 : Int) < (j : Int)) = false := by simp; omega
        clear hj0
        obtain ⟨gb, hgb2⟩ : ∃ gb, gb = wr.heap.size := ⟨_, rfl⟩
        obtain ⟨KL, hKL⟩ : ∃ KL : List Hp, KL = [Hp.cst wr.heap.size 119 #[.int .i64 x.id, .slice x.A x.n x.c], .cst w.heap.size 58 #[.string nm, .slice A n c, .int .i64 nx, .slice (some ⟨g, o, none⟩) m d], .ro (SlR 4 A n (colCells cs)), .ro (RwsIn (some ⟨g, o, none⟩) m l)] := ⟨_, rfl⟩
        rw [← hKL] at K2
        rw [← hgb2] at hKL
        have HF : Hid (∀ wv, Hold M none w wv KL → wv.cell? ⟨gb, 0, none⟩ = some (.int .i64 x.id) ∧ wv.cell? ⟨gb, 1, none⟩ = some (.slice x.A x.n x.c) ∧ gb < wv.heap.size ∧ wv.cell? ⟨w.heap.size, 0, none⟩ = some (.string nm) ∧ wv.cell? ⟨w.heap.size, 1, none⟩ = some (.slice A n c) ∧ wv.cell? ⟨w.heap.size, 2, none⟩ = some (.int .i64 nx) ∧ wv.cell? ⟨w.heap.size, 3, none⟩ = some (.slice (some ⟨g, o, none⟩) m d) ∧ w.heap.size < wv.heap.size) := hid fun wv HC => by
          rw [hKL] at HC
          have b0 := HC.cst_ 0 rfl
          have b1 := HC.cst_ 1 rfl
          exact ⟨cell_of_row _ _ 0 _ _ _ b0, cell_of_row _ _ 1 _ _ _ b0, Blk.lt b0, cell_of_row _ _ 0 _ _ _ b1, cell_of_row _ _ 1 _ _ _ b1, cell_of_row _ _ 2 _ _ _ b1, cell_of_row _ _ 3 _ _ _ b1, Blk.lt b1⟩
        have HKL : Hid (∀ wv, Hold M none w wv KL → Ro wv (Mut M KL) (SlR 4 A n (colCells cs)) ∧ Ro wv (Mut M KL) (VlsIn x.A x.n x.vs)) := hid fun wv HC => by
          rw [hKL] at HC ⊢
          exact ⟨HC.ro 2 rfl, (HC.ro 3 rfl).imp fun w2 h2 => h2.2 x HXM.out⟩
        go_wp2_with fail
        rw [← hgb2]
        have HGB := hid hgb2
        have HKE := hid hKL
        clear hgb2 hKL
        generalize wr.alloc (.cells #[.int .i64 x.id, .slice x.A x.n x.c] 119) = w2 at *
        refine wp_region_any (by kernel_rfl) ?_
        refine wpAny_hold 33 71 (KL) (spL [(64, IsV (.int .i64 (fitsT cs x.vs)))]) (by kernel_rfl) (by kernel_rfl) (by kernel_rfl) rfl ?_ (K2.drew) ?_
        · exact stays_cons isV_mono (stays_nil _)
        simp only [zd, Act.put, List.getElem_toArray, List.getElem_cons_zero, List.getElem_cons_succ, zl]
        refine dw_val rfl rfl rfl ?_; apply Exists.intro; refine ⟨fun wv HC => ?_, ?_⟩
        · obtain ⟨f0, f1, f2, f3, f4, f5, f6, f7⟩ := HF.out _ HC; go_simp <;> rfl
        simp only [Act.put, zl]
        refine dw_val rfl rfl rfl ?_; apply Exists.intro; refine ⟨fun wv HC => ?_, ?_⟩
        · obtain ⟨f0, f1, f2, f3, f4, f5, f6, f7⟩ := HF.out _ HC; go_simp <;> rfl
        simp only [Act.put, zl]
        refine dw_val rfl rfl rfl ?_; apply Exists.intro; refine ⟨fun wv HC => ?_, ?_⟩
        · obtain ⟨f0, f1, f2, f3, f4, f5, f6, f7⟩ := HF.out _ HC; go_simp <;> rfl
        simp only [Act.put, zl]
        refine dw_val rfl rfl rfl ?_; apply Exists.intro; refine ⟨fun wv HC => ?_, ?_⟩
        · obtain ⟨f0, f1, f2, f3, f4, f5, f6, f7⟩ := HF.out _ HC; go_simp <;> rfl
        simp only [Act.put, zl]
        refine dw_val rfl rfl rfl ?_; apply Exists.intro; refine ⟨fun wv HC => ?_, ?_⟩
        · obtain ⟨f0, f1, f2, f3, f4, f5, f6, f7⟩ := HF.out _ HC; go_simp <;> rfl
        simp only [Act.put, zl]
        refine dw_val rfl rfl rfl ?_; apply Exists.intro; refine ⟨fun wv HC => ?_, ?_⟩
        · obtain ⟨f0, f1, f2, f3, f4, f5, f6, f7⟩ := HF.out _ HC; go_simp <;> rfl
        simp only [Act.put, zl]
        refine dw_val rfl rfl rfl ?_; apply Exists.intro; refine ⟨fun wv HC => ?_, ?_⟩
        · obtain ⟨f0, f1, f2, f3, f4, f5, f6, f7⟩ := HF.out _ HC; go_simp <;> rfl
        simp only [Act.put, zl]
        refine dw_val rfl rfl rfl ?_; apply Exists.intro; refine ⟨fun wv HC => ?_, ?_⟩
        · obtain ⟨f0, f1, f2, f3, f4, f5, f6, f7⟩ := HF.out _ HC; go_simp <;> rfl
        simp only [Act.put, zl]
        refine dw_val rfl rfl rfl ?_; apply Exists.intro; refine ⟨fun wv HC => ?_, ?_⟩
        · obtain ⟨f0, f1, f2, f3, f4, f5, f6, f7⟩ := HF.out _ HC; go_simp <;> rfl
        simp only [Act.put, zl]
        refine dw_val rfl rfl rfl ?_; apply Exists.intro; refine ⟨fun wv HC => ?_, ?_⟩
        · obtain ⟨f0, f1, f2, f3, f4, f5, f6, f7⟩ := HF.out _ HC; go_simp <;> rfl
        simp only [Act.put, zl]
        refine dw_val rfl rfl rfl ?_; apply Exists.intro; refine ⟨fun wv HC => ?_, ?_⟩
        · obtain ⟨f0, f1, f2, f3, f4, f5, f6, f7⟩ := HF.out _ HC; go_simp <;> rfl
        simp only [Act.put, zl]
        refine dw_val rfl rfl rfl ?_; apply Exists.intro; refine ⟨fun wv HC => ?_, ?_⟩
        · obtain ⟨f0, f1, f2, f3, f4, f5, f6, f7⟩ := HF.out _ HC; go_simp <;> rfl
        simp only [Act.put, zl]
        refine dw_val rfl rfl rfl ?_; apply Exists.intro; refine ⟨fun wv HC => ?_, ?_⟩
        · obtain ⟨f0, f1, f2, f3, f4, f5, f6, f7⟩ := HF.out _ HC; go_simp <;> rfl
        simp only [Act.put, zl]
        refine dw_val rfl rfl rfl ?_; apply Exists.intro; refine ⟨fun wv HC => ?_, ?_⟩
        · obtain ⟨f0, f1, f2, f3, f4, f5, f6, f7⟩ := HF.out _ HC; go_simp <;> rfl
        simp only [Act.put, zl]
        refine dw_skip rfl rfl rfl ?_
        simp only [Act.put, zl]
        refine dw_skip rfl rfl rfl ?_
        simp only [Act.put, zl]
        refine dw_skip rfl rfl rfl ?_
        simp only [Act.put, zl]
        refine dw_skip rfl rfl rfl ?_
        simp only [Act.put, zl]
        refine dw_skip rfl rfl rfl ?_
        simp only [Act.put, zl]
        refine dw_skip rfl rfl rfl ?_
        simp only [Act.put, zl]
        refine dw_skip rfl rfl rfl ?_
        simp only [Act.put, zl]
        refine dw_skip rfl rfl rfl ?_
        simp only [Act.put, zl]
        refine dw_skip rfl rfl rfl ?_
        simp only [Act.put, zl]
        refine dw_skip rfl rfl rfl ?_
        simp only [Act.put, zl]
        refine dw_val rfl rfl rfl ?_; apply Exists.intro; refine ⟨fun wv HC => ?_, ?_⟩
        · obtain ⟨f0, f1, f2, f3, f4, f5, f6, f7⟩ := HF.out _ HC; go_simp <;> rfl
        simp only [Act.put, zl]
        refine dw_val rfl rfl rfl ?_; apply Exists.intro; refine ⟨fun wv HC => ?_, ?_⟩
        · obtain ⟨f0, f1, f2, f3, f4, f5, f6, f7⟩ := HF.out _ HC; go_simp <;> rfl
        simp only [Act.put, zl]
        refine dw_val rfl rfl rfl ?_; apply Exists.intro; refine ⟨fun wv HC => ?_, ?_⟩
        · obtain ⟨f0, f1, f2, f3, f4, f5, f6, f7⟩ := HF.out _ HC; go_simp <;> rfl
        simp only [Act.put, zl]
        refine dw_val rfl rfl rfl ?_; apply Exists.intro; refine ⟨fun wv HC => ?_, ?_⟩
        · obtain ⟨f0, f1, f2, f3, f4, f5, f6, f7⟩ := HF.out _ HC; go_simp <;> rfl
        simp only [Act.put, zl]
        refine dw_val rfl rfl rfl ?_; apply Exists.intro; refine ⟨fun wv HC => ?_, ?_⟩
        · obtain ⟨f0, f1, f2, f3, f4, f5, f6, f7⟩ := HF.out _ HC; go_simp <;> rfl
        simp only [Act.put, zl]
        refine dw_val rfl rfl rfl ?_; apply Exists.intro; refine ⟨fun wv HC => ?_, ?_⟩
        · obtain ⟨f0, f1, f2, f3, f4, f5, f6, f7⟩ := HF.out _ HC; go_simp <;> rfl
        simp only [Act.put, zl]
        refine dw_val rfl rfl rfl ?_; apply Exists.intro; refine ⟨fun wv HC => ?_, ?_⟩
        · obtain ⟨f0, f1, f2, f3, f4, f5, f6, f7⟩ := HF.out _ HC; go_simp <;> rfl
        simp only [Act.put, zl]
        refine dw_callR 64 (IsV (.int .i64 (fitsT cs x.vs))) (f := 73) (args := #[.agg #[.string nm, .slice A n c], .slice x.A x.n x.c]) rfl rfl rfl rfl (fun wv => ?_) (fun wv HC hrm hD => ?_) ?_
        · go_simp <;> rfl
        · refine (rtfits_any _ _ HC.mutLt nm A n c cs x.A x.n x.c x.vs ((HKL.out wv HC).1) ((HKL.out wv HC).2) hn hxn hrok.vs).mono ?_
          rintro e w5 ⟨rfl, b5⟩
          exact ⟨_, rfl, rfl, HC.call b5, RM.below b5⟩
        rintro u wx HCx hu
        obtain rfl : u = _ := hu
        clear HCx
        simp only [Act.put, zl]
        refine dw_val rfl rfl rfl ?_; apply Exists.intro; refine ⟨fun wv HC => ?_, ?_⟩
        · obtain ⟨f0, f1, f2, f3, f4, f5, f6, f7⟩ := HF.out _ HC; go_simp <;> rfl
        simp only [Act.put, zl]
        refine rel_nil ?_
        rintro wx2 HX2
        rintro _hrm _HG
        rw [HKE.out] at HX2
        clear _hrm _HG
        by_cases a3 : fitsT cs x.vs = 0
        · have HS2 := hid (show okR cs nx 0 (l.map Rw.row) = okR cs nx x.id ((l.map Rw.row).drop (j + 1)) by rw [HS.out]; exact okR_good HX.out (by have := HL0.out; have := HA.out; omega) (by have := HA.out; omega) a3)
          have HP2 := hid (show (j + 1 = 0 → x.id = 0) ∧ ∀ q, j + 1 = q + 1 → ∃ r : Rw, l[q]? = some r ∧ r.id = x.id from ⟨fun h => by omega, fun q hq => ⟨x, (show j = q by omega) ▸ HXL.out, rfl⟩⟩)
          have h0x : 0 ≤ x.id := by have := HA.out; omega
          rw [a3]
          clear a3
          go_wp2_with fail
          go_roundw
          case rel => exact ⟨j + 1, x.id, by omega, by go_num, h0x, HP2, HS2, HX2.drop (List.sublist_cons_self _ _)⟩
          case measure => simp [intOf]; omega
        · have a3d : (fitsT cs x.vs != 0) = true := by simp [a3]
          have HN := hid (show tabB nm cs nx (l.map Rw.row) = false from tabB_5 (by rw [HS.out]; exact okR_bad HX.out (.inr (.inr a3))))
          clear a3
          go_wp2_with fail
          go_ret
          exact ⟨by rw [HN.out] <;> rfl, HX2.below⟩
      · obtain ⟨p, hp⟩ : ∃ p, j = p + 1 := ⟨j - 1, by omega⟩
        obtain ⟨r, hr, hrl⟩ := HP.out.2 p hp
        have HR := hid hr
        have HRL := hid hrl
        clear hr hrl
        have hj0d : decide ((j : Int) > 0) = true := by simp; omega
        have hj0d2 : decide (0 < j) = true := by simp; omega
        have hj0d3 : decide ((0 : Int) < (j : Int)) = true := by simp; omega
        have hw1 : IntKind.i64.wrap ((j : Int) - 1) = (p : Int) := by rw [IntKind.wrap_i64]; omega
        have p0 : (0 : Int) ≤ (p : Int) := by omega
        have p1 : (p : Int) < (m : Int) := by omega
        have hpm : p < m := by omega
        have HPJ := hid hp
        clear hp hj0
        by_cases a4 : r.id ≥ x.id
        · have a4d : decide (r.id ≥ x.id) = true := by simpa using a4
          have HN := hid (show tabB nm cs nx (l.map Rw.row) = false from tabB_5 (by rw [HS.out]; exact okR_bad HX.out (.inl (show x.id ≤ lst by have := HRL.out; omega))))
          clear a4
          obtain ⟨gb, hgb2⟩ : ∃ gb, gb = wr.heap.size := ⟨_, rfl⟩
          obtain ⟨KL, hKL⟩ : ∃ KL : List Hp, KL = [Hp.cst wr.heap.size 119 #[.int .i64 x.id, .slice x.A x.n x.c], .cst w.heap.size 58 #[.string nm, .slice A n c, .int .i64 nx, .slice (some ⟨g, o, none⟩) m d], .ro (SlR 4 A n (colCells cs)), .ro (RwsIn (some ⟨g, o, none⟩) m l)] := ⟨_, rfl⟩
          rw [← hKL] at K2
          rw [← hgb2] at hKL
          have HF : Hid (∀ wv, Hold M none w wv KL → wv.cell? ⟨gb, 0, none⟩ = some (.int .i64 x.id) ∧ wv.cell? ⟨gb, 1, none⟩ = some (.slice x.A x.n x.c) ∧ gb < wv.heap.size ∧ wv.cell? ⟨w.heap.size, 0, none⟩ = some (.string nm) ∧ wv.cell? ⟨w.heap.size, 1, none⟩ = some (.slice A n c) ∧ wv.cell? ⟨w.heap.size, 2, none⟩ = some (.int .i64 nx) ∧ wv.cell? ⟨w.heap.size, 3, none⟩ = some (.slice (some ⟨g, o, none⟩) m d) ∧ w.heap.size < wv.heap.size ∧ wv.cell? ⟨g, o + p * 2, none⟩ = some (.int .i64 r.id) ∧ g < wv.heap.size) := hid fun wv HC => by
            rw [hKL] at HC
            have b0 := HC.cst_ 0 rfl
            have b1 := HC.cst_ 1 rfl
            obtain ⟨g', o', e', hl, e0, e1, _⟩ := (HC.ro 3 rfl).now.at_ HR.out
            obtain ⟨rfl, rfl⟩ : g = g' ∧ o = o' := by injection e' with e'; injection e' with a1 a2; exact ⟨a1, a2⟩
            exact ⟨cell_of_row _ _ 0 _ _ _ b0, cell_of_row _ _ 1 _ _ _ b0, Blk.lt b0, cell_of_row _ _ 0 _ _ _ b1, cell_of_row _ _ 1 _ _ _ b1, cell_of_row _ _ 2 _ _ _ b1, cell_of_row _ _ 3 _ _ _ b1, Blk.lt b1, e0, hl⟩
          have HKL : Hid (∀ wv, Hold M none w wv KL → Ro wv (Mut M KL) (SlR 4 A n (colCells cs)) ∧ Ro wv (Mut M KL) (VlsIn x.A x.n x.vs)) := hid fun wv HC => by
            rw [hKL] at HC ⊢
            exact ⟨HC.ro 2 rfl, (HC.ro 3 rfl).imp fun w2 h2 => h2.2 x HXM.out⟩
          go_wp2_with fail
          rw [← hgb2]
          have HGB := hid hgb2
          have HKE := hid hKL
          clear hgb2 hKL
          generalize wr.alloc (.cells #[.int .i64 x.id, .slice x.A x.n x.c] 119) = w2 at *
          refine wp_region_any (by kernel_rfl) ?_
          refine wpAny_hold 33 71 (KL) (spL []) (by kernel_rfl) (by kernel_rfl) (by kernel_rfl) rfl ?_ (K2.drew) ?_
          · exact stays_nil _
          simp only [zd, Act.put, List.getElem_toArray, List.getElem_cons_zero, List.getElem_cons_succ, zl]
          refine dw_val rfl rfl rfl ?_; apply Exists.intro; refine ⟨fun wv HC => ?_, ?_⟩
          · obtain ⟨f0, f1, f2, f3, f4, f5, f6, f7, f8, f9⟩ := HF.out _ HC; go_simp <;> rfl
          simp only [Act.put, zl]
          refine dw_val rfl rfl rfl ?_; apply Exists.intro; refine ⟨fun wv HC => ?_, ?_⟩
          · obtain ⟨f0, f1, f2, f3, f4, f5, f6, f7, f8, f9⟩ := HF.out _ HC; go_simp <;> rfl
          simp only [Act.put, zl]
          refine dw_val rfl rfl rfl ?_; apply Exists.intro; refine ⟨fun wv HC => ?_, ?_⟩
          · obtain ⟨f0, f1, f2, f3, f4, f5, f6, f7, f8, f9⟩ := HF.out _ HC; go_simp <;> rfl
          simp only [Act.put, zl]
          refine dw_val rfl rfl rfl ?_; apply Exists.intro; refine ⟨fun wv HC => ?_, ?_⟩
          · obtain ⟨f0, f1, f2, f3, f4, f5, f6, f7, f8, f9⟩ := HF.out _ HC; go_simp <;> rfl
          simp only [Act.put, zl]
          refine dw_val rfl rfl rfl ?_; apply Exists.intro; refine ⟨fun wv HC => ?_, ?_⟩
          · obtain ⟨f0, f1, f2, f3, f4, f5, f6, f7, f8, f9⟩ := HF.out _ HC; go_simp <;> rfl
          simp only [Act.put, zl]
          refine dw_val rfl rfl rfl ?_; apply Exists.intro; refine ⟨fun wv HC => ?_, ?_⟩
          · obtain ⟨f0, f1, f2, f3, f4, f5, f6, f7, f8, f9⟩ := HF.out _ HC; go_simp <;> rfl
          simp only [Act.put, zl]
          refine dw_val rfl rfl rfl ?_; apply Exists.intro; refine ⟨fun wv HC => ?_, ?_⟩
          · obtain ⟨f0, f1, f2, f3, f4, f5, f6, f7, f8, f9⟩ := HF.out _ HC; go_simp <;> rfl
          simp only [Act.put, zl]
          refine dw_val rfl rfl rfl ?_; apply Exists.intro; refine ⟨fun wv HC => ?_, ?_⟩
          · obtain ⟨f0, f1, f2, f3, f4, f5, f6, f7, f8, f9⟩ := HF.out _ HC; go_simp <;> rfl
          simp only [Act.put, zl]
          refine dw_val rfl rfl rfl ?_; apply Exists.intro; refine ⟨fun wv HC => ?_, ?_⟩
          · obtain ⟨f0, f1, f2, f3, f4, f5, f6, f7, f8, f9⟩ := HF.out _ HC; go_simp <;> rfl
          simp only [Act.put, zl]
          refine dw_val rfl rfl rfl ?_; apply Exists.intro; refine ⟨fun wv HC => ?_, ?_⟩
          · obtain ⟨f0, f1, f2, f3, f4, f5, f6, f7, f8, f9⟩ := HF.out _ HC; go_simp <;> rfl
          simp only [Act.put, zl]
          refine dw_val rfl rfl rfl ?_; apply Exists.intro; refine ⟨fun wv HC => ?_, ?_⟩
          · obtain ⟨f0, f1, f2, f3, f4, f5, f6, f7, f8, f9⟩ := HF.out _ HC; go_simp <;> rfl
          simp only [Act.put, zl]
          refine dw_val rfl rfl rfl ?_; apply Exists.intro; refine ⟨fun wv HC => ?_, ?_⟩
          · obtain ⟨f0, f1, f2, f3, f4, f5, f6, f7, f8, f9⟩ := HF.out _ HC; go_simp <;> rfl
          simp only [Act.put, zl]
          refine dw_val rfl rfl rfl ?_; apply Exists.intro; refine ⟨fun wv HC => ?_, ?_⟩
          · obtain ⟨f0, f1, f2, f3, f4, f5, f6, f7, f8, f9⟩ := HF.out _ HC; go_simp <;> rfl
          simp only [Act.put, zl]
          refine dw_val rfl rfl rfl ?_; apply Exists.intro; refine ⟨fun wv HC => ?_, ?_⟩
          · obtain ⟨f0, f1, f2, f3, f4, f5, f6, f7, f8, f9⟩ := HF.out _ HC; go_simp <;> rfl
          simp only [Act.put, zl]
          refine dw_val rfl rfl rfl ?_; apply Exists.intro; refine ⟨fun wv HC => ?_, ?_⟩
          · obtain ⟨f0, f1, f2, f3, f4, f5, f6, f7, f8, f9⟩ := HF.out _ HC; go_simp <;> rfl
          simp only [Act.put, zl]
          refine dw_val rfl rfl rfl ?_; apply Exists.intro; refine ⟨fun wv HC => ?_, ?_⟩
          · obtain ⟨f0, f1, f2, f3, f4, f5, f6, f7, f8, f9⟩ := HF.out _ HC; go_simp <;> rfl
          simp only [Act.put, zl]
          refine dw_val rfl rfl rfl ?_; apply Exists.intro; refine ⟨fun wv HC => ?_, ?_⟩
          · obtain ⟨f0, f1, f2, f3, f4, f5, f6, f7, f8, f9⟩ := HF.out _ HC; go_simp <;> rfl
          simp only [Act.put, zl]
          refine dw_val rfl rfl rfl ?_; apply Exists.intro; refine ⟨fun wv HC => ?_, ?_⟩
          · obtain ⟨f0, f1, f2, f3, f4, f5, f6, f7, f8, f9⟩ := HF.out _ HC; go_simp <;> rfl
          simp only [Act.put, zl]
          refine dw_val rfl rfl rfl ?_; apply Exists.intro; refine ⟨fun wv HC => ?_, ?_⟩
          · obtain ⟨f0, f1, f2, f3, f4, f5, f6, f7, f8, f9⟩ := HF.out _ HC; go_simp <;> rfl
          simp only [Act.put, zl]
          refine dw_val rfl rfl rfl ?_; apply Exists.intro; refine ⟨fun wv HC => ?_, ?_⟩
          · obtain ⟨f0, f1, f2, f3, f4, f5, f6, f7, f8, f9⟩ := HF.out _ HC; go_simp <;> rfl
          simp only [Act.put, zl]
          refine dw_val rfl rfl rfl ?_; apply Exists.intro; refine ⟨fun wv HC => ?_, ?_⟩
          · obtain ⟨f0, f1, f2, f3, f4, f5, f6, f7, f8, f9⟩ := HF.out _ HC; go_simp <;> rfl
          simp only [Act.put, zl]
          refine dw_val rfl rfl rfl ?_; apply Exists.intro; refine ⟨fun wv HC => ?_, ?_⟩
          · obtain ⟨f0, f1, f2, f3, f4, f5, f6, f7, f8, f9⟩ := HF.out _ HC; go_simp <;> rfl
          simp only [Act.put, zl]
          refine dw_val rfl rfl rfl ?_; apply Exists.intro; refine ⟨fun wv HC => ?_, ?_⟩
          · obtain ⟨f0, f1, f2, f3, f4, f5, f6, f7, f8, f9⟩ := HF.out _ HC; go_simp <;> rfl
          simp only [Act.put, zl]
          refine dw_val rfl rfl rfl ?_; apply Exists.intro; refine ⟨fun wv HC => ?_, ?_⟩
          · obtain ⟨f0, f1, f2, f3, f4, f5, f6, f7, f8, f9⟩ := HF.out _ HC; go_simp <;> rfl
          simp only [Act.put, zl]
          refine dw_val rfl rfl rfl ?_; apply Exists.intro; refine ⟨fun wv HC => ?_, ?_⟩
          · obtain ⟨f0, f1, f2, f3, f4, f5, f6, f7, f8, f9⟩ := HF.out _ HC; go_simp <;> rfl
          simp only [Act.put, zl]
          refine dw_val rfl rfl rfl ?_; apply Exists.intro; refine ⟨fun wv HC => ?_, ?_⟩
          · obtain ⟨f0, f1, f2, f3, f4, f5, f6, f7, f8, f9⟩ := HF.out _ HC; go_simp <;> rfl
          simp only [Act.put, zl]
          refine dw_val rfl rfl rfl ?_; apply Exists.intro; refine ⟨fun wv HC => ?_, ?_⟩
          · obtain ⟨f0, f1, f2, f3, f4, f5, f6, f7, f8, f9⟩ := HF.out _ HC; go_simp <;> rfl
          simp only [Act.put, zl]
          refine dw_skip rfl rfl rfl ?_
          simp only [Act.put, zl]
          refine dw_skip rfl rfl rfl ?_
          simp only [Act.put, zl]
          refine dw_skip rfl rfl rfl ?_
          simp only [Act.put, zl]
          refine dw_skip rfl rfl rfl ?_
          simp only [Act.put, zl]
          refine dw_skip rfl rfl rfl ?_
          simp only [Act.put, zl]
          refine dw_skip rfl rfl rfl ?_
          simp only [Act.put, zl]
          refine rel_nil ?_
          rintro wx2 HX2
          rintro _hrm _HG
          rw [HKE.out] at HX2
          clear _hrm _HG
          go_wp2_with fail
          go_ret
          exact ⟨by rw [HN.out] <;> rfl, HX2.below⟩
        · have a4d : decide (r.id ≥ x.id) = false := by simpa using a4
          have HA4 := hid a4
          clear a4
          obtain ⟨gb, hgb2⟩ : ∃ gb, gb = wr.heap.size := ⟨_, rfl⟩
          obtain ⟨KL, hKL⟩ : ∃ KL : List Hp, KL = [Hp.cst wr.heap.size 119 #[.int .i64 x.id, .slice x.A x.n x.c], .cst w.heap.size 58 #[.string nm, .slice A n c, .int .i64 nx, .slice (some ⟨g, o, none⟩) m d], .ro (SlR 4 A n (colCells cs)), .ro (RwsIn (some ⟨g, o, none⟩) m l)] := ⟨_, rfl⟩
          rw [← hKL] at K2
          rw [← hgb2] at hKL
          have HF : Hid (∀ wv, Hold M none w wv KL → wv.cell? ⟨gb, 0, none⟩ = some (.int .i64 x.id) ∧ wv.cell? ⟨gb, 1, none⟩ = some (.slice x.A x.n x.c) ∧ gb < wv.heap.size ∧ wv.cell? ⟨w.heap.size, 0, none⟩ = some (.string nm) ∧ wv.cell? ⟨w.heap.size, 1, none⟩ = some (.slice A n c) ∧ wv.cell? ⟨w.heap.size, 2, none⟩ = some (.int .i64 nx) ∧ wv.cell? ⟨w.heap.size, 3, none⟩ = some (.slice (some ⟨g, o, none⟩) m d) ∧ w.heap.size < wv.heap.size ∧ wv.cell? ⟨g, o + p * 2, none⟩ = some (.int .i64 r.id) ∧ g < wv.heap.size) := hid fun wv HC => by
            rw [hKL] at HC
            have b0 := HC.cst_ 0 rfl
            have b1 := HC.cst_ 1 rfl
            obtain ⟨g', o', e', hl, e0, e1, _⟩ := (HC.ro 3 rfl).now.at_ HR.out
            obtain ⟨rfl, rfl⟩ : g = g' ∧ o = o' := by injection e' with e'; injection e' with a1 a2; exact ⟨a1, a2⟩
            exact ⟨cell_of_row _ _ 0 _ _ _ b0, cell_of_row _ _ 1 _ _ _ b0, Blk.lt b0, cell_of_row _ _ 0 _ _ _ b1, cell_of_row _ _ 1 _ _ _ b1, cell_of_row _ _ 2 _ _ _ b1, cell_of_row _ _ 3 _ _ _ b1, Blk.lt b1, e0, hl⟩
          have HKL : Hid (∀ wv, Hold M none w wv KL → Ro wv (Mut M KL) (SlR 4 A n (colCells cs)) ∧ Ro wv (Mut M KL) (VlsIn x.A x.n x.vs)) := hid fun wv HC => by
            rw [hKL] at HC ⊢
            exact ⟨HC.ro 2 rfl, (HC.ro 3 rfl).imp fun w2 h2 => h2.2 x HXM.out⟩
          go_wp2_with fail
          rw [← hgb2]
          have HGB := hid hgb2
          have HKE := hid hKL
          clear hgb2 hKL
          generalize wr.alloc (.cells #[.int .i64 x.id, .slice x.A x.n x.c] 119) = w2 at *
          refine wp_region_any (by kernel_rfl) ?_
          refine wpAny_hold 33 71 (KL) (spL [(64, IsV (.int .i64 (fitsT cs x.vs)))]) (by kernel_rfl) (by kernel_rfl) (by kernel_rfl) rfl ?_ (K2.drew) ?_
          · exact stays_cons isV_mono (stays_nil _)
          simp only [zd, Act.put, List.getElem_toArray, List.getElem_cons_zero, List.getElem_cons_succ, zl]
          refine dw_val rfl rfl rfl ?_; apply Exists.intro; refine ⟨fun wv HC => ?_, ?_⟩
          · obtain ⟨f0, f1, f2, f3, f4, f5, f6, f7, f8, f9⟩ := HF.out _ HC; go_simp <;> rfl
          simp only [Act.put, zl]
          refine dw_val rfl rfl rfl ?_; apply Exists.intro; refine ⟨fun wv HC => ?_, ?_⟩
          · obtain ⟨f0, f1, f2, f3, f4, f5, f6, f7, f8, f9⟩ := HF.out _ HC; go_simp <;> rfl
          simp only [Act.put, zl]
          refine dw_val rfl rfl rfl ?_; apply Exists.intro; refine ⟨fun wv HC => ?_, ?_⟩
          · obtain ⟨f0, f1, f2, f3, f4, f5, f6, f7, f8, f9⟩ := HF.out _ HC; go_simp <;> rfl
          simp only [Act.put, zl]
          refine dw_val rfl rfl rfl ?_; apply Exists.intro; refine ⟨fun wv HC => ?_, ?_⟩
          · obtain ⟨f0, f1, f2, f3, f4, f5, f6, f7, f8, f9⟩ := HF.out _ HC; go_simp <;> rfl
          simp only [Act.put, zl]
          refine dw_val rfl rfl rfl ?_; apply Exists.intro; refine ⟨fun wv HC => ?_, ?_⟩
          · obtain ⟨f0, f1, f2, f3, f4, f5, f6, f7, f8, f9⟩ := HF.out _ HC; go_simp <;> rfl
          simp only [Act.put, zl]
          refine dw_val rfl rfl rfl ?_; apply Exists.intro; refine ⟨fun wv HC => ?_, ?_⟩
          · obtain ⟨f0, f1, f2, f3, f4, f5, f6, f7, f8, f9⟩ := HF.out _ HC; go_simp <;> rfl
          simp only [Act.put, zl]
          refine dw_val rfl rfl rfl ?_; apply Exists.intro; refine ⟨fun wv HC => ?_, ?_⟩
          · obtain ⟨f0, f1, f2, f3, f4, f5, f6, f7, f8, f9⟩ := HF.out _ HC; go_simp <;> rfl
          simp only [Act.put, zl]
          refine dw_val rfl rfl rfl ?_; apply Exists.intro; refine ⟨fun wv HC => ?_, ?_⟩
          · obtain ⟨f0, f1, f2, f3, f4, f5, f6, f7, f8, f9⟩ := HF.out _ HC; go_simp <;> rfl
          simp only [Act.put, zl]
          refine dw_val rfl rfl rfl ?_; apply Exists.intro; refine ⟨fun wv HC => ?_, ?_⟩
          · obtain ⟨f0, f1, f2, f3, f4, f5, f6, f7, f8, f9⟩ := HF.out _ HC; go_simp <;> rfl
          simp only [Act.put, zl]
          refine dw_val rfl rfl rfl ?_; apply Exists.intro; refine ⟨fun wv HC => ?_, ?_⟩
          · obtain ⟨f0, f1, f2, f3, f4, f5, f6, f7, f8, f9⟩ := HF.out _ HC; go_simp <;> rfl
          simp only [Act.put, zl]
          refine dw_val rfl rfl rfl ?_; apply Exists.intro; refine ⟨fun wv HC => ?_, ?_⟩
          · obtain ⟨f0, f1, f2, f3, f4, f5, f6, f7, f8, f9⟩ := HF.out _ HC; go_simp <;> rfl
          simp only [Act.put, zl]
          refine dw_val rfl rfl rfl ?_; apply Exists.intro; refine ⟨fun wv HC => ?_, ?_⟩
          · obtain ⟨f0, f1, f2, f3, f4, f5, f6, f7, f8, f9⟩ := HF.out _ HC; go_simp <;> rfl
          simp only [Act.put, zl]
          refine dw_val rfl rfl rfl ?_; apply Exists.intro; refine ⟨fun wv HC => ?_, ?_⟩
          · obtain ⟨f0, f1, f2, f3, f4, f5, f6, f7, f8, f9⟩ := HF.out _ HC; go_simp <;> rfl
          simp only [Act.put, zl]
          refine dw_val rfl rfl rfl ?_; apply Exists.intro; refine ⟨fun wv HC => ?_, ?_⟩
          · obtain ⟨f0, f1, f2, f3, f4, f5, f6, f7, f8, f9⟩ := HF.out _ HC; go_simp <;> rfl
          simp only [Act.put, zl]
          refine dw_val rfl rfl rfl ?_; apply Exists.intro; refine ⟨fun wv HC => ?_, ?_⟩
          · obtain ⟨f0, f1, f2, f3, f4, f5, f6, f7, f8, f9⟩ := HF.out _ HC; go_simp <;> rfl
          simp only [Act.put, zl]
          refine dw_val rfl rfl rfl ?_; apply Exists.intro; refine ⟨fun wv HC => ?_, ?_⟩
          · obtain ⟨f0, f1, f2, f3, f4, f5, f6, f7, f8, f9⟩ := HF.out _ HC; go_simp <;> rfl
          simp only [Act.put, zl]
          refine dw_val rfl rfl rfl ?_; apply Exists.intro; refine ⟨fun wv HC => ?_, ?_⟩
          · obtain ⟨f0, f1, f2, f3, f4, f5, f6, f7, f8, f9⟩ := HF.out _ HC; go_simp <;> rfl
          simp only [Act.put, zl]
          refine dw_val rfl rfl rfl ?_; apply Exists.intro; refine ⟨fun wv HC => ?_, ?_⟩
          · obtain ⟨f0, f1, f2, f3, f4, f5, f6, f7, f8, f9⟩ := HF.out _ HC; go_simp <;> rfl
          simp only [Act.put, zl]
          refine dw_val rfl rfl rfl ?_; apply Exists.intro; refine ⟨fun wv HC => ?_, ?_⟩
          · obtain ⟨f0, f1, f2, f3, f4, f5, f6, f7, f8, f9⟩ := HF.out _ HC; go_simp <;> rfl
          simp only [Act.put, zl]
          refine dw_val rfl rfl rfl ?_; apply Exists.intro; refine ⟨fun wv HC => ?_, ?_⟩
          · obtain ⟨f0, f1, f2, f3, f4, f5, f6, f7, f8, f9⟩ := HF.out _ HC; go_simp <;> rfl
          simp only [Act.put, zl]
          refine dw_val rfl rfl rfl ?_; apply Exists.intro; refine ⟨fun wv HC => ?_, ?_⟩
          · obtain ⟨f0, f1, f2, f3, f4, f5, f6, f7, f8, f9⟩ := HF.out _ HC; go_simp <;> rfl
          simp only [Act.put, zl]
          refine dw_val rfl rfl rfl ?_; apply Exists.intro; refine ⟨fun wv HC => ?_, ?_⟩
          · obtain ⟨f0, f1, f2, f3, f4, f5, f6, f7, f8, f9⟩ := HF.out _ HC; go_simp <;> rfl
          simp only [Act.put, zl]
          refine dw_val rfl rfl rfl ?_; apply Exists.intro; refine ⟨fun wv HC => ?_, ?_⟩
          · obtain ⟨f0, f1, f2, f3, f4, f5, f6, f7, f8, f9⟩ := HF.out _ HC; go_simp <;> rfl
          simp only [Act.put, zl]
          refine dw_val rfl rfl rfl ?_; apply Exists.intro; refine ⟨fun wv HC => ?_, ?_⟩
          · obtain ⟨f0, f1, f2, f3, f4, f5, f6, f7, f8, f9⟩ := HF.out _ HC; go_simp <;> rfl
          simp only [Act.put, zl]
          refine dw_val rfl rfl rfl ?_; apply Exists.intro; refine ⟨fun wv HC => ?_, ?_⟩
          · obtain ⟨f0, f1, f2, f3, f4, f5, f6, f7, f8, f9⟩ := HF.out _ HC; go_simp <;> rfl
          simp only [Act.put, zl]
          refine dw_val rfl rfl rfl ?_; apply Exists.intro; refine ⟨fun wv HC => ?_, ?_⟩
          · obtain ⟨f0, f1, f2, f3, f4, f5, f6, f7, f8, f9⟩ := HF.out _ HC; go_simp <;> rfl
          simp only [Act.put, zl]
          refine dw_val rfl rfl rfl ?_; apply Exists.intro; refine ⟨fun wv HC => ?_, ?_⟩
          · obtain ⟨f0, f1, f2, f3, f4, f5, f6, f7, f8, f9⟩ := HF.out _ HC; go_simp <;> rfl
          simp only [Act.put, zl]
          refine dw_val rfl rfl rfl ?_; apply Exists.intro; refine ⟨fun wv HC => ?_, ?_⟩
          · obtain ⟨f0, f1, f2, f3, f4, f5, f6, f7, f8, f9⟩ := HF.out _ HC; go_simp <;> rfl
          simp only [Act.put, zl]
          refine dw_val rfl rfl rfl ?_; apply Exists.intro; refine ⟨fun wv HC => ?_, ?_⟩
          · obtain ⟨f0, f1, f2, f3, f4, f5, f6, f7, f8, f9⟩ := HF.out _ HC; go_simp <;> rfl
          simp only [Act.put, zl]
          refine dw_val rfl rfl rfl ?_; apply Exists.intro; refine ⟨fun wv HC => ?_, ?_⟩
          · obtain ⟨f0, f1, f2, f3, f4, f5, f6, f7, f8, f9⟩ := HF.out _ HC; go_simp <;> rfl
          simp only [Act.put, zl]
          refine dw_val rfl rfl rfl ?_; apply Exists.intro; refine ⟨fun wv HC => ?_, ?_⟩
          · obtain ⟨f0, f1, f2, f3, f4, f5, f6, f7, f8, f9⟩ := HF.out _ HC; go_simp <;> rfl
          simp only [Act.put, zl]
          refine dw_callR 64 (IsV (.int .i64 (fitsT cs x.vs))) (f := 73) (args := #[.agg #[.string nm, .slice A n c], .slice x.A x.n x.c]) rfl rfl rfl rfl (fun wv => ?_) (fun wv HC hrm hD => ?_) ?_
          · go_simp <;> rfl
          · refine (rtfits_any _ _ HC.mutLt nm A n c cs x.A x.n x.c x.vs ((HKL.out wv HC).1) ((HKL.out wv HC).2) hn hxn hrok.vs).mono ?_
            rintro e w5 ⟨rfl, b5⟩
            exact ⟨_, rfl, rfl, HC.call b5, RM.below b5⟩
          rintro u wx HCx hu
          obtain rfl : u = _ := hu
          clear HCx
          simp only [Act.put, zl]
          refine dw_val rfl rfl rfl ?_; apply Exists.intro; refine ⟨fun wv HC => ?_, ?_⟩
          · obtain ⟨f0, f1, f2, f3, f4, f5, f6, f7, f8, f9⟩ := HF.out _ HC; go_simp <;> rfl
          simp only [Act.put, zl]
          refine rel_nil ?_
          rintro wx2 HX2
          rintro _hrm _HG
          rw [HKE.out] at HX2
          clear _hrm _HG
          by_cases a3 : fitsT cs x.vs = 0
          · have HS2 := hid (show okR cs nx 0 (l.map Rw.row) = okR cs nx x.id ((l.map Rw.row).drop (j + 1)) by rw [HS.out]; exact okR_good HX.out (by have := HA4.out; have := HRL.out; omega) (by have := HA.out; omega) a3)
            have HP2 := hid (show (j + 1 = 0 → x.id = 0) ∧ ∀ q, j + 1 = q + 1 → ∃ r : Rw, l[q]? = some r ∧ r.id = x.id from ⟨fun h => by omega, fun q hq => ⟨x, (show j = q by omega) ▸ HXL.out, rfl⟩⟩)
            have h0x : 0 ≤ x.id := by have := HA.out; omega
            rw [a3]
            clear a3
            go_wp2_with fail
            go_roundw
            case rel => exact ⟨j + 1, x.id, by omega, by go_num, h0x, HP2, HS2, HX2.drop (List.sublist_cons_self _ _)⟩
            case measure => simp [intOf]; omega
          · have a3d : (fitsT cs x.vs != 0) = true := by simp [a3]
            have HN := hid (show tabB nm cs nx (l.map Rw.row) = false from tabB_5 (by rw [HS.out]; exact okR_bad HX.out (.inr (.inr a3))))
            clear a3
            go_wp2_with fail
            go_ret
            exact ⟨by rw [HN.out] <;> rfl, HX2.below⟩
    · obtain rfl : j = m := by omega
      have hdd : decide ((j : Int) < (j : Int)) = false := by simp
      have HN := hid (show tabB nm cs nx (l.map Rw.row) = !dupB cs (l.map Rw.row) from tabB_6 HSB.out (by rw [HML.out]; omega) (by omega) (by omega) (by rw [HS.out]; exact okR_end (by rw [HML.out]; exact Nat.le_refl _)))
      have F3 := H.facts
      simp only [factsL, cellsF, Nat.reduceAdd, zf, zl] at F3
      go_wp2_with fail
      refine (rdup_any _ _ H.mutLt nm A n c cs nx B j d l (H.ro 1 rfl) (H.ro 2 rfl) hn hm hok).mono ?_
      rintro e w3 ⟨rfl, b3⟩
      have K3 := H.call b3
      go_wp2_with fail
      go_ret
      exact ⟨by rw [HN.out] <;> rfl, K3.below⟩
end Go.Proofs.YtedogodccblfeaaGreatDoor

namespace Go.Proofs.YtedogodccblfeaaGreatDoor
open Go.RowKit
set_option linter.unusedVariables false

def cmpI (a b : Int) : Int := if a < b then -1 else if b < a then 1 else 0
theorem cmp_int (a b : Int) (w : World) :
    Calls Tryz.prog 136 #[.int .i64 a, .int .i64 b] w fun e w' => e = .returned (.int .i64 (cmpI a b)) ∧ w = w' := by
  by_cases h1 : a < b
  · go_enter Tryz.func136, Tryz.ntmps136
    go_wp2
    go_ret
    exact ⟨by simp [cmpI, h1], rfl⟩
  · by_cases h2 : b < a
    · go_enter Tryz.func136, Tryz.ntmps136
      go_wp2
      go_ret
      exact ⟨by simp [cmpI, h1, h2], rfl⟩
    · go_enter Tryz.func136, Tryz.ntmps136
      go_wp2
      go_ret
      exact ⟨by rw [show cmpI a b = 0 from by unfold cmpI; rw [if_neg (by omega), if_neg (by omega)]]; rfl, rfl⟩

theorem six {w : World} {g g' : Nat} {t : TypeId} {x y z x' y' z' : Value} (h : Blk w g t #[x, y, z]) (h' : Blk w g' t #[x', y', z']) :
    w.cell? ⟨g, 0, none⟩ = some x ∧ w.cell? ⟨g, 1, none⟩ = some y ∧ w.cell? ⟨g, 2, none⟩ = some z ∧ w.cell? ⟨g', 0, none⟩ = some x' ∧ w.cell? ⟨g', 1, none⟩ = some y' ∧ w.cell? ⟨g', 2, none⟩ = some z' := ⟨h.cell 0, h.cell 1, h.cell 2, h'.cell 0, h'.cell 1, h'.cell 2⟩

end Go.Proofs.YtedogodccblfeaaGreatDoor

namespace Go.Proofs.YtedogodccblfeaaGreatDoor
open Go.RowKit
set_option linter.unusedVariables false
set_option linter.unusedSimpArgs false

end Go.Proofs.YtedogodccblfeaaGreatDoor

namespace Go.Proofs.YtedogodccblfeaaGreatDoor
open Go.RowKit
set_option linter.unusedVariables false
set_option linter.unusedSimpArgs false

end Go.Proofs.YtedogodccblfeaaGreatDoor

namespace Go.Proofs.YtedogodccblfeaaGreatDoor
open Go Go.RowKit
set_option linter.unusedVariables false
set_option linter.unusedSectionVars false
set_option linter.unusedSimpArgs false

section
variable {P : Program} {ops : Array Oper} {C : World → Prop} {G : Option Tmp → Value → World → Prop} {R : World → World → Prop} {n N : Nat} {F : Act → Prop}

/-- an operation that reads its slots alone -/
def plainOp (o : Oper) : Bool := match o.op with
  | .move _ => true
  | .extract _ _ => true
  | _ => false
theorem plain_run {o : Oper} (h : plainOp o = true) {a : Act} {w : World} {C : World → Prop} {G : Option Tmp → Value → World → Prop} {R : World → World → Prop} (hg : goodUpon P C G R o.dst w ((execOp a.eval o).run P w)) :
    ∃ v, (∀ w', (execOp a.eval o).run P w' = .ok (.value v) w') ∧ G o.dst v w ∧ C w ∧ R w w := by
  unfold plainOp at h
  split at h
  · rename_i x hx
    have e : ∀ w', (execOp a.eval o).run P w' = .ok (.value (a.eval x)) w' := fun w' => by
      unfold execOp; simp only [hx, Sem.run_pure]
    rw [e w] at hg
    exact ⟨_, e, hg⟩
  · rename_i t ix hx
    have e : ∀ w', (execOp a.eval o).run P w' = ((Instr.extract (a.eval t) ix).run P w').andThen fun u => (pure (.value u) : Sem Next).run P := fun w' => by
      unfold execOp; simp only [hx, Sem.run_bind]
    by_cases hv : ∃ vs v, a.eval t = .tuple vs ∧ vs[ix]? = some v
    · obtain ⟨vs, v, h1, h2⟩ := hv
      have e2 : ∀ w', (execOp a.eval o).run P w' = .ok (.value v) w' := fun w' => by
        rw [e w', h1]; unfold Instr.extract; simp only [h2, Sem.run_pure, Result.andThen_ok]
      rw [e2 w] at hg
      exact ⟨_, e2, hg⟩
    · exfalso
      have hh : ∃ x w2, (Instr.extract (a.eval t) ix).run P w = .halt x w2 := by
        unfold Instr.extract
        split
        · rename_i vs hvs
          split
          · rename_i v hvv; exact absurd ⟨vs, v, hvs, hvv⟩ hv
          · exact ⟨_, _, rfl⟩
        · exact ⟨_, _, rfl⟩
      obtain ⟨x, w2, hh⟩ := hh
      rw [e w, hh] at hg
      exact hg
  · cases h
/-- the exempt ones: they read their slots alone, and are apart from all that does not wait for them -/
def waitS (ops : Array Oper) (i : Nat) : Array Bool := ((List.range ops.size).map fun j => Region.waitsFor .any ops i j).toArray
def exB (ops : Array Oper) (E : List Nat) (n : Nat) : Bool := E.all fun i => decide (i < n) && (match ops[i]? with | some o => plainOp o | none => false) && Region.free .any ops (waitS ops i) i
def sinkE (ops : Array Oper) (S0 : Array Bool) (E : List Nat) (n : Nat) : Bool := (List.range n).all fun i => E.contains i || S0.getD i false || (List.range (n + 1)).any fun j => decide (i < j) && !E.contains j && Region.waitsFor .any ops j i
theorem free_mono {i : Nat} {oi : Oper} (hi : ops[i]? = some oi) (h : Region.free .any ops (waitS ops i) i = true) (S : Array Bool) (hS : S.size = ops.size) (hw : ∀ e ∈ oi.after, Region.binds .any e = true → S.getD e.on false = true) : Region.free .any ops S i = true := by
  simp only [Region.free, hi, List.all_eq_true, List.mem_range] at h ⊢
  intro j hj
  have h1 := h j hj
  simp only [Bool.or_eq_true] at h1 ⊢
  rcases h1 with (h1 | h1) | h1
  · exact .inl (.inl h1)
  · have h2 : Region.waitsFor .any ops i j = true := by simpa [waitS, hj] using h1
    obtain ⟨o', ho', e, he, hb, hon⟩ := Region.waitsFor_spec h2
    obtain rfl : oi = o' := Option.some.inj (hi.symm.trans ho')
    have h3 := hw e he hb
    rw [hon] at h3
    have hl : j < S.size := by omega
    exact .inl (.inr (by simpa [hl] using h3))
  · exact .inr h1
theorem tail_waitsE {S0 listed : Array Bool} {E : List Nat} (hs : sinkE ops S0 E n = true) (hc : laterB ops n = true) (hn : n < ops.size) (inv : HeadInv .any ops n listed) (h0 : ∀ j, S0.getD j false = true → listed.getD j false = true) :
    ∀ (d i : Nat), n - i = d → i < n → E.contains i = false → listed.getD i true = false → ∀ t, n ≤ t → t ∉ Region.ready .any ops listed := by
  intro d
  induction d using Nat.strongRecOn with
  | _ d ih =>
    intro i hd hi hE hun t ht hr
    obtain ⟨_, ot, hot, hall⟩ := mem_ready.1 hr
    have htlt : t < ops.size := (Array.getElem?_eq_some_iff.1 hot).1
    by_cases htn : t = n
    · subst htn
      have h1 := List.all_eq_true.1 hs i (List.mem_range.2 hi)
      have hnot : S0.getD i false = false := by
        cases hS : S0.getD i false with
        | false => rfl
        | true => have := h0 i hS; rw [getD_both hun] at this; cases this
      rw [hE, hnot, Bool.false_or, Bool.false_or] at h1
      obtain ⟨j, hj, hj2⟩ := List.any_eq_true.1 h1
      simp only [Bool.and_eq_true, decide_eq_true_eq, Bool.not_eq_true'] at hj2
      obtain ⟨oj, hoj, e, he, hb, hon⟩ := Region.waitsFor_spec hj2.2
      have hjle : j ≤ t := by have := List.mem_range.1 hj; omega
      by_cases hjt : j = t
      · subst hjt
        have : oj = ot := Option.some.inj (hoj.symm.trans hot)
        subst this
        have h2 := hall e he hb
        rw [hon, getD_both hun] at h2
        cases h2
      · cases hl : listed.getD j false with
        | true =>
          have h2 := inv.closed j oj hoj hl e he hb
          rw [hon, getD_both hun] at h2
          cases h2
        | false =>
          have hjs : j < listed.size := by rw [inv.size]; omega
          exact ih (t - j) (by omega) j rfl (by omega) hj2.1.2 (getD_in hjs hl) t (Nat.le_refl _) hr
    · have h1 := List.all_eq_true.1 hc t (List.mem_range.2 htlt)
      simp only [Bool.or_eq_true, decide_eq_true_eq] at h1
      rcases h1 with h1 | h1
      · omega
      · obtain ⟨j, hj, hj2⟩ := List.any_eq_true.1 h1
        simp only [Bool.and_eq_true, decide_eq_true_eq] at hj2
        obtain ⟨o', ho', e, he, hb, hon⟩ := Region.waitsFor_spec hj2.2
        have : o' = ot := Option.some.inj (ho'.symm.trans hot)
        subst this
        have h2 := hall e he hb
        rw [hon, getD_both (inv.tail j hj2.1 (List.mem_range.1 hj))] at h2
        cases h2
theorem wpAny_of_wkE (sh : Shape ops n N) (hmono : ∀ d u w w', R w w' → G d u w → G d u w') (hR : ∀ w, C w → R w w) (hu : ∀ w, C w → G none undef w) {g : Nat} {Q : Exit → Act → World → Prop} (S0 : Array Bool) (E : List Nat)
    (hE : ∀ i, E.contains i = true → i < n ∧ ∃ oi, ops[i]? = some oi ∧ plainOp oi = true ∧ ∀ S : Array Bool, S.size = ops.size → (∀ e ∈ oi.after, Region.binds .any e = true → S.getD e.on false = true) → Region.free .any ops S i = true) (hno : Region.noSelect ops = true) (hQ : ∀ c d v a w, Q (.panic c) (a.put d v) w → Q (.panic c) a w)
    (htail : ∀ S, HeadInv .any ops n S → (∀ j, S0.getD j false = true → S.getD j false = true) → (∃ i, i < n ∧ E.contains i = false ∧ S.getD i true = false) → ∀ t, n ≤ t → t ∉ Region.ready .any ops S)
    (hend : ∀ S a w, HeadInv .any ops n S → (∀ j, j < n → S.getD j false = true) → C w → (∀ j oj, ops[j]? = some oj → j < n → G oj.dst (slot a oj.dst) w) → F a → wpAny P .any ops Q g S a w) :
    ∀ (f : Nat) (S : Array Bool) (a : Act) (w : World), HeadInv .any ops n S → (∀ j, S0.getD j false = true → S.getD j false = true) → unl n S = f → a.tmps.size = N → Inv ops C G S a w → Wk P ops C G R S F n 0 a → wpAny P .any ops Q (f + g) S a w
  | 0, S, a, w, hd, h0s, hf, hN, hI, h => by
    have hall := unl_zero hf (by rw [hd.size]; exact sh.le)
    rw [Nat.zero_add]
    exact hend S a w hd hall hI.1 (fun j oj hj hjn => hI.2 j oj hj (hall j hjn)) (Wk.done sh hmono n 0 a w (by omega) hall hI.1 (fun j oj hj hs => hI.2 j oj hj (hs.resolve_right (by omega))) h)
  | f + 1, S, a, w, hd, h0s, hf, hN, hI, h => by
    obtain ⟨k0, hk0, hun0⟩ := unl_pos hf
    obtain ⟨k, ⟨hk, hun⟩, hmin⟩ := least (p := fun j => j < n ∧ S.getD j true = false) k0 ⟨hk0, hun0⟩
    have hrk : k ∈ Region.ready .any ops S := by
      have hks : k < ops.size := by have := sh.le; omega
      refine mem_ready.2 ⟨hun, ops[k], Array.getElem?_eq_getElem hks, fun e he hb => ?_⟩
      have hlt := sh.back k _ (Array.getElem?_eq_getElem hks) hk e he hb
      cases hS : S.getD e.on false with
      | true => rfl
      | false => exact absurd ⟨by omega, getD_in (by rw [hd.size]; have := sh.le; omega) hS⟩ (hmin e.on hlt)
    rw [show f + 1 + g = (f + g) + 1 by omega]
    have hstep : ∀ i, i < n → i ∈ Region.ready .any ops S → ∃ oi, ops[i]? = some oi ∧ StepOk P ops C G R oi a ∧ Deps ops G oi a w ∧ ∀ u w', May P ops C G oi a u → C w' → R w w' → G oi.dst u w' → wpAny P .any ops Q (f + g) (S.setIfInBounds i true) (a.put oi.dst u) w' := fun i hin hi => by
      obtain ⟨huni, oi, hoi, hall⟩ := mem_ready.1 hi
      have hunf : S.getD i false = false := getD_both huni
      have hst := Wk.ready sh hmono hR hu hoi hin hunf hall n 0 a w (by omega) (by omega) hN hI.1 (fun j oj hj hs => hI.2 j oj hj (hs.resolve_right (by omega))) h
      have hD : Deps ops G oi a w := fun e he hb oe hoe => hI.2 e.on oe hoe (hall e he hb)
      refine ⟨oi, hoi, hst, hD, fun u w' hm hC' hR' hG' => ?_⟩
      refine wpAny_of_wkE sh hmono hR hu S0 E hE hno hQ htail hend f _ _ w' (hd.set hi hin) (fun j hj => getD_set_true (h0s j hj)) ?_ (by rw [size_put]; exact hN) ⟨hC', fun j oj hj hs => ?_⟩ (Wk.front sh hmono hoi hin (by rw [hd.size]) hunf hall n 0 a (by omega) (by omega) hN hm h)
      · have := unl_set hin huni; omega
      · by_cases hji : j = i
        · subst hji
          obtain rfl : oi = oj := Option.some.inj (hoi.symm.trans hj)
          exact slots_new sh hmono hN hj hG' (fun _ => hu w' hC')
        · rw [slots_keep sh hmono (S := S) hoi hj hji]
          rw [getD_set_ne false (Ne.symm hji)] at hs
          exact hmono _ _ _ _ hR' (hI.2 j oj hj hs)
    cases hkE : E.contains k with
    | true =>
      obtain ⟨_, ok, hok, hpl, hfr⟩ := hE k hkE
      obtain ⟨oi, hoi, hst, hD, hnext⟩ := hstep k hk hrk
      obtain ⟨_, o3, ho3, hall⟩ := mem_ready.1 hrk
      obtain rfl : oi = o3 := Option.some.inj (hoi.symm.trans ho3)
      obtain rfl : ok = oi := Option.some.inj (hok.symm.trans hoi)
      by_cases hw : Region.wanted ok (yielded ops a.tmps) = true
      · unfold StepOk at hst
        simp only [hw, if_true] at hst
        have hg := hst w hI.1 hD
        unfold Good at hg
        obtain ⟨v, hv, hG, hC, hRR⟩ := plain_run hpl hg
        refine wpAny_take hok hno (hfr S hd.size hall) (by simpa using hrk) (fun c a w => hQ c _ _ a w) (.inl ⟨hw, hv⟩) (hnext v w ?_ hC hRR hG)
        unfold May
        rw [if_pos hw]
        exact ⟨w, hI.1, hD, by rw [hv w]; rfl⟩
      · unfold StepOk at hst
        rw [if_neg hw] at hst
        refine wpAny_take hok hno (hfr S hd.size hall) (by simpa using hrk) (fun c a w => hQ c _ _ a w) (.inr ⟨by simpa using hw, rfl⟩) (hnext undef w ?_ hI.1 (hR w hI.1) (hst w hI.1))
        unfold May
        rw [if_neg hw]
    | false =>
    refine ⟨fun h0 => (by rw [h0] at hrk; cases hrk), fun i hi => ?_⟩
    have hin : i < n := by
      rcases Nat.lt_or_ge i n with h' | h'
      · exact h'
      · exact absurd hi (htail S hd h0s ⟨k, hk, hkE, hun⟩ i h')
    obtain ⟨oi, hoi, hst, hD, hnext⟩ := hstep i hin hi
    unfold wpOp
    simp only [hoi]
    split
    · rename_i hw
      refine .inl (good_wp hI.1 hD hw ?_ hnext)
      unfold StepOk at hst
      simp only [hw, if_true] at hst
      exact hst w hI.1 hD
    · rename_i hw
      unfold StepOk at hst
      rw [if_neg hw] at hst
      exact hnext undef w (by unfold May; rw [if_neg hw]) hI.1 (hR w hI.1) (hst w hI.1)
def relE (ops : Array Oper) (S0 : Array Bool) (E : List Nat) (n N : Nat) : Bool :=
  Region.noSelect ops && dstsB ops N && decide (n ≤ ops.size) && backB ops n && asideB ops n && (decide (n = ops.size) || (decide (n < ops.size) && sinkE ops S0 E n && laterB ops n)) && closedB ops S0 n && exB ops E n && Region.seqB .any ops (ops.size - n) n (headList n ops.size)
theorem relE_shape {S0 : Array Bool} {E : List Nat} {n N : Nat} (h : relE ops S0 E n N = true) : Shape ops n N := by
  simp only [relE, Bool.and_eq_true, decide_eq_true_eq] at h
  obtain ⟨⟨⟨⟨⟨⟨⟨⟨hsel, hd⟩, hn⟩, hb⟩, ha⟩, _⟩, _⟩, _⟩, _⟩ := h
  refine ⟨hd, hn, fun k o hk hkn e he hbd => ?_, fun k i ok oi hki hin hk hi hno => ?_, Region.noSelect_spec hsel⟩
  · have h1 := List.all_eq_true.1 hb k (List.mem_range.2 hkn)
    simp only [hk] at h1
    have h2 := Array.all_eq_true'.1 h1 e he
    simp only [hbd, Bool.not_true, Bool.false_or, decide_eq_true_eq] at h2
    exact h2
  · have h1 := List.all_eq_true.1 (List.all_eq_true.1 ha i (List.mem_range.2 hin)) k (List.mem_range.2 hki)
    simp only [hk, hi, Bool.or_eq_true] at h1
    refine h1.resolve_left fun h2 => ?_
    obtain ⟨e, he, hb2⟩ := Array.any_eq_true'.1 h2
    simp only [Bool.and_eq_true, beq_iff_eq] at hb2
    exact hno e he hb2.1 hb2.2
/-- A region that draws its order, the operations of S0 done, E exempt: the first n operations in any order; then the others. -/
theorem wpAny_relE {Q : Exit → Act → World → Prop} {a : Act} {w : World} {l : List Oper} (S0 : Array Bool) (E : List Nat) (n N : Nat) (C : World → Prop) (G : Option Tmp → Value → World → Prop) (R : World → World → Prop) {fuel : Nat}
    (hB : relE l.toArray S0 E n N = true) (hQ : ∀ c d v a w, Q (.panic c) (a.put d v) w → Q (.panic c) a w) (hf : fuel = unl n S0 + (l.length - n)) (hN : a.tmps.size = N) (hmono : ∀ d u w w', R w w' → G d u w → G d u w') (hR : ∀ w, C w → R w w) (hu : ∀ w, C w → G none undef w) (hC : C w)
    (h0 : ∀ j oj, l[j]? = some oj → S0.getD j false = true → G oj.dst (slot a oj.dst) w)
    (h : wpRel P l.toArray C G R S0 (fun a' => ∀ w', C w' → (∀ j oj, l[j]? = some oj → j < n → G oj.dst (slot a' oj.dst) w') → wpList P l.toArray Q (l.drop n) a' w') 0 (l.take n) a) : wpAny P .any l.toArray Q fuel S0 a w := by
  have sh := relE_shape hB
  have hB' := hB
  simp only [relE, Bool.and_eq_true, Bool.or_eq_true, decide_eq_true_eq] at hB'
  obtain ⟨⟨⟨⟨⟨⟨⟨⟨hsel, hd⟩, hn⟩, hb⟩, ha⟩, hsc⟩, hcl⟩, hex⟩, hseq⟩ := hB'
  have hnl : n ≤ l.length := by simpa using hn
  have htl : (l.take n).length = n := by simp; omega
  have hw := wk_of_rel sh (l.take n) 0 a (fun j hj => by
    have hj' : j < n := by rw [htl] at hj; exact hj
    simp [hj']) (by simpa using htl) hN h
  rw [htl] at hw
  have := wpAny_of_wkE (Q := Q) (g := l.length - n) sh hmono hR hu S0 E (fun i hi => ?_) hsel hQ (fun S hI h0s hex t ht hr => ?_) (fun S a' w' hI hall hC' hg hF => ?_) _ S0 a w
    (closedB_head hcl) (fun _ h => h) rfl hN ⟨hC, fun j oj hj hs => h0 j oj (by simpa using hj) hs⟩ hw
  · rw [hf]; exact this
  · have h1 := List.all_eq_true.1 hex i (List.contains_iff_mem.1 hi)
    simp only [Bool.and_eq_true, decide_eq_true_eq] at h1
    obtain ⟨⟨h1, h2⟩, h3⟩ := h1
    have hil : i < l.toArray.size := by have : l.toArray.size = l.length := by simp
                                        omega
    have hio := Array.getElem?_eq_getElem hil
    rw [hio] at h2
    exact ⟨h1, _, hio, h2, fun S hS hw => free_mono hio h3 S hS hw⟩
  · obtain ⟨i, hi, hE, hun⟩ := hex
    rcases hsc with hsc | ⟨⟨hlt, hs⟩, hc⟩
    · have := (mem_ready.1 hr).2
      obtain ⟨o, ho, _⟩ := this
      have := (Array.getElem?_eq_some_iff.1 ho).1
      omega
    · exact tail_waitsE hs hc hlt hI h0s _ i rfl hi hE hun t ht hr
  · have hSeq := headList_eq hI.size hn hall hI.tail
    rw [show l.toArray.size = l.length from by simp] at hSeq
    rw [hSeq]
    have hdl : (l.drop n).length = l.length - n := by simp
    have := wpAny_of_seq (md := .any) (Q' := Q) (ops := l.toArray) (l.drop n) n (headList n l.length) a' w' (fun j => by simp [List.getElem?_drop]) (by rw [hdl]; simpa using hseq) (hF w' hC' fun j oj hj hjn => hg j oj (by simpa using hj) hjn)
    rwa [hdl] at this
end
section
variable {P : Program} {M : Nat → Prop} {row : Option Nat} {w0 w1 : World} {L : List Hp} {sp : SpW} {F : Act → Prop} {S0 : Array Bool}
theorem wpAny_holdE {Q : Exit → Act → World → Prop} {a : Act} {w : World} {l : List Oper} (E : List Nat) (n N : Nat) (L : List Hp) (sp : SpW) {fuel : Nat}
    (hB : relE l.toArray S0 E n N = true) (hQ : ∀ c d v a w, Q (.panic c) (a.put d v) w → Q (.panic c) a w) (hO : offW l.toArray S0 sp = true) (hf : fuel = unl n S0 + (l.length - n)) (hN : a.tmps.size = N) (hs : Stays (Mut M L) sp) (hC : Hold M row w0 w L)
    (h : wpRel P l.toArray (HC M row w0 w L) (GW sp) (RM (Mut M L)) S0 (fun a' => ∀ w', Hold M row w0 w' L → RM (Mut M L) w w' → (∀ j oj, l[j]? = some oj → j < n → GW sp oj.dst (slot a' oj.dst) w') → wpList P l.toArray Q (l.drop n) a' w') 0 (l.take n) a) : wpAny P .any l.toArray Q fuel S0 a w := by
  refine wpAny_relE S0 E n N (HC M row w0 w L) (GW sp) (RM (Mut M L)) hB hQ hf hN (fun d u w w' hr hg => ?_) (fun w _ => RM.refl _ w) (fun _ _ => trivial) ⟨hC, RM.refl _ _⟩ (fun j oj hj hs => offW_h hO (by simpa using hj) hs) (wpRel_mono (fun a' hF w' hC' hg => hF w' hC'.1 hC'.2 hg) _ _ _ h)
  unfold GW at hg ⊢
  cases hd : d.bind sp with
  | none => trivial
  | some V =>
    rw [hd] at hg
    obtain ⟨t, rfl, ht⟩ := Option.bind_eq_some_iff.1 hd
    exact hs t V ht u w w' hr hg
end
end Go.Proofs.YtedogodccblfeaaGreatDoor

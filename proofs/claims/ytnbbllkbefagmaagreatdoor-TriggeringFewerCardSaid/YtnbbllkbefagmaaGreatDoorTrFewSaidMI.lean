/- TrFew: what removing a trigger does to the triggering graph (law27.TriggeringFewer). -/
import Derived.Test.YtnbbllkbefagmaaGreatDoorTrFewSaidMH
import Derived.Test.YtnbbllkbefagmaaGreatDoorTrFewSaidMG
import Derived.Test.YtnbbllkbefagmaaGreatDoorTrFewSaidMB
namespace Go.Proofs.YtnbbllkbefagmaaGreatDoor
open Go.RowKit
set_option linter.unusedVariables false
set_option linter.unusedSimpArgs false
def OwnTgC (b0 : Nat) (l : List Tg) (u : Value) (w : World) : Prop := ∃ (A : Option Addr) (n c : Nat), u = .slice A n c ∧ n = l.length ∧ w.ownsRow b0 40 11 (.slice A n c) n (tgCells l)
theorem OwnTgC.mono {M : Nat → Prop} {b0 : Nat} {l : List Tg} (hM : ∀ b, M b → b < b0) (u : Value) (w w' : World) (hr : RM M w w') (h : OwnTgC b0 l u w) : OwnTgC b0 l u w' := by
 obtain ⟨A, n, c, h1, h2, h3⟩ := h
 exact ⟨A, n, c, h1, h2, own_RM hM hr h3⟩
theorem tgs_tail {b o n p c : Nat} {l : List Tg} {w : World} (h : SlR 11 (some ⟨b, o, none⟩) n (tgCells l) w) (hp : p < n) (hc : n ≤ c) : SlR 11 (if c = p + 1 then some ⟨b, o, none⟩ else some ⟨b, o + (p + 1) * 11, none⟩) (n - (p + 1)) (tgCells (l.drop (p + 1))) w := by
 by_cases h1 : c = p + 1
 ·have h2 := tgs_drop (j := p + 1) h (by omega)
  rw [if_pos h1]
  exact ⟨h2.1, fun h3 => by omega⟩
 ·rw [if_neg h1]
  exact tgs_drop h (by omega)
theorem edg_get {l : List (Nat × Nat)} {j : Nat} {x : Ed} (h : (l.map edI)[j]? = some x) : ∃ a b : Nat, l[j]? = some (a, b) ∧ x = ⟨a, b⟩ := by
 rw [List.getElem?_map] at h
 cases hl : l[j]? with
 | none => rw [hl] at h; cases h
 | some q =>
  rw [hl] at h
  injection h with h
  exact ⟨q.1, q.2, rfl, h.symm⟩
set_option maxHeartbeats 16000000 in
set_option maxRecDepth 100000 in
theorem trigFewer_walk (A : Option Addr) (n c : Nat) (zs : List Int) (v : Int) (w : World) (hr : Rd w w.heap.size 1 A n (zs.map (Value.int .i64))) (hz : Ints zs) (hn : n ≤ c) (hc : c ≤ 9223372036854775807) (hv : I64 v) (hw : Wds w) (hTN : TNm w) :
  Calls Tryz.prog 4 #[.slice A n c, .int .i64 v] w fun e w' => e = .returned (.bool true) ∧ Below w.heap.size w w' := by
 have hwl := hw.lt
 have htl := hTN.lt
 have HV := hid hv
 clear hv
 have K0 := Hold.begin_ w
 go_enter Tryz.func4, Tryz.ntmps4
 go_wp2_with fail
 refine (new_any A n c zs _ hr hz hn hc).mono ?_
 rintro e w1 ⟨T, rfl, hT, t1, b1⟩
 have K1 := Hold.newTape K0 b1 t1 hT (by simp [Mut, None_, Hp.foot])
 have wd0 : Wds w1 := hw.below b1 hwl
 have tn0 : TNm w1 := hTN.keep (b1.block _ htl)
 have hT1 : 1 < T := by omega
 have K2 := (K1.add (wd0.ro2 (show ¬ Mut None_ [.tp T] 1 by simp [Mut, None_, Hp.foot]; omega))).add (tn0.ro2 (show ¬ Mut None_ [.ro Wds, .tp T] 0 by simp [Mut, None_, Hp.foot]; omega))
 clear K1 K0 wd0 tn0 t1 b1 hw hTN hr hwl htl hT
 go_wp2_with fail
 refine (trigs_any (Mut None_ _) T _ K2.mutLt (K2.tp_ 2 rfl) (K2.get 2 rfl).2 7 (by omega) ((K2.ro 1 rfl).less (mut_tp (i := 2) rfl)) hT1 ((K2.ro 0 rfl).less (mut_tp (i := 2) rfl))).mono ?_
 rintro e w2 ⟨gA, gn, gc, gl, O1, on1, oc1, ol1, rfl, hgl, hgn, hgc, hgc2, hgo, -, rG, -, t2, g2⟩
 have K3 := ((Hold.callT K2 2 rfl g2 t2).add rG).drop (L' := [_]) (List.Sublist.cons_cons _ (List.nil_sublist _))
 have HGO := hid hgo
 have HGL := hid hgl
 clear K2 t2 g2 rG hgo hgl
 rcases Nat.eq_zero_or_pos gn with h0 | h0
 ·subst h0
  have HB := hid K3
  clear K3
  go_wp2_with fail
  refine (known27 _).mono ?_
  rintro e w3 ⟨rfl, b3⟩
  have HB := hid (HB.out.call b3).below
  clear b3
  go_wp2_with fail
  go_ret
  exact ⟨rfl, HB.out⟩
 ·obtain ⟨bG, oG, rfl, -, -⟩ := (show Rd w2 w2.heap.size 11 gA gn (tgCells gl) from (K3.ro 0 rfl).now.1).2 h0
  have hg0 : ((gn : Int) == 0) = false := by simp; omega
  have hmod := wmod_any v gn w2 HV.out (by omega) (by omega)
  obtain ⟨p, hp⟩ : ∃ p : Nat, v % (gn : Int) = p := ⟨(v % (gn : Int)).toNat, by have := Int.emod_nonneg v (show (gn : Int) ≠ 0 by omega); omega⟩
  have hpn : p < gn := by have := Int.emod_lt_of_pos v (show (0 : Int) < gn by omega); omega
  rw [hp] at hmod
  have HMD := hid hmod
  clear hmod hp
  go_wp2_with fail
  refine HMD.out.mono ?_
  rintro e w3 ⟨rfl, rfl⟩
  obtain ⟨KL, hKL, K4⟩ := K3.name
  have H1 : ∀ wv : World, Hold None_ none w wv KL → TgsIn 5 (some ⟨bG, oG, none⟩) gn gl wv := fun wv h => by rw [hKL] at h; exact (h.ro 0 rfl).now
  have HH1 := hid H1
  have HKL := hid hKL
  clear hKL H1 K3 HMD
  have hb0 : ∀ b, Mut None_ KL b → b < w2.heap.size := K4.mutLt
  have s1 : (0 : Int) ≤ (p : Int) := by omega
  have s2 : (p : Int) ≤ (gc : Int) := by omega
  have s3 : (p : Int) + 1 ≤ (gn : Int) := by omega
  have s4 : (0 : Int) ≤ (p : Int) + 1 := by omega
  have s5 : IntKind.i64.wrap ((p : Int) + 1) = (p : Int) + 1 := IntWalk.i64_in _ (by omega)
  have s6 : ((p : Int) + 1).toNat = p + 1 := by omega
  go_upto_region 6 with fail
  refine wp_region_any (by kernel_rfl) ?_
  refine wpAny_hold 8 111 (KL) (spL [(34, OwnTgC w2.heap.size (gl.take p))]) (by kernel_rfl) (by kernel_rfl) (by kernel_rfl) rfl ?_ (K4.drew) ?_
  ·exact stays_cons (OwnTgC.mono hb0) (stays_nil _)
  simp only [zd, Act.put, List.getElem_toArray, List.getElem_cons_zero, List.getElem_cons_succ, zl]
  refine dw_val rfl rfl rfl ?_; apply Exists.intro; refine ⟨fun wv HC => ?_, ?_⟩
  · go_simp <;> rfl
  simp only [Act.put, zl]
  refine dw_val rfl rfl rfl ?_; apply Exists.intro; refine ⟨fun wv HC => ?_, ?_⟩
  · go_simp <;> rfl
  simp only [Act.put, zl]
  refine dw_val rfl rfl rfl ?_; apply Exists.intro; refine ⟨fun wv HC => ?_, ?_⟩
  · go_simp <;> rfl
  simp only [Act.put, zl]
  refine dw_callR 34 (OwnTgC w2.heap.size (gl.take p)) (f := 18) (args := #[.slice (some ⟨bG, oG, none⟩) p gc]) rfl rfl rfl rfl (fun wv => ?_) (fun wv HC hrm hD => ?_) ?_
  ·go_simp <;> rfl
  ·refine (cloneTgO_any wv _ p gc (gl.take p) (tgs_take (HH1.out _ HC).1 (by omega)) (by rw [List.length_take, HGL.out]; omega) (by omega)).mono ?_
   rintro e w5 ⟨A5, n5, c5, rfl, h51, h52, b5⟩
   exact ⟨_, rfl, ⟨A5, n5, c5, rfl, h51, own_base (show w2.heap.size ≤ wv.heap.size from hrm.1) h52⟩, HC.call b5, RM.below b5⟩
  rintro u wx HCx ⟨A5, n5, c5, rfl, -, -⟩
  clear HCx
  simp only [Act.put, zl]
  refine dw_val rfl rfl rfl ?_; apply Exists.intro; refine ⟨fun wv HC => ?_, ?_⟩
  · go_simp <;> rfl
  simp only [Act.put, zl]
  refine dw_val rfl rfl rfl ?_; apply Exists.intro; refine ⟨fun wv HC => ?_, ?_⟩
  · go_simp <;> rfl
  simp only [Act.put, zl]
  refine dw_val rfl rfl rfl ?_; apply Exists.intro; refine ⟨fun wv HC => ?_, ?_⟩
  · go_simp <;> rfl
  simp only [Act.put, zl]
  refine dw_val rfl rfl rfl ?_; apply Exists.intro; refine ⟨fun wv HC => ?_, ?_⟩
  · go_simp <;> rfl
  simp only [Act.put, zl]
  refine rel_nil ?_
  rintro wx2 HX
  rintro hrm HG
  have hb2 : OwnTgC w2.heap.size (gl.take p) (.slice A5 n5 c5) wx2 := (GW_on (d := 34) rfl).1 (HG 3 _ rfl (by omega))
  clear HG
  obtain ⟨A9, n9, c9, e9, h91, h92⟩ := hb2
  obtain ⟨rfl, rfl, rfl⟩ := Value.slice.inj e9
  have K9 := K4.drew.addOwn HX hrm h92
  have hnp5 : n5 = p := by rw [h91, List.length_take, HGL.out]; omega
  subst hnp5
  rw [HKL.out] at K9
  clear e9 hrm h92 HX K4 hb0 h91 HH1 HKL
  have HTL := hid (tgs_tail (K9.ro 1 rfl).now.1 hpn hgc)
  generalize (if gc = n5 + 1 then (some ⟨bG, oG, none⟩ : Option Addr) else some ⟨bG, oG + (n5 + 1) * 11, none⟩) = TA at *
  have h1 := hid (one_tgs (gl.drop (n5 + 1)))
  go_wp2_with (first
   | (at_builtin; refine wpList_appAllH K9 0 rfl Tryz.elTgD HTL.out rfl (.tmp 34) (.tmp 38) rfl rfl rfl h1.out (by omega) (by omega) ?_; intro C10 cap10 w10 hc10 hm10 K10)
   | fail)
  rw [show tgCells (gl.take n5) ++ tgCells (gl.drop (n5 + 1)) = tgCells (restT gl n5) from by simp [tgCells, restT]] at K10
  simp only [List.set_cons_zero] at K10
  obtain ⟨rn, hrn⟩ : ∃ rn, n5 + (gn - (n5 + 1)) = rn := ⟨_, rfl⟩
  rw [hrn] at K10 ⊢
  have hrn8 : rn ≤ 8 := by omega
  have HRN := hid hrn
  have K11 := K10.sealRow 0 rfl
  simp only [List.set_cons_zero] at K11
  have hR : Ro _ _ (TgsIn 5 C10 rn (restT gl n5)) := ((K11.ro 0 rfl).and (K11.ro 1 rfl)).imp fun w2 h2 => ⟨h2.1, fun t ht => h2.2.2 t (rest_mem t ht)⟩
  have K12 := ((K11.add hR).pick [0, 2] (by decide) rfl).nil 61 2
  clear hrn K9 K10 K11 hR HTL h1
  go_wp2_with fail
  refine (edges_any (Mut None_ _) _ K12.mutLt (some ⟨bG, oG, none⟩) gn gc gl (K12.ro 2 rfl) (by omega) (fun t ht => (HGO.out.2 t ht).1.ed)).mono ?_
  rintro e w4 ⟨B, m, q, rfl, hm, rE, b4⟩
  have HEL := hid rE.now.len
  have K13 : Hold None_ none w w4 [.own 61 2 (.slice none 0 0) 0 (edCells (wantL gl n5 0)), .ro (EdsIn B m ((edgesT gl).map edI)), .ro (TgsIn 5 C10 rn (restT gl n5)), .ro (TgsIn 5 (some ⟨bG, oG, none⟩) gn gl)] := ((K12.call b4).add rE).pick [1, 0, 2, 3] (by decide) rfl
  clear K12 rE b4
  go_wp2_with fail
  go_loopw [10, 43] (fun ov iv wr => ∃ (j k cap : Nat) (O : Option Addr), j ≤ m ∧ k ≤ j ∧ iv = .int .i64 j ∧ ov = .slice O k cap ∧ Hold None_ none w wr [.own 61 2 (.slice O k cap) k (edCells (wantL gl n5 j)), .ro (EdsIn B m ((edgesT gl).map edI)), .ro (TgsIn 5 C10 rn (restT gl n5)), .ro (TgsIn 5 (some ⟨bG, oG, none⟩) gn gl)]) (fun _ iv _ => m - (intOf iv).toNat)
  case atStart => exact ⟨0, 0, 0, none, by omega, by omega, rfl, rfl, K13⟩
  case round =>
   clear K13
   obtain ⟨j, k, cap, O, hj, hkj, rfl, rfl, H⟩ := hrel
   by_cases hlt : j < m
   ·have j0 : (0 : Int) ≤ (j : Int) := by omega
    have j1 : (j : Int) < (m : Int) := by omega
    obtain ⟨x, hx⟩ := get_of HEL.out hlt
    obtain ⟨b, o, rfl, hb, c0, c1⟩ := (H.ro 1 rfl).now.at_ hx
    obtain ⟨a, b, hab, rfl⟩ := edg_get hx
    have HAB := hid hab
    have ⟨hal, hbl⟩ := edges_lt (List.mem_of_getElem? hab)
    simp only [HGL.out] at hal hbl
    dsimp only at c0 c1
    have K1 := H.alloc #[.int .i64 a, .int .i64 b] 61
    clear H hx hab
    obtain ⟨g12, hg12⟩ : ∃ g, g = wr.heap.size := ⟨_, rfl⟩
    rw [← hg12] at K1
    go_upto_region 11 with fail
    rw [← hg12]
    have HG12 := hid hg12
    clear hg12 c0 c1
    generalize World.alloc _ _ = w5 at K1 ⊢
    have F1 := K1.facts
    simp only [factsL, cellsF, Nat.reduceAdd, zf, zl] at F1
    by_cases hs : a = n5 ∨ b = n5
    ·have HS := hid (want_skip HAB.out hs)
     have KC := K1.drop (List.sublist_cons_self _ _)
     rw [← HS.out] at KC
     by_cases ha : a = n5
     ·have e1 : ((a : Int) == (n5 : Int)) = true := by simp [ha]
      clear hs ha
      go_wp2_with fail
      go_roundw
      case rel => exact ⟨j + 1, k, cap, O, by omega, by omega, by go_num, by first | rfl | trivial, KC⟩
      case measure => simp [intOf]; omega
     ·have e1 : ((a : Int) == (n5 : Int)) = false := by simp; omega
      have e2 : ((b : Int) == (n5 : Int)) = true := by simp; omega
      clear hs ha
      go_wp2_with fail
      go_roundw
      case rel => exact ⟨j + 1, k, cap, O, by omega, by omega, by go_num, by first | rfl | trivial, KC⟩
      case measure => simp [intOf]; omega
    ·have e1 : ((a : Int) == (n5 : Int)) = false := by simp; omega
     have e2 : ((b : Int) == (n5 : Int)) = false := by simp; omega
     have HNX := hid (want_next HAB.out hs)
     by_cases ha : n5 < a
     ·by_cases hb2 : n5 < b
      ·have hda := hid (dnI_gt ha)
       have K2 := K1.store 0 rfl 0 (.int .i64 ((a : Int) - 1))
       simp only [zl] at K2
       have F2 := K2.facts
       simp only [factsL, cellsF, Nat.reduceAdd, zf, zl] at F2
       have hdb := hid (dnI_gt hb2)
       have K3 := K2.store 0 rfl 1 (.int .i64 ((b : Int) - 1))
       simp only [zl] at K3
       have F3 := K3.facts
       simp only [factsL, cellsF, Nat.reduceAdd, zf, zl] at F3
       go_wp2_with (at_builtin; go_must (refine wpList_appH K3 1 rfl Tryz.elEd #[.int .i64 ((a : Int) - 1), .int .i64 ((b : Int) - 1)] rfl (.tmp 73) (.tmp 75) rfl rfl w5.heap.size (by simp [World.setCell]) rfl rfl (by intro u hu; simp at hu; rcases hu with rfl | rfl <;> rfl) (by omega) (by omega) ?_); intro gA capA wA hcA hmA KB; simp only [zl] at KB)
       rw [show edCells (wantL gl n5 j) ++ (#[.int .i64 ((a : Int) - 1), .int .i64 ((b : Int) - 1)] : Array Value).toList = edCells (wantL gl n5 (j + 1)) from by rw [HNX.out]; simp [edCells, Ed.cells, hda.out, hdb.out]] at KB
       have KC := KB.drop (List.sublist_cons_self _ _)
       go_roundw
       case rel => exact ⟨j + 1, k + 1, capA, _, by omega, by omega, by go_num, by first | rfl | trivial, KC⟩
       case measure => simp [intOf]; omega
      ·have hda := hid (dnI_gt ha)
       have K2 := K1.store 0 rfl 0 (.int .i64 ((a : Int) - 1))
       simp only [zl] at K2
       have F2 := K2.facts
       simp only [factsL, cellsF, Nat.reduceAdd, zf, zl] at F2
       have hdb := hid (dnI_le (show b < n5 by omega))
       go_wp2_with (at_builtin; go_must (refine wpList_appH K2 1 rfl Tryz.elEd #[.int .i64 ((a : Int) - 1), .int .i64 (b : Int)] rfl (.tmp 73) (.tmp 75) rfl rfl w5.heap.size (by simp [World.setCell]) rfl rfl (by intro u hu; simp at hu; rcases hu with rfl | rfl <;> rfl) (by omega) (by omega) ?_); intro gA capA wA hcA hmA KB; simp only [zl] at KB)
       rw [show edCells (wantL gl n5 j) ++ (#[.int .i64 ((a : Int) - 1), .int .i64 (b : Int)] : Array Value).toList = edCells (wantL gl n5 (j + 1)) from by rw [HNX.out]; simp [edCells, Ed.cells, hda.out, hdb.out]] at KB
       have KC := KB.drop (List.sublist_cons_self _ _)
       go_roundw
       case rel => exact ⟨j + 1, k + 1, capA, _, by omega, by omega, by go_num, by first | rfl | trivial, KC⟩
       case measure => simp [intOf]; omega
     ·by_cases hb2 : n5 < b
      ·have hda := hid (dnI_le (show a < n5 by omega))
       have hdb := hid (dnI_gt hb2)
       have K3 := K1.store 0 rfl 1 (.int .i64 ((b : Int) - 1))
       simp only [zl] at K3
       have F3 := K3.facts
       simp only [factsL, cellsF, Nat.reduceAdd, zf, zl] at F3
       go_wp2_with (at_builtin; go_must (refine wpList_appH K3 1 rfl Tryz.elEd #[.int .i64 (a : Int), .int .i64 ((b : Int) - 1)] rfl (.tmp 73) (.tmp 75) rfl rfl w5.heap.size (by simp [World.setCell]) rfl rfl (by intro u hu; simp at hu; rcases hu with rfl | rfl <;> rfl) (by omega) (by omega) ?_); intro gA capA wA hcA hmA KB; simp only [zl] at KB)
       rw [show edCells (wantL gl n5 j) ++ (#[.int .i64 (a : Int), .int .i64 ((b : Int) - 1)] : Array Value).toList = edCells (wantL gl n5 (j + 1)) from by rw [HNX.out]; simp [edCells, Ed.cells, hda.out, hdb.out]] at KB
       have KC := KB.drop (List.sublist_cons_self _ _)
       go_roundw
       case rel => exact ⟨j + 1, k + 1, capA, _, by omega, by omega, by go_num, by first | rfl | trivial, KC⟩
       case measure => simp [intOf]; omega
      ·have hda := hid (dnI_le (show a < n5 by omega))
       have hdb := hid (dnI_le (show b < n5 by omega))
       go_wp2_with (at_builtin; go_must (refine wpList_appH K1 1 rfl Tryz.elEd #[.int .i64 (a : Int), .int .i64 (b : Int)] rfl (.tmp 73) (.tmp 75) rfl rfl w5.heap.size (by simp [World.setCell]) rfl rfl (by intro u hu; simp at hu; rcases hu with rfl | rfl <;> rfl) (by omega) (by omega) ?_); intro gA capA wA hcA hmA KB; simp only [zl] at KB)
       rw [show edCells (wantL gl n5 j) ++ (#[.int .i64 (a : Int), .int .i64 (b : Int)] : Array Value).toList = edCells (wantL gl n5 (j + 1)) from by rw [HNX.out]; simp [edCells, Ed.cells, hda.out, hdb.out]] at KB
       have KC := KB.drop (List.sublist_cons_self _ _)
       go_roundw
       case rel => exact ⟨j + 1, k + 1, capA, _, by omega, by omega, by go_num, by first | rfl | trivial, KC⟩
       case measure => simp [intOf]; omega
   ·obtain rfl : m = j := by omega
    rw [show m = (edgesT gl).length from by rw [← HEL.out, List.length_map]] at H
    have hkm : k ≤ 64 := by omega
    have KS := H.sealRow 0 rfl
    simp only [List.set_cons_zero] at KS
    have K5 : Hold None_ none w wr [.ro (EdsIn O k (wantL gl n5 (edgesT gl).length)), .ro (TgsIn 5 C10 rn (restT gl n5)), .ro (TgsIn 5 (some ⟨bG, oG, none⟩) gn gl)] := KS.pick [0, 2, 3] (by decide) rfl
    clear H KS
    go_wp2_with fail
    refine (edges_any (Mut None_ _) _ K5.mutLt C10 rn cap10 (restT gl n5) (K5.ro 1 rfl) hrn8 (fun t ht => (HGO.out.2 t (rest_mem t ht)).1.ed)).mono ?_
    rintro e w5 ⟨B2, m2, q2, rfl, hm2, rE2, b5⟩
    have HE2 := hid rE2.now.len
    have K6 : Hold None_ none w w5 [.ro (EdsIn B2 m2 ((edgesT (restT gl n5)).map edI)), .ro (EdsIn O k (wantL gl n5 (edgesT gl).length)), .ro (TgsIn 5 (some ⟨bG, oG, none⟩) gn gl)] := ((K5.call b5).add rE2).pick [0, 1, 3] (by decide) rfl
    clear K5 rE2 b5
    go_wp2_with fail
    go_loopw [82] (fun iv wr => ∃ j : Nat, j ≤ m2 ∧ iv = .int .i64 j ∧ Hold None_ none w wr [.ro (EdsIn B2 m2 ((edgesT (restT gl n5)).map edI)), .ro (EdsIn O k (wantL gl n5 (edgesT gl).length)), .ro (TgsIn 5 (some ⟨bG, oG, none⟩) gn gl)]) (fun iv _ => m2 - (intOf iv).toNat)
    case atStart => exact ⟨0, by omega, rfl, K6⟩
    case round =>
     clear K6
     obtain ⟨j, hj, rfl, H⟩ := hrel
     by_cases hlt : j < m2
     ·have j0 : (0 : Int) ≤ (j : Int) := by omega
      have j1 : (j : Int) < (m2 : Int) := by omega
      obtain ⟨x, hx⟩ := get_of HE2.out hlt
      obtain ⟨b, o, rfl, hb, c0, c1⟩ := (H.ro 0 rfl).now.at_ hx
      have hmem := got_in (show n5 < gl.length by rw [HGL.out]; exact hpn) hx
      obtain ⟨a, b, hab, rfl⟩ := edg_get hx
      have HM := hid (decide_eq_true hmem)
      dsimp only at c0 c1
      have K1 := H.alloc_cst #[.int .i64 a, .int .i64 b] 61
      have F1 := K1.facts
      simp only [factsL, cellsF, Nat.reduceAdd, zf, zl] at F1
      clear H hx hab hmem
      go_wp2_with fail
      refine (ect_any _ O k cap _ a b ((K1.ro 2 rfl).less zn) (by omega)).mono ?_
      rintro e w6 ⟨rfl, b6⟩
      rw [HM.out]
      have K2 := (K1.call b6).drop (List.sublist_cons_self _ _)
      clear K1 F1 b6 c0 c1
      go_wp2_with fail
      go_roundw
      case rel => exact ⟨j + 1, by omega, by go_num, K2⟩
      case measure => simp [intOf]; omega
     ·obtain rfl : m2 = j := by omega
      obtain ⟨tg, htg⟩ := get_of HGL.out hpn
      obtain ⟨b', o', e', hb, hc, -⟩ := (H.ro 2 rfl).now.at_ htg
      obtain ⟨rfl, rfl⟩ : bG = b' ∧ oG = o' := by injection e' with e'; injection e' with a1 a2; exact ⟨a1, a2⟩
      have x2 := hc 2 _ (by omega) rfl
      have x5 := hc 5 _ (by omega) rfl
      have hq : ¬ (tg.before = true ∧ tg.each = true) → (edgesT (restT gl n5)).map edI = wantL gl n5 (edgesT gl).length := fun h => got_eq (show n5 < gl.length by rw [HGL.out]; exact hpn) (by rw [(List.getElem?_eq_some_iff.1 htg).2]; exact h)
      have HQ := hid hq
      clear hc e' hq htg
      have p0 : (0 : Int) ≤ (n5 : Int) := by omega
      have p1 : (n5 : Int) < (gn : Int) := by omega
      cases hbf : tg.before
      ·rw [hbf] at x2
       have HQ := hid (decide_eq_true (HQ.out (by simp [hbf])))
       go_wp2_with fail
       refine (eqEds_any _ B2 m2 q2 _ O k cap _ (H.ro 0 rfl).now (H.ro 1 rfl).now (by omega)).mono ?_
       rintro e w7 ⟨rfl, nq, rfl⟩
       rw [HQ.out]
       have K7 := H.drewN nq
       go_wp2_with fail
       refine (known27 _).mono ?_
       rintro e w8 ⟨rfl, b8⟩
       have HB := hid (K7.call b8).below
       clear H K7 b8
       go_wp2_with fail
       go_ret
       exact ⟨rfl, HB.out⟩
      ·rw [hbf] at x2
       cases hec : tg.each
       ·rw [hec] at x5
        have HQ := hid (decide_eq_true (HQ.out (by simp [hec])))
        go_wp2_with fail
        refine (eqEds_any _ B2 m2 q2 _ O k cap _ (H.ro 0 rfl).now (H.ro 1 rfl).now (by omega)).mono ?_
        rintro e w7 ⟨rfl, nq, rfl⟩
        rw [HQ.out]
        have K7 := H.drewN nq
        go_wp2_with fail
        refine (known27 _).mono ?_
        rintro e w8 ⟨rfl, b8⟩
        have HB := hid (K7.call b8).below
        clear H K7 b8
        go_wp2_with fail
        go_ret
        exact ⟨rfl, HB.out⟩
       ·rw [hec] at x5
        go_wp2_with fail
        refine (known27 _).mono ?_
        rintro e w8 ⟨rfl, b8⟩
        have HB := hid (H.call b8).below
        clear H b8
        go_wp2_with fail
        go_ret
        exact ⟨rfl, HB.out⟩
end Go.Proofs.YtnbbllkbefagmaaGreatDoor

/- TAlike: law6.alike: the functions of tables and their references answer alike. -/
import Derived.Test.YtljmclbedpceoaaDoorTFormsSaidMD
import Derived.Test.YtljmclbedpceoaaDoorTFormsSaidMB
import Derived.Test.YtljmclbedpceoaaDoorTFormsSaidMA
import Derived.Test.YtljmclbedpceoaaDoorTFormsSaidMC
namespace Go.Proofs.YtljmclbedpceoaaDoor
open Go.RowKit
set_option linter.unusedVariables false
set_option linter.unusedSimpArgs false

theorem slNil_one (l : List Sl) : ∀ u ∈ slCells l ++ [Value.slice none 0 0], u.oneCell' = true := fun u hu => by
  rcases List.mem_append.1 hu with h | h
  · obtain ⟨s, hs, hu'⟩ := List.mem_flatMap.1 h
    simp [Sl.cells] at hu'
    subst hu'
    rfl
  · simp at h; subst h; rfl
theorem min_shift1 {k j : Nat} : k - j = Nat.min (k + 1 - j) (k - j) := (Nat.min_eq_right (by omega)).symm
theorem perm_snoc {a b : List (List Vl)} {j : Nat} {x : List Vl} (h : a.Perm b) : (putAt a j x).Perm (b ++ [x]) := (putAt_perm a j x).trans ((h.cons x).trans (List.perm_append_singleton x b).symm)
theorem slVals_put {lo : List Sl} {j : Nat} {z : Sl} {w : World} (h : SlVals lo w) (k : VlsIn z.A z.n z.vs w) : SlVals (putAt lo j z) w := fun r hr => by
  rcases putAt_mem.1 hr with rfl | hr
  · exact k
  · exact h r hr
theorem putAt_all {α : Type} {P : α → Prop} {lo : List α} {j : Nat} {z : α} (h : ∀ s ∈ lo, P s) (k : P z) : ∀ s ∈ putAt lo j z, P s := fun r hr => by
  rcases putAt_mem.1 hr with rfl | hr
  · exact k
  · exact h r hr
theorem sorted_put {L : List (List Vl)} {x : List Vl} {j : Nat} (hs : SortedV L) (h1 : ∀ i b, j ≤ i → L[i]? = some b → 0 < rowC b x) (h2 : j = 0 ∨ ∃ a, L[j - 1]? = some a ∧ rowC a x ≤ 0) : SortedV (putAt L j x) :=
  sorted_insert hs h1 (h2.imp id fun ⟨a, e, h⟩ => ⟨a, e, by omega⟩)
theorem cells_shift {lo : List Sl} {k j : Nat} {A : Option Addr} {n c : Nat} {vs : List Vl} (hl : lo.length = k) (hj : j ≤ k) :
    (((slCells lo ++ [Value.slice none 0 0]).take (j + 1) ++ (((slCells lo ++ [Value.slice none 0 0]).drop j).take (k - j) ++ (slCells lo ++ [Value.slice none 0 0]).drop (j + 1 + (k - j)))).set j (.slice A n c)) = slCells (putAt lo j ⟨A, n, c, vs⟩) := by
  have h := shift_put (slCells lo) (Value.slice none 0 0) (.slice A n c) j (by rw [slCells_len]; omega)
  rw [slCells_len, hl] at h
  rw [putAt_slCells, h]
theorem cells_push {lo : List Sl} {j : Nat} {A : Option Addr} {n c : Nat} {vs : List Vl} (hl : lo.length = j) : (slCells lo ++ [Value.slice none 0 0]).set j (.slice A n c) = slCells (putAt lo j ⟨A, n, c, vs⟩) := by
  have h := push_put (slCells lo) (Value.slice none 0 0) (.slice A n c)
  rw [slCells_len, hl] at h
  rw [putAt_slCells, h]
set_option maxHeartbeats 4000000 in
set_option maxRecDepth 100000 in
theorem rsort_any (M : Nat → Prop) (w : World) (hM : ∀ b, M b → b < w.heap.size) (A : Option Addr) (n c : Nat) (l : List Sl) (hD : Ro w M (SlsIn A n l)) (hn : n ≤ 4398046511104) (hr : ∀ s ∈ l, s.n ≤ 4398046511104) (hok : ∀ s ∈ l, s.ok) :
    Calls Tryd.prog 58 #[.slice A n c] w fun e w' => SlsRet w M (sortV (l.map Sl.vs)) e w' := by
  have HL := hid hD.now.len
  have HR := hid hr
  have HOK := hid hok
  have K0 := (((Hold.start M w hM).add (hD.less (by simp [Mut]))).add (show Ro w _ (SlVals []) from fun _ _ _ r hr => nomatch hr)).nil 27 1
  clear hD hr hok
  go_enter Tryd.func58, Tryd.ntmps58
  go_wp2_with fail
  go_loopw [3, 9] (fun ov iv wr => ∃ (k cap : Nat) (C : Option Addr) (lo : List Sl), k ≤ n ∧ ov = .slice C k cap ∧ iv = .int .i64 k ∧ Hid ((lo.map Sl.vs).Perm ((l.map Sl.vs).take k)) ∧ Hid (SortedV (lo.map Sl.vs)) ∧ Hid (∀ s ∈ lo, s.ok) ∧ Hid (∀ s ∈ lo, s.n ≤ 4398046511104) ∧ Hold M none w wr [.own 27 1 (.slice C k cap) k (slCells lo), .ro (SlVals lo), .ro (SlsIn A n l)]) (fun _ iv _ => n - (intOf iv).toNat)
  case atStart => exact ⟨0, 0, none, [], by omega, rfl, rfl, hid (by simp), hid List.Pairwise.nil, hid (fun s hs => nomatch hs), hid (fun s hs => nomatch hs), K0⟩
  case round =>
    clear K0
    obtain ⟨k, cap, C, lo, hk, rfl, rfl, HLO, HSO, HOO, HNO, H⟩ := hrel
    have HLK := hid (show lo.length = k by have := (H.get 0 rfl).1; rw [slCells_len] at this; omega)
    by_cases hlt : k < n
    · have hd : decide ((k : Int) < (n : Int)) = true := by simp; omega
      have i0 : (0 : Int) ≤ (k : Int) := by omega
      have i1 : (k : Int) < (n : Int) := by omega
      obtain ⟨x, hx⟩ := get_of HL.out hlt
      obtain ⟨b, o, rfl, hb, c0, _⟩ := (H.ro 2 rfl).now.at_ hx
      have HXM := hid (List.mem_of_getElem? hx)
      have HXN := hid (HR.out x HXM.out)
      have HXL := hid (show x.vs.length = x.n from ((H.ro 2 rfl).now.2 x HXM.out).len)
      have HXO := hid (HOK.out x HXM.out)
      have HX := hid (show (l.map Sl.vs)[k]? = some x.vs by rw [List.getElem?_map, hx]; rfl)
      clear hx
      go_wp2_with fail
      clear c0
      go_loopw [6] (fun av wq => ∃ (j : Nat), j ≤ k ∧ av = .int .i64 j ∧ Hid (∀ i b, j ≤ i → (lo.map Sl.vs)[i]? = some b → 0 < rowC b x.vs) ∧ Hold M none w wq [.own 27 1 (.slice C k cap) k (slCells lo), .ro (SlVals lo), .ro (SlsIn (some ⟨b, o, none⟩) n l)]) (fun av _ => (intOf av).toNat)
      case atStart => exact ⟨k, by omega, rfl, hid (fun i b hi hb => by have h := (List.getElem?_eq_some_iff.1 hb).1; rw [List.length_map, HLK.out] at h; omega), H⟩
      case round =>
        clear H
        obtain ⟨j, hj, rfl, HBG, H⟩ := hrel
        by_cases h0 : 0 < j
        · obtain ⟨i, rfl⟩ : ∃ i, j = i + 1 := ⟨j - 1, by omega⟩
          have z0 : decide (((i + 1 : Nat) : Int) > 0) = true := by rw [decide_eq_true_iff]; omega
          have hiw : IntKind.i64.wrap (((i + 1 : Nat) : Int) - 1) = (i : Int) := by rw [IntWalk.i64_in _ (by omega)]; omega
          have i2 : (0 : Int) ≤ (i : Int) := by omega
          have i3 : (i : Int) < (k : Int) := by omega
          obtain ⟨s, hs⟩ := get_of HLK.out (show i < k by omega)
          obtain ⟨g, rfl⟩ : ∃ g, C = some ⟨g, 0, none⟩ := by
            rcases own_addr (H.get 0 rfl) with ⟨_, h, _⟩ | ⟨g, h, _⟩
            · omega
            · exact ⟨g, h⟩
          have c1 : wr.cell? ⟨g, i, none⟩ = some (.slice s.A s.n s.c) := ((H.get 0 rfl).cellAt i (by omega)).trans (slCells_at hs)
          have c2 : g < wr.heap.size := (H.fresh _ (List.mem_of_getElem? (i := 0) rfl) g rfl).2
          have HSN := hid (HNO.out s (List.mem_of_getElem? hs))
          have HSS := hid (show (lo.map Sl.vs)[i]? = some s.vs by simp [hs])
          have hcmp := rcmprows_ex _ wr H.mutLt s.A s.n s.c s.vs x.A x.n x.c x.vs ((H.ro 1 rfl).imp fun w2 h2 => h2 s (List.mem_of_getElem? hs)) ((H.ro 2 rfl).imp fun w2 h2 => h2.2 x HXM.out) (by have := HSN.out; omega) (by have := HXN.out; omega)
          obtain ⟨r, hr0⟩ : ∃ r, r = rowC s.vs x.vs := ⟨_, rfl⟩
          rw [← hr0] at hcmp
          have HRR := hid hr0
          have HCM := hid hcmp
          clear hr0 hcmp hs
          by_cases hlt2 : 0 < r
          · have z2 : decide (0 < r) = true := by rw [decide_eq_true_iff]; exact hlt2
            have HBG2 := hid (show ∀ i' b, i ≤ i' → (lo.map Sl.vs)[i']? = some b → 0 < rowC b x.vs from fun i' b hi' hb' => by
              by_cases e : i' = i
              · subst e; rw [HSS.out] at hb'; injection hb' with hb'; subst hb'; rw [← HRR.out]; exact hlt2
              · exact HBG.out i' b (by omega) hb')
            clear hlt2
            go_wp2_with fail
            refine HCM.out.mono ?_
            rintro e w5 ⟨rfl, b5⟩
            have H2 := H.call b5
            clear H b5 c1 c2
            go_wp2_with fail
            go_roundw
            case rel => exact ⟨i, by omega, by first | rfl | (simp <;> omega), HBG2, H2⟩
            case measure => simp [intOf] <;> omega
          · have z2 : decide (0 < r) = false := by rw [decide_eq_false_iff_not]; exact hlt2
            have HNL := hid hlt2
            clear hlt2
            go_wp2_with fail
            refine HCM.out.mono ?_
            rintro e w5 ⟨rfl, b5⟩
            have H2 := H.call b5
            clear H b5 c1 c2
            obtain ⟨j, hjd⟩ : ∃ j, j = i + 1 := ⟨_, rfl⟩
            have hjj : ((i + 1 : Nat) : Int) = (j : Int) := by omega
            rw [show ((i : Int) + 1) = (j : Int) by omega]
            rw [← hjd] at HBG hj
            have HJD := hid hjd
            clear z0 hiw i2 i3 hjj hd i0 i1 hjd
            have HPL := hid (show j = 0 ∨ ∃ a, (lo.map Sl.vs)[j - 1]? = some a ∧ rowC a x.vs ≤ 0 from .inr ⟨s.vs, by rw [HJD.out]; exact HSS.out, by rw [← HRR.out]; have := HNL.out; omega⟩)
            have hlk : lo.length = k := HLK.out
            go_wp2_with (at_builtin; go_must (refine wpList_appH H2 0 rfl Tryd.elSlc #[.slice none 0 0] rfl (.tmp 29) (.tmp 30) rfl rfl _ (by first | rfl | simp) rfl rfl (by intro u hu; simp at hu; rcases hu with rfl; rfl) (by omega) (by omega) ?_); intro g9 cap9 w9 hc9 hm9 KB)
            simp only [List.set_cons_zero, List.set_cons_succ] at KB
            obtain ⟨KL, hKL, KN⟩ := KB.name
            have HKL := hid hKL
            clear hKL KB H2
            have hj0 : (0 : Int) ≤ (j : Int) := by omega
            have hj1 : (j : Int) ≤ (k : Int) + 1 := by omega
            have hj2 : (0 : Int) ≤ (j : Int) + 1 := by omega
            have hj3 : (j : Int) + 1 ≤ (k : Int) + 1 := by omega
            have hjw : IntKind.i64.wrap ((j : Int) + 1) = (j : Int) + 1 := IntWalk.i64_in _ (by omega)
            have hjt : ((j : Int) + 1).toNat = j + 1 := by omega
            have hjc : ¬ cap9 = j := by omega
            by_cases hjk : j < k
            · have hcp : ¬ cap9 = j + 1 := by omega
              refine wp_region_any (by kernel_rfl) ?_
              refine wpAny_hold 7 47 (KL) (spL []) (by kernel_rfl) (by kernel_rfl) (by kernel_rfl) rfl ?_ (KN.drew) ?_
              · exact stays_nil _
              simp only [List.take_succ_cons, List.take_zero, List.drop_succ_cons, List.drop_zero, Act.put, List.getElem_toArray, List.getElem_cons_zero, List.getElem_cons_succ, List.setIfInBounds_toArray, List.set_cons_succ, List.set_cons_zero]
              refine dw_val rfl rfl rfl ?_; apply Exists.intro; refine ⟨fun wv HC => ?_, ?_⟩
              ·  go_simp <;> rfl
              simp only [Act.put, List.setIfInBounds_toArray, List.set_cons_succ, List.set_cons_zero]
              refine dw_val rfl rfl rfl ?_; apply Exists.intro; refine ⟨fun wv HC => ?_, ?_⟩
              ·  go_simp <;> rfl
              simp only [Act.put, List.setIfInBounds_toArray, List.set_cons_succ, List.set_cons_zero]
              refine dw_val rfl rfl rfl ?_; apply Exists.intro; refine ⟨fun wv HC => ?_, ?_⟩
              ·  go_simp <;> rfl
              simp only [Act.put, List.setIfInBounds_toArray, List.set_cons_succ, List.set_cons_zero]
              refine dw_val rfl rfl rfl ?_; apply Exists.intro; refine ⟨fun wv HC => ?_, ?_⟩
              ·  go_simp <;> rfl
              simp only [Act.put, List.setIfInBounds_toArray, List.set_cons_succ, List.set_cons_zero]
              refine dw_val rfl rfl rfl ?_; apply Exists.intro; refine ⟨fun wv HC => ?_, ?_⟩
              ·  go_simp <;> rfl
              simp only [Act.put, List.setIfInBounds_toArray, List.set_cons_succ, List.set_cons_zero]
              refine dw_val rfl rfl rfl ?_; apply Exists.intro; refine ⟨fun wv HC => ?_, ?_⟩
              ·  go_simp <;> rfl
              simp only [Act.put, List.setIfInBounds_toArray, List.set_cons_succ, List.set_cons_zero]
              refine dw_val rfl rfl rfl ?_; apply Exists.intro; refine ⟨fun wv HC => ?_, ?_⟩
              ·  go_simp <;> rfl
              simp only [Act.put, List.setIfInBounds_toArray, List.set_cons_succ, List.set_cons_zero]
              refine rel_nil ?_
              rintro wx9 HX9
              rintro _hrm _HG
              clear _hrm _HG
              rw [HKL.out] at HX9
              clear HKL KN
              refine wpList_copyH HX9 0 rfl rfl (.tmp 35) (.tmp 38) _ _ rfl 27 Tryd.underlying25 (by kernel_rfl) (j + 1) j _ _ _ _ (k - j) rfl rfl (show k - j = Nat.min (k + 1 - j) (k - j) from min_shift1) (by omega) (by omega) (slNil_one lo) ?_
              intro w10 KD
              simp only [List.set_cons_zero, List.set_cons_succ] at KD
              go_wp2_with fail
              refine (copyVls_any _ _ KD.mutLt x.A x.n x.c x.vs ((KD.ro 2 rfl).imp fun w2 h2 => h2.2 x HXM.out) (by have := HXN.out; omega)).mono ?_
              rintro e w11 ⟨zA, zn, zc, rfl, z1, z2, z3, rz, bz⟩
              have KE := (KD.call bz).add (show Ro w11 _ (VlsIn zA zn x.vs) from rz)
              have HZ := hid (And.intro z1 (And.intro z2 z3))
              clear KD bz rz z1 z2 z3
              obtain ⟨uj, huj⟩ : ∃ u, w11.cell? ⟨g9, j, none⟩ = some u := ⟨_, ((KE.get 1 rfl).cellAt j (by omega)).trans (List.getElem?_eq_getElem (by have := (KE.get 1 rfl).1; omega))⟩
              have hfj : w11.frozen? ⟨g9, j, none⟩ = false := (KE.get 1 rfl).frozenAt j
              have hgj : g9 < w11.heap.size := (KE.fresh _ (List.mem_of_getElem? (i := 1) rfl) g9 rfl).2
              have KF := KE.put_ 1 rfl j (.slice zA zn zc)
              simp only [List.set_cons_zero, List.set_cons_succ] at KF
              rw [cells_shift (vs := x.vs) HLK.out (by omega)] at KF
              have KG := (KF.swapRo 2 rfl (((KF.ro 2 rfl).and (KF.ro 0 rfl)).imp fun w2 h => slVals_put (j := j) (z := ⟨zA, zn, zc, x.vs⟩) h.1 h.2)).drop (List.sublist_cons_self _ _)
              simp only [List.set_cons_zero, List.set_cons_succ] at KG
              clear KE KF
              have HP1 := hid (show ((putAt lo j ⟨zA, zn, zc, x.vs⟩).map Sl.vs).Perm ((l.map Sl.vs).take (k + 1)) by rw [putAt_map, List.take_add_one, HX.out]; exact perm_snoc HLO.out)
              have HP2 := hid (show SortedV ((putAt lo j ⟨zA, zn, zc, x.vs⟩).map Sl.vs) by rw [putAt_map]; exact sorted_put HSO.out HBG.out HPL.out)
              have HP3 := hid (putAt_all (P := Sl.ok) (j := j) (z := (⟨zA, zn, zc, x.vs⟩ : Sl)) HOO.out ⟨HZ.out.2.1, HZ.out.2.2, HXO.out.vs⟩)
              have HP4 := hid (putAt_all (P := fun s : Sl => s.n ≤ 4398046511104) (j := j) (z := (⟨zA, zn, zc, x.vs⟩ : Sl)) HNO.out (by have h1 := HZ.out.1; have h2 := HXN.out; have h3 := HXL.out; show zn ≤ _; omega))
              go_wp2_with fail
              go_roundw
              case rel => exact ⟨k + 1, _, some ⟨g9, 0, none⟩, _, by omega, by first | rfl | go_num, by first | rfl | go_num, HP1, HP2, HP3, HP4, KG⟩
              case measure => simp [intOf]; omega
            · obtain rfl : j = k := by omega
              by_cases hcp : cap9 = j + 1
              · subst hcp
                refine wp_region_any (by kernel_rfl) ?_
                refine wpAny_hold 7 47 (KL) (spL []) (by kernel_rfl) (by kernel_rfl) (by kernel_rfl) rfl ?_ (KN.drew) ?_
                · exact stays_nil _
                simp only [List.take_succ_cons, List.take_zero, List.drop_succ_cons, List.drop_zero, Act.put, List.getElem_toArray, List.getElem_cons_zero, List.getElem_cons_succ, List.setIfInBounds_toArray, List.set_cons_succ, List.set_cons_zero]
                refine dw_val rfl rfl rfl ?_; apply Exists.intro; refine ⟨fun wv HC => ?_, ?_⟩
                ·  go_simp <;> rfl
                simp only [Act.put, List.setIfInBounds_toArray, List.set_cons_succ, List.set_cons_zero]
                refine dw_val rfl rfl rfl ?_; apply Exists.intro; refine ⟨fun wv HC => ?_, ?_⟩
                ·  go_simp <;> rfl
                simp only [Act.put, List.setIfInBounds_toArray, List.set_cons_succ, List.set_cons_zero]
                refine dw_val rfl rfl rfl ?_; apply Exists.intro; refine ⟨fun wv HC => ?_, ?_⟩
                ·  go_simp <;> rfl
                simp only [Act.put, List.setIfInBounds_toArray, List.set_cons_succ, List.set_cons_zero]
                refine dw_val rfl rfl rfl ?_; apply Exists.intro; refine ⟨fun wv HC => ?_, ?_⟩
                ·  go_simp <;> rfl
                simp only [Act.put, List.setIfInBounds_toArray, List.set_cons_succ, List.set_cons_zero]
                refine dw_val rfl rfl rfl ?_; apply Exists.intro; refine ⟨fun wv HC => ?_, ?_⟩
                ·  go_simp <;> rfl
                simp only [Act.put, List.setIfInBounds_toArray, List.set_cons_succ, List.set_cons_zero]
                refine dw_val rfl rfl rfl ?_; apply Exists.intro; refine ⟨fun wv HC => ?_, ?_⟩
                ·  go_simp <;> rfl
                simp only [Act.put, List.setIfInBounds_toArray, List.set_cons_succ, List.set_cons_zero]
                refine dw_val rfl rfl rfl ?_; apply Exists.intro; refine ⟨fun wv HC => ?_, ?_⟩
                ·  go_simp <;> rfl
                simp only [Act.put, List.setIfInBounds_toArray, List.set_cons_succ, List.set_cons_zero]
                refine rel_nil ?_
                rintro wx9 HX9
                rintro _hrm _HG
                clear _hrm _HG
                rw [HKL.out] at HX9
                clear HKL KN
                refine wpList_copy_nothing rfl (.tmp 35) (.tmp 38) _ _ rfl 27 Tryd.underlying25 (by kernel_rfl) _ _ _ _ _ _ rfl rfl (by simp) ?_
                go_wp2_with fail
                have KD := HX9
                refine (copyVls_any _ _ KD.mutLt x.A x.n x.c x.vs ((KD.ro 2 rfl).imp fun w2 h2 => h2.2 x HXM.out) (by have := HXN.out; omega)).mono ?_
                rintro e w11 ⟨zA, zn, zc, rfl, z1, z2, z3, rz, bz⟩
                have KE := (KD.call bz).add (show Ro w11 _ (VlsIn zA zn x.vs) from rz)
                have HZ := hid (And.intro z1 (And.intro z2 z3))
                clear KD bz rz z1 z2 z3
                obtain ⟨uj, huj⟩ : ∃ u, w11.cell? ⟨g9, j, none⟩ = some u := ⟨_, ((KE.get 1 rfl).cellAt j (by omega)).trans (List.getElem?_eq_getElem (by have := (KE.get 1 rfl).1; omega))⟩
                have hfj : w11.frozen? ⟨g9, j, none⟩ = false := (KE.get 1 rfl).frozenAt j
                have hgj : g9 < w11.heap.size := (KE.fresh _ (List.mem_of_getElem? (i := 1) rfl) g9 rfl).2
                have KF := KE.put_ 1 rfl j (.slice zA zn zc)
                simp only [List.set_cons_zero, List.set_cons_succ] at KF
                rw [cells_push (vs := x.vs) HLK.out] at KF
                have KG := (KF.swapRo 2 rfl (((KF.ro 2 rfl).and (KF.ro 0 rfl)).imp fun w2 h => slVals_put (j := j) (z := ⟨zA, zn, zc, x.vs⟩) h.1 h.2)).drop (List.sublist_cons_self _ _)
                simp only [List.set_cons_zero, List.set_cons_succ] at KG
                clear KE KF
                have HP1 := hid (show ((putAt lo j ⟨zA, zn, zc, x.vs⟩).map Sl.vs).Perm ((l.map Sl.vs).take (j + 1)) by rw [putAt_map, List.take_add_one, HX.out]; exact perm_snoc HLO.out)
                have HP2 := hid (show SortedV ((putAt lo j ⟨zA, zn, zc, x.vs⟩).map Sl.vs) by rw [putAt_map]; exact sorted_put HSO.out HBG.out HPL.out)
                have HP3 := hid (putAt_all (P := Sl.ok) (j := j) (z := (⟨zA, zn, zc, x.vs⟩ : Sl)) HOO.out ⟨HZ.out.2.1, HZ.out.2.2, HXO.out.vs⟩)
                have HP4 := hid (putAt_all (P := fun s : Sl => s.n ≤ 4398046511104) (j := j) (z := (⟨zA, zn, zc, x.vs⟩ : Sl)) HNO.out (by have h1 := HZ.out.1; have h2 := HXN.out; have h3 := HXL.out; show zn ≤ _; omega))
                go_wp2_with fail
                go_roundw
                case rel => exact ⟨j + 1, _, some ⟨g9, 0, none⟩, _, by omega, by first | rfl | go_num, by first | rfl | go_num, HP1, HP2, HP3, HP4, KG⟩
                case measure => simp [intOf]; omega
              · skip
                refine wp_region_any (by kernel_rfl) ?_
                refine wpAny_hold 7 47 (KL) (spL []) (by kernel_rfl) (by kernel_rfl) (by kernel_rfl) rfl ?_ (KN.drew) ?_
                · exact stays_nil _
                simp only [List.take_succ_cons, List.take_zero, List.drop_succ_cons, List.drop_zero, Act.put, List.getElem_toArray, List.getElem_cons_zero, List.getElem_cons_succ, List.setIfInBounds_toArray, List.set_cons_succ, List.set_cons_zero]
                refine dw_val rfl rfl rfl ?_; apply Exists.intro; refine ⟨fun wv HC => ?_, ?_⟩
                ·  go_simp <;> rfl
                simp only [Act.put, List.setIfInBounds_toArray, List.set_cons_succ, List.set_cons_zero]
                refine dw_val rfl rfl rfl ?_; apply Exists.intro; refine ⟨fun wv HC => ?_, ?_⟩
                ·  go_simp <;> rfl
                simp only [Act.put, List.setIfInBounds_toArray, List.set_cons_succ, List.set_cons_zero]
                refine dw_val rfl rfl rfl ?_; apply Exists.intro; refine ⟨fun wv HC => ?_, ?_⟩
                ·  go_simp <;> rfl
                simp only [Act.put, List.setIfInBounds_toArray, List.set_cons_succ, List.set_cons_zero]
                refine dw_val rfl rfl rfl ?_; apply Exists.intro; refine ⟨fun wv HC => ?_, ?_⟩
                ·  go_simp <;> rfl
                simp only [Act.put, List.setIfInBounds_toArray, List.set_cons_succ, List.set_cons_zero]
                refine dw_val rfl rfl rfl ?_; apply Exists.intro; refine ⟨fun wv HC => ?_, ?_⟩
                ·  go_simp <;> rfl
                simp only [Act.put, List.setIfInBounds_toArray, List.set_cons_succ, List.set_cons_zero]
                refine dw_val rfl rfl rfl ?_; apply Exists.intro; refine ⟨fun wv HC => ?_, ?_⟩
                ·  go_simp <;> rfl
                simp only [Act.put, List.setIfInBounds_toArray, List.set_cons_succ, List.set_cons_zero]
                refine dw_val rfl rfl rfl ?_; apply Exists.intro; refine ⟨fun wv HC => ?_, ?_⟩
                ·  go_simp <;> rfl
                simp only [Act.put, List.setIfInBounds_toArray, List.set_cons_succ, List.set_cons_zero]
                refine rel_nil ?_
                rintro wx9 HX9
                rintro _hrm _HG
                clear _hrm _HG
                rw [HKL.out] at HX9
                clear HKL KN
                refine wpList_copy_nothing rfl (.tmp 35) (.tmp 38) _ _ rfl 27 Tryd.underlying25 (by kernel_rfl) _ _ _ _ _ _ rfl rfl (by simp) ?_
                go_wp2_with fail
                have KD := HX9
                refine (copyVls_any _ _ KD.mutLt x.A x.n x.c x.vs ((KD.ro 2 rfl).imp fun w2 h2 => h2.2 x HXM.out) (by have := HXN.out; omega)).mono ?_
                rintro e w11 ⟨zA, zn, zc, rfl, z1, z2, z3, rz, bz⟩
                have KE := (KD.call bz).add (show Ro w11 _ (VlsIn zA zn x.vs) from rz)
                have HZ := hid (And.intro z1 (And.intro z2 z3))
                clear KD bz rz z1 z2 z3
                obtain ⟨uj, huj⟩ : ∃ u, w11.cell? ⟨g9, j, none⟩ = some u := ⟨_, ((KE.get 1 rfl).cellAt j (by omega)).trans (List.getElem?_eq_getElem (by have := (KE.get 1 rfl).1; omega))⟩
                have hfj : w11.frozen? ⟨g9, j, none⟩ = false := (KE.get 1 rfl).frozenAt j
                have hgj : g9 < w11.heap.size := (KE.fresh _ (List.mem_of_getElem? (i := 1) rfl) g9 rfl).2
                have KF := KE.put_ 1 rfl j (.slice zA zn zc)
                simp only [List.set_cons_zero, List.set_cons_succ] at KF
                rw [cells_push (vs := x.vs) HLK.out] at KF
                have KG := (KF.swapRo 2 rfl (((KF.ro 2 rfl).and (KF.ro 0 rfl)).imp fun w2 h => slVals_put (j := j) (z := ⟨zA, zn, zc, x.vs⟩) h.1 h.2)).drop (List.sublist_cons_self _ _)
                simp only [List.set_cons_zero, List.set_cons_succ] at KG
                clear KE KF
                have HP1 := hid (show ((putAt lo j ⟨zA, zn, zc, x.vs⟩).map Sl.vs).Perm ((l.map Sl.vs).take (j + 1)) by rw [putAt_map, List.take_add_one, HX.out]; exact perm_snoc HLO.out)
                have HP2 := hid (show SortedV ((putAt lo j ⟨zA, zn, zc, x.vs⟩).map Sl.vs) by rw [putAt_map]; exact sorted_put HSO.out HBG.out HPL.out)
                have HP3 := hid (putAt_all (P := Sl.ok) (j := j) (z := (⟨zA, zn, zc, x.vs⟩ : Sl)) HOO.out ⟨HZ.out.2.1, HZ.out.2.2, HXO.out.vs⟩)
                have HP4 := hid (putAt_all (P := fun s : Sl => s.n ≤ 4398046511104) (j := j) (z := (⟨zA, zn, zc, x.vs⟩ : Sl)) HNO.out (by have h1 := HZ.out.1; have h2 := HXN.out; have h3 := HXL.out; show zn ≤ _; omega))
                go_wp2_with fail
                go_roundw
                case rel => exact ⟨j + 1, _, some ⟨g9, 0, none⟩, _, by omega, by first | rfl | go_num, by first | rfl | go_num, HP1, HP2, HP3, HP4, KG⟩
                case measure => simp [intOf]; omega
        · have z0 : decide ((j : Int) > 0) = false := by rw [decide_eq_false_iff_not]; omega
          clear hd i0 i1
          have HPL := hid (show j = 0 ∨ ∃ a, (lo.map Sl.vs)[j - 1]? = some a ∧ rowC a x.vs ≤ 0 from .inl (by omega))
          have hlk : lo.length = k := HLK.out
          go_wp2_with (at_builtin; go_must (refine wpList_appH H 0 rfl Tryd.elSlc #[.slice none 0 0] rfl (.tmp 29) (.tmp 30) rfl rfl _ (by first | rfl | simp) rfl rfl (by intro u hu; simp at hu; rcases hu with rfl; rfl) (by omega) (by omega) ?_); intro g9 cap9 w9 hc9 hm9 KB)
          simp only [List.set_cons_zero, List.set_cons_succ] at KB
          obtain ⟨KL, hKL, KN⟩ := KB.name
          have HKL := hid hKL
          clear hKL KB H
          have hj0 : (0 : Int) ≤ (j : Int) := by omega
          have hj1 : (j : Int) ≤ (k : Int) + 1 := by omega
          have hj2 : (0 : Int) ≤ (j : Int) + 1 := by omega
          have hj3 : (j : Int) + 1 ≤ (k : Int) + 1 := by omega
          have hjw : IntKind.i64.wrap ((j : Int) + 1) = (j : Int) + 1 := IntWalk.i64_in _ (by omega)
          have hjt : ((j : Int) + 1).toNat = j + 1 := by omega
          have hjc : ¬ cap9 = j := by omega
          by_cases hjk : j < k
          · have hcp : ¬ cap9 = j + 1 := by omega
            refine wp_region_any (by kernel_rfl) ?_
            refine wpAny_hold 7 47 (KL) (spL []) (by kernel_rfl) (by kernel_rfl) (by kernel_rfl) rfl ?_ (KN.drew) ?_
            · exact stays_nil _
            simp only [List.take_succ_cons, List.take_zero, List.drop_succ_cons, List.drop_zero, Act.put, List.getElem_toArray, List.getElem_cons_zero, List.getElem_cons_succ, List.setIfInBounds_toArray, List.set_cons_succ, List.set_cons_zero]
            refine dw_val rfl rfl rfl ?_; apply Exists.intro; refine ⟨fun wv HC => ?_, ?_⟩
            ·  go_simp <;> rfl
            simp only [Act.put, List.setIfInBounds_toArray, List.set_cons_succ, List.set_cons_zero]
            refine dw_val rfl rfl rfl ?_; apply Exists.intro; refine ⟨fun wv HC => ?_, ?_⟩
            ·  go_simp <;> rfl
            simp only [Act.put, List.setIfInBounds_toArray, List.set_cons_succ, List.set_cons_zero]
            refine dw_val rfl rfl rfl ?_; apply Exists.intro; refine ⟨fun wv HC => ?_, ?_⟩
            ·  go_simp <;> rfl
            simp only [Act.put, List.setIfInBounds_toArray, List.set_cons_succ, List.set_cons_zero]
            refine dw_val rfl rfl rfl ?_; apply Exists.intro; refine ⟨fun wv HC => ?_, ?_⟩
            ·  go_simp <;> rfl
            simp only [Act.put, List.setIfInBounds_toArray, List.set_cons_succ, List.set_cons_zero]
            refine dw_val rfl rfl rfl ?_; apply Exists.intro; refine ⟨fun wv HC => ?_, ?_⟩
            ·  go_simp <;> rfl
            simp only [Act.put, List.setIfInBounds_toArray, List.set_cons_succ, List.set_cons_zero]
            refine dw_val rfl rfl rfl ?_; apply Exists.intro; refine ⟨fun wv HC => ?_, ?_⟩
            ·  go_simp <;> rfl
            simp only [Act.put, List.setIfInBounds_toArray, List.set_cons_succ, List.set_cons_zero]
            refine dw_val rfl rfl rfl ?_; apply Exists.intro; refine ⟨fun wv HC => ?_, ?_⟩
            ·  go_simp <;> rfl
            simp only [Act.put, List.setIfInBounds_toArray, List.set_cons_succ, List.set_cons_zero]
            refine rel_nil ?_
            rintro wx9 HX9
            rintro _hrm _HG
            clear _hrm _HG
            rw [HKL.out] at HX9
            clear HKL KN
            refine wpList_copyH HX9 0 rfl rfl (.tmp 35) (.tmp 38) _ _ rfl 27 Tryd.underlying25 (by kernel_rfl) (j + 1) j _ _ _ _ (k - j) rfl rfl (show k - j = Nat.min (k + 1 - j) (k - j) from min_shift1) (by omega) (by omega) (slNil_one lo) ?_
            intro w10 KD
            simp only [List.set_cons_zero, List.set_cons_succ] at KD
            go_wp2_with fail
            refine (copyVls_any _ _ KD.mutLt x.A x.n x.c x.vs ((KD.ro 2 rfl).imp fun w2 h2 => h2.2 x HXM.out) (by have := HXN.out; omega)).mono ?_
            rintro e w11 ⟨zA, zn, zc, rfl, z1, z2, z3, rz, bz⟩
            have KE := (KD.call bz).add (show Ro w11 _ (VlsIn zA zn x.vs) from rz)
            have HZ := hid (And.intro z1 (And.intro z2 z3))
            clear KD bz rz z1 z2 z3
            obtain ⟨uj, huj⟩ : ∃ u, w11.cell? ⟨g9, j, none⟩ = some u := ⟨_, ((KE.get 1 rfl).cellAt j (by omega)).trans (List.getElem?_eq_getElem (by have := (KE.get 1 rfl).1; omega))⟩
            have hfj : w11.frozen? ⟨g9, j, none⟩ = false := (KE.get 1 rfl).frozenAt j
            have hgj : g9 < w11.heap.size := (KE.fresh _ (List.mem_of_getElem? (i := 1) rfl) g9 rfl).2
            have KF := KE.put_ 1 rfl j (.slice zA zn zc)
            simp only [List.set_cons_zero, List.set_cons_succ] at KF
            rw [cells_shift (vs := x.vs) HLK.out (by omega)] at KF
            have KG := (KF.swapRo 2 rfl (((KF.ro 2 rfl).and (KF.ro 0 rfl)).imp fun w2 h => slVals_put (j := j) (z := ⟨zA, zn, zc, x.vs⟩) h.1 h.2)).drop (List.sublist_cons_self _ _)
            simp only [List.set_cons_zero, List.set_cons_succ] at KG
            clear KE KF
            have HP1 := hid (show ((putAt lo j ⟨zA, zn, zc, x.vs⟩).map Sl.vs).Perm ((l.map Sl.vs).take (k + 1)) by rw [putAt_map, List.take_add_one, HX.out]; exact perm_snoc HLO.out)
            have HP2 := hid (show SortedV ((putAt lo j ⟨zA, zn, zc, x.vs⟩).map Sl.vs) by rw [putAt_map]; exact sorted_put HSO.out HBG.out HPL.out)
            have HP3 := hid (putAt_all (P := Sl.ok) (j := j) (z := (⟨zA, zn, zc, x.vs⟩ : Sl)) HOO.out ⟨HZ.out.2.1, HZ.out.2.2, HXO.out.vs⟩)
            have HP4 := hid (putAt_all (P := fun s : Sl => s.n ≤ 4398046511104) (j := j) (z := (⟨zA, zn, zc, x.vs⟩ : Sl)) HNO.out (by have h1 := HZ.out.1; have h2 := HXN.out; have h3 := HXL.out; show zn ≤ _; omega))
            go_wp2_with fail
            go_roundw
            case rel => exact ⟨k + 1, _, some ⟨g9, 0, none⟩, _, by omega, by first | rfl | go_num, by first | rfl | go_num, HP1, HP2, HP3, HP4, KG⟩
            case measure => simp [intOf]; omega
          · obtain rfl : j = k := by omega
            by_cases hcp : cap9 = j + 1
            · subst hcp
              refine wp_region_any (by kernel_rfl) ?_
              refine wpAny_hold 7 47 (KL) (spL []) (by kernel_rfl) (by kernel_rfl) (by kernel_rfl) rfl ?_ (KN.drew) ?_
              · exact stays_nil _
              simp only [List.take_succ_cons, List.take_zero, List.drop_succ_cons, List.drop_zero, Act.put, List.getElem_toArray, List.getElem_cons_zero, List.getElem_cons_succ, List.setIfInBounds_toArray, List.set_cons_succ, List.set_cons_zero]
              refine dw_val rfl rfl rfl ?_; apply Exists.intro; refine ⟨fun wv HC => ?_, ?_⟩
              ·  go_simp <;> rfl
              simp only [Act.put, List.setIfInBounds_toArray, List.set_cons_succ, List.set_cons_zero]
              refine dw_val rfl rfl rfl ?_; apply Exists.intro; refine ⟨fun wv HC => ?_, ?_⟩
              ·  go_simp <;> rfl
              simp only [Act.put, List.setIfInBounds_toArray, List.set_cons_succ, List.set_cons_zero]
              refine dw_val rfl rfl rfl ?_; apply Exists.intro; refine ⟨fun wv HC => ?_, ?_⟩
              ·  go_simp <;> rfl
              simp only [Act.put, List.setIfInBounds_toArray, List.set_cons_succ, List.set_cons_zero]
              refine dw_val rfl rfl rfl ?_; apply Exists.intro; refine ⟨fun wv HC => ?_, ?_⟩
              ·  go_simp <;> rfl
              simp only [Act.put, List.setIfInBounds_toArray, List.set_cons_succ, List.set_cons_zero]
              refine dw_val rfl rfl rfl ?_; apply Exists.intro; refine ⟨fun wv HC => ?_, ?_⟩
              ·  go_simp <;> rfl
              simp only [Act.put, List.setIfInBounds_toArray, List.set_cons_succ, List.set_cons_zero]
              refine dw_val rfl rfl rfl ?_; apply Exists.intro; refine ⟨fun wv HC => ?_, ?_⟩
              ·  go_simp <;> rfl
              simp only [Act.put, List.setIfInBounds_toArray, List.set_cons_succ, List.set_cons_zero]
              refine dw_val rfl rfl rfl ?_; apply Exists.intro; refine ⟨fun wv HC => ?_, ?_⟩
              ·  go_simp <;> rfl
              simp only [Act.put, List.setIfInBounds_toArray, List.set_cons_succ, List.set_cons_zero]
              refine rel_nil ?_
              rintro wx9 HX9
              rintro _hrm _HG
              clear _hrm _HG
              rw [HKL.out] at HX9
              clear HKL KN
              refine wpList_copy_nothing rfl (.tmp 35) (.tmp 38) _ _ rfl 27 Tryd.underlying25 (by kernel_rfl) _ _ _ _ _ _ rfl rfl (by simp) ?_
              go_wp2_with fail
              have KD := HX9
              refine (copyVls_any _ _ KD.mutLt x.A x.n x.c x.vs ((KD.ro 2 rfl).imp fun w2 h2 => h2.2 x HXM.out) (by have := HXN.out; omega)).mono ?_
              rintro e w11 ⟨zA, zn, zc, rfl, z1, z2, z3, rz, bz⟩
              have KE := (KD.call bz).add (show Ro w11 _ (VlsIn zA zn x.vs) from rz)
              have HZ := hid (And.intro z1 (And.intro z2 z3))
              clear KD bz rz z1 z2 z3
              obtain ⟨uj, huj⟩ : ∃ u, w11.cell? ⟨g9, j, none⟩ = some u := ⟨_, ((KE.get 1 rfl).cellAt j (by omega)).trans (List.getElem?_eq_getElem (by have := (KE.get 1 rfl).1; omega))⟩
              have hfj : w11.frozen? ⟨g9, j, none⟩ = false := (KE.get 1 rfl).frozenAt j
              have hgj : g9 < w11.heap.size := (KE.fresh _ (List.mem_of_getElem? (i := 1) rfl) g9 rfl).2
              have KF := KE.put_ 1 rfl j (.slice zA zn zc)
              simp only [List.set_cons_zero, List.set_cons_succ] at KF
              rw [cells_push (vs := x.vs) HLK.out] at KF
              have KG := (KF.swapRo 2 rfl (((KF.ro 2 rfl).and (KF.ro 0 rfl)).imp fun w2 h => slVals_put (j := j) (z := ⟨zA, zn, zc, x.vs⟩) h.1 h.2)).drop (List.sublist_cons_self _ _)
              simp only [List.set_cons_zero, List.set_cons_succ] at KG
              clear KE KF
              have HP1 := hid (show ((putAt lo j ⟨zA, zn, zc, x.vs⟩).map Sl.vs).Perm ((l.map Sl.vs).take (j + 1)) by rw [putAt_map, List.take_add_one, HX.out]; exact perm_snoc HLO.out)
              have HP2 := hid (show SortedV ((putAt lo j ⟨zA, zn, zc, x.vs⟩).map Sl.vs) by rw [putAt_map]; exact sorted_put HSO.out HBG.out HPL.out)
              have HP3 := hid (putAt_all (P := Sl.ok) (j := j) (z := (⟨zA, zn, zc, x.vs⟩ : Sl)) HOO.out ⟨HZ.out.2.1, HZ.out.2.2, HXO.out.vs⟩)
              have HP4 := hid (putAt_all (P := fun s : Sl => s.n ≤ 4398046511104) (j := j) (z := (⟨zA, zn, zc, x.vs⟩ : Sl)) HNO.out (by have h1 := HZ.out.1; have h2 := HXN.out; have h3 := HXL.out; show zn ≤ _; omega))
              go_wp2_with fail
              go_roundw
              case rel => exact ⟨j + 1, _, some ⟨g9, 0, none⟩, _, by omega, by first | rfl | go_num, by first | rfl | go_num, HP1, HP2, HP3, HP4, KG⟩
              case measure => simp [intOf]; omega
            · skip
              refine wp_region_any (by kernel_rfl) ?_
              refine wpAny_hold 7 47 (KL) (spL []) (by kernel_rfl) (by kernel_rfl) (by kernel_rfl) rfl ?_ (KN.drew) ?_
              · exact stays_nil _
              simp only [List.take_succ_cons, List.take_zero, List.drop_succ_cons, List.drop_zero, Act.put, List.getElem_toArray, List.getElem_cons_zero, List.getElem_cons_succ, List.setIfInBounds_toArray, List.set_cons_succ, List.set_cons_zero]
              refine dw_val rfl rfl rfl ?_; apply Exists.intro; refine ⟨fun wv HC => ?_, ?_⟩
              ·  go_simp <;> rfl
              simp only [Act.put, List.setIfInBounds_toArray, List.set_cons_succ, List.set_cons_zero]
              refine dw_val rfl rfl rfl ?_; apply Exists.intro; refine ⟨fun wv HC => ?_, ?_⟩
              ·  go_simp <;> rfl
              simp only [Act.put, List.setIfInBounds_toArray, List.set_cons_succ, List.set_cons_zero]
              refine dw_val rfl rfl rfl ?_; apply Exists.intro; refine ⟨fun wv HC => ?_, ?_⟩
              ·  go_simp <;> rfl
              simp only [Act.put, List.setIfInBounds_toArray, List.set_cons_succ, List.set_cons_zero]
              refine dw_val rfl rfl rfl ?_; apply Exists.intro; refine ⟨fun wv HC => ?_, ?_⟩
              ·  go_simp <;> rfl
              simp only [Act.put, List.setIfInBounds_toArray, List.set_cons_succ, List.set_cons_zero]
              refine dw_val rfl rfl rfl ?_; apply Exists.intro; refine ⟨fun wv HC => ?_, ?_⟩
              ·  go_simp <;> rfl
              simp only [Act.put, List.setIfInBounds_toArray, List.set_cons_succ, List.set_cons_zero]
              refine dw_val rfl rfl rfl ?_; apply Exists.intro; refine ⟨fun wv HC => ?_, ?_⟩
              ·  go_simp <;> rfl
              simp only [Act.put, List.setIfInBounds_toArray, List.set_cons_succ, List.set_cons_zero]
              refine dw_val rfl rfl rfl ?_; apply Exists.intro; refine ⟨fun wv HC => ?_, ?_⟩
              ·  go_simp <;> rfl
              simp only [Act.put, List.setIfInBounds_toArray, List.set_cons_succ, List.set_cons_zero]
              refine rel_nil ?_
              rintro wx9 HX9
              rintro _hrm _HG
              clear _hrm _HG
              rw [HKL.out] at HX9
              clear HKL KN
              refine wpList_copy_nothing rfl (.tmp 35) (.tmp 38) _ _ rfl 27 Tryd.underlying25 (by kernel_rfl) _ _ _ _ _ _ rfl rfl (by simp) ?_
              go_wp2_with fail
              have KD := HX9
              refine (copyVls_any _ _ KD.mutLt x.A x.n x.c x.vs ((KD.ro 2 rfl).imp fun w2 h2 => h2.2 x HXM.out) (by have := HXN.out; omega)).mono ?_
              rintro e w11 ⟨zA, zn, zc, rfl, z1, z2, z3, rz, bz⟩
              have KE := (KD.call bz).add (show Ro w11 _ (VlsIn zA zn x.vs) from rz)
              have HZ := hid (And.intro z1 (And.intro z2 z3))
              clear KD bz rz z1 z2 z3
              obtain ⟨uj, huj⟩ : ∃ u, w11.cell? ⟨g9, j, none⟩ = some u := ⟨_, ((KE.get 1 rfl).cellAt j (by omega)).trans (List.getElem?_eq_getElem (by have := (KE.get 1 rfl).1; omega))⟩
              have hfj : w11.frozen? ⟨g9, j, none⟩ = false := (KE.get 1 rfl).frozenAt j
              have hgj : g9 < w11.heap.size := (KE.fresh _ (List.mem_of_getElem? (i := 1) rfl) g9 rfl).2
              have KF := KE.put_ 1 rfl j (.slice zA zn zc)
              simp only [List.set_cons_zero, List.set_cons_succ] at KF
              rw [cells_push (vs := x.vs) HLK.out] at KF
              have KG := (KF.swapRo 2 rfl (((KF.ro 2 rfl).and (KF.ro 0 rfl)).imp fun w2 h => slVals_put (j := j) (z := ⟨zA, zn, zc, x.vs⟩) h.1 h.2)).drop (List.sublist_cons_self _ _)
              simp only [List.set_cons_zero, List.set_cons_succ] at KG
              clear KE KF
              have HP1 := hid (show ((putAt lo j ⟨zA, zn, zc, x.vs⟩).map Sl.vs).Perm ((l.map Sl.vs).take (j + 1)) by rw [putAt_map, List.take_add_one, HX.out]; exact perm_snoc HLO.out)
              have HP2 := hid (show SortedV ((putAt lo j ⟨zA, zn, zc, x.vs⟩).map Sl.vs) by rw [putAt_map]; exact sorted_put HSO.out HBG.out HPL.out)
              have HP3 := hid (putAt_all (P := Sl.ok) (j := j) (z := (⟨zA, zn, zc, x.vs⟩ : Sl)) HOO.out ⟨HZ.out.2.1, HZ.out.2.2, HXO.out.vs⟩)
              have HP4 := hid (putAt_all (P := fun s : Sl => s.n ≤ 4398046511104) (j := j) (z := (⟨zA, zn, zc, x.vs⟩ : Sl)) HNO.out (by have h1 := HZ.out.1; have h2 := HXN.out; have h3 := HXL.out; show zn ≤ _; omega))
              go_wp2_with fail
              go_roundw
              case rel => exact ⟨j + 1, _, some ⟨g9, 0, none⟩, _, by omega, by first | rfl | go_num, by first | rfl | go_num, HP1, HP2, HP3, HP4, KG⟩
              case measure => simp [intOf]; omega
    · obtain rfl : n = k := by omega
      have hd : decide ((n : Int) < (n : Int)) = false := by simp
      have HPF := hid (show (lo.map Sl.vs).Perm (l.map Sl.vs) by
        have h := HLO.out
        rwa [List.take_of_length_le (by rw [List.length_map, HL.out]; exact Nat.le_refl _)] at h)
      obtain ⟨hc1, hc2, _⟩ := own_caps (H.get 0 rfl)
      have KS := H.sealRow 0 rfl
      simp only [List.set_cons_zero] at KS
      have r1 := (KS.roOut 0 rfl).and (KS.roOut 1 rfl)
      have HFF := hid (sortV_of HPF.out HSO.out)
      go_wp2_with fail
      go_ret
      exact ⟨C, n, cap, lo, rfl, hc1, hc2, r1, HOO.out, HNO.out, HFF.out, KS.below⟩
end Go.Proofs.YtljmclbedpceoaaDoor

namespace Go.Proofs.YtljmclbedpceoaaDoor
open Go.RowKit
set_option linter.unusedVariables false
set_option linter.unusedSimpArgs false

/-- a row without its number -/
def Rw.sl (r : Rw) : Sl := ⟨r.A, r.n, r.c, r.vs⟩
theorem slv_of_rws {w : World} {B : Option Addr} {m : Nat} {l : List Rw} (h : RwsIn B m l w) : SlVals (l.map Rw.sl) w := fun s hs => by
  obtain ⟨r, hr, rfl⟩ := List.mem_map.1 hs
  exact h.2 r hr
theorem rw_sl_ok {r : Rw} (h : r.ok) : r.sl.ok := ⟨h.nc, h.c, h.vs⟩
set_option maxHeartbeats 4000000 in
set_option maxRecDepth 100000 in
theorem tbagt_any (M : Nat → Prop) (w : World) (hM : ∀ b, M b → b < w.heap.size) (x0 : Value) (x1 : Value) (x2 : Value) (B : Option Addr) (m d : Nat) (l : List Rw) (hE : Ro w M (RwsIn B m l)) (hm : m ≤ 4398046511104) (hok : ∀ r ∈ l, r.ok) (hr : ∀ r ∈ l, r.n ≤ 4398046511104) :
    Calls Tryd.prog 35 #[.agg #[x0, x1, x2, .slice B m d]] w fun e w' => SlsRet w M (sortV (l.map Rw.vs)) e w' := by
  have HL := hid hE.now.len
  have HQ := hid (And.intro hok hr)
  have K0 := ((((Hold.start M w hM).add (hE.less (by simp [Mut]))).alloc_cst #[x0, x1, x2, .slice B m d] 40).nil 27 1)
  have F0 := K0.facts
  simp only [World.size_alloc, World.size_drew, factsL, cellsF, Nat.reduceAdd, List.toList_toArray, List.set_cons_zero, List.set_cons_succ, List.setIfInBounds_toArray, and_true, true_and] at F0
  clear hE hok hr
  go_enter Tryd.func35, Tryd.ntmps35
  go_wp2_with fail
  clear F0
  go_loopw [3, 9] (fun ov iv wr => ∃ (k cap : Nat) (C : Option Addr), k ≤ m ∧ ov = .slice C k cap ∧ iv = .int .i64 k ∧ Hold M none w wr [.own 27 1 (.slice C k cap) k (slCells ((l.map Rw.sl).take k)), .cst w.heap.size 40 #[x0, x1, x2, .slice B m d], .ro (RwsIn B m l)]) (fun _ iv _ => m - (intOf iv).toNat)
  case atStart => exact ⟨0, 0, none, by omega, rfl, rfl, K0⟩
  case round =>
    clear K0
    obtain ⟨k, cap, C, hk, rfl, rfl, H⟩ := hrel
    by_cases hlt : k < m
    · have hdd : decide ((k : Int) < (m : Int)) = true := by simp; omega
      have j0 : (0 : Int) ≤ (k : Int) := by omega
      obtain ⟨x, hx⟩ := get_of HL.out hlt
      obtain ⟨g, o, rfl, hgb, c0, c1, hvi⟩ := (H.ro 2 rfl).now.at_ hx
      have K2 := H.alloc_cst #[.int .i64 x.id, .slice x.A x.n x.c] 61
      have HCE := hid (show slCells ((l.map Rw.sl).take k) ++ (#[Value.slice x.A x.n x.c]).toList = slCells ((l.map Rw.sl).take (k + 1)) by rw [List.take_add_one, List.getElem?_map, hx]; simp [slCells, Sl.cells, Rw.sl])
      clear hx hvi
      have FA := K2.facts
      simp only [World.size_alloc, World.size_drew, factsL, cellsF, Nat.reduceAdd, List.toList_toArray, List.set_cons_zero, List.set_cons_succ, List.setIfInBounds_toArray, and_true, true_and] at FA
      go_wp2_with (at_builtin; go_must (refine wpList_appH K2 1 rfl Tryd.elSlc #[.slice x.A x.n x.c] rfl (.tmp 13) (.tmp 16) rfl rfl _ (by first | rfl | simp) rfl rfl (by intro u hu; simp at hu; rcases hu with rfl; rfl) (by omega) (by omega) ?_); intro g9 cap9 w9 hc9 hm9 KB; rw [HCE.out] at KB; simp only [List.set_cons_zero, List.set_cons_succ] at KB)
      have KC := KB.drop (List.sublist_cons_self _ _)
      go_roundw
      case rel => exact ⟨k + 1, cap9, _, by omega, by first | rfl | go_num, by first | rfl | go_num, KC⟩
      case measure => simp [intOf]; omega
    · obtain rfl : k = m := by omega
      have hdd : decide ((k : Int) < (k : Int)) = false := by simp
      obtain ⟨hc1, hc2, _⟩ := own_caps (H.get 0 rfl)
      have HTK := hid (show (l.map Rw.sl).take k = l.map Rw.sl from List.take_of_length_le (by rw [List.length_map, HL.out]; exact Nat.le_refl _))
      have KS := H.sealRow 0 rfl
      rw [HTK.out] at KS
      simp only [List.set_cons_zero] at KS
      have KV := KS.swapRo 0 rfl (((KS.ro 0 rfl).and (KS.ro 2 rfl)).imp fun w2 h => (⟨h.1, slv_of_rws h.2⟩ : SlsIn C k (l.map Rw.sl) w2))
      simp only [List.set_cons_zero] at KV
      clear H KS
      go_wp2_with fail
      refine (tsort_any _ _ KV.mutLt C k cap (l.map Rw.sl) (KV.ro 0 rfl) hm (fun s hs => by obtain ⟨r, hr, rfl⟩ := List.mem_map.1 hs; exact HQ.out.2 r hr) (fun s hs => by obtain ⟨r, hr, rfl⟩ := List.mem_map.1 hs; exact rw_sl_ok (HQ.out.1 r hr))).mono ?_
      rintro e w3 ⟨A3, n3, c3, ls, rfl, h31, h32, r3, o3, m3, e3, b3⟩
      have K5 := (KV.call b3)
      have r4 : Ro w3 M _ := r3.less fun b hb => .inl hb
      have HE := hid e3
      clear e3
      go_wp2_with fail
      go_ret
      exact ⟨A3, n3, c3, ls, rfl, h31, h32, r4, o3, m3, by rw [HE.out, List.map_map]; rfl, K5.below⟩
set_option maxHeartbeats 4000000 in
set_option maxRecDepth 100000 in
theorem rtbagt_any (M : Nat → Prop) (w : World) (hM : ∀ b, M b → b < w.heap.size) (x0 : Value) (x1 : Value) (x2 : Value) (B : Option Addr) (m d : Nat) (l : List Rw) (hE : Ro w M (RwsIn B m l)) (hm : m ≤ 4398046511104) (hok : ∀ r ∈ l, r.ok) (hr : ∀ r ∈ l, r.n ≤ 4398046511104) :
    Calls Tryd.prog 24 #[.agg #[x0, x1, x2, .slice B m d]] w fun e w' => SlsRet w M (sortV (l.map Rw.vs)) e w' := by
  have HL := hid hE.now.len
  have HQ := hid (And.intro hok hr)
  have K0 := ((((Hold.start M w hM).add (hE.less (by simp [Mut]))).alloc_cst #[x0, x1, x2, .slice B m d] 40).nil 27 1)
  have F0 := K0.facts
  simp only [World.size_alloc, World.size_drew, factsL, cellsF, Nat.reduceAdd, List.toList_toArray, List.set_cons_zero, List.set_cons_succ, List.setIfInBounds_toArray, and_true, true_and] at F0
  clear hE hok hr
  go_enter Tryd.func24, Tryd.ntmps24
  go_wp2_with fail
  clear F0
  go_loopw [3, 9] (fun ov iv wr => ∃ (k cap : Nat) (C : Option Addr), k ≤ m ∧ ov = .slice C k cap ∧ iv = .int .i64 k ∧ Hold M none w wr [.own 27 1 (.slice C k cap) k (slCells ((l.map Rw.sl).take k)), .cst w.heap.size 40 #[x0, x1, x2, .slice B m d], .ro (RwsIn B m l)]) (fun _ iv _ => m - (intOf iv).toNat)
  case atStart => exact ⟨0, 0, none, by omega, rfl, rfl, K0⟩
  case round =>
    clear K0
    obtain ⟨k, cap, C, hk, rfl, rfl, H⟩ := hrel
    by_cases hlt : k < m
    · have hdd : decide ((k : Int) < (m : Int)) = true := by simp; omega
      have j0 : (0 : Int) ≤ (k : Int) := by omega
      obtain ⟨x, hx⟩ := get_of HL.out hlt
      obtain ⟨g, o, rfl, hgb, c0, c1, hvi⟩ := (H.ro 2 rfl).now.at_ hx
      have K2 := H.alloc_cst #[.int .i64 x.id, .slice x.A x.n x.c] 61
      have HCE := hid (show slCells ((l.map Rw.sl).take k) ++ (#[Value.slice x.A x.n x.c]).toList = slCells ((l.map Rw.sl).take (k + 1)) by rw [List.take_add_one, List.getElem?_map, hx]; simp [slCells, Sl.cells, Rw.sl])
      clear hx hvi
      have FA := K2.facts
      simp only [World.size_alloc, World.size_drew, factsL, cellsF, Nat.reduceAdd, List.toList_toArray, List.set_cons_zero, List.set_cons_succ, List.setIfInBounds_toArray, and_true, true_and] at FA
      go_wp2_with (at_builtin; go_must (refine wpList_appH K2 1 rfl Tryd.elSlc #[.slice x.A x.n x.c] rfl (.tmp 13) (.tmp 16) rfl rfl _ (by first | rfl | simp) rfl rfl (by intro u hu; simp at hu; rcases hu with rfl; rfl) (by omega) (by omega) ?_); intro g9 cap9 w9 hc9 hm9 KB; rw [HCE.out] at KB; simp only [List.set_cons_zero, List.set_cons_succ] at KB)
      have KC := KB.drop (List.sublist_cons_self _ _)
      go_roundw
      case rel => exact ⟨k + 1, cap9, _, by omega, by first | rfl | go_num, by first | rfl | go_num, KC⟩
      case measure => simp [intOf]; omega
    · obtain rfl : k = m := by omega
      have hdd : decide ((k : Int) < (k : Int)) = false := by simp
      obtain ⟨hc1, hc2, _⟩ := own_caps (H.get 0 rfl)
      have HTK := hid (show (l.map Rw.sl).take k = l.map Rw.sl from List.take_of_length_le (by rw [List.length_map, HL.out]; exact Nat.le_refl _))
      have KS := H.sealRow 0 rfl
      rw [HTK.out] at KS
      simp only [List.set_cons_zero] at KS
      have KV := KS.swapRo 0 rfl (((KS.ro 0 rfl).and (KS.ro 2 rfl)).imp fun w2 h => (⟨h.1, slv_of_rws h.2⟩ : SlsIn C k (l.map Rw.sl) w2))
      simp only [List.set_cons_zero] at KV
      clear H KS
      go_wp2_with fail
      refine (rsort_any _ _ KV.mutLt C k cap (l.map Rw.sl) (KV.ro 0 rfl) hm (fun s hs => by obtain ⟨r, hr, rfl⟩ := List.mem_map.1 hs; exact HQ.out.2 r hr) (fun s hs => by obtain ⟨r, hr, rfl⟩ := List.mem_map.1 hs; exact rw_sl_ok (HQ.out.1 r hr))).mono ?_
      rintro e w3 ⟨A3, n3, c3, ls, rfl, h31, h32, r3, o3, m3, e3, b3⟩
      have K5 := (KV.call b3)
      have r4 : Ro w3 M _ := r3.less fun b hb => .inl hb
      have HE := hid e3
      clear e3
      go_wp2_with fail
      go_ret
      exact ⟨A3, n3, c3, ls, rfl, h31, h32, r4, o3, m3, by rw [HE.out, List.map_map]; rfl, K5.below⟩
end Go.Proofs.YtljmclbedpceoaaDoor

namespace Go.Proofs.YtljmclbedpceoaaDoor
open Go.RowKit
set_option linter.unusedVariables false
set_option linter.unusedSimpArgs false

set_option maxHeartbeats 4000000 in
set_option maxRecDepth 100000 in
theorem rlook_any (M : Nat → Prop) (w : World) (hM : ∀ b, M b → b < w.heap.size) (nm : ByteArray) (A : Option Addr) (n c : Nat) (cs : List Col) (nx : Int) (B : Option Addr) (m d : Nat) (l : List Rw) (key : Vl) (hD : Ro w M (SlR 4 A n (colCells cs))) (hE : Ro w M (RwsIn B m l)) (hn : n ≤ 9223372036854775807) (hm : m ≤ 4611686018427387904) :
    Calls Tryd.prog 74 #[.agg #[.string nm, .slice A n c, .int .i64 nx, .slice B m d], .agg #[.int .i64 key.k, .int .i64 key.i, .string key.s]] w fun e w' => e = .returned (.tuple #[.int .i64 ((lookR (findB Col.key cs) (l.map Rw.row) key).getD 0), .bool (lookR (findB Col.key cs) (l.map Rw.row) key).isSome]) ∧ Below w.heap.size w w' := by
  have HL := hid hE.now.len
  have K0 := (((((Hold.start M w hM).add (hE.less (by simp [Mut]))).add (hD.less (by simp [Mut, Hp.foot]))).alloc_cst #[.string nm, .slice A n c, .int .i64 nx, .slice B m d] 40)).alloc_cst #[.int .i64 key.k, .int .i64 key.i, .string key.s] 66
  rw [World.size_alloc] at K0
  have F0 := K0.facts
  simp only [World.size_alloc, World.size_drew, factsL, cellsF, Nat.reduceAdd, List.toList_toArray, List.set_cons_zero, List.set_cons_succ, List.setIfInBounds_toArray, and_true, true_and] at F0
  clear hD hE
  go_enter Tryd.func74, Tryd.ntmps74
  go_wp2_with fail
  refine (rkeycol_any _ _ K0.mutLt nm A n c cs (K0.ro 2 rfl) hn).mono ?_
  rintro e w1 ⟨rfl, b1⟩
  have K1 := K0.call b1
  clear K0 b1 F0
  have F1 := K1.facts
  simp only [World.size_alloc, World.size_drew, factsL, cellsF, Nat.reduceAdd, List.toList_toArray, List.set_cons_zero, List.set_cons_succ, List.setIfInBounds_toArray, and_true, true_and] at F1
  obtain ⟨kk, hkk⟩ : ∃ kk, findB Col.key cs = kk := ⟨_, rfl⟩
  rw [hkk]
  have HKK := hid hkk
  clear hkk
  go_wp2_with fail
  clear F1
  go_loopw [15] (fun iv wr => ∃ (j : Nat), j ≤ m ∧ iv = .int .i64 j ∧ Hid (lookR kk (l.map Rw.row) key = lookR kk ((l.map Rw.row).drop j) key) ∧ Hold M none w wr [.cst (w.heap.size + 1) 66 #[.int .i64 key.k, .int .i64 key.i, .string key.s], .cst w.heap.size 40 #[.string nm, .slice A n c, .int .i64 nx, .slice B m d], .ro (SlR 4 A n (colCells cs)), .ro (RwsIn B m l)]) (fun iv _ => m - (intOf iv).toNat)
  case atStart => exact ⟨0, by omega, rfl, hid rfl, K1⟩
  case round =>
    clear K1
    obtain ⟨j, hj, rfl, HS, H⟩ := hrel
    by_cases hlt : j < m
    · have hdd : decide ((j : Int) < (m : Int)) = true := by simp; omega
      have j0 : (0 : Int) ≤ (j : Int) := by omega
      obtain ⟨x, hx⟩ := get_of HL.out hlt
      obtain ⟨g, o, rfl, hgb, c0, c1, hvi⟩ := (H.ro 3 rfl).now.at_ hx
      have HX := hid (show (l.map Rw.row)[j]? = some (x.id, x.vs) by simp [hx, Rw.row])
      have HXM := hid (List.mem_of_getElem? hx)
      have HVL := hid (show x.vs.length = x.n from hvi.len)
      clear hx
      by_cases hk : kk < 0
      · have hk0 : decide (kk ≥ 0) = false := by simpa using hk
        have K2 := H.alloc_cst #[.int .i64 x.id, .slice x.A x.n x.c] 61
        have HS2 := hid (show lookR kk (l.map Rw.row) key = lookR kk ((l.map Rw.row).drop (j + 1)) key by rw [HS.out]; exact lookR_neg HX.out hk)
        clear hk
        obtain ⟨gb, hgb2⟩ : ∃ gb, gb = wr.heap.size := ⟨_, rfl⟩
        obtain ⟨KL, hKL⟩ : ∃ KL : List Hp, KL = [Hp.cst wr.heap.size 61 #[.int .i64 x.id, .slice x.A x.n x.c], .cst (w.heap.size + 1) 66 #[.int .i64 key.k, .int .i64 key.i, .string key.s], .cst w.heap.size 40 #[.string nm, .slice A n c, .int .i64 nx, .slice (some ⟨g, o, none⟩) m d], .ro (SlR 4 A n (colCells cs)), .ro (RwsIn (some ⟨g, o, none⟩) m l)] := ⟨_, rfl⟩
        rw [← hKL] at K2
        rw [← hgb2] at hKL
        have HF : Hid (∀ wv, Hold M none w wv KL → wv.cell? ⟨gb, 1, none⟩ = some (.slice x.A x.n x.c) ∧ gb < wv.heap.size ∧ wv.cell? ⟨w.heap.size + 1, 0, none⟩ = some (.int .i64 key.k) ∧ wv.cell? ⟨w.heap.size + 1, 1, none⟩ = some (.int .i64 key.i) ∧ wv.cell? ⟨w.heap.size + 1, 2, none⟩ = some (.string key.s) ∧ w.heap.size + 1 < wv.heap.size) := hid fun wv HC => by
          rw [hKL] at HC
          have b0 := HC.cst_ 0 rfl
          have b1 := HC.cst_ 1 rfl
          exact ⟨cell_of_row _ _ 1 _ _ _ b0, Blk.lt b0, cell_of_row _ _ 0 _ _ _ b1, cell_of_row _ _ 1 _ _ _ b1, cell_of_row _ _ 2 _ _ _ b1, Blk.lt b1⟩
        go_wp2_with fail
        rw [← hgb2]
        have HGB := hid hgb2
        have HKE := hid hKL
        clear hgb2 hKL
        generalize wr.alloc (.cells #[.int .i64 x.id, .slice x.A x.n x.c] 61) = w2 at *
        refine wp_region_any (by kernel_rfl) ?_
        refine wpAny_hold 17 40 (KL) (spL []) (by kernel_rfl) (by kernel_rfl) (by kernel_rfl) rfl ?_ (K2.drew) ?_
        · exact stays_nil _
        simp only [List.take_succ_cons, List.take_zero, List.drop_succ_cons, List.drop_zero, Act.put, List.getElem_toArray, List.getElem_cons_zero, List.getElem_cons_succ, List.setIfInBounds_toArray, List.set_cons_succ, List.set_cons_zero]
        refine dw_val rfl rfl rfl ?_; apply Exists.intro; refine ⟨fun wv HC => ?_, ?_⟩
        · obtain ⟨f0, f1, f2, f3, f4, f5⟩ := HF.out _ HC; go_simp <;> rfl
        simp only [Act.put, List.setIfInBounds_toArray, List.set_cons_succ, List.set_cons_zero]
        refine dw_val rfl rfl rfl ?_; apply Exists.intro; refine ⟨fun wv HC => ?_, ?_⟩
        · obtain ⟨f0, f1, f2, f3, f4, f5⟩ := HF.out _ HC; go_simp <;> rfl
        simp only [Act.put, List.setIfInBounds_toArray, List.set_cons_succ, List.set_cons_zero]
        refine dw_val rfl rfl rfl ?_; apply Exists.intro; refine ⟨fun wv HC => ?_, ?_⟩
        · obtain ⟨f0, f1, f2, f3, f4, f5⟩ := HF.out _ HC; go_simp <;> rfl
        simp only [Act.put, List.setIfInBounds_toArray, List.set_cons_succ, List.set_cons_zero]
        refine dw_skip rfl rfl rfl ?_
        simp only [Act.put, List.setIfInBounds_toArray, List.set_cons_succ, List.set_cons_zero]
        refine dw_skip rfl rfl rfl ?_
        simp only [Act.put, List.setIfInBounds_toArray, List.set_cons_succ, List.set_cons_zero]
        refine dw_skip rfl rfl rfl ?_
        simp only [Act.put, List.setIfInBounds_toArray, List.set_cons_succ, List.set_cons_zero]
        refine dw_skip rfl rfl rfl ?_
        simp only [Act.put, List.setIfInBounds_toArray, List.set_cons_succ, List.set_cons_zero]
        refine dw_skip rfl rfl rfl ?_
        simp only [Act.put, List.setIfInBounds_toArray, List.set_cons_succ, List.set_cons_zero]
        refine dw_val rfl rfl rfl ?_; apply Exists.intro; refine ⟨fun wv HC => ?_, ?_⟩
        · obtain ⟨f0, f1, f2, f3, f4, f5⟩ := HF.out _ HC; go_simp <;> rfl
        simp only [Act.put, List.setIfInBounds_toArray, List.set_cons_succ, List.set_cons_zero]
        refine dw_val rfl rfl rfl ?_; apply Exists.intro; refine ⟨fun wv HC => ?_, ?_⟩
        · obtain ⟨f0, f1, f2, f3, f4, f5⟩ := HF.out _ HC; go_simp <;> rfl
        simp only [Act.put, List.setIfInBounds_toArray, List.set_cons_succ, List.set_cons_zero]
        refine dw_skip rfl rfl rfl ?_
        simp only [Act.put, List.setIfInBounds_toArray, List.set_cons_succ, List.set_cons_zero]
        refine dw_skip rfl rfl rfl ?_
        simp only [Act.put, List.setIfInBounds_toArray, List.set_cons_succ, List.set_cons_zero]
        refine dw_skip rfl rfl rfl ?_
        simp only [Act.put, List.setIfInBounds_toArray, List.set_cons_succ, List.set_cons_zero]
        refine dw_skip rfl rfl rfl ?_
        simp only [Act.put, List.setIfInBounds_toArray, List.set_cons_succ, List.set_cons_zero]
        refine dw_skip rfl rfl rfl ?_
        simp only [Act.put, List.setIfInBounds_toArray, List.set_cons_succ, List.set_cons_zero]
        refine dw_skip rfl rfl rfl ?_
        simp only [Act.put, List.setIfInBounds_toArray, List.set_cons_succ, List.set_cons_zero]
        refine dw_skip rfl rfl rfl ?_
        simp only [Act.put, List.setIfInBounds_toArray, List.set_cons_succ, List.set_cons_zero]
        refine rel_nil ?_
        rintro wx2 HX2
        rintro _hrm _HG
        rw [HKE.out] at HX2
        clear _hrm _HG
        go_wp2_with fail
        go_roundw
        case rel => exact ⟨j + 1, by omega, by go_num, HS2, HX2.drop (List.sublist_cons_self _ _)⟩
        case measure => simp [intOf]; omega
      obtain ⟨κ, rfl⟩ := Int.eq_ofNat_of_zero_le (show 0 ≤ kk by omega)
      have hk0 : decide ((κ : Int) ≥ 0) = true := by simp
      clear hk
      by_cases hkl : κ < x.n
      · have hd2 : decide ((κ : Int) < (x.n : Int)) = true := by simp; omega
        have k0 : (0 : Int) ≤ (κ : Int) := by omega
        have k1 : (κ : Int) < (x.n : Int) := by omega
        obtain ⟨v, hv⟩ := get_of HVL.out hkl
        obtain ⟨gv, ov, hA, hgv, v0, v1, v2⟩ := hvi.at_ hv
        have HV := hid hv; have HA := hid hA
        clear hv v0 v1 v2 hgv hvi
        rw [hA] at c1
        have K2 := H.alloc_cst #[.int .i64 x.id, .slice (some ⟨gv, ov, none⟩) x.n x.c] 61
        clear hA
        by_cases hvk : v = key
        · have HN := hid (show lookR κ (l.map Rw.row) key = some x.id by rw [HS.out]; exact lookR_hit HX.out (by omega) (by simpa using HV.out) hvk)
          have e0 : (v.k == key.k) = true := by simp [hvk]
          have e1 : (v.i == key.i) = true := by simp [hvk]
          have e2 : (v.s.toList == key.s.toList) = true := by simp [hvk]
          clear hvk
          obtain ⟨gb, hgb2⟩ : ∃ gb, gb = wr.heap.size := ⟨_, rfl⟩
          obtain ⟨KL, hKL⟩ : ∃ KL : List Hp, KL = [Hp.cst wr.heap.size 61 #[.int .i64 x.id, .slice (some ⟨gv, ov, none⟩) x.n x.c], .cst (w.heap.size + 1) 66 #[.int .i64 key.k, .int .i64 key.i, .string key.s], .cst w.heap.size 40 #[.string nm, .slice A n c, .int .i64 nx, .slice (some ⟨g, o, none⟩) m d], .ro (SlR 4 A n (colCells cs)), .ro (RwsIn (some ⟨g, o, none⟩) m l)] := ⟨_, rfl⟩
          rw [← hKL] at K2
          rw [← hgb2] at hKL
          have HF : Hid (∀ wv, Hold M none w wv KL → wv.cell? ⟨gb, 1, none⟩ = some (.slice (some ⟨gv, ov, none⟩) x.n x.c) ∧ gb < wv.heap.size ∧ wv.cell? ⟨w.heap.size + 1, 0, none⟩ = some (.int .i64 key.k) ∧ wv.cell? ⟨w.heap.size + 1, 1, none⟩ = some (.int .i64 key.i) ∧ wv.cell? ⟨w.heap.size + 1, 2, none⟩ = some (.string key.s) ∧ w.heap.size + 1 < wv.heap.size ∧ wv.cell? ⟨gv, ov + κ * 3, none⟩ = some (.int .i64 v.k) ∧ wv.cell? ⟨gv, ov + κ * 3 + 1, none⟩ = some (.int .i64 v.i) ∧ wv.cell? ⟨gv, ov + κ * 3 + 2, none⟩ = some (.string v.s) ∧ gv < wv.heap.size) := hid fun wv HC => by
            rw [hKL] at HC
            have b0 := HC.cst_ 0 rfl
            have b1 := HC.cst_ 1 rfl
            obtain ⟨gv', ov', e', hl, e0, e1, e2⟩ := ((HC.ro 4 rfl).now.2 x HXM.out).at_ HV.out
            rw [HA.out] at e'
            obtain ⟨rfl, rfl⟩ : gv = gv' ∧ ov = ov' := by injection e' with e'; injection e' with a1 a2; exact ⟨a1, a2⟩
            exact ⟨cell_of_row _ _ 1 _ _ _ b0, Blk.lt b0, cell_of_row _ _ 0 _ _ _ b1, cell_of_row _ _ 1 _ _ _ b1, cell_of_row _ _ 2 _ _ _ b1, Blk.lt b1, e0, e1, e2, hl⟩
          go_wp2_with fail
          rw [← hgb2]
          have HGB := hid hgb2
          have HKE := hid hKL
          clear hgb2 hKL
          generalize wr.alloc (.cells #[.int .i64 x.id, .slice (some ⟨gv, ov, none⟩) x.n x.c] 61) = w2 at *
          refine wp_region_any (by kernel_rfl) ?_
          refine wpAny_hold 17 40 (KL) (spL []) (by kernel_rfl) (by kernel_rfl) (by kernel_rfl) rfl ?_ (K2.drew) ?_
          · exact stays_nil _
          simp only [List.take_succ_cons, List.take_zero, List.drop_succ_cons, List.drop_zero, Act.put, List.getElem_toArray, List.getElem_cons_zero, List.getElem_cons_succ, List.setIfInBounds_toArray, List.set_cons_succ, List.set_cons_zero]
          refine dw_val rfl rfl rfl ?_; apply Exists.intro; refine ⟨fun wv HC => ?_, ?_⟩
          · obtain ⟨f0, f1, f2, f3, f4, f5, f6, f7, f8, f9⟩ := HF.out _ HC; go_simp <;> rfl
          simp only [Act.put, List.setIfInBounds_toArray, List.set_cons_succ, List.set_cons_zero]
          refine dw_val rfl rfl rfl ?_; apply Exists.intro; refine ⟨fun wv HC => ?_, ?_⟩
          · obtain ⟨f0, f1, f2, f3, f4, f5, f6, f7, f8, f9⟩ := HF.out _ HC; go_simp <;> rfl
          simp only [Act.put, List.setIfInBounds_toArray, List.set_cons_succ, List.set_cons_zero]
          refine dw_val rfl rfl rfl ?_; apply Exists.intro; refine ⟨fun wv HC => ?_, ?_⟩
          · obtain ⟨f0, f1, f2, f3, f4, f5, f6, f7, f8, f9⟩ := HF.out _ HC; go_simp <;> rfl
          simp only [Act.put, List.setIfInBounds_toArray, List.set_cons_succ, List.set_cons_zero]
          refine dw_val rfl rfl rfl ?_; apply Exists.intro; refine ⟨fun wv HC => ?_, ?_⟩
          · obtain ⟨f0, f1, f2, f3, f4, f5, f6, f7, f8, f9⟩ := HF.out _ HC; go_simp <;> rfl
          simp only [Act.put, List.setIfInBounds_toArray, List.set_cons_succ, List.set_cons_zero]
          refine dw_val rfl rfl rfl ?_; apply Exists.intro; refine ⟨fun wv HC => ?_, ?_⟩
          · obtain ⟨f0, f1, f2, f3, f4, f5, f6, f7, f8, f9⟩ := HF.out _ HC; go_simp <;> rfl
          simp only [Act.put, List.setIfInBounds_toArray, List.set_cons_succ, List.set_cons_zero]
          refine dw_val rfl rfl rfl ?_; apply Exists.intro; refine ⟨fun wv HC => ?_, ?_⟩
          · obtain ⟨f0, f1, f2, f3, f4, f5, f6, f7, f8, f9⟩ := HF.out _ HC; go_simp <;> rfl
          simp only [Act.put, List.setIfInBounds_toArray, List.set_cons_succ, List.set_cons_zero]
          refine dw_val rfl rfl rfl ?_; apply Exists.intro; refine ⟨fun wv HC => ?_, ?_⟩
          · obtain ⟨f0, f1, f2, f3, f4, f5, f6, f7, f8, f9⟩ := HF.out _ HC; go_simp <;> rfl
          simp only [Act.put, List.setIfInBounds_toArray, List.set_cons_succ, List.set_cons_zero]
          refine dw_val rfl rfl rfl ?_; apply Exists.intro; refine ⟨fun wv HC => ?_, ?_⟩
          · obtain ⟨f0, f1, f2, f3, f4, f5, f6, f7, f8, f9⟩ := HF.out _ HC; go_simp <;> rfl
          simp only [Act.put, List.setIfInBounds_toArray, List.set_cons_succ, List.set_cons_zero]
          refine dw_val rfl rfl rfl ?_; apply Exists.intro; refine ⟨fun wv HC => ?_, ?_⟩
          · obtain ⟨f0, f1, f2, f3, f4, f5, f6, f7, f8, f9⟩ := HF.out _ HC; go_simp <;> rfl
          simp only [Act.put, List.setIfInBounds_toArray, List.set_cons_succ, List.set_cons_zero]
          refine dw_val rfl rfl rfl ?_; apply Exists.intro; refine ⟨fun wv HC => ?_, ?_⟩
          · obtain ⟨f0, f1, f2, f3, f4, f5, f6, f7, f8, f9⟩ := HF.out _ HC; go_simp <;> rfl
          simp only [Act.put, List.setIfInBounds_toArray, List.set_cons_succ, List.set_cons_zero]
          refine dw_val rfl rfl rfl ?_; apply Exists.intro; refine ⟨fun wv HC => ?_, ?_⟩
          · obtain ⟨f0, f1, f2, f3, f4, f5, f6, f7, f8, f9⟩ := HF.out _ HC; go_simp <;> rfl
          simp only [Act.put, List.setIfInBounds_toArray, List.set_cons_succ, List.set_cons_zero]
          refine dw_val rfl rfl rfl ?_; apply Exists.intro; refine ⟨fun wv HC => ?_, ?_⟩
          · obtain ⟨f0, f1, f2, f3, f4, f5, f6, f7, f8, f9⟩ := HF.out _ HC; go_simp <;> rfl
          simp only [Act.put, List.setIfInBounds_toArray, List.set_cons_succ, List.set_cons_zero]
          refine dw_val rfl rfl rfl ?_; apply Exists.intro; refine ⟨fun wv HC => ?_, ?_⟩
          · obtain ⟨f0, f1, f2, f3, f4, f5, f6, f7, f8, f9⟩ := HF.out _ HC; go_simp <;> rfl
          simp only [Act.put, List.setIfInBounds_toArray, List.set_cons_succ, List.set_cons_zero]
          refine dw_val rfl rfl rfl ?_; apply Exists.intro; refine ⟨fun wv HC => ?_, ?_⟩
          · obtain ⟨f0, f1, f2, f3, f4, f5, f6, f7, f8, f9⟩ := HF.out _ HC; go_simp <;> rfl
          simp only [Act.put, List.setIfInBounds_toArray, List.set_cons_succ, List.set_cons_zero]
          refine dw_val rfl rfl rfl ?_; apply Exists.intro; refine ⟨fun wv HC => ?_, ?_⟩
          · obtain ⟨f0, f1, f2, f3, f4, f5, f6, f7, f8, f9⟩ := HF.out _ HC; go_simp <;> rfl
          simp only [Act.put, List.setIfInBounds_toArray, List.set_cons_succ, List.set_cons_zero]
          refine dw_val rfl rfl rfl ?_; apply Exists.intro; refine ⟨fun wv HC => ?_, ?_⟩
          · obtain ⟨f0, f1, f2, f3, f4, f5, f6, f7, f8, f9⟩ := HF.out _ HC; go_simp <;> rfl
          simp only [Act.put, List.setIfInBounds_toArray, List.set_cons_succ, List.set_cons_zero]
          refine dw_val rfl rfl rfl ?_; apply Exists.intro; refine ⟨fun wv HC => ?_, ?_⟩
          · obtain ⟨f0, f1, f2, f3, f4, f5, f6, f7, f8, f9⟩ := HF.out _ HC; go_simp <;> rfl
          simp only [Act.put, List.setIfInBounds_toArray, List.set_cons_succ, List.set_cons_zero]
          refine rel_nil ?_
          rintro wx2 HX2
          rintro _hrm _HG
          rw [HKE.out] at HX2
          clear _hrm _HG
          have F3 := HX2.facts
          simp only [World.size_alloc, World.size_drew, factsL, cellsF, Nat.reduceAdd, List.toList_toArray, List.set_cons_zero, List.set_cons_succ, List.setIfInBounds_toArray, and_true, true_and] at F3
          go_wp2_with fail
          go_ret2
          exact ⟨by rw [HKK.out, HN.out] <;> rfl, HX2.below⟩
        have HS2 := hid (show lookR κ (l.map Rw.row) key = lookR κ ((l.map Rw.row).drop (j + 1)) key by rw [HS.out]; exact lookR_miss HX.out (by omega) (by simpa using HV.out) hvk)
        by_cases h0 : v.k = key.k
        · have e0 : (v.k == key.k) = true := by simp [h0]
          by_cases h1 : v.i = key.i
          · have e1 : (v.i == key.i) = true := by simp [h1]
            have e2 : (v.s.toList == key.s.toList) = false := by
              rw [beq_eq_false_iff_ne]; exact fun h => hvk (vl_ext h0 h1 (bytesEq h))
            clear hvk h0 h1
            obtain ⟨gb, hgb2⟩ : ∃ gb, gb = wr.heap.size := ⟨_, rfl⟩
            obtain ⟨KL, hKL⟩ : ∃ KL : List Hp, KL = [Hp.cst wr.heap.size 61 #[.int .i64 x.id, .slice (some ⟨gv, ov, none⟩) x.n x.c], .cst (w.heap.size + 1) 66 #[.int .i64 key.k, .int .i64 key.i, .string key.s], .cst w.heap.size 40 #[.string nm, .slice A n c, .int .i64 nx, .slice (some ⟨g, o, none⟩) m d], .ro (SlR 4 A n (colCells cs)), .ro (RwsIn (some ⟨g, o, none⟩) m l)] := ⟨_, rfl⟩
            rw [← hKL] at K2
            rw [← hgb2] at hKL
            have HF : Hid (∀ wv, Hold M none w wv KL → wv.cell? ⟨gb, 1, none⟩ = some (.slice (some ⟨gv, ov, none⟩) x.n x.c) ∧ gb < wv.heap.size ∧ wv.cell? ⟨w.heap.size + 1, 0, none⟩ = some (.int .i64 key.k) ∧ wv.cell? ⟨w.heap.size + 1, 1, none⟩ = some (.int .i64 key.i) ∧ wv.cell? ⟨w.heap.size + 1, 2, none⟩ = some (.string key.s) ∧ w.heap.size + 1 < wv.heap.size ∧ wv.cell? ⟨gv, ov + κ * 3, none⟩ = some (.int .i64 v.k) ∧ wv.cell? ⟨gv, ov + κ * 3 + 1, none⟩ = some (.int .i64 v.i) ∧ wv.cell? ⟨gv, ov + κ * 3 + 2, none⟩ = some (.string v.s) ∧ gv < wv.heap.size) := hid fun wv HC => by
              rw [hKL] at HC
              have b0 := HC.cst_ 0 rfl
              have b1 := HC.cst_ 1 rfl
              obtain ⟨gv', ov', e', hl, e0, e1, e2⟩ := ((HC.ro 4 rfl).now.2 x HXM.out).at_ HV.out
              rw [HA.out] at e'
              obtain ⟨rfl, rfl⟩ : gv = gv' ∧ ov = ov' := by injection e' with e'; injection e' with a1 a2; exact ⟨a1, a2⟩
              exact ⟨cell_of_row _ _ 1 _ _ _ b0, Blk.lt b0, cell_of_row _ _ 0 _ _ _ b1, cell_of_row _ _ 1 _ _ _ b1, cell_of_row _ _ 2 _ _ _ b1, Blk.lt b1, e0, e1, e2, hl⟩
            go_wp2_with fail
            rw [← hgb2]
            have HGB := hid hgb2
            have HKE := hid hKL
            clear hgb2 hKL
            generalize wr.alloc (.cells #[.int .i64 x.id, .slice (some ⟨gv, ov, none⟩) x.n x.c] 61) = w2 at *
            refine wp_region_any (by kernel_rfl) ?_
            refine wpAny_hold 17 40 (KL) (spL []) (by kernel_rfl) (by kernel_rfl) (by kernel_rfl) rfl ?_ (K2.drew) ?_
            · exact stays_nil _
            simp only [List.take_succ_cons, List.take_zero, List.drop_succ_cons, List.drop_zero, Act.put, List.getElem_toArray, List.getElem_cons_zero, List.getElem_cons_succ, List.setIfInBounds_toArray, List.set_cons_succ, List.set_cons_zero]
            refine dw_val rfl rfl rfl ?_; apply Exists.intro; refine ⟨fun wv HC => ?_, ?_⟩
            · obtain ⟨f0, f1, f2, f3, f4, f5, f6, f7, f8, f9⟩ := HF.out _ HC; go_simp <;> rfl
            simp only [Act.put, List.setIfInBounds_toArray, List.set_cons_succ, List.set_cons_zero]
            refine dw_val rfl rfl rfl ?_; apply Exists.intro; refine ⟨fun wv HC => ?_, ?_⟩
            · obtain ⟨f0, f1, f2, f3, f4, f5, f6, f7, f8, f9⟩ := HF.out _ HC; go_simp <;> rfl
            simp only [Act.put, List.setIfInBounds_toArray, List.set_cons_succ, List.set_cons_zero]
            refine dw_val rfl rfl rfl ?_; apply Exists.intro; refine ⟨fun wv HC => ?_, ?_⟩
            · obtain ⟨f0, f1, f2, f3, f4, f5, f6, f7, f8, f9⟩ := HF.out _ HC; go_simp <;> rfl
            simp only [Act.put, List.setIfInBounds_toArray, List.set_cons_succ, List.set_cons_zero]
            refine dw_val rfl rfl rfl ?_; apply Exists.intro; refine ⟨fun wv HC => ?_, ?_⟩
            · obtain ⟨f0, f1, f2, f3, f4, f5, f6, f7, f8, f9⟩ := HF.out _ HC; go_simp <;> rfl
            simp only [Act.put, List.setIfInBounds_toArray, List.set_cons_succ, List.set_cons_zero]
            refine dw_val rfl rfl rfl ?_; apply Exists.intro; refine ⟨fun wv HC => ?_, ?_⟩
            · obtain ⟨f0, f1, f2, f3, f4, f5, f6, f7, f8, f9⟩ := HF.out _ HC; go_simp <;> rfl
            simp only [Act.put, List.setIfInBounds_toArray, List.set_cons_succ, List.set_cons_zero]
            refine dw_val rfl rfl rfl ?_; apply Exists.intro; refine ⟨fun wv HC => ?_, ?_⟩
            · obtain ⟨f0, f1, f2, f3, f4, f5, f6, f7, f8, f9⟩ := HF.out _ HC; go_simp <;> rfl
            simp only [Act.put, List.setIfInBounds_toArray, List.set_cons_succ, List.set_cons_zero]
            refine dw_val rfl rfl rfl ?_; apply Exists.intro; refine ⟨fun wv HC => ?_, ?_⟩
            · obtain ⟨f0, f1, f2, f3, f4, f5, f6, f7, f8, f9⟩ := HF.out _ HC; go_simp <;> rfl
            simp only [Act.put, List.setIfInBounds_toArray, List.set_cons_succ, List.set_cons_zero]
            refine dw_val rfl rfl rfl ?_; apply Exists.intro; refine ⟨fun wv HC => ?_, ?_⟩
            · obtain ⟨f0, f1, f2, f3, f4, f5, f6, f7, f8, f9⟩ := HF.out _ HC; go_simp <;> rfl
            simp only [Act.put, List.setIfInBounds_toArray, List.set_cons_succ, List.set_cons_zero]
            refine dw_val rfl rfl rfl ?_; apply Exists.intro; refine ⟨fun wv HC => ?_, ?_⟩
            · obtain ⟨f0, f1, f2, f3, f4, f5, f6, f7, f8, f9⟩ := HF.out _ HC; go_simp <;> rfl
            simp only [Act.put, List.setIfInBounds_toArray, List.set_cons_succ, List.set_cons_zero]
            refine dw_val rfl rfl rfl ?_; apply Exists.intro; refine ⟨fun wv HC => ?_, ?_⟩
            · obtain ⟨f0, f1, f2, f3, f4, f5, f6, f7, f8, f9⟩ := HF.out _ HC; go_simp <;> rfl
            simp only [Act.put, List.setIfInBounds_toArray, List.set_cons_succ, List.set_cons_zero]
            refine dw_val rfl rfl rfl ?_; apply Exists.intro; refine ⟨fun wv HC => ?_, ?_⟩
            · obtain ⟨f0, f1, f2, f3, f4, f5, f6, f7, f8, f9⟩ := HF.out _ HC; go_simp <;> rfl
            simp only [Act.put, List.setIfInBounds_toArray, List.set_cons_succ, List.set_cons_zero]
            refine dw_val rfl rfl rfl ?_; apply Exists.intro; refine ⟨fun wv HC => ?_, ?_⟩
            · obtain ⟨f0, f1, f2, f3, f4, f5, f6, f7, f8, f9⟩ := HF.out _ HC; go_simp <;> rfl
            simp only [Act.put, List.setIfInBounds_toArray, List.set_cons_succ, List.set_cons_zero]
            refine dw_val rfl rfl rfl ?_; apply Exists.intro; refine ⟨fun wv HC => ?_, ?_⟩
            · obtain ⟨f0, f1, f2, f3, f4, f5, f6, f7, f8, f9⟩ := HF.out _ HC; go_simp <;> rfl
            simp only [Act.put, List.setIfInBounds_toArray, List.set_cons_succ, List.set_cons_zero]
            refine dw_val rfl rfl rfl ?_; apply Exists.intro; refine ⟨fun wv HC => ?_, ?_⟩
            · obtain ⟨f0, f1, f2, f3, f4, f5, f6, f7, f8, f9⟩ := HF.out _ HC; go_simp <;> rfl
            simp only [Act.put, List.setIfInBounds_toArray, List.set_cons_succ, List.set_cons_zero]
            refine dw_val rfl rfl rfl ?_; apply Exists.intro; refine ⟨fun wv HC => ?_, ?_⟩
            · obtain ⟨f0, f1, f2, f3, f4, f5, f6, f7, f8, f9⟩ := HF.out _ HC; go_simp <;> rfl
            simp only [Act.put, List.setIfInBounds_toArray, List.set_cons_succ, List.set_cons_zero]
            refine dw_val rfl rfl rfl ?_; apply Exists.intro; refine ⟨fun wv HC => ?_, ?_⟩
            · obtain ⟨f0, f1, f2, f3, f4, f5, f6, f7, f8, f9⟩ := HF.out _ HC; go_simp <;> rfl
            simp only [Act.put, List.setIfInBounds_toArray, List.set_cons_succ, List.set_cons_zero]
            refine dw_val rfl rfl rfl ?_; apply Exists.intro; refine ⟨fun wv HC => ?_, ?_⟩
            · obtain ⟨f0, f1, f2, f3, f4, f5, f6, f7, f8, f9⟩ := HF.out _ HC; go_simp <;> rfl
            simp only [Act.put, List.setIfInBounds_toArray, List.set_cons_succ, List.set_cons_zero]
            refine rel_nil ?_
            rintro wx2 HX2
            rintro _hrm _HG
            rw [HKE.out] at HX2
            clear _hrm _HG
            go_wp2_with fail
            go_roundw
            case rel => exact ⟨j + 1, by omega, by go_num, HS2, HX2.drop (List.sublist_cons_self _ _)⟩
            case measure => simp [intOf]; omega
          · have e1 : (v.i == key.i) = false := by simpa using h1
            clear hvk h0 h1
            obtain ⟨gb, hgb2⟩ : ∃ gb, gb = wr.heap.size := ⟨_, rfl⟩
            obtain ⟨KL, hKL⟩ : ∃ KL : List Hp, KL = [Hp.cst wr.heap.size 61 #[.int .i64 x.id, .slice (some ⟨gv, ov, none⟩) x.n x.c], .cst (w.heap.size + 1) 66 #[.int .i64 key.k, .int .i64 key.i, .string key.s], .cst w.heap.size 40 #[.string nm, .slice A n c, .int .i64 nx, .slice (some ⟨g, o, none⟩) m d], .ro (SlR 4 A n (colCells cs)), .ro (RwsIn (some ⟨g, o, none⟩) m l)] := ⟨_, rfl⟩
            rw [← hKL] at K2
            rw [← hgb2] at hKL
            have HF : Hid (∀ wv, Hold M none w wv KL → wv.cell? ⟨gb, 1, none⟩ = some (.slice (some ⟨gv, ov, none⟩) x.n x.c) ∧ gb < wv.heap.size ∧ wv.cell? ⟨w.heap.size + 1, 0, none⟩ = some (.int .i64 key.k) ∧ wv.cell? ⟨w.heap.size + 1, 1, none⟩ = some (.int .i64 key.i) ∧ wv.cell? ⟨w.heap.size + 1, 2, none⟩ = some (.string key.s) ∧ w.heap.size + 1 < wv.heap.size ∧ wv.cell? ⟨gv, ov + κ * 3, none⟩ = some (.int .i64 v.k) ∧ wv.cell? ⟨gv, ov + κ * 3 + 1, none⟩ = some (.int .i64 v.i) ∧ wv.cell? ⟨gv, ov + κ * 3 + 2, none⟩ = some (.string v.s) ∧ gv < wv.heap.size) := hid fun wv HC => by
              rw [hKL] at HC
              have b0 := HC.cst_ 0 rfl
              have b1 := HC.cst_ 1 rfl
              obtain ⟨gv', ov', e', hl, e0, e1, e2⟩ := ((HC.ro 4 rfl).now.2 x HXM.out).at_ HV.out
              rw [HA.out] at e'
              obtain ⟨rfl, rfl⟩ : gv = gv' ∧ ov = ov' := by injection e' with e'; injection e' with a1 a2; exact ⟨a1, a2⟩
              exact ⟨cell_of_row _ _ 1 _ _ _ b0, Blk.lt b0, cell_of_row _ _ 0 _ _ _ b1, cell_of_row _ _ 1 _ _ _ b1, cell_of_row _ _ 2 _ _ _ b1, Blk.lt b1, e0, e1, e2, hl⟩
            go_wp2_with fail
            rw [← hgb2]
            have HGB := hid hgb2
            have HKE := hid hKL
            clear hgb2 hKL
            generalize wr.alloc (.cells #[.int .i64 x.id, .slice (some ⟨gv, ov, none⟩) x.n x.c] 61) = w2 at *
            refine wp_region_any (by kernel_rfl) ?_
            refine wpAny_hold 17 40 (KL) (spL []) (by kernel_rfl) (by kernel_rfl) (by kernel_rfl) rfl ?_ (K2.drew) ?_
            · exact stays_nil _
            simp only [List.take_succ_cons, List.take_zero, List.drop_succ_cons, List.drop_zero, Act.put, List.getElem_toArray, List.getElem_cons_zero, List.getElem_cons_succ, List.setIfInBounds_toArray, List.set_cons_succ, List.set_cons_zero]
            refine dw_val rfl rfl rfl ?_; apply Exists.intro; refine ⟨fun wv HC => ?_, ?_⟩
            · obtain ⟨f0, f1, f2, f3, f4, f5, f6, f7, f8, f9⟩ := HF.out _ HC; go_simp <;> rfl
            simp only [Act.put, List.setIfInBounds_toArray, List.set_cons_succ, List.set_cons_zero]
            refine dw_val rfl rfl rfl ?_; apply Exists.intro; refine ⟨fun wv HC => ?_, ?_⟩
            · obtain ⟨f0, f1, f2, f3, f4, f5, f6, f7, f8, f9⟩ := HF.out _ HC; go_simp <;> rfl
            simp only [Act.put, List.setIfInBounds_toArray, List.set_cons_succ, List.set_cons_zero]
            refine dw_val rfl rfl rfl ?_; apply Exists.intro; refine ⟨fun wv HC => ?_, ?_⟩
            · obtain ⟨f0, f1, f2, f3, f4, f5, f6, f7, f8, f9⟩ := HF.out _ HC; go_simp <;> rfl
            simp only [Act.put, List.setIfInBounds_toArray, List.set_cons_succ, List.set_cons_zero]
            refine dw_val rfl rfl rfl ?_; apply Exists.intro; refine ⟨fun wv HC => ?_, ?_⟩
            · obtain ⟨f0, f1, f2, f3, f4, f5, f6, f7, f8, f9⟩ := HF.out _ HC; go_simp <;> rfl
            simp only [Act.put, List.setIfInBounds_toArray, List.set_cons_succ, List.set_cons_zero]
            refine dw_val rfl rfl rfl ?_; apply Exists.intro; refine ⟨fun wv HC => ?_, ?_⟩
            · obtain ⟨f0, f1, f2, f3, f4, f5, f6, f7, f8, f9⟩ := HF.out _ HC; go_simp <;> rfl
            simp only [Act.put, List.setIfInBounds_toArray, List.set_cons_succ, List.set_cons_zero]
            refine dw_val rfl rfl rfl ?_; apply Exists.intro; refine ⟨fun wv HC => ?_, ?_⟩
            · obtain ⟨f0, f1, f2, f3, f4, f5, f6, f7, f8, f9⟩ := HF.out _ HC; go_simp <;> rfl
            simp only [Act.put, List.setIfInBounds_toArray, List.set_cons_succ, List.set_cons_zero]
            refine dw_val rfl rfl rfl ?_; apply Exists.intro; refine ⟨fun wv HC => ?_, ?_⟩
            · obtain ⟨f0, f1, f2, f3, f4, f5, f6, f7, f8, f9⟩ := HF.out _ HC; go_simp <;> rfl
            simp only [Act.put, List.setIfInBounds_toArray, List.set_cons_succ, List.set_cons_zero]
            refine dw_val rfl rfl rfl ?_; apply Exists.intro; refine ⟨fun wv HC => ?_, ?_⟩
            · obtain ⟨f0, f1, f2, f3, f4, f5, f6, f7, f8, f9⟩ := HF.out _ HC; go_simp <;> rfl
            simp only [Act.put, List.setIfInBounds_toArray, List.set_cons_succ, List.set_cons_zero]
            refine dw_val rfl rfl rfl ?_; apply Exists.intro; refine ⟨fun wv HC => ?_, ?_⟩
            · obtain ⟨f0, f1, f2, f3, f4, f5, f6, f7, f8, f9⟩ := HF.out _ HC; go_simp <;> rfl
            simp only [Act.put, List.setIfInBounds_toArray, List.set_cons_succ, List.set_cons_zero]
            refine dw_val rfl rfl rfl ?_; apply Exists.intro; refine ⟨fun wv HC => ?_, ?_⟩
            · obtain ⟨f0, f1, f2, f3, f4, f5, f6, f7, f8, f9⟩ := HF.out _ HC; go_simp <;> rfl
            simp only [Act.put, List.setIfInBounds_toArray, List.set_cons_succ, List.set_cons_zero]
            refine dw_val rfl rfl rfl ?_; apply Exists.intro; refine ⟨fun wv HC => ?_, ?_⟩
            · obtain ⟨f0, f1, f2, f3, f4, f5, f6, f7, f8, f9⟩ := HF.out _ HC; go_simp <;> rfl
            simp only [Act.put, List.setIfInBounds_toArray, List.set_cons_succ, List.set_cons_zero]
            refine dw_val rfl rfl rfl ?_; apply Exists.intro; refine ⟨fun wv HC => ?_, ?_⟩
            · obtain ⟨f0, f1, f2, f3, f4, f5, f6, f7, f8, f9⟩ := HF.out _ HC; go_simp <;> rfl
            simp only [Act.put, List.setIfInBounds_toArray, List.set_cons_succ, List.set_cons_zero]
            refine dw_val rfl rfl rfl ?_; apply Exists.intro; refine ⟨fun wv HC => ?_, ?_⟩
            · obtain ⟨f0, f1, f2, f3, f4, f5, f6, f7, f8, f9⟩ := HF.out _ HC; go_simp <;> rfl
            simp only [Act.put, List.setIfInBounds_toArray, List.set_cons_succ, List.set_cons_zero]
            refine dw_val rfl rfl rfl ?_; apply Exists.intro; refine ⟨fun wv HC => ?_, ?_⟩
            · obtain ⟨f0, f1, f2, f3, f4, f5, f6, f7, f8, f9⟩ := HF.out _ HC; go_simp <;> rfl
            simp only [Act.put, List.setIfInBounds_toArray, List.set_cons_succ, List.set_cons_zero]
            refine dw_val rfl rfl rfl ?_; apply Exists.intro; refine ⟨fun wv HC => ?_, ?_⟩
            · obtain ⟨f0, f1, f2, f3, f4, f5, f6, f7, f8, f9⟩ := HF.out _ HC; go_simp <;> rfl
            simp only [Act.put, List.setIfInBounds_toArray, List.set_cons_succ, List.set_cons_zero]
            refine dw_val rfl rfl rfl ?_; apply Exists.intro; refine ⟨fun wv HC => ?_, ?_⟩
            · obtain ⟨f0, f1, f2, f3, f4, f5, f6, f7, f8, f9⟩ := HF.out _ HC; go_simp <;> rfl
            simp only [Act.put, List.setIfInBounds_toArray, List.set_cons_succ, List.set_cons_zero]
            refine dw_val rfl rfl rfl ?_; apply Exists.intro; refine ⟨fun wv HC => ?_, ?_⟩
            · obtain ⟨f0, f1, f2, f3, f4, f5, f6, f7, f8, f9⟩ := HF.out _ HC; go_simp <;> rfl
            simp only [Act.put, List.setIfInBounds_toArray, List.set_cons_succ, List.set_cons_zero]
            refine rel_nil ?_
            rintro wx2 HX2
            rintro _hrm _HG
            rw [HKE.out] at HX2
            clear _hrm _HG
            go_wp2_with fail
            go_roundw
            case rel => exact ⟨j + 1, by omega, by go_num, HS2, HX2.drop (List.sublist_cons_self _ _)⟩
            case measure => simp [intOf]; omega
        · have e0 : (v.k == key.k) = false := by simpa using h0
          clear hvk h0
          obtain ⟨gb, hgb2⟩ : ∃ gb, gb = wr.heap.size := ⟨_, rfl⟩
          obtain ⟨KL, hKL⟩ : ∃ KL : List Hp, KL = [Hp.cst wr.heap.size 61 #[.int .i64 x.id, .slice (some ⟨gv, ov, none⟩) x.n x.c], .cst (w.heap.size + 1) 66 #[.int .i64 key.k, .int .i64 key.i, .string key.s], .cst w.heap.size 40 #[.string nm, .slice A n c, .int .i64 nx, .slice (some ⟨g, o, none⟩) m d], .ro (SlR 4 A n (colCells cs)), .ro (RwsIn (some ⟨g, o, none⟩) m l)] := ⟨_, rfl⟩
          rw [← hKL] at K2
          rw [← hgb2] at hKL
          have HF : Hid (∀ wv, Hold M none w wv KL → wv.cell? ⟨gb, 1, none⟩ = some (.slice (some ⟨gv, ov, none⟩) x.n x.c) ∧ gb < wv.heap.size ∧ wv.cell? ⟨w.heap.size + 1, 0, none⟩ = some (.int .i64 key.k) ∧ wv.cell? ⟨w.heap.size + 1, 1, none⟩ = some (.int .i64 key.i) ∧ wv.cell? ⟨w.heap.size + 1, 2, none⟩ = some (.string key.s) ∧ w.heap.size + 1 < wv.heap.size ∧ wv.cell? ⟨gv, ov + κ * 3, none⟩ = some (.int .i64 v.k) ∧ wv.cell? ⟨gv, ov + κ * 3 + 1, none⟩ = some (.int .i64 v.i) ∧ wv.cell? ⟨gv, ov + κ * 3 + 2, none⟩ = some (.string v.s) ∧ gv < wv.heap.size) := hid fun wv HC => by
            rw [hKL] at HC
            have b0 := HC.cst_ 0 rfl
            have b1 := HC.cst_ 1 rfl
            obtain ⟨gv', ov', e', hl, e0, e1, e2⟩ := ((HC.ro 4 rfl).now.2 x HXM.out).at_ HV.out
            rw [HA.out] at e'
            obtain ⟨rfl, rfl⟩ : gv = gv' ∧ ov = ov' := by injection e' with e'; injection e' with a1 a2; exact ⟨a1, a2⟩
            exact ⟨cell_of_row _ _ 1 _ _ _ b0, Blk.lt b0, cell_of_row _ _ 0 _ _ _ b1, cell_of_row _ _ 1 _ _ _ b1, cell_of_row _ _ 2 _ _ _ b1, Blk.lt b1, e0, e1, e2, hl⟩
          go_wp2_with fail
          rw [← hgb2]
          have HGB := hid hgb2
          have HKE := hid hKL
          clear hgb2 hKL
          generalize wr.alloc (.cells #[.int .i64 x.id, .slice (some ⟨gv, ov, none⟩) x.n x.c] 61) = w2 at *
          refine wp_region_any (by kernel_rfl) ?_
          refine wpAny_hold 17 40 (KL) (spL []) (by kernel_rfl) (by kernel_rfl) (by kernel_rfl) rfl ?_ (K2.drew) ?_
          · exact stays_nil _
          simp only [List.take_succ_cons, List.take_zero, List.drop_succ_cons, List.drop_zero, Act.put, List.getElem_toArray, List.getElem_cons_zero, List.getElem_cons_succ, List.setIfInBounds_toArray, List.set_cons_succ, List.set_cons_zero]
          refine dw_val rfl rfl rfl ?_; apply Exists.intro; refine ⟨fun wv HC => ?_, ?_⟩
          · obtain ⟨f0, f1, f2, f3, f4, f5, f6, f7, f8, f9⟩ := HF.out _ HC; go_simp <;> rfl
          simp only [Act.put, List.setIfInBounds_toArray, List.set_cons_succ, List.set_cons_zero]
          refine dw_val rfl rfl rfl ?_; apply Exists.intro; refine ⟨fun wv HC => ?_, ?_⟩
          · obtain ⟨f0, f1, f2, f3, f4, f5, f6, f7, f8, f9⟩ := HF.out _ HC; go_simp <;> rfl
          simp only [Act.put, List.setIfInBounds_toArray, List.set_cons_succ, List.set_cons_zero]
          refine dw_val rfl rfl rfl ?_; apply Exists.intro; refine ⟨fun wv HC => ?_, ?_⟩
          · obtain ⟨f0, f1, f2, f3, f4, f5, f6, f7, f8, f9⟩ := HF.out _ HC; go_simp <;> rfl
          simp only [Act.put, List.setIfInBounds_toArray, List.set_cons_succ, List.set_cons_zero]
          refine dw_val rfl rfl rfl ?_; apply Exists.intro; refine ⟨fun wv HC => ?_, ?_⟩
          · obtain ⟨f0, f1, f2, f3, f4, f5, f6, f7, f8, f9⟩ := HF.out _ HC; go_simp <;> rfl
          simp only [Act.put, List.setIfInBounds_toArray, List.set_cons_succ, List.set_cons_zero]
          refine dw_val rfl rfl rfl ?_; apply Exists.intro; refine ⟨fun wv HC => ?_, ?_⟩
          · obtain ⟨f0, f1, f2, f3, f4, f5, f6, f7, f8, f9⟩ := HF.out _ HC; go_simp <;> rfl
          simp only [Act.put, List.setIfInBounds_toArray, List.set_cons_succ, List.set_cons_zero]
          refine dw_val rfl rfl rfl ?_; apply Exists.intro; refine ⟨fun wv HC => ?_, ?_⟩
          · obtain ⟨f0, f1, f2, f3, f4, f5, f6, f7, f8, f9⟩ := HF.out _ HC; go_simp <;> rfl
          simp only [Act.put, List.setIfInBounds_toArray, List.set_cons_succ, List.set_cons_zero]
          refine dw_val rfl rfl rfl ?_; apply Exists.intro; refine ⟨fun wv HC => ?_, ?_⟩
          · obtain ⟨f0, f1, f2, f3, f4, f5, f6, f7, f8, f9⟩ := HF.out _ HC; go_simp <;> rfl
          simp only [Act.put, List.setIfInBounds_toArray, List.set_cons_succ, List.set_cons_zero]
          refine dw_val rfl rfl rfl ?_; apply Exists.intro; refine ⟨fun wv HC => ?_, ?_⟩
          · obtain ⟨f0, f1, f2, f3, f4, f5, f6, f7, f8, f9⟩ := HF.out _ HC; go_simp <;> rfl
          simp only [Act.put, List.setIfInBounds_toArray, List.set_cons_succ, List.set_cons_zero]
          refine dw_val rfl rfl rfl ?_; apply Exists.intro; refine ⟨fun wv HC => ?_, ?_⟩
          · obtain ⟨f0, f1, f2, f3, f4, f5, f6, f7, f8, f9⟩ := HF.out _ HC; go_simp <;> rfl
          simp only [Act.put, List.setIfInBounds_toArray, List.set_cons_succ, List.set_cons_zero]
          refine dw_val rfl rfl rfl ?_; apply Exists.intro; refine ⟨fun wv HC => ?_, ?_⟩
          · obtain ⟨f0, f1, f2, f3, f4, f5, f6, f7, f8, f9⟩ := HF.out _ HC; go_simp <;> rfl
          simp only [Act.put, List.setIfInBounds_toArray, List.set_cons_succ, List.set_cons_zero]
          refine dw_val rfl rfl rfl ?_; apply Exists.intro; refine ⟨fun wv HC => ?_, ?_⟩
          · obtain ⟨f0, f1, f2, f3, f4, f5, f6, f7, f8, f9⟩ := HF.out _ HC; go_simp <;> rfl
          simp only [Act.put, List.setIfInBounds_toArray, List.set_cons_succ, List.set_cons_zero]
          refine dw_val rfl rfl rfl ?_; apply Exists.intro; refine ⟨fun wv HC => ?_, ?_⟩
          · obtain ⟨f0, f1, f2, f3, f4, f5, f6, f7, f8, f9⟩ := HF.out _ HC; go_simp <;> rfl
          simp only [Act.put, List.setIfInBounds_toArray, List.set_cons_succ, List.set_cons_zero]
          refine dw_val rfl rfl rfl ?_; apply Exists.intro; refine ⟨fun wv HC => ?_, ?_⟩
          · obtain ⟨f0, f1, f2, f3, f4, f5, f6, f7, f8, f9⟩ := HF.out _ HC; go_simp <;> rfl
          simp only [Act.put, List.setIfInBounds_toArray, List.set_cons_succ, List.set_cons_zero]
          refine dw_val rfl rfl rfl ?_; apply Exists.intro; refine ⟨fun wv HC => ?_, ?_⟩
          · obtain ⟨f0, f1, f2, f3, f4, f5, f6, f7, f8, f9⟩ := HF.out _ HC; go_simp <;> rfl
          simp only [Act.put, List.setIfInBounds_toArray, List.set_cons_succ, List.set_cons_zero]
          refine dw_val rfl rfl rfl ?_; apply Exists.intro; refine ⟨fun wv HC => ?_, ?_⟩
          · obtain ⟨f0, f1, f2, f3, f4, f5, f6, f7, f8, f9⟩ := HF.out _ HC; go_simp <;> rfl
          simp only [Act.put, List.setIfInBounds_toArray, List.set_cons_succ, List.set_cons_zero]
          refine dw_val rfl rfl rfl ?_; apply Exists.intro; refine ⟨fun wv HC => ?_, ?_⟩
          · obtain ⟨f0, f1, f2, f3, f4, f5, f6, f7, f8, f9⟩ := HF.out _ HC; go_simp <;> rfl
          simp only [Act.put, List.setIfInBounds_toArray, List.set_cons_succ, List.set_cons_zero]
          refine dw_val rfl rfl rfl ?_; apply Exists.intro; refine ⟨fun wv HC => ?_, ?_⟩
          · obtain ⟨f0, f1, f2, f3, f4, f5, f6, f7, f8, f9⟩ := HF.out _ HC; go_simp <;> rfl
          simp only [Act.put, List.setIfInBounds_toArray, List.set_cons_succ, List.set_cons_zero]
          refine rel_nil ?_
          rintro wx2 HX2
          rintro _hrm _HG
          rw [HKE.out] at HX2
          clear _hrm _HG
          go_wp2_with fail
          go_roundw
          case rel => exact ⟨j + 1, by omega, by go_num, HS2, HX2.drop (List.sublist_cons_self _ _)⟩
          case measure => simp [intOf]; omega
      · have hd2 : decide ((κ : Int) < (x.n : Int)) = false := by simp; omega
        have HS2 := hid (show lookR κ (l.map Rw.row) key = lookR κ ((l.map Rw.row).drop (j + 1)) key by rw [HS.out]; exact lookR_short HX.out (by rw [HVL.out]; omega))
        have K2 := H.alloc_cst #[.int .i64 x.id, .slice x.A x.n x.c] 61
        obtain ⟨gb, hgb2⟩ : ∃ gb, gb = wr.heap.size := ⟨_, rfl⟩
        obtain ⟨KL, hKL⟩ : ∃ KL : List Hp, KL = [Hp.cst wr.heap.size 61 #[.int .i64 x.id, .slice x.A x.n x.c], .cst (w.heap.size + 1) 66 #[.int .i64 key.k, .int .i64 key.i, .string key.s], .cst w.heap.size 40 #[.string nm, .slice A n c, .int .i64 nx, .slice (some ⟨g, o, none⟩) m d], .ro (SlR 4 A n (colCells cs)), .ro (RwsIn (some ⟨g, o, none⟩) m l)] := ⟨_, rfl⟩
        rw [← hKL] at K2
        rw [← hgb2] at hKL
        have HF : Hid (∀ wv, Hold M none w wv KL → wv.cell? ⟨gb, 1, none⟩ = some (.slice x.A x.n x.c) ∧ gb < wv.heap.size ∧ wv.cell? ⟨w.heap.size + 1, 0, none⟩ = some (.int .i64 key.k) ∧ wv.cell? ⟨w.heap.size + 1, 1, none⟩ = some (.int .i64 key.i) ∧ wv.cell? ⟨w.heap.size + 1, 2, none⟩ = some (.string key.s) ∧ w.heap.size + 1 < wv.heap.size) := hid fun wv HC => by
          rw [hKL] at HC
          have b0 := HC.cst_ 0 rfl
          have b1 := HC.cst_ 1 rfl
          exact ⟨cell_of_row _ _ 1 _ _ _ b0, Blk.lt b0, cell_of_row _ _ 0 _ _ _ b1, cell_of_row _ _ 1 _ _ _ b1, cell_of_row _ _ 2 _ _ _ b1, Blk.lt b1⟩
        go_wp2_with fail
        rw [← hgb2]
        have HGB := hid hgb2
        have HKE := hid hKL
        clear hgb2 hKL
        generalize wr.alloc (.cells #[.int .i64 x.id, .slice x.A x.n x.c] 61) = w2 at *
        refine wp_region_any (by kernel_rfl) ?_
        refine wpAny_hold 17 40 (KL) (spL []) (by kernel_rfl) (by kernel_rfl) (by kernel_rfl) rfl ?_ (K2.drew) ?_
        · exact stays_nil _
        simp only [List.take_succ_cons, List.take_zero, List.drop_succ_cons, List.drop_zero, Act.put, List.getElem_toArray, List.getElem_cons_zero, List.getElem_cons_succ, List.setIfInBounds_toArray, List.set_cons_succ, List.set_cons_zero]
        refine dw_val rfl rfl rfl ?_; apply Exists.intro; refine ⟨fun wv HC => ?_, ?_⟩
        · obtain ⟨f0, f1, f2, f3, f4, f5⟩ := HF.out _ HC; go_simp <;> rfl
        simp only [Act.put, List.setIfInBounds_toArray, List.set_cons_succ, List.set_cons_zero]
        refine dw_val rfl rfl rfl ?_; apply Exists.intro; refine ⟨fun wv HC => ?_, ?_⟩
        · obtain ⟨f0, f1, f2, f3, f4, f5⟩ := HF.out _ HC; go_simp <;> rfl
        simp only [Act.put, List.setIfInBounds_toArray, List.set_cons_succ, List.set_cons_zero]
        refine dw_val rfl rfl rfl ?_; apply Exists.intro; refine ⟨fun wv HC => ?_, ?_⟩
        · obtain ⟨f0, f1, f2, f3, f4, f5⟩ := HF.out _ HC; go_simp <;> rfl
        simp only [Act.put, List.setIfInBounds_toArray, List.set_cons_succ, List.set_cons_zero]
        refine dw_val rfl rfl rfl ?_; apply Exists.intro; refine ⟨fun wv HC => ?_, ?_⟩
        · obtain ⟨f0, f1, f2, f3, f4, f5⟩ := HF.out _ HC; go_simp <;> rfl
        simp only [Act.put, List.setIfInBounds_toArray, List.set_cons_succ, List.set_cons_zero]
        refine dw_val rfl rfl rfl ?_; apply Exists.intro; refine ⟨fun wv HC => ?_, ?_⟩
        · obtain ⟨f0, f1, f2, f3, f4, f5⟩ := HF.out _ HC; go_simp <;> rfl
        simp only [Act.put, List.setIfInBounds_toArray, List.set_cons_succ, List.set_cons_zero]
        refine dw_val rfl rfl rfl ?_; apply Exists.intro; refine ⟨fun wv HC => ?_, ?_⟩
        · obtain ⟨f0, f1, f2, f3, f4, f5⟩ := HF.out _ HC; go_simp <;> rfl
        simp only [Act.put, List.setIfInBounds_toArray, List.set_cons_succ, List.set_cons_zero]
        refine dw_val rfl rfl rfl ?_; apply Exists.intro; refine ⟨fun wv HC => ?_, ?_⟩
        · obtain ⟨f0, f1, f2, f3, f4, f5⟩ := HF.out _ HC; go_simp <;> rfl
        simp only [Act.put, List.setIfInBounds_toArray, List.set_cons_succ, List.set_cons_zero]
        refine dw_val rfl rfl rfl ?_; apply Exists.intro; refine ⟨fun wv HC => ?_, ?_⟩
        · obtain ⟨f0, f1, f2, f3, f4, f5⟩ := HF.out _ HC; go_simp <;> rfl
        simp only [Act.put, List.setIfInBounds_toArray, List.set_cons_succ, List.set_cons_zero]
        refine dw_val rfl rfl rfl ?_; apply Exists.intro; refine ⟨fun wv HC => ?_, ?_⟩
        · obtain ⟨f0, f1, f2, f3, f4, f5⟩ := HF.out _ HC; go_simp <;> rfl
        simp only [Act.put, List.setIfInBounds_toArray, List.set_cons_succ, List.set_cons_zero]
        refine dw_val rfl rfl rfl ?_; apply Exists.intro; refine ⟨fun wv HC => ?_, ?_⟩
        · obtain ⟨f0, f1, f2, f3, f4, f5⟩ := HF.out _ HC; go_simp <;> rfl
        simp only [Act.put, List.setIfInBounds_toArray, List.set_cons_succ, List.set_cons_zero]
        refine dw_skip rfl rfl rfl ?_
        simp only [Act.put, List.setIfInBounds_toArray, List.set_cons_succ, List.set_cons_zero]
        refine dw_skip rfl rfl rfl ?_
        simp only [Act.put, List.setIfInBounds_toArray, List.set_cons_succ, List.set_cons_zero]
        refine dw_skip rfl rfl rfl ?_
        simp only [Act.put, List.setIfInBounds_toArray, List.set_cons_succ, List.set_cons_zero]
        refine dw_skip rfl rfl rfl ?_
        simp only [Act.put, List.setIfInBounds_toArray, List.set_cons_succ, List.set_cons_zero]
        refine dw_skip rfl rfl rfl ?_
        simp only [Act.put, List.setIfInBounds_toArray, List.set_cons_succ, List.set_cons_zero]
        refine dw_skip rfl rfl rfl ?_
        simp only [Act.put, List.setIfInBounds_toArray, List.set_cons_succ, List.set_cons_zero]
        refine dw_skip rfl rfl rfl ?_
        simp only [Act.put, List.setIfInBounds_toArray, List.set_cons_succ, List.set_cons_zero]
        refine rel_nil ?_
        rintro wx2 HX2
        rintro _hrm _HG
        rw [HKE.out] at HX2
        clear _hrm _HG
        go_wp2_with fail
        go_roundw
        case rel => exact ⟨j + 1, by omega, by go_num, HS2, HX2.drop (List.sublist_cons_self _ _)⟩
        case measure => simp [intOf]; omega
    · obtain rfl : j = m := by omega
      have hdd : decide ((j : Int) < (j : Int)) = false := by simp
      have HN := hid (show lookR kk (l.map Rw.row) key = none by rw [HS.out, List.drop_of_length_le (by rw [List.length_map, HL.out]; exact Nat.le_refl _)]; rfl)
      go_wp2_with fail
      go_ret2
      exact ⟨by rw [HKK.out, HN.out] <;> rfl, H.below⟩
end Go.Proofs.YtljmclbedpceoaaDoor

namespace Go.Proofs.YtljmclbedpceoaaDoor
open Go.RowKit
set_option linter.unusedVariables false
set_option linter.unusedSimpArgs false
set_option maxHeartbeats 4000000 in
set_option maxRecDepth 100000 in
theorem rtvalid_any (M : Nat → Prop) (w : World) (hM : ∀ b, M b → b < w.heap.size) (nm : ByteArray) (A : Option Addr) (n c : Nat) (cs : List Col) (nx : Int) (B : Option Addr) (m d : Nat) (l : List Rw) (hD : Ro w M (SlR 4 A n (colCells cs))) (hE : Ro w M (RwsIn B m l)) (hn : n ≤ 9223372036854775807) (hm : m ≤ 4611686018427387904) (hok : ∀ r ∈ l, r.ok) (hs : nm.size ≤ maxLen) (hcs : ∀ x ∈ cs, x.name.size ≤ maxLen) :
    Calls Tryd.prog 67 #[.agg #[.string nm, .slice A n c, .int .i64 nx, .slice B m d]] w fun e w' => e = .returned (.bool (tabB nm cs nx (l.map Rw.row))) ∧ Below w.heap.size w w' := by
  have HL := hid hE.now.len
  have HML := hid (show (l.map Rw.row).length = m by rw [List.length_map, HL.out])
  have K0 := (((Hold.start M w hM).add (hE.less (by simp [Mut]))).add (hD.less (by simp [Mut, Hp.foot]))).alloc_cst #[.string nm, .slice A n c, .int .i64 nx, .slice B m d] 40
  have F0 := K0.facts
  simp only [World.size_alloc, World.size_drew, factsL, cellsF, Nat.reduceAdd, List.toList_toArray, List.set_cons_zero, List.set_cons_succ, List.setIfInBounds_toArray, and_true, true_and] at F0
  clear hD hE
  go_enter Tryd.func67, Tryd.ntmps67
  go_wp2_with fail
  refine (rsvalid_any _ _ K0.mutLt nm A n c cs (K0.ro 1 rfl) hn hs hcs).mono ?_
  rintro e w1 ⟨rfl, b1⟩
  have K1 := K0.call b1
  clear K0 b1 F0
  have F1 := K1.facts
  simp only [World.size_alloc, World.size_drew, factsL, cellsF, Nat.reduceAdd, List.toList_toArray, List.set_cons_zero, List.set_cons_succ, List.setIfInBounds_toArray, and_true, true_and] at F1
  cases hsb : schemaB nm cs
  · have HN := hid (show tabB nm cs nx (l.map Rw.row) = false from tabB_1 hsb)
    go_wp2_with fail
    go_ret
    exact ⟨by rw [HN.out] <;> rfl, K1.below⟩
  have HSB := hid hsb; clear hsb
  by_cases h1 : 100 < m
  · have h1d : decide ((m : Int) > 100) = true := by simp; omega
    have HN := hid (show tabB nm cs nx (l.map Rw.row) = false from tabB_2 (by rw [HML.out]; exact h1))
    go_wp2_with fail
    go_ret
    exact ⟨by rw [HN.out] <;> rfl, K1.below⟩
  have h1d : decide ((m : Int) > 100) = false := by simp; omega
  by_cases h2 : nx < 1
  · have h2d : decide (nx < 1) = true := by simpa using h2
    have HN := hid (show tabB nm cs nx (l.map Rw.row) = false from tabB_3 h2)
    go_wp2_with fail
    go_ret
    exact ⟨by rw [HN.out] <;> rfl, K1.below⟩
  have h2d : decide (nx < 1) = false := by simpa using h2
  by_cases h3 : 2147483648 < nx
  · have h3d : decide (nx > 2147483648) = true := by simpa using h3
    have HN := hid (show tabB nm cs nx (l.map Rw.row) = false from tabB_4 h3)
    go_wp2_with fail
    go_ret
    exact ⟨by rw [HN.out] <;> rfl, K1.below⟩
  have h3d : decide (nx > 2147483648) = false := by simpa using h3
  go_wp2_with fail
  clear F1
  go_loopw [28] (fun iv wr => ∃ (j : Nat) (lst : Int), j ≤ m ∧ iv = .int .i64 j ∧ 0 ≤ lst ∧ Hid ((j = 0 → lst = 0) ∧ ∀ p, j = p + 1 → ∃ r : Rw, l[p]? = some r ∧ r.id = lst) ∧ Hid (okR cs nx 0 (l.map Rw.row) = okR cs nx lst ((l.map Rw.row).drop j)) ∧ Hold M none w wr [.cst w.heap.size 40 #[.string nm, .slice A n c, .int .i64 nx, .slice B m d], .ro (SlR 4 A n (colCells cs)), .ro (RwsIn B m l)]) (fun iv _ => m - (intOf iv).toNat)
  case atStart => exact ⟨0, 0, by omega, rfl, by omega, hid ⟨fun _ => rfl, fun p hp => by omega⟩, hid rfl, K1⟩
  case round =>
    clear K1
    obtain ⟨j, lst, hj, rfl, hl0, HP, HS, H⟩ := hrel
    by_cases hlt : j < m
    · have hdd : decide ((j : Int) < (m : Int)) = true := by simp; omega
      have j0 : (0 : Int) ≤ (j : Int) := by omega
      obtain ⟨x, hx⟩ := get_of HL.out hlt
      obtain ⟨g, o, rfl, hgb, c0, c1, hvi⟩ := (H.ro 2 rfl).now.at_ hx
      have hrok := hok x (List.mem_of_getElem? hx)
      have HX := hid (show (l.map Rw.row)[j]? = some (x.id, x.vs) by simp [hx, Rw.row])
      have HXM := hid (List.mem_of_getElem? hx)
      have HXL := hid hx
      have K2 := H.alloc_cst #[.int .i64 x.id, .slice x.A x.n x.c] 61
      clear hx
      have hxn : x.n ≤ 9223372036854775807 := Nat.le_trans hrok.nc hrok.c
      by_cases a1 : x.id < 1
      · have a1d : decide (x.id < 1) = true := by simpa using a1
        have HN := hid (show tabB nm cs nx (l.map Rw.row) = false from tabB_5 (by rw [HS.out]; exact okR_bad HX.out (.inl (show x.id ≤ lst by omega))))
        clear a1
        obtain ⟨gb, hgb2⟩ : ∃ gb, gb = wr.heap.size := ⟨_, rfl⟩
        obtain ⟨KL, hKL⟩ : ∃ KL : List Hp, KL = [Hp.cst wr.heap.size 61 #[.int .i64 x.id, .slice x.A x.n x.c], .cst w.heap.size 40 #[.string nm, .slice A n c, .int .i64 nx, .slice (some ⟨g, o, none⟩) m d], .ro (SlR 4 A n (colCells cs)), .ro (RwsIn (some ⟨g, o, none⟩) m l)] := ⟨_, rfl⟩
        rw [← hKL] at K2
        rw [← hgb2] at hKL
        have HF : Hid (∀ wv, Hold M none w wv KL → wv.cell? ⟨gb, 0, none⟩ = some (.int .i64 x.id) ∧ wv.cell? ⟨gb, 1, none⟩ = some (.slice x.A x.n x.c) ∧ gb < wv.heap.size ∧ wv.cell? ⟨w.heap.size, 0, none⟩ = some (.string nm) ∧ wv.cell? ⟨w.heap.size, 1, none⟩ = some (.slice A n c) ∧ wv.cell? ⟨w.heap.size, 2, none⟩ = some (.int .i64 nx) ∧ wv.cell? ⟨w.heap.size, 3, none⟩ = some (.slice (some ⟨g, o, none⟩) m d) ∧ w.heap.size < wv.heap.size) := hid fun wv HC => by
          rw [hKL] at HC
          have b0 := HC.cst_ 0 rfl
          have b1 := HC.cst_ 1 rfl
          exact ⟨cell_of_row _ _ 0 _ _ _ b0, cell_of_row _ _ 1 _ _ _ b0, Blk.lt b0, cell_of_row _ _ 0 _ _ _ b1, cell_of_row _ _ 1 _ _ _ b1, cell_of_row _ _ 2 _ _ _ b1, cell_of_row _ _ 3 _ _ _ b1, Blk.lt b1⟩
        have HKL : Hid (∀ wv, Hold M none w wv KL → Ro wv (Mut M KL) (SlR 4 A n (colCells cs)) ∧ Ro wv (Mut M KL) (VlsIn x.A x.n x.vs)) := hid fun wv HC => by
          rw [hKL] at HC ⊢
          exact ⟨HC.ro 2 rfl, (HC.ro 3 rfl).imp fun w2 h2 => h2.2 x HXM.out⟩
        go_wp2_with fail
        rw [← hgb2]
        have HGB := hid hgb2
        have HKE := hid hKL
        clear hgb2 hKL
        generalize wr.alloc (.cells #[.int .i64 x.id, .slice x.A x.n x.c] 61) = w2 at *
        refine wp_region_any (by kernel_rfl) ?_
        refine wpAny_hold 33 71 (KL) (spL []) (by kernel_rfl) (by kernel_rfl) (by kernel_rfl) rfl ?_ (K2.drew) ?_
        · exact stays_nil _
        simp only [List.take_succ_cons, List.take_zero, List.drop_succ_cons, List.drop_zero, Act.put, List.getElem_toArray, List.getElem_cons_zero, List.getElem_cons_succ, List.setIfInBounds_toArray, List.set_cons_succ, List.set_cons_zero]
        refine dw_val rfl rfl rfl ?_; apply Exists.intro; refine ⟨fun wv HC => ?_, ?_⟩
        · obtain ⟨f0, f1, f2, f3, f4, f5, f6, f7⟩ := HF.out _ HC; go_simp <;> rfl
        simp only [Act.put, List.setIfInBounds_toArray, List.set_cons_succ, List.set_cons_zero]
        refine dw_val rfl rfl rfl ?_; apply Exists.intro; refine ⟨fun wv HC => ?_, ?_⟩
        · obtain ⟨f0, f1, f2, f3, f4, f5, f6, f7⟩ := HF.out _ HC; go_simp <;> rfl
        simp only [Act.put, List.setIfInBounds_toArray, List.set_cons_succ, List.set_cons_zero]
        refine dw_val rfl rfl rfl ?_; apply Exists.intro; refine ⟨fun wv HC => ?_, ?_⟩
        · obtain ⟨f0, f1, f2, f3, f4, f5, f6, f7⟩ := HF.out _ HC; go_simp <;> rfl
        simp only [Act.put, List.setIfInBounds_toArray, List.set_cons_succ, List.set_cons_zero]
        refine dw_val rfl rfl rfl ?_; apply Exists.intro; refine ⟨fun wv HC => ?_, ?_⟩
        · obtain ⟨f0, f1, f2, f3, f4, f5, f6, f7⟩ := HF.out _ HC; go_simp <;> rfl
        simp only [Act.put, List.setIfInBounds_toArray, List.set_cons_succ, List.set_cons_zero]
        refine dw_skip rfl rfl rfl ?_
        simp only [Act.put, List.setIfInBounds_toArray, List.set_cons_succ, List.set_cons_zero]
        refine dw_skip rfl rfl rfl ?_
        simp only [Act.put, List.setIfInBounds_toArray, List.set_cons_succ, List.set_cons_zero]
        refine dw_skip rfl rfl rfl ?_
        simp only [Act.put, List.setIfInBounds_toArray, List.set_cons_succ, List.set_cons_zero]
        refine dw_skip rfl rfl rfl ?_
        simp only [Act.put, List.setIfInBounds_toArray, List.set_cons_succ, List.set_cons_zero]
        refine dw_skip rfl rfl rfl ?_
        simp only [Act.put, List.setIfInBounds_toArray, List.set_cons_succ, List.set_cons_zero]
        refine dw_val rfl rfl rfl ?_; apply Exists.intro; refine ⟨fun wv HC => ?_, ?_⟩
        · obtain ⟨f0, f1, f2, f3, f4, f5, f6, f7⟩ := HF.out _ HC; go_simp <;> rfl
        simp only [Act.put, List.setIfInBounds_toArray, List.set_cons_succ, List.set_cons_zero]
        refine dw_val rfl rfl rfl ?_; apply Exists.intro; refine ⟨fun wv HC => ?_, ?_⟩
        · obtain ⟨f0, f1, f2, f3, f4, f5, f6, f7⟩ := HF.out _ HC; go_simp <;> rfl
        simp only [Act.put, List.setIfInBounds_toArray, List.set_cons_succ, List.set_cons_zero]
        refine dw_skip rfl rfl rfl ?_
        simp only [Act.put, List.setIfInBounds_toArray, List.set_cons_succ, List.set_cons_zero]
        refine dw_skip rfl rfl rfl ?_
        simp only [Act.put, List.setIfInBounds_toArray, List.set_cons_succ, List.set_cons_zero]
        refine dw_skip rfl rfl rfl ?_
        simp only [Act.put, List.setIfInBounds_toArray, List.set_cons_succ, List.set_cons_zero]
        refine dw_skip rfl rfl rfl ?_
        simp only [Act.put, List.setIfInBounds_toArray, List.set_cons_succ, List.set_cons_zero]
        refine dw_skip rfl rfl rfl ?_
        simp only [Act.put, List.setIfInBounds_toArray, List.set_cons_succ, List.set_cons_zero]
        refine dw_skip rfl rfl rfl ?_
        simp only [Act.put, List.setIfInBounds_toArray, List.set_cons_succ, List.set_cons_zero]
        refine dw_skip rfl rfl rfl ?_
        simp only [Act.put, List.setIfInBounds_toArray, List.set_cons_succ, List.set_cons_zero]
        refine dw_skip rfl rfl rfl ?_
        simp only [Act.put, List.setIfInBounds_toArray, List.set_cons_succ, List.set_cons_zero]
        refine dw_skip rfl rfl rfl ?_
        simp only [Act.put, List.setIfInBounds_toArray, List.set_cons_succ, List.set_cons_zero]
        refine dw_skip rfl rfl rfl ?_
        simp only [Act.put, List.setIfInBounds_toArray, List.set_cons_succ, List.set_cons_zero]
        refine dw_skip rfl rfl rfl ?_
        simp only [Act.put, List.setIfInBounds_toArray, List.set_cons_succ, List.set_cons_zero]
        refine dw_skip rfl rfl rfl ?_
        simp only [Act.put, List.setIfInBounds_toArray, List.set_cons_succ, List.set_cons_zero]
        refine dw_skip rfl rfl rfl ?_
        simp only [Act.put, List.setIfInBounds_toArray, List.set_cons_succ, List.set_cons_zero]
        refine dw_skip rfl rfl rfl ?_
        simp only [Act.put, List.setIfInBounds_toArray, List.set_cons_succ, List.set_cons_zero]
        refine dw_val rfl rfl rfl ?_; apply Exists.intro; refine ⟨fun wv HC => ?_, ?_⟩
        · obtain ⟨f0, f1, f2, f3, f4, f5, f6, f7⟩ := HF.out _ HC; go_simp <;> rfl
        simp only [Act.put, List.setIfInBounds_toArray, List.set_cons_succ, List.set_cons_zero]
        refine dw_val rfl rfl rfl ?_; apply Exists.intro; refine ⟨fun wv HC => ?_, ?_⟩
        · obtain ⟨f0, f1, f2, f3, f4, f5, f6, f7⟩ := HF.out _ HC; go_simp <;> rfl
        simp only [Act.put, List.setIfInBounds_toArray, List.set_cons_succ, List.set_cons_zero]
        refine dw_skip rfl rfl rfl ?_
        simp only [Act.put, List.setIfInBounds_toArray, List.set_cons_succ, List.set_cons_zero]
        refine dw_skip rfl rfl rfl ?_
        simp only [Act.put, List.setIfInBounds_toArray, List.set_cons_succ, List.set_cons_zero]
        refine dw_skip rfl rfl rfl ?_
        simp only [Act.put, List.setIfInBounds_toArray, List.set_cons_succ, List.set_cons_zero]
        refine dw_skip rfl rfl rfl ?_
        simp only [Act.put, List.setIfInBounds_toArray, List.set_cons_succ, List.set_cons_zero]
        refine dw_skip rfl rfl rfl ?_
        simp only [Act.put, List.setIfInBounds_toArray, List.set_cons_succ, List.set_cons_zero]
        refine dw_skip rfl rfl rfl ?_
        simp only [Act.put, List.setIfInBounds_toArray, List.set_cons_succ, List.set_cons_zero]
        refine rel_nil ?_
        rintro wx2 HX2
        rintro _hrm _HG
        rw [HKE.out] at HX2
        clear _hrm _HG
        go_wp2_with fail
        go_ret
        exact ⟨by rw [HN.out] <;> rfl, HX2.below⟩
      have a1d : decide (x.id < 1) = false := by simpa using a1
      by_cases a2 : nx ≤ x.id
      · have a2d : decide (x.id ≥ nx) = true := by simpa using a2
        have HN := hid (show tabB nm cs nx (l.map Rw.row) = false from tabB_5 (by rw [HS.out]; exact okR_bad HX.out (.inr (.inl a2))))
        clear a1 a2
        obtain ⟨gb, hgb2⟩ : ∃ gb, gb = wr.heap.size := ⟨_, rfl⟩
        obtain ⟨KL, hKL⟩ : ∃ KL : List Hp, KL = [Hp.cst wr.heap.size 61 #[.int .i64 x.id, .slice x.A x.n x.c], .cst w.heap.size 40 #[.string nm, .slice A n c, .int .i64 nx, .slice (some ⟨g, o, none⟩) m d], .ro (SlR 4 A n (colCells cs)), .ro (RwsIn (some ⟨g, o, none⟩) m l)] := ⟨_, rfl⟩
        rw [← hKL] at K2
        rw [← hgb2] at hKL
        have HF : Hid (∀ wv, Hold M none w wv KL → wv.cell? ⟨gb, 0, none⟩ = some (.int .i64 x.id) ∧ wv.cell? ⟨gb, 1, none⟩ = some (.slice x.A x.n x.c) ∧ gb < wv.heap.size ∧ wv.cell? ⟨w.heap.size, 0, none⟩ = some (.string nm) ∧ wv.cell? ⟨w.heap.size, 1, none⟩ = some (.slice A n c) ∧ wv.cell? ⟨w.heap.size, 2, none⟩ = some (.int .i64 nx) ∧ wv.cell? ⟨w.heap.size, 3, none⟩ = some (.slice (some ⟨g, o, none⟩) m d) ∧ w.heap.size < wv.heap.size) := hid fun wv HC => by
          rw [hKL] at HC
          have b0 := HC.cst_ 0 rfl
          have b1 := HC.cst_ 1 rfl
          exact ⟨cell_of_row _ _ 0 _ _ _ b0, cell_of_row _ _ 1 _ _ _ b0, Blk.lt b0, cell_of_row _ _ 0 _ _ _ b1, cell_of_row _ _ 1 _ _ _ b1, cell_of_row _ _ 2 _ _ _ b1, cell_of_row _ _ 3 _ _ _ b1, Blk.lt b1⟩
        have HKL : Hid (∀ wv, Hold M none w wv KL → Ro wv (Mut M KL) (SlR 4 A n (colCells cs)) ∧ Ro wv (Mut M KL) (VlsIn x.A x.n x.vs)) := hid fun wv HC => by
          rw [hKL] at HC ⊢
          exact ⟨HC.ro 2 rfl, (HC.ro 3 rfl).imp fun w2 h2 => h2.2 x HXM.out⟩
        go_wp2_with fail
        rw [← hgb2]
        have HGB := hid hgb2
        have HKE := hid hKL
        clear hgb2 hKL
        generalize wr.alloc (.cells #[.int .i64 x.id, .slice x.A x.n x.c] 61) = w2 at *
        refine wp_region_any (by kernel_rfl) ?_
        refine wpAny_hold 33 71 (KL) (spL []) (by kernel_rfl) (by kernel_rfl) (by kernel_rfl) rfl ?_ (K2.drew) ?_
        · exact stays_nil _
        simp only [List.take_succ_cons, List.take_zero, List.drop_succ_cons, List.drop_zero, Act.put, List.getElem_toArray, List.getElem_cons_zero, List.getElem_cons_succ, List.setIfInBounds_toArray, List.set_cons_succ, List.set_cons_zero]
        refine dw_val rfl rfl rfl ?_; apply Exists.intro; refine ⟨fun wv HC => ?_, ?_⟩
        · obtain ⟨f0, f1, f2, f3, f4, f5, f6, f7⟩ := HF.out _ HC; go_simp <;> rfl
        simp only [Act.put, List.setIfInBounds_toArray, List.set_cons_succ, List.set_cons_zero]
        refine dw_val rfl rfl rfl ?_; apply Exists.intro; refine ⟨fun wv HC => ?_, ?_⟩
        · obtain ⟨f0, f1, f2, f3, f4, f5, f6, f7⟩ := HF.out _ HC; go_simp <;> rfl
        simp only [Act.put, List.setIfInBounds_toArray, List.set_cons_succ, List.set_cons_zero]
        refine dw_val rfl rfl rfl ?_; apply Exists.intro; refine ⟨fun wv HC => ?_, ?_⟩
        · obtain ⟨f0, f1, f2, f3, f4, f5, f6, f7⟩ := HF.out _ HC; go_simp <;> rfl
        simp only [Act.put, List.setIfInBounds_toArray, List.set_cons_succ, List.set_cons_zero]
        refine dw_val rfl rfl rfl ?_; apply Exists.intro; refine ⟨fun wv HC => ?_, ?_⟩
        · obtain ⟨f0, f1, f2, f3, f4, f5, f6, f7⟩ := HF.out _ HC; go_simp <;> rfl
        simp only [Act.put, List.setIfInBounds_toArray, List.set_cons_succ, List.set_cons_zero]
        refine dw_val rfl rfl rfl ?_; apply Exists.intro; refine ⟨fun wv HC => ?_, ?_⟩
        · obtain ⟨f0, f1, f2, f3, f4, f5, f6, f7⟩ := HF.out _ HC; go_simp <;> rfl
        simp only [Act.put, List.setIfInBounds_toArray, List.set_cons_succ, List.set_cons_zero]
        refine dw_val rfl rfl rfl ?_; apply Exists.intro; refine ⟨fun wv HC => ?_, ?_⟩
        · obtain ⟨f0, f1, f2, f3, f4, f5, f6, f7⟩ := HF.out _ HC; go_simp <;> rfl
        simp only [Act.put, List.setIfInBounds_toArray, List.set_cons_succ, List.set_cons_zero]
        refine dw_val rfl rfl rfl ?_; apply Exists.intro; refine ⟨fun wv HC => ?_, ?_⟩
        · obtain ⟨f0, f1, f2, f3, f4, f5, f6, f7⟩ := HF.out _ HC; go_simp <;> rfl
        simp only [Act.put, List.setIfInBounds_toArray, List.set_cons_succ, List.set_cons_zero]
        refine dw_val rfl rfl rfl ?_; apply Exists.intro; refine ⟨fun wv HC => ?_, ?_⟩
        · obtain ⟨f0, f1, f2, f3, f4, f5, f6, f7⟩ := HF.out _ HC; go_simp <;> rfl
        simp only [Act.put, List.setIfInBounds_toArray, List.set_cons_succ, List.set_cons_zero]
        refine dw_val rfl rfl rfl ?_; apply Exists.intro; refine ⟨fun wv HC => ?_, ?_⟩
        · obtain ⟨f0, f1, f2, f3, f4, f5, f6, f7⟩ := HF.out _ HC; go_simp <;> rfl
        simp only [Act.put, List.setIfInBounds_toArray, List.set_cons_succ, List.set_cons_zero]
        refine dw_val rfl rfl rfl ?_; apply Exists.intro; refine ⟨fun wv HC => ?_, ?_⟩
        · obtain ⟨f0, f1, f2, f3, f4, f5, f6, f7⟩ := HF.out _ HC; go_simp <;> rfl
        simp only [Act.put, List.setIfInBounds_toArray, List.set_cons_succ, List.set_cons_zero]
        refine dw_val rfl rfl rfl ?_; apply Exists.intro; refine ⟨fun wv HC => ?_, ?_⟩
        · obtain ⟨f0, f1, f2, f3, f4, f5, f6, f7⟩ := HF.out _ HC; go_simp <;> rfl
        simp only [Act.put, List.setIfInBounds_toArray, List.set_cons_succ, List.set_cons_zero]
        refine dw_skip rfl rfl rfl ?_
        simp only [Act.put, List.setIfInBounds_toArray, List.set_cons_succ, List.set_cons_zero]
        refine dw_skip rfl rfl rfl ?_
        simp only [Act.put, List.setIfInBounds_toArray, List.set_cons_succ, List.set_cons_zero]
        refine dw_skip rfl rfl rfl ?_
        simp only [Act.put, List.setIfInBounds_toArray, List.set_cons_succ, List.set_cons_zero]
        refine dw_skip rfl rfl rfl ?_
        simp only [Act.put, List.setIfInBounds_toArray, List.set_cons_succ, List.set_cons_zero]
        refine dw_skip rfl rfl rfl ?_
        simp only [Act.put, List.setIfInBounds_toArray, List.set_cons_succ, List.set_cons_zero]
        refine dw_skip rfl rfl rfl ?_
        simp only [Act.put, List.setIfInBounds_toArray, List.set_cons_succ, List.set_cons_zero]
        refine dw_skip rfl rfl rfl ?_
        simp only [Act.put, List.setIfInBounds_toArray, List.set_cons_succ, List.set_cons_zero]
        refine dw_skip rfl rfl rfl ?_
        simp only [Act.put, List.setIfInBounds_toArray, List.set_cons_succ, List.set_cons_zero]
        refine dw_skip rfl rfl rfl ?_
        simp only [Act.put, List.setIfInBounds_toArray, List.set_cons_succ, List.set_cons_zero]
        refine dw_skip rfl rfl rfl ?_
        simp only [Act.put, List.setIfInBounds_toArray, List.set_cons_succ, List.set_cons_zero]
        refine dw_skip rfl rfl rfl ?_
        simp only [Act.put, List.setIfInBounds_toArray, List.set_cons_succ, List.set_cons_zero]
        refine dw_skip rfl rfl rfl ?_
        simp only [Act.put, List.setIfInBounds_toArray, List.set_cons_succ, List.set_cons_zero]
        refine dw_skip rfl rfl rfl ?_
        simp only [Act.put, List.setIfInBounds_toArray, List.set_cons_succ, List.set_cons_zero]
        refine dw_skip rfl rfl rfl ?_
        simp only [Act.put, List.setIfInBounds_toArray, List.set_cons_succ, List.set_cons_zero]
        refine dw_val rfl rfl rfl ?_; apply Exists.intro; refine ⟨fun wv HC => ?_, ?_⟩
        · obtain ⟨f0, f1, f2, f3, f4, f5, f6, f7⟩ := HF.out _ HC; go_simp <;> rfl
        simp only [Act.put, List.setIfInBounds_toArray, List.set_cons_succ, List.set_cons_zero]
        refine dw_val rfl rfl rfl ?_; apply Exists.intro; refine ⟨fun wv HC => ?_, ?_⟩
        · obtain ⟨f0, f1, f2, f3, f4, f5, f6, f7⟩ := HF.out _ HC; go_simp <;> rfl
        simp only [Act.put, List.setIfInBounds_toArray, List.set_cons_succ, List.set_cons_zero]
        refine dw_skip rfl rfl rfl ?_
        simp only [Act.put, List.setIfInBounds_toArray, List.set_cons_succ, List.set_cons_zero]
        refine dw_skip rfl rfl rfl ?_
        simp only [Act.put, List.setIfInBounds_toArray, List.set_cons_succ, List.set_cons_zero]
        refine dw_skip rfl rfl rfl ?_
        simp only [Act.put, List.setIfInBounds_toArray, List.set_cons_succ, List.set_cons_zero]
        refine dw_skip rfl rfl rfl ?_
        simp only [Act.put, List.setIfInBounds_toArray, List.set_cons_succ, List.set_cons_zero]
        refine dw_skip rfl rfl rfl ?_
        simp only [Act.put, List.setIfInBounds_toArray, List.set_cons_succ, List.set_cons_zero]
        refine dw_skip rfl rfl rfl ?_
        simp only [Act.put, List.setIfInBounds_toArray, List.set_cons_succ, List.set_cons_zero]
        refine rel_nil ?_
        rintro wx2 HX2
        rintro _hrm _HG
        rw [HKE.out] at HX2
        clear _hrm _HG
        go_wp2_with fail
        go_ret
        exact ⟨by rw [HN.out] <;> rfl, HX2.below⟩
      have a2d : decide (x.id ≥ nx) = false := by simpa using a2
      have HA := hid (show ¬ x.id < 1 ∧ ¬ nx ≤ x.id from ⟨a1, a2⟩)
      clear a1 a2
      rcases Nat.eq_zero_or_pos j with hj0 | hj0
      · have HL0 := hid (HP.out.1 hj0)
        have HJ0 := hid hj0
        have hj0d : decide ((j : Int) > 0) = false := by simp; omega
        have hj0d2 : decide (0 < j) = false := by simp; omega
        have hj0d3 : decide ((0 : Int) < (j : Int)) = false := by simp; omega
        clear hj0
        obtain ⟨gb, hgb2⟩ : ∃ gb, gb = wr.heap.size := ⟨_, rfl⟩
        obtain ⟨KL, hKL⟩ : ∃ KL : List Hp, KL = [Hp.cst wr.heap.size 61 #[.int .i64 x.id, .slice x.A x.n x.c], .cst w.heap.size 40 #[.string nm, .slice A n c, .int .i64 nx, .slice (some ⟨g, o, none⟩) m d], .ro (SlR 4 A n (colCells cs)), .ro (RwsIn (some ⟨g, o, none⟩) m l)] := ⟨_, rfl⟩
        rw [← hKL] at K2
        rw [← hgb2] at hKL
        have HF : Hid (∀ wv, Hold M none w wv KL → wv.cell? ⟨gb, 0, none⟩ = some (.int .i64 x.id) ∧ wv.cell? ⟨gb, 1, none⟩ = some (.slice x.A x.n x.c) ∧ gb < wv.heap.size ∧ wv.cell? ⟨w.heap.size, 0, none⟩ = some (.string nm) ∧ wv.cell? ⟨w.heap.size, 1, none⟩ = some (.slice A n c) ∧ wv.cell? ⟨w.heap.size, 2, none⟩ = some (.int .i64 nx) ∧ wv.cell? ⟨w.heap.size, 3, none⟩ = some (.slice (some ⟨g, o, none⟩) m d) ∧ w.heap.size < wv.heap.size) := hid fun wv HC => by
          rw [hKL] at HC
          have b0 := HC.cst_ 0 rfl
          have b1 := HC.cst_ 1 rfl
          exact ⟨cell_of_row _ _ 0 _ _ _ b0, cell_of_row _ _ 1 _ _ _ b0, Blk.lt b0, cell_of_row _ _ 0 _ _ _ b1, cell_of_row _ _ 1 _ _ _ b1, cell_of_row _ _ 2 _ _ _ b1, cell_of_row _ _ 3 _ _ _ b1, Blk.lt b1⟩
        have HKL : Hid (∀ wv, Hold M none w wv KL → Ro wv (Mut M KL) (SlR 4 A n (colCells cs)) ∧ Ro wv (Mut M KL) (VlsIn x.A x.n x.vs)) := hid fun wv HC => by
          rw [hKL] at HC ⊢
          exact ⟨HC.ro 2 rfl, (HC.ro 3 rfl).imp fun w2 h2 => h2.2 x HXM.out⟩
        go_wp2_with fail
        rw [← hgb2]
        have HGB := hid hgb2
        have HKE := hid hKL
        clear hgb2 hKL
        generalize wr.alloc (.cells #[.int .i64 x.id, .slice x.A x.n x.c] 61) = w2 at *
        refine wp_region_any (by kernel_rfl) ?_
        refine wpAny_hold 33 71 (KL) (spL [(64, IsV (.int .i64 (fitsT cs x.vs)))]) (by kernel_rfl) (by kernel_rfl) (by kernel_rfl) rfl ?_ (K2.drew) ?_
        · exact stays_cons isV_mono (stays_nil _)
        simp only [List.take_succ_cons, List.take_zero, List.drop_succ_cons, List.drop_zero, Act.put, List.getElem_toArray, List.getElem_cons_zero, List.getElem_cons_succ, List.setIfInBounds_toArray, List.set_cons_succ, List.set_cons_zero]
        refine dw_val rfl rfl rfl ?_; apply Exists.intro; refine ⟨fun wv HC => ?_, ?_⟩
        · obtain ⟨f0, f1, f2, f3, f4, f5, f6, f7⟩ := HF.out _ HC; go_simp <;> rfl
        simp only [Act.put, List.setIfInBounds_toArray, List.set_cons_succ, List.set_cons_zero]
        refine dw_val rfl rfl rfl ?_; apply Exists.intro; refine ⟨fun wv HC => ?_, ?_⟩
        · obtain ⟨f0, f1, f2, f3, f4, f5, f6, f7⟩ := HF.out _ HC; go_simp <;> rfl
        simp only [Act.put, List.setIfInBounds_toArray, List.set_cons_succ, List.set_cons_zero]
        refine dw_val rfl rfl rfl ?_; apply Exists.intro; refine ⟨fun wv HC => ?_, ?_⟩
        · obtain ⟨f0, f1, f2, f3, f4, f5, f6, f7⟩ := HF.out _ HC; go_simp <;> rfl
        simp only [Act.put, List.setIfInBounds_toArray, List.set_cons_succ, List.set_cons_zero]
        refine dw_val rfl rfl rfl ?_; apply Exists.intro; refine ⟨fun wv HC => ?_, ?_⟩
        · obtain ⟨f0, f1, f2, f3, f4, f5, f6, f7⟩ := HF.out _ HC; go_simp <;> rfl
        simp only [Act.put, List.setIfInBounds_toArray, List.set_cons_succ, List.set_cons_zero]
        refine dw_val rfl rfl rfl ?_; apply Exists.intro; refine ⟨fun wv HC => ?_, ?_⟩
        · obtain ⟨f0, f1, f2, f3, f4, f5, f6, f7⟩ := HF.out _ HC; go_simp <;> rfl
        simp only [Act.put, List.setIfInBounds_toArray, List.set_cons_succ, List.set_cons_zero]
        refine dw_val rfl rfl rfl ?_; apply Exists.intro; refine ⟨fun wv HC => ?_, ?_⟩
        · obtain ⟨f0, f1, f2, f3, f4, f5, f6, f7⟩ := HF.out _ HC; go_simp <;> rfl
        simp only [Act.put, List.setIfInBounds_toArray, List.set_cons_succ, List.set_cons_zero]
        refine dw_val rfl rfl rfl ?_; apply Exists.intro; refine ⟨fun wv HC => ?_, ?_⟩
        · obtain ⟨f0, f1, f2, f3, f4, f5, f6, f7⟩ := HF.out _ HC; go_simp <;> rfl
        simp only [Act.put, List.setIfInBounds_toArray, List.set_cons_succ, List.set_cons_zero]
        refine dw_val rfl rfl rfl ?_; apply Exists.intro; refine ⟨fun wv HC => ?_, ?_⟩
        · obtain ⟨f0, f1, f2, f3, f4, f5, f6, f7⟩ := HF.out _ HC; go_simp <;> rfl
        simp only [Act.put, List.setIfInBounds_toArray, List.set_cons_succ, List.set_cons_zero]
        refine dw_val rfl rfl rfl ?_; apply Exists.intro; refine ⟨fun wv HC => ?_, ?_⟩
        · obtain ⟨f0, f1, f2, f3, f4, f5, f6, f7⟩ := HF.out _ HC; go_simp <;> rfl
        simp only [Act.put, List.setIfInBounds_toArray, List.set_cons_succ, List.set_cons_zero]
        refine dw_val rfl rfl rfl ?_; apply Exists.intro; refine ⟨fun wv HC => ?_, ?_⟩
        · obtain ⟨f0, f1, f2, f3, f4, f5, f6, f7⟩ := HF.out _ HC; go_simp <;> rfl
        simp only [Act.put, List.setIfInBounds_toArray, List.set_cons_succ, List.set_cons_zero]
        refine dw_val rfl rfl rfl ?_; apply Exists.intro; refine ⟨fun wv HC => ?_, ?_⟩
        · obtain ⟨f0, f1, f2, f3, f4, f5, f6, f7⟩ := HF.out _ HC; go_simp <;> rfl
        simp only [Act.put, List.setIfInBounds_toArray, List.set_cons_succ, List.set_cons_zero]
        refine dw_val rfl rfl rfl ?_; apply Exists.intro; refine ⟨fun wv HC => ?_, ?_⟩
        · obtain ⟨f0, f1, f2, f3, f4, f5, f6, f7⟩ := HF.out _ HC; go_simp <;> rfl
        simp only [Act.put, List.setIfInBounds_toArray, List.set_cons_succ, List.set_cons_zero]
        refine dw_val rfl rfl rfl ?_; apply Exists.intro; refine ⟨fun wv HC => ?_, ?_⟩
        · obtain ⟨f0, f1, f2, f3, f4, f5, f6, f7⟩ := HF.out _ HC; go_simp <;> rfl
        simp only [Act.put, List.setIfInBounds_toArray, List.set_cons_succ, List.set_cons_zero]
        refine dw_val rfl rfl rfl ?_; apply Exists.intro; refine ⟨fun wv HC => ?_, ?_⟩
        · obtain ⟨f0, f1, f2, f3, f4, f5, f6, f7⟩ := HF.out _ HC; go_simp <;> rfl
        simp only [Act.put, List.setIfInBounds_toArray, List.set_cons_succ, List.set_cons_zero]
        refine dw_skip rfl rfl rfl ?_
        simp only [Act.put, List.setIfInBounds_toArray, List.set_cons_succ, List.set_cons_zero]
        refine dw_skip rfl rfl rfl ?_
        simp only [Act.put, List.setIfInBounds_toArray, List.set_cons_succ, List.set_cons_zero]
        refine dw_skip rfl rfl rfl ?_
        simp only [Act.put, List.setIfInBounds_toArray, List.set_cons_succ, List.set_cons_zero]
        refine dw_skip rfl rfl rfl ?_
        simp only [Act.put, List.setIfInBounds_toArray, List.set_cons_succ, List.set_cons_zero]
        refine dw_skip rfl rfl rfl ?_
        simp only [Act.put, List.setIfInBounds_toArray, List.set_cons_succ, List.set_cons_zero]
        refine dw_skip rfl rfl rfl ?_
        simp only [Act.put, List.setIfInBounds_toArray, List.set_cons_succ, List.set_cons_zero]
        refine dw_skip rfl rfl rfl ?_
        simp only [Act.put, List.setIfInBounds_toArray, List.set_cons_succ, List.set_cons_zero]
        refine dw_skip rfl rfl rfl ?_
        simp only [Act.put, List.setIfInBounds_toArray, List.set_cons_succ, List.set_cons_zero]
        refine dw_skip rfl rfl rfl ?_
        simp only [Act.put, List.setIfInBounds_toArray, List.set_cons_succ, List.set_cons_zero]
        refine dw_skip rfl rfl rfl ?_
        simp only [Act.put, List.setIfInBounds_toArray, List.set_cons_succ, List.set_cons_zero]
        refine dw_val rfl rfl rfl ?_; apply Exists.intro; refine ⟨fun wv HC => ?_, ?_⟩
        · obtain ⟨f0, f1, f2, f3, f4, f5, f6, f7⟩ := HF.out _ HC; go_simp <;> rfl
        simp only [Act.put, List.setIfInBounds_toArray, List.set_cons_succ, List.set_cons_zero]
        refine dw_val rfl rfl rfl ?_; apply Exists.intro; refine ⟨fun wv HC => ?_, ?_⟩
        · obtain ⟨f0, f1, f2, f3, f4, f5, f6, f7⟩ := HF.out _ HC; go_simp <;> rfl
        simp only [Act.put, List.setIfInBounds_toArray, List.set_cons_succ, List.set_cons_zero]
        refine dw_val rfl rfl rfl ?_; apply Exists.intro; refine ⟨fun wv HC => ?_, ?_⟩
        · obtain ⟨f0, f1, f2, f3, f4, f5, f6, f7⟩ := HF.out _ HC; go_simp <;> rfl
        simp only [Act.put, List.setIfInBounds_toArray, List.set_cons_succ, List.set_cons_zero]
        refine dw_val rfl rfl rfl ?_; apply Exists.intro; refine ⟨fun wv HC => ?_, ?_⟩
        · obtain ⟨f0, f1, f2, f3, f4, f5, f6, f7⟩ := HF.out _ HC; go_simp <;> rfl
        simp only [Act.put, List.setIfInBounds_toArray, List.set_cons_succ, List.set_cons_zero]
        refine dw_val rfl rfl rfl ?_; apply Exists.intro; refine ⟨fun wv HC => ?_, ?_⟩
        · obtain ⟨f0, f1, f2, f3, f4, f5, f6, f7⟩ := HF.out _ HC; go_simp <;> rfl
        simp only [Act.put, List.setIfInBounds_toArray, List.set_cons_succ, List.set_cons_zero]
        refine dw_val rfl rfl rfl ?_; apply Exists.intro; refine ⟨fun wv HC => ?_, ?_⟩
        · obtain ⟨f0, f1, f2, f3, f4, f5, f6, f7⟩ := HF.out _ HC; go_simp <;> rfl
        simp only [Act.put, List.setIfInBounds_toArray, List.set_cons_succ, List.set_cons_zero]
        refine dw_val rfl rfl rfl ?_; apply Exists.intro; refine ⟨fun wv HC => ?_, ?_⟩
        · obtain ⟨f0, f1, f2, f3, f4, f5, f6, f7⟩ := HF.out _ HC; go_simp <;> rfl
        simp only [Act.put, List.setIfInBounds_toArray, List.set_cons_succ, List.set_cons_zero]
        refine dw_callR 64 (IsV (.int .i64 (fitsT cs x.vs))) (f := 84) (args := #[.agg #[.string nm, .slice A n c], .slice x.A x.n x.c]) rfl rfl rfl rfl (fun wv => ?_) (fun wv HC hrm hD => ?_) ?_
        · go_simp <;> rfl
        · refine (rtfits_any _ _ HC.mutLt nm A n c cs x.A x.n x.c x.vs ((HKL.out wv HC).1) ((HKL.out wv HC).2) hn hxn hrok.vs).mono ?_
          rintro e w5 ⟨rfl, b5⟩
          exact ⟨_, rfl, rfl, HC.call b5, RM.below b5⟩
        rintro u wx HCx hu
        obtain rfl : u = _ := hu
        clear HCx
        simp only [Act.put, List.setIfInBounds_toArray, List.set_cons_succ, List.set_cons_zero]
        refine dw_val rfl rfl rfl ?_; apply Exists.intro; refine ⟨fun wv HC => ?_, ?_⟩
        · obtain ⟨f0, f1, f2, f3, f4, f5, f6, f7⟩ := HF.out _ HC; go_simp <;> rfl
        simp only [Act.put, List.setIfInBounds_toArray, List.set_cons_succ, List.set_cons_zero]
        refine rel_nil ?_
        rintro wx2 HX2
        rintro _hrm _HG
        rw [HKE.out] at HX2
        clear _hrm _HG
        by_cases a3 : fitsT cs x.vs = 0
        · have HS2 := hid (show okR cs nx 0 (l.map Rw.row) = okR cs nx x.id ((l.map Rw.row).drop (j + 1)) by rw [HS.out]; exact okR_good HX.out (by have := HL0.out; have := HA.out; omega) (by have := HA.out; omega) a3)
          have HP2 := hid (show (j + 1 = 0 → x.id = 0) ∧ ∀ q, j + 1 = q + 1 → ∃ r : Rw, l[q]? = some r ∧ r.id = x.id from ⟨fun h => by omega, fun q hq => ⟨x, (show j = q by omega) ▸ HXL.out, rfl⟩⟩)
          have h0x : 0 ≤ x.id := by have := HA.out; omega
          rw [a3]
          clear a3
          go_wp2_with fail
          go_roundw
          case rel => exact ⟨j + 1, x.id, by omega, by go_num, h0x, HP2, HS2, HX2.drop (List.sublist_cons_self _ _)⟩
          case measure => simp [intOf]; omega
        · have a3d : (fitsT cs x.vs != 0) = true := by simp [a3]
          have HN := hid (show tabB nm cs nx (l.map Rw.row) = false from tabB_5 (by rw [HS.out]; exact okR_bad HX.out (.inr (.inr a3))))
          clear a3
          go_wp2_with fail
          go_ret
          exact ⟨by rw [HN.out] <;> rfl, HX2.below⟩
      · obtain ⟨p, hp⟩ : ∃ p, j = p + 1 := ⟨j - 1, by omega⟩
        obtain ⟨r, hr, hrl⟩ := HP.out.2 p hp
        have HR := hid hr
        have HRL := hid hrl
        clear hr hrl
        have hj0d : decide ((j : Int) > 0) = true := by simp; omega
        have hj0d2 : decide (0 < j) = true := by simp; omega
        have hj0d3 : decide ((0 : Int) < (j : Int)) = true := by simp; omega
        have hw1 : IntKind.i64.wrap ((j : Int) - 1) = (p : Int) := by rw [IntKind.wrap_i64]; omega
        have p0 : (0 : Int) ≤ (p : Int) := by omega
        have p1 : (p : Int) < (m : Int) := by omega
        have hpm : p < m := by omega
        have HPJ := hid hp
        clear hp hj0
        by_cases a4 : r.id ≥ x.id
        · have a4d : decide (r.id ≥ x.id) = true := by simpa using a4
          have HN := hid (show tabB nm cs nx (l.map Rw.row) = false from tabB_5 (by rw [HS.out]; exact okR_bad HX.out (.inl (show x.id ≤ lst by have := HRL.out; omega))))
          clear a4
          obtain ⟨gb, hgb2⟩ : ∃ gb, gb = wr.heap.size := ⟨_, rfl⟩
          obtain ⟨KL, hKL⟩ : ∃ KL : List Hp, KL = [Hp.cst wr.heap.size 61 #[.int .i64 x.id, .slice x.A x.n x.c], .cst w.heap.size 40 #[.string nm, .slice A n c, .int .i64 nx, .slice (some ⟨g, o, none⟩) m d], .ro (SlR 4 A n (colCells cs)), .ro (RwsIn (some ⟨g, o, none⟩) m l)] := ⟨_, rfl⟩
          rw [← hKL] at K2
          rw [← hgb2] at hKL
          have HF : Hid (∀ wv, Hold M none w wv KL → wv.cell? ⟨gb, 0, none⟩ = some (.int .i64 x.id) ∧ wv.cell? ⟨gb, 1, none⟩ = some (.slice x.A x.n x.c) ∧ gb < wv.heap.size ∧ wv.cell? ⟨w.heap.size, 0, none⟩ = some (.string nm) ∧ wv.cell? ⟨w.heap.size, 1, none⟩ = some (.slice A n c) ∧ wv.cell? ⟨w.heap.size, 2, none⟩ = some (.int .i64 nx) ∧ wv.cell? ⟨w.heap.size, 3, none⟩ = some (.slice (some ⟨g, o, none⟩) m d) ∧ w.heap.size < wv.heap.size ∧ wv.cell? ⟨g, o + p * 2, none⟩ = some (.int .i64 r.id) ∧ g < wv.heap.size) := hid fun wv HC => by
            rw [hKL] at HC
            have b0 := HC.cst_ 0 rfl
            have b1 := HC.cst_ 1 rfl
            obtain ⟨g', o', e', hl, e0, e1, _⟩ := (HC.ro 3 rfl).now.at_ HR.out
            obtain ⟨rfl, rfl⟩ : g = g' ∧ o = o' := by injection e' with e'; injection e' with a1 a2; exact ⟨a1, a2⟩
            exact ⟨cell_of_row _ _ 0 _ _ _ b0, cell_of_row _ _ 1 _ _ _ b0, Blk.lt b0, cell_of_row _ _ 0 _ _ _ b1, cell_of_row _ _ 1 _ _ _ b1, cell_of_row _ _ 2 _ _ _ b1, cell_of_row _ _ 3 _ _ _ b1, Blk.lt b1, e0, hl⟩
          have HKL : Hid (∀ wv, Hold M none w wv KL → Ro wv (Mut M KL) (SlR 4 A n (colCells cs)) ∧ Ro wv (Mut M KL) (VlsIn x.A x.n x.vs)) := hid fun wv HC => by
            rw [hKL] at HC ⊢
            exact ⟨HC.ro 2 rfl, (HC.ro 3 rfl).imp fun w2 h2 => h2.2 x HXM.out⟩
          go_wp2_with fail
          rw [← hgb2]
          have HGB := hid hgb2
          have HKE := hid hKL
          clear hgb2 hKL
          generalize wr.alloc (.cells #[.int .i64 x.id, .slice x.A x.n x.c] 61) = w2 at *
          refine wp_region_any (by kernel_rfl) ?_
          refine wpAny_hold 33 71 (KL) (spL []) (by kernel_rfl) (by kernel_rfl) (by kernel_rfl) rfl ?_ (K2.drew) ?_
          · exact stays_nil _
          simp only [List.take_succ_cons, List.take_zero, List.drop_succ_cons, List.drop_zero, Act.put, List.getElem_toArray, List.getElem_cons_zero, List.getElem_cons_succ, List.setIfInBounds_toArray, List.set_cons_succ, List.set_cons_zero]
          refine dw_val rfl rfl rfl ?_; apply Exists.intro; refine ⟨fun wv HC => ?_, ?_⟩
          · obtain ⟨f0, f1, f2, f3, f4, f5, f6, f7, f8, f9⟩ := HF.out _ HC; go_simp <;> rfl
          simp only [Act.put, List.setIfInBounds_toArray, List.set_cons_succ, List.set_cons_zero]
          refine dw_val rfl rfl rfl ?_; apply Exists.intro; refine ⟨fun wv HC => ?_, ?_⟩
          · obtain ⟨f0, f1, f2, f3, f4, f5, f6, f7, f8, f9⟩ := HF.out _ HC; go_simp <;> rfl
          simp only [Act.put, List.setIfInBounds_toArray, List.set_cons_succ, List.set_cons_zero]
          refine dw_val rfl rfl rfl ?_; apply Exists.intro; refine ⟨fun wv HC => ?_, ?_⟩
          · obtain ⟨f0, f1, f2, f3, f4, f5, f6, f7, f8, f9⟩ := HF.out _ HC; go_simp <;> rfl
          simp only [Act.put, List.setIfInBounds_toArray, List.set_cons_succ, List.set_cons_zero]
          refine dw_val rfl rfl rfl ?_; apply Exists.intro; refine ⟨fun wv HC => ?_, ?_⟩
          · obtain ⟨f0, f1, f2, f3, f4, f5, f6, f7, f8, f9⟩ := HF.out _ HC; go_simp <;> rfl
          simp only [Act.put, List.setIfInBounds_toArray, List.set_cons_succ, List.set_cons_zero]
          refine dw_val rfl rfl rfl ?_; apply Exists.intro; refine ⟨fun wv HC => ?_, ?_⟩
          · obtain ⟨f0, f1, f2, f3, f4, f5, f6, f7, f8, f9⟩ := HF.out _ HC; go_simp <;> rfl
          simp only [Act.put, List.setIfInBounds_toArray, List.set_cons_succ, List.set_cons_zero]
          refine dw_val rfl rfl rfl ?_; apply Exists.intro; refine ⟨fun wv HC => ?_, ?_⟩
          · obtain ⟨f0, f1, f2, f3, f4, f5, f6, f7, f8, f9⟩ := HF.out _ HC; go_simp <;> rfl
          simp only [Act.put, List.setIfInBounds_toArray, List.set_cons_succ, List.set_cons_zero]
          refine dw_val rfl rfl rfl ?_; apply Exists.intro; refine ⟨fun wv HC => ?_, ?_⟩
          · obtain ⟨f0, f1, f2, f3, f4, f5, f6, f7, f8, f9⟩ := HF.out _ HC; go_simp <;> rfl
          simp only [Act.put, List.setIfInBounds_toArray, List.set_cons_succ, List.set_cons_zero]
          refine dw_val rfl rfl rfl ?_; apply Exists.intro; refine ⟨fun wv HC => ?_, ?_⟩
          · obtain ⟨f0, f1, f2, f3, f4, f5, f6, f7, f8, f9⟩ := HF.out _ HC; go_simp <;> rfl
          simp only [Act.put, List.setIfInBounds_toArray, List.set_cons_succ, List.set_cons_zero]
          refine dw_val rfl rfl rfl ?_; apply Exists.intro; refine ⟨fun wv HC => ?_, ?_⟩
          · obtain ⟨f0, f1, f2, f3, f4, f5, f6, f7, f8, f9⟩ := HF.out _ HC; go_simp <;> rfl
          simp only [Act.put, List.setIfInBounds_toArray, List.set_cons_succ, List.set_cons_zero]
          refine dw_val rfl rfl rfl ?_; apply Exists.intro; refine ⟨fun wv HC => ?_, ?_⟩
          · obtain ⟨f0, f1, f2, f3, f4, f5, f6, f7, f8, f9⟩ := HF.out _ HC; go_simp <;> rfl
          simp only [Act.put, List.setIfInBounds_toArray, List.set_cons_succ, List.set_cons_zero]
          refine dw_val rfl rfl rfl ?_; apply Exists.intro; refine ⟨fun wv HC => ?_, ?_⟩
          · obtain ⟨f0, f1, f2, f3, f4, f5, f6, f7, f8, f9⟩ := HF.out _ HC; go_simp <;> rfl
          simp only [Act.put, List.setIfInBounds_toArray, List.set_cons_succ, List.set_cons_zero]
          refine dw_val rfl rfl rfl ?_; apply Exists.intro; refine ⟨fun wv HC => ?_, ?_⟩
          · obtain ⟨f0, f1, f2, f3, f4, f5, f6, f7, f8, f9⟩ := HF.out _ HC; go_simp <;> rfl
          simp only [Act.put, List.setIfInBounds_toArray, List.set_cons_succ, List.set_cons_zero]
          refine dw_val rfl rfl rfl ?_; apply Exists.intro; refine ⟨fun wv HC => ?_, ?_⟩
          · obtain ⟨f0, f1, f2, f3, f4, f5, f6, f7, f8, f9⟩ := HF.out _ HC; go_simp <;> rfl
          simp only [Act.put, List.setIfInBounds_toArray, List.set_cons_succ, List.set_cons_zero]
          refine dw_val rfl rfl rfl ?_; apply Exists.intro; refine ⟨fun wv HC => ?_, ?_⟩
          · obtain ⟨f0, f1, f2, f3, f4, f5, f6, f7, f8, f9⟩ := HF.out _ HC; go_simp <;> rfl
          simp only [Act.put, List.setIfInBounds_toArray, List.set_cons_succ, List.set_cons_zero]
          refine dw_val rfl rfl rfl ?_; apply Exists.intro; refine ⟨fun wv HC => ?_, ?_⟩
          · obtain ⟨f0, f1, f2, f3, f4, f5, f6, f7, f8, f9⟩ := HF.out _ HC; go_simp <;> rfl
          simp only [Act.put, List.setIfInBounds_toArray, List.set_cons_succ, List.set_cons_zero]
          refine dw_val rfl rfl rfl ?_; apply Exists.intro; refine ⟨fun wv HC => ?_, ?_⟩
          · obtain ⟨f0, f1, f2, f3, f4, f5, f6, f7, f8, f9⟩ := HF.out _ HC; go_simp <;> rfl
          simp only [Act.put, List.setIfInBounds_toArray, List.set_cons_succ, List.set_cons_zero]
          refine dw_val rfl rfl rfl ?_; apply Exists.intro; refine ⟨fun wv HC => ?_, ?_⟩
          · obtain ⟨f0, f1, f2, f3, f4, f5, f6, f7, f8, f9⟩ := HF.out _ HC; go_simp <;> rfl
          simp only [Act.put, List.setIfInBounds_toArray, List.set_cons_succ, List.set_cons_zero]
          refine dw_val rfl rfl rfl ?_; apply Exists.intro; refine ⟨fun wv HC => ?_, ?_⟩
          · obtain ⟨f0, f1, f2, f3, f4, f5, f6, f7, f8, f9⟩ := HF.out _ HC; go_simp <;> rfl
          simp only [Act.put, List.setIfInBounds_toArray, List.set_cons_succ, List.set_cons_zero]
          refine dw_val rfl rfl rfl ?_; apply Exists.intro; refine ⟨fun wv HC => ?_, ?_⟩
          · obtain ⟨f0, f1, f2, f3, f4, f5, f6, f7, f8, f9⟩ := HF.out _ HC; go_simp <;> rfl
          simp only [Act.put, List.setIfInBounds_toArray, List.set_cons_succ, List.set_cons_zero]
          refine dw_val rfl rfl rfl ?_; apply Exists.intro; refine ⟨fun wv HC => ?_, ?_⟩
          · obtain ⟨f0, f1, f2, f3, f4, f5, f6, f7, f8, f9⟩ := HF.out _ HC; go_simp <;> rfl
          simp only [Act.put, List.setIfInBounds_toArray, List.set_cons_succ, List.set_cons_zero]
          refine dw_val rfl rfl rfl ?_; apply Exists.intro; refine ⟨fun wv HC => ?_, ?_⟩
          · obtain ⟨f0, f1, f2, f3, f4, f5, f6, f7, f8, f9⟩ := HF.out _ HC; go_simp <;> rfl
          simp only [Act.put, List.setIfInBounds_toArray, List.set_cons_succ, List.set_cons_zero]
          refine dw_val rfl rfl rfl ?_; apply Exists.intro; refine ⟨fun wv HC => ?_, ?_⟩
          · obtain ⟨f0, f1, f2, f3, f4, f5, f6, f7, f8, f9⟩ := HF.out _ HC; go_simp <;> rfl
          simp only [Act.put, List.setIfInBounds_toArray, List.set_cons_succ, List.set_cons_zero]
          refine dw_val rfl rfl rfl ?_; apply Exists.intro; refine ⟨fun wv HC => ?_, ?_⟩
          · obtain ⟨f0, f1, f2, f3, f4, f5, f6, f7, f8, f9⟩ := HF.out _ HC; go_simp <;> rfl
          simp only [Act.put, List.setIfInBounds_toArray, List.set_cons_succ, List.set_cons_zero]
          refine dw_val rfl rfl rfl ?_; apply Exists.intro; refine ⟨fun wv HC => ?_, ?_⟩
          · obtain ⟨f0, f1, f2, f3, f4, f5, f6, f7, f8, f9⟩ := HF.out _ HC; go_simp <;> rfl
          simp only [Act.put, List.setIfInBounds_toArray, List.set_cons_succ, List.set_cons_zero]
          refine dw_val rfl rfl rfl ?_; apply Exists.intro; refine ⟨fun wv HC => ?_, ?_⟩
          · obtain ⟨f0, f1, f2, f3, f4, f5, f6, f7, f8, f9⟩ := HF.out _ HC; go_simp <;> rfl
          simp only [Act.put, List.setIfInBounds_toArray, List.set_cons_succ, List.set_cons_zero]
          refine dw_val rfl rfl rfl ?_; apply Exists.intro; refine ⟨fun wv HC => ?_, ?_⟩
          · obtain ⟨f0, f1, f2, f3, f4, f5, f6, f7, f8, f9⟩ := HF.out _ HC; go_simp <;> rfl
          simp only [Act.put, List.setIfInBounds_toArray, List.set_cons_succ, List.set_cons_zero]
          refine dw_val rfl rfl rfl ?_; apply Exists.intro; refine ⟨fun wv HC => ?_, ?_⟩
          · obtain ⟨f0, f1, f2, f3, f4, f5, f6, f7, f8, f9⟩ := HF.out _ HC; go_simp <;> rfl
          simp only [Act.put, List.setIfInBounds_toArray, List.set_cons_succ, List.set_cons_zero]
          refine dw_skip rfl rfl rfl ?_
          simp only [Act.put, List.setIfInBounds_toArray, List.set_cons_succ, List.set_cons_zero]
          refine dw_skip rfl rfl rfl ?_
          simp only [Act.put, List.setIfInBounds_toArray, List.set_cons_succ, List.set_cons_zero]
          refine dw_skip rfl rfl rfl ?_
          simp only [Act.put, List.setIfInBounds_toArray, List.set_cons_succ, List.set_cons_zero]
          refine dw_skip rfl rfl rfl ?_
          simp only [Act.put, List.setIfInBounds_toArray, List.set_cons_succ, List.set_cons_zero]
          refine dw_skip rfl rfl rfl ?_
          simp only [Act.put, List.setIfInBounds_toArray, List.set_cons_succ, List.set_cons_zero]
          refine dw_skip rfl rfl rfl ?_
          simp only [Act.put, List.setIfInBounds_toArray, List.set_cons_succ, List.set_cons_zero]
          refine rel_nil ?_
          rintro wx2 HX2
          rintro _hrm _HG
          rw [HKE.out] at HX2
          clear _hrm _HG
          go_wp2_with fail
          go_ret
          exact ⟨by rw [HN.out] <;> rfl, HX2.below⟩
        · have a4d : decide (r.id ≥ x.id) = false := by simpa using a4
          have HA4 := hid a4
          clear a4
          obtain ⟨gb, hgb2⟩ : ∃ gb, gb = wr.heap.size := ⟨_, rfl⟩
          obtain ⟨KL, hKL⟩ : ∃ KL : List Hp, KL = [Hp.cst wr.heap.size 61 #[.int .i64 x.id, .slice x.A x.n x.c], .cst w.heap.size 40 #[.string nm, .slice A n c, .int .i64 nx, .slice (some ⟨g, o, none⟩) m d], .ro (SlR 4 A n (colCells cs)), .ro (RwsIn (some ⟨g, o, none⟩) m l)] := ⟨_, rfl⟩
          rw [← hKL] at K2
          rw [← hgb2] at hKL
          have HF : Hid (∀ wv, Hold M none w wv KL → wv.cell? ⟨gb, 0, none⟩ = some (.int .i64 x.id) ∧ wv.cell? ⟨gb, 1, none⟩ = some (.slice x.A x.n x.c) ∧ gb < wv.heap.size ∧ wv.cell? ⟨w.heap.size, 0, none⟩ = some (.string nm) ∧ wv.cell? ⟨w.heap.size, 1, none⟩ = some (.slice A n c) ∧ wv.cell? ⟨w.heap.size, 2, none⟩ = some (.int .i64 nx) ∧ wv.cell? ⟨w.heap.size, 3, none⟩ = some (.slice (some ⟨g, o, none⟩) m d) ∧ w.heap.size < wv.heap.size ∧ wv.cell? ⟨g, o + p * 2, none⟩ = some (.int .i64 r.id) ∧ g < wv.heap.size) := hid fun wv HC => by
            rw [hKL] at HC
            have b0 := HC.cst_ 0 rfl
            have b1 := HC.cst_ 1 rfl
            obtain ⟨g', o', e', hl, e0, e1, _⟩ := (HC.ro 3 rfl).now.at_ HR.out
            obtain ⟨rfl, rfl⟩ : g = g' ∧ o = o' := by injection e' with e'; injection e' with a1 a2; exact ⟨a1, a2⟩
            exact ⟨cell_of_row _ _ 0 _ _ _ b0, cell_of_row _ _ 1 _ _ _ b0, Blk.lt b0, cell_of_row _ _ 0 _ _ _ b1, cell_of_row _ _ 1 _ _ _ b1, cell_of_row _ _ 2 _ _ _ b1, cell_of_row _ _ 3 _ _ _ b1, Blk.lt b1, e0, hl⟩
          have HKL : Hid (∀ wv, Hold M none w wv KL → Ro wv (Mut M KL) (SlR 4 A n (colCells cs)) ∧ Ro wv (Mut M KL) (VlsIn x.A x.n x.vs)) := hid fun wv HC => by
            rw [hKL] at HC ⊢
            exact ⟨HC.ro 2 rfl, (HC.ro 3 rfl).imp fun w2 h2 => h2.2 x HXM.out⟩
          go_wp2_with fail
          rw [← hgb2]
          have HGB := hid hgb2
          have HKE := hid hKL
          clear hgb2 hKL
          generalize wr.alloc (.cells #[.int .i64 x.id, .slice x.A x.n x.c] 61) = w2 at *
          refine wp_region_any (by kernel_rfl) ?_
          refine wpAny_hold 33 71 (KL) (spL [(64, IsV (.int .i64 (fitsT cs x.vs)))]) (by kernel_rfl) (by kernel_rfl) (by kernel_rfl) rfl ?_ (K2.drew) ?_
          · exact stays_cons isV_mono (stays_nil _)
          simp only [List.take_succ_cons, List.take_zero, List.drop_succ_cons, List.drop_zero, Act.put, List.getElem_toArray, List.getElem_cons_zero, List.getElem_cons_succ, List.setIfInBounds_toArray, List.set_cons_succ, List.set_cons_zero]
          refine dw_val rfl rfl rfl ?_; apply Exists.intro; refine ⟨fun wv HC => ?_, ?_⟩
          · obtain ⟨f0, f1, f2, f3, f4, f5, f6, f7, f8, f9⟩ := HF.out _ HC; go_simp <;> rfl
          simp only [Act.put, List.setIfInBounds_toArray, List.set_cons_succ, List.set_cons_zero]
          refine dw_val rfl rfl rfl ?_; apply Exists.intro; refine ⟨fun wv HC => ?_, ?_⟩
          · obtain ⟨f0, f1, f2, f3, f4, f5, f6, f7, f8, f9⟩ := HF.out _ HC; go_simp <;> rfl
          simp only [Act.put, List.setIfInBounds_toArray, List.set_cons_succ, List.set_cons_zero]
          refine dw_val rfl rfl rfl ?_; apply Exists.intro; refine ⟨fun wv HC => ?_, ?_⟩
          · obtain ⟨f0, f1, f2, f3, f4, f5, f6, f7, f8, f9⟩ := HF.out _ HC; go_simp <;> rfl
          simp only [Act.put, List.setIfInBounds_toArray, List.set_cons_succ, List.set_cons_zero]
          refine dw_val rfl rfl rfl ?_; apply Exists.intro; refine ⟨fun wv HC => ?_, ?_⟩
          · obtain ⟨f0, f1, f2, f3, f4, f5, f6, f7, f8, f9⟩ := HF.out _ HC; go_simp <;> rfl
          simp only [Act.put, List.setIfInBounds_toArray, List.set_cons_succ, List.set_cons_zero]
          refine dw_val rfl rfl rfl ?_; apply Exists.intro; refine ⟨fun wv HC => ?_, ?_⟩
          · obtain ⟨f0, f1, f2, f3, f4, f5, f6, f7, f8, f9⟩ := HF.out _ HC; go_simp <;> rfl
          simp only [Act.put, List.setIfInBounds_toArray, List.set_cons_succ, List.set_cons_zero]
          refine dw_val rfl rfl rfl ?_; apply Exists.intro; refine ⟨fun wv HC => ?_, ?_⟩
          · obtain ⟨f0, f1, f2, f3, f4, f5, f6, f7, f8, f9⟩ := HF.out _ HC; go_simp <;> rfl
          simp only [Act.put, List.setIfInBounds_toArray, List.set_cons_succ, List.set_cons_zero]
          refine dw_val rfl rfl rfl ?_; apply Exists.intro; refine ⟨fun wv HC => ?_, ?_⟩
          · obtain ⟨f0, f1, f2, f3, f4, f5, f6, f7, f8, f9⟩ := HF.out _ HC; go_simp <;> rfl
          simp only [Act.put, List.setIfInBounds_toArray, List.set_cons_succ, List.set_cons_zero]
          refine dw_val rfl rfl rfl ?_; apply Exists.intro; refine ⟨fun wv HC => ?_, ?_⟩
          · obtain ⟨f0, f1, f2, f3, f4, f5, f6, f7, f8, f9⟩ := HF.out _ HC; go_simp <;> rfl
          simp only [Act.put, List.setIfInBounds_toArray, List.set_cons_succ, List.set_cons_zero]
          refine dw_val rfl rfl rfl ?_; apply Exists.intro; refine ⟨fun wv HC => ?_, ?_⟩
          · obtain ⟨f0, f1, f2, f3, f4, f5, f6, f7, f8, f9⟩ := HF.out _ HC; go_simp <;> rfl
          simp only [Act.put, List.setIfInBounds_toArray, List.set_cons_succ, List.set_cons_zero]
          refine dw_val rfl rfl rfl ?_; apply Exists.intro; refine ⟨fun wv HC => ?_, ?_⟩
          · obtain ⟨f0, f1, f2, f3, f4, f5, f6, f7, f8, f9⟩ := HF.out _ HC; go_simp <;> rfl
          simp only [Act.put, List.setIfInBounds_toArray, List.set_cons_succ, List.set_cons_zero]
          refine dw_val rfl rfl rfl ?_; apply Exists.intro; refine ⟨fun wv HC => ?_, ?_⟩
          · obtain ⟨f0, f1, f2, f3, f4, f5, f6, f7, f8, f9⟩ := HF.out _ HC; go_simp <;> rfl
          simp only [Act.put, List.setIfInBounds_toArray, List.set_cons_succ, List.set_cons_zero]
          refine dw_val rfl rfl rfl ?_; apply Exists.intro; refine ⟨fun wv HC => ?_, ?_⟩
          · obtain ⟨f0, f1, f2, f3, f4, f5, f6, f7, f8, f9⟩ := HF.out _ HC; go_simp <;> rfl
          simp only [Act.put, List.setIfInBounds_toArray, List.set_cons_succ, List.set_cons_zero]
          refine dw_val rfl rfl rfl ?_; apply Exists.intro; refine ⟨fun wv HC => ?_, ?_⟩
          · obtain ⟨f0, f1, f2, f3, f4, f5, f6, f7, f8, f9⟩ := HF.out _ HC; go_simp <;> rfl
          simp only [Act.put, List.setIfInBounds_toArray, List.set_cons_succ, List.set_cons_zero]
          refine dw_val rfl rfl rfl ?_; apply Exists.intro; refine ⟨fun wv HC => ?_, ?_⟩
          · obtain ⟨f0, f1, f2, f3, f4, f5, f6, f7, f8, f9⟩ := HF.out _ HC; go_simp <;> rfl
          simp only [Act.put, List.setIfInBounds_toArray, List.set_cons_succ, List.set_cons_zero]
          refine dw_val rfl rfl rfl ?_; apply Exists.intro; refine ⟨fun wv HC => ?_, ?_⟩
          · obtain ⟨f0, f1, f2, f3, f4, f5, f6, f7, f8, f9⟩ := HF.out _ HC; go_simp <;> rfl
          simp only [Act.put, List.setIfInBounds_toArray, List.set_cons_succ, List.set_cons_zero]
          refine dw_val rfl rfl rfl ?_; apply Exists.intro; refine ⟨fun wv HC => ?_, ?_⟩
          · obtain ⟨f0, f1, f2, f3, f4, f5, f6, f7, f8, f9⟩ := HF.out _ HC; go_simp <;> rfl
          simp only [Act.put, List.setIfInBounds_toArray, List.set_cons_succ, List.set_cons_zero]
          refine dw_val rfl rfl rfl ?_; apply Exists.intro; refine ⟨fun wv HC => ?_, ?_⟩
          · obtain ⟨f0, f1, f2, f3, f4, f5, f6, f7, f8, f9⟩ := HF.out _ HC; go_simp <;> rfl
          simp only [Act.put, List.setIfInBounds_toArray, List.set_cons_succ, List.set_cons_zero]
          refine dw_val rfl rfl rfl ?_; apply Exists.intro; refine ⟨fun wv HC => ?_, ?_⟩
          · obtain ⟨f0, f1, f2, f3, f4, f5, f6, f7, f8, f9⟩ := HF.out _ HC; go_simp <;> rfl
          simp only [Act.put, List.setIfInBounds_toArray, List.set_cons_succ, List.set_cons_zero]
          refine dw_val rfl rfl rfl ?_; apply Exists.intro; refine ⟨fun wv HC => ?_, ?_⟩
          · obtain ⟨f0, f1, f2, f3, f4, f5, f6, f7, f8, f9⟩ := HF.out _ HC; go_simp <;> rfl
          simp only [Act.put, List.setIfInBounds_toArray, List.set_cons_succ, List.set_cons_zero]
          refine dw_val rfl rfl rfl ?_; apply Exists.intro; refine ⟨fun wv HC => ?_, ?_⟩
          · obtain ⟨f0, f1, f2, f3, f4, f5, f6, f7, f8, f9⟩ := HF.out _ HC; go_simp <;> rfl
          simp only [Act.put, List.setIfInBounds_toArray, List.set_cons_succ, List.set_cons_zero]
          refine dw_val rfl rfl rfl ?_; apply Exists.intro; refine ⟨fun wv HC => ?_, ?_⟩
          · obtain ⟨f0, f1, f2, f3, f4, f5, f6, f7, f8, f9⟩ := HF.out _ HC; go_simp <;> rfl
          simp only [Act.put, List.setIfInBounds_toArray, List.set_cons_succ, List.set_cons_zero]
          refine dw_val rfl rfl rfl ?_; apply Exists.intro; refine ⟨fun wv HC => ?_, ?_⟩
          · obtain ⟨f0, f1, f2, f3, f4, f5, f6, f7, f8, f9⟩ := HF.out _ HC; go_simp <;> rfl
          simp only [Act.put, List.setIfInBounds_toArray, List.set_cons_succ, List.set_cons_zero]
          refine dw_val rfl rfl rfl ?_; apply Exists.intro; refine ⟨fun wv HC => ?_, ?_⟩
          · obtain ⟨f0, f1, f2, f3, f4, f5, f6, f7, f8, f9⟩ := HF.out _ HC; go_simp <;> rfl
          simp only [Act.put, List.setIfInBounds_toArray, List.set_cons_succ, List.set_cons_zero]
          refine dw_val rfl rfl rfl ?_; apply Exists.intro; refine ⟨fun wv HC => ?_, ?_⟩
          · obtain ⟨f0, f1, f2, f3, f4, f5, f6, f7, f8, f9⟩ := HF.out _ HC; go_simp <;> rfl
          simp only [Act.put, List.setIfInBounds_toArray, List.set_cons_succ, List.set_cons_zero]
          refine dw_val rfl rfl rfl ?_; apply Exists.intro; refine ⟨fun wv HC => ?_, ?_⟩
          · obtain ⟨f0, f1, f2, f3, f4, f5, f6, f7, f8, f9⟩ := HF.out _ HC; go_simp <;> rfl
          simp only [Act.put, List.setIfInBounds_toArray, List.set_cons_succ, List.set_cons_zero]
          refine dw_val rfl rfl rfl ?_; apply Exists.intro; refine ⟨fun wv HC => ?_, ?_⟩
          · obtain ⟨f0, f1, f2, f3, f4, f5, f6, f7, f8, f9⟩ := HF.out _ HC; go_simp <;> rfl
          simp only [Act.put, List.setIfInBounds_toArray, List.set_cons_succ, List.set_cons_zero]
          refine dw_val rfl rfl rfl ?_; apply Exists.intro; refine ⟨fun wv HC => ?_, ?_⟩
          · obtain ⟨f0, f1, f2, f3, f4, f5, f6, f7, f8, f9⟩ := HF.out _ HC; go_simp <;> rfl
          simp only [Act.put, List.setIfInBounds_toArray, List.set_cons_succ, List.set_cons_zero]
          refine dw_val rfl rfl rfl ?_; apply Exists.intro; refine ⟨fun wv HC => ?_, ?_⟩
          · obtain ⟨f0, f1, f2, f3, f4, f5, f6, f7, f8, f9⟩ := HF.out _ HC; go_simp <;> rfl
          simp only [Act.put, List.setIfInBounds_toArray, List.set_cons_succ, List.set_cons_zero]
          refine dw_val rfl rfl rfl ?_; apply Exists.intro; refine ⟨fun wv HC => ?_, ?_⟩
          · obtain ⟨f0, f1, f2, f3, f4, f5, f6, f7, f8, f9⟩ := HF.out _ HC; go_simp <;> rfl
          simp only [Act.put, List.setIfInBounds_toArray, List.set_cons_succ, List.set_cons_zero]
          refine dw_val rfl rfl rfl ?_; apply Exists.intro; refine ⟨fun wv HC => ?_, ?_⟩
          · obtain ⟨f0, f1, f2, f3, f4, f5, f6, f7, f8, f9⟩ := HF.out _ HC; go_simp <;> rfl
          simp only [Act.put, List.setIfInBounds_toArray, List.set_cons_succ, List.set_cons_zero]
          refine dw_val rfl rfl rfl ?_; apply Exists.intro; refine ⟨fun wv HC => ?_, ?_⟩
          · obtain ⟨f0, f1, f2, f3, f4, f5, f6, f7, f8, f9⟩ := HF.out _ HC; go_simp <;> rfl
          simp only [Act.put, List.setIfInBounds_toArray, List.set_cons_succ, List.set_cons_zero]
          refine dw_callR 64 (IsV (.int .i64 (fitsT cs x.vs))) (f := 84) (args := #[.agg #[.string nm, .slice A n c], .slice x.A x.n x.c]) rfl rfl rfl rfl (fun wv => ?_) (fun wv HC hrm hD => ?_) ?_
          · go_simp <;> rfl
          · refine (rtfits_any _ _ HC.mutLt nm A n c cs x.A x.n x.c x.vs ((HKL.out wv HC).1) ((HKL.out wv HC).2) hn hxn hrok.vs).mono ?_
            rintro e w5 ⟨rfl, b5⟩
            exact ⟨_, rfl, rfl, HC.call b5, RM.below b5⟩
          rintro u wx HCx hu
          obtain rfl : u = _ := hu
          clear HCx
          simp only [Act.put, List.setIfInBounds_toArray, List.set_cons_succ, List.set_cons_zero]
          refine dw_val rfl rfl rfl ?_; apply Exists.intro; refine ⟨fun wv HC => ?_, ?_⟩
          · obtain ⟨f0, f1, f2, f3, f4, f5, f6, f7, f8, f9⟩ := HF.out _ HC; go_simp <;> rfl
          simp only [Act.put, List.setIfInBounds_toArray, List.set_cons_succ, List.set_cons_zero]
          refine rel_nil ?_
          rintro wx2 HX2
          rintro _hrm _HG
          rw [HKE.out] at HX2
          clear _hrm _HG
          by_cases a3 : fitsT cs x.vs = 0
          · have HS2 := hid (show okR cs nx 0 (l.map Rw.row) = okR cs nx x.id ((l.map Rw.row).drop (j + 1)) by rw [HS.out]; exact okR_good HX.out (by have := HA4.out; have := HRL.out; omega) (by have := HA.out; omega) a3)
            have HP2 := hid (show (j + 1 = 0 → x.id = 0) ∧ ∀ q, j + 1 = q + 1 → ∃ r : Rw, l[q]? = some r ∧ r.id = x.id from ⟨fun h => by omega, fun q hq => ⟨x, (show j = q by omega) ▸ HXL.out, rfl⟩⟩)
            have h0x : 0 ≤ x.id := by have := HA.out; omega
            rw [a3]
            clear a3
            go_wp2_with fail
            go_roundw
            case rel => exact ⟨j + 1, x.id, by omega, by go_num, h0x, HP2, HS2, HX2.drop (List.sublist_cons_self _ _)⟩
            case measure => simp [intOf]; omega
          · have a3d : (fitsT cs x.vs != 0) = true := by simp [a3]
            have HN := hid (show tabB nm cs nx (l.map Rw.row) = false from tabB_5 (by rw [HS.out]; exact okR_bad HX.out (.inr (.inr a3))))
            clear a3
            go_wp2_with fail
            go_ret
            exact ⟨by rw [HN.out] <;> rfl, HX2.below⟩
    · obtain rfl : j = m := by omega
      have hdd : decide ((j : Int) < (j : Int)) = false := by simp
      have HN := hid (show tabB nm cs nx (l.map Rw.row) = !dupB cs (l.map Rw.row) from tabB_6 HSB.out (by rw [HML.out]; omega) (by omega) (by omega) (by rw [HS.out]; exact okR_end (by rw [HML.out]; exact Nat.le_refl _)))
      have F3 := H.facts
      simp only [World.size_alloc, World.size_drew, factsL, cellsF, Nat.reduceAdd, List.toList_toArray, List.set_cons_zero, List.set_cons_succ, List.setIfInBounds_toArray, and_true, true_and] at F3
      go_wp2_with fail
      refine (rdup_any _ _ H.mutLt nm A n c cs nx B j d l (H.ro 1 rfl) (H.ro 2 rfl) hn hm hok).mono ?_
      rintro e w3 ⟨rfl, b3⟩
      have K3 := H.call b3
      go_wp2_with fail
      go_ret
      exact ⟨by rw [HN.out] <;> rfl, K3.below⟩
end Go.Proofs.YtljmclbedpceoaaDoor

namespace Go.Proofs.YtljmclbedpceoaaDoor
open Go.RowKit
set_option linter.unusedVariables false
set_option linter.unusedSimpArgs false

theorem sametuple_any (w : World) (A : Option Addr) (n c : Nat) (xs : List Vl) (B : Option Addr) (m d : Nat) (ys : List Vl) (hD : VlsIn A n xs w) (hE : VlsIn B m ys w) (hn : n ≤ 4398046511104) :
    Calls Tryd.prog 50 #[.slice A n c, .slice B m d] w fun e w' => e = .returned (.bool (decide (xs = ys))) ∧ ∃ q, w' = w.drewN q := by
  have HE := hid (eqVls_any w A n c xs B m d ys hD hE hn)
  clear hD hE
  go_enter Tryd.func50, Tryd.ntmps50
  go_wp2_with fail
  refine HE.out.mono ?_
  rintro e w1 ⟨rfl, q, rfl⟩
  obtain ⟨r, hr0⟩ : ∃ r, r = decide (xs = ys) := ⟨_, rfl⟩
  rw [← hr0]
  have HRR := hid hr0
  clear hr0
  go_wp2_with fail
  go_ret
  exact ⟨by rw [← HRR.out] <;> rfl, q, rfl⟩
set_option maxHeartbeats 2000000 in
set_option maxRecDepth 100000 in
theorem eqTps_any (M : Nat → Prop) (w : World) (hM : ∀ b, M b → b < w.heap.size) (A : Option Addr) (n c : Nat) (xs : List Sl) (B : Option Addr) (m d : Nat) (ys : List Sl) (hD : Ro w M (SlsIn A n xs)) (hE : Ro w M (SlsIn B m ys)) (hn : n ≤ 4398046511204) (hr : ∀ r ∈ xs, r.n ≤ 4398046511104) :
    Calls Tryd.prog 49 #[.slice A n c, .slice B m d, .func (.func 50) #[] #[]] w fun e w' => e = .returned (.bool (decide (xs.map Sl.vs = ys.map Sl.vs))) ∧ Below w.heap.size w w' := by
  have HL := hid hD.now.len
  have HK := hid hE.now.len
  by_cases hnm : n = m
  · subst hnm
    have hb : ((n : Int) != (n : Int)) = false := by simp
    have K0 := ((Hold.start M w hM).add (hE.less (by simp [Mut]))).add (hD.less (by simp [Mut, Hp.foot]))
    clear hD hE
    go_enter Tryd.func49, Tryd.ntmps49
    go_wp2_with fail
    go_loopw [17] (fun i wr => ∃ (k : Nat), k ≤ n ∧ i = .int .i64 k ∧ Hid ((xs.map Sl.vs).take k = (ys.map Sl.vs).take k) ∧ Hold M none w wr [.ro (SlsIn A n xs), .ro (SlsIn B n ys)]) (fun i _ => n - (intOf i).toNat)
    case atStart => exact ⟨0, by omega, rfl, hid (by simp), K0⟩
    case round =>
      clear K0
      obtain ⟨k, hk, rfl, HTK, H⟩ := hrel
      by_cases hlt : k < n
      · have hd : decide ((k : Int) < (n : Int)) = true := by simp; omega
        have i0 : (0 : Int) ≤ (k : Int) := by omega
        have i1 : (k : Int) < (n : Int) := by omega
        obtain ⟨x, hx⟩ := get_of HL.out hlt
        obtain ⟨y, hy⟩ := get_of HK.out hlt
        have hxn := hr x (List.mem_of_getElem? hx)
        have HX := hid (show (xs.map Sl.vs)[k]? = some x.vs by simp [hx])
        have HY := hid (show (ys.map Sl.vs)[k]? = some y.vs by simp [hy])
        obtain ⟨g, o, rfl, hbx, x0, hvx⟩ := (H.ro 0 rfl).now.at_ hx
        obtain ⟨g', o', rfl, hby, y0, hvy⟩ := (H.ro 1 rfl).now.at_ hy
        have HVX := hid hvx
        have HVY := hid hvy
        clear hx hy hvx hvy
        go_wp2_with fail
        refine (sametuple_any _ x.A x.n x.c x.vs y.A y.n y.c y.vs HVX.out HVY.out hxn).mono ?_
        rintro e w3 ⟨rfl, q3, rfl⟩
        have K3 := H.drewN q3
        clear H
        by_cases hb : x.vs = y.vs
        · have HB := hid (takeEq_succ HX.out HY.out HTK.out hb)
          rw [decide_eq_true hb]
          clear hb
          go_wp2_with fail
          go_roundw
          case rel => exact ⟨k + 1, by omega, by go_num, HB, K3⟩
          case measure => simp [intOf]; omega
        · have HB := hid (beqL_no HX.out HY.out hb)
          rw [decide_eq_false hb]
          clear hb
          go_wp2_with fail
          go_ret
          exact ⟨by rw [HB.out] <;> rfl, K3.below⟩
      · obtain rfl : n = k := by omega
        have hd : decide ((n : Int) < (n : Int)) = false := by simp
        have HB := hid (show decide (xs.map Sl.vs = ys.map Sl.vs) = true by
          have h := HTK.out
          rw [List.take_of_length_le (by rw [List.length_map, HL.out]; exact Nat.le_refl _), List.take_of_length_le (by rw [List.length_map, HK.out]; exact Nat.le_refl _)] at h
          simp [h])
        go_wp2_with fail
        go_ret
        exact ⟨by rw [HB.out] <;> rfl, H.below⟩
  · have hb : ((n : Int) != (m : Int)) = true := by simp; omega
    have HB := hid (show decide (xs.map Sl.vs = ys.map Sl.vs) = false by
      rw [decide_eq_false_iff_not]; intro h; have h1 := congrArg List.length h; rw [List.length_map, List.length_map, HL.out, HK.out] at h1; exact hnm h1)
    go_enter Tryd.func49, Tryd.ntmps49
    go_wp2_with fail
    go_ret
    exact ⟨by rw [HB.out] <;> rfl, Below.refl _ _⟩

theorem sametuples_any (M : Nat → Prop) (w : World) (hM : ∀ b, M b → b < w.heap.size) (A : Option Addr) (n c : Nat) (xs : List Sl) (B : Option Addr) (m d : Nat) (ys : List Sl) (hD : Ro w M (SlsIn A n xs)) (hE : Ro w M (SlsIn B m ys)) (hn : n ≤ 4398046511204) (hr : ∀ r ∈ xs, r.n ≤ 4398046511104) :
    Calls Tryd.prog 15 #[.slice A n c, .slice B m d] w fun e w' => e = .returned (.bool (decide (xs.map Sl.vs = ys.map Sl.vs))) ∧ Below w.heap.size w w' := by
  have HE := hid (eqTps_any M w hM A n c xs B m d ys hD hE hn hr)
  clear hD hE
  go_enter Tryd.func15, Tryd.ntmps15
  go_wp2_with fail
  refine HE.out.mono ?_
  rintro e w1 ⟨rfl, b1⟩
  have HB := hid b1
  clear b1
  obtain ⟨r, hr0⟩ : ∃ r, r = decide (xs.map Sl.vs = ys.map Sl.vs) := ⟨_, rfl⟩
  rw [← hr0]
  have HRR := hid hr0
  clear hr0
  go_wp2_with fail
  go_ret
  exact ⟨by rw [← HRR.out] <;> rfl, HB.out⟩
end Go.Proofs.YtljmclbedpceoaaDoor

namespace Go.Proofs.YtljmclbedpceoaaDoor
open Go.RowKit
set_option linter.unusedVariables false
set_option linter.unusedSimpArgs false

/-- a bag's slot -/
def BagSl (M : Nat → Prop) (L : List (List Vl)) (u : Value) (w : World) : Prop := ∃ (A : Option Addr) (n c : Nat) (l : List Sl), u = .slice A n c ∧ n ≤ 4398046511104 ∧ (∀ s ∈ l, s.n ≤ 4398046511104) ∧ l.map Sl.vs = L ∧ Ro w M (SlsIn A n l)
theorem bagSl_mono {M : Nat → Prop} {L : List (List Vl)} (u : Value) (w w' : World) (hr : RM M w w') (h : BagSl M L u w) : BagSl M L u w' := by
  obtain ⟨A, n, c, l, h1, h2, h3, h4, h5⟩ := h
  exact ⟨A, n, c, l, h1, h2, h3, h4, hr.ro h5⟩
theorem getR_memL {l : List Rw} {id : Int} {vs : List Vl} (h : getR (l.map Rw.row) id = some vs) : ∃ r ∈ l, r.id = id ∧ r.vs = vs := by
  unfold getR at h
  obtain ⟨x, hx, hv⟩ := Option.map_eq_some_iff.1 h
  obtain ⟨r, hr, rfl⟩ := List.mem_map.1 (List.mem_of_find?_eq_some hx)
  have h2 := List.find?_some hx
  exact ⟨r, hr, by simpa [Rw.row] using h2, hv⟩
set_option maxHeartbeats 8000000 in
set_option maxRecDepth 100000 in
theorem alike6_any (M : Nat → Prop) (w : World) (hM : ∀ b, M b → b < w.heap.size) (v : Value) (t : Tb) (id : Int) (key : Vl) (hT : TbAt w M v t) (hs0 : t.nm.size ≤ maxLen) (hcs0 : ∀ x ∈ t.cs, x.name.size ≤ maxLen) (hrl : ∀ r ∈ t.rs, r.2.length ≤ 4398046511104) (hm0 : t.rs.length ≤ 4398046511104) :
    Calls Tryd.prog 38 #[v, .int .i64 id, .agg #[.int .i64 key.k, .int .i64 key.i, .string key.s]] w fun e w' => e = .returned (.bool true) ∧ Below w.heap.size w w' := by
  obtain ⟨A, n, c, B, m, d, l, rfl, h1, h2, h3, h4, hC, hR, hok, hrows⟩ := hT
  have HL := hid (show l.length = m from hR.now.len)
  have hm : m ≤ 4398046511104 := by have h := congrArg List.length hrows; rw [List.length_map, HL.out] at h; omega
  have hn : n ≤ 9223372036854775807 := by omega
  have hs := hid hs0
  have hcs := hid hcs0
  have HQ := hid (show (∀ r ∈ l, r.ok) ∧ ∀ r ∈ l, r.n ≤ 4398046511104 from ⟨hok, fun r hr => by
    have h1 := hrl r.row (by rw [← hrows]; exact List.mem_map_of_mem hr)
    have h2 : r.vs.length = r.n := (hR.now.2 r hr).len
    simp only [Rw.row] at h1
    omega⟩)
  have K0 := ((((Hold.start M w hM).add (hR.less (by simp [Mut]))).add (hC.less (by simp [Mut, Hp.foot]))).alloc_cst #[.string t.nm, .slice A n c, .int .i64 t.nx, .slice B m d] 40).alloc_cst #[.int .i64 key.k, .int .i64 key.i, .string key.s] 66
  rw [World.size_alloc] at K0
  have F0 := K0.facts
  simp only [World.size_alloc, World.size_drew, factsL, cellsF, Nat.reduceAdd, List.toList_toArray, List.set_cons_zero, List.set_cons_succ, List.setIfInBounds_toArray, and_true, true_and] at F0
  clear hC hR hs0 hcs0 hrl hm0 hok h1 h2 h3 h4 hrows
  obtain ⟨GR, hGR⟩ : ∃ GR, getR (l.map Rw.row) id = GR := ⟨_, rfl⟩
  obtain ⟨GV, hGV⟩ : ∃ GV, GR.getD [] = GV := ⟨_, rfl⟩
  obtain ⟨GB, hGB⟩ : ∃ GB, GR.isSome = GB := ⟨_, rfl⟩
  obtain ⟨LR, hLR⟩ : ∃ LR, lookR (findB Col.key t.cs) (l.map Rw.row) key = LR := ⟨_, rfl⟩
  obtain ⟨LI, hLI⟩ : ∃ LI, LR.getD 0 = LI := ⟨_, rfl⟩
  obtain ⟨LB, hLB⟩ : ∃ LB, LR.isSome = LB := ⟨_, rfl⟩
  have HGR := hid (And.intro hGR (And.intro hGV hGB))
  have HLR := hid (And.intro hLR (And.intro hLI hLB))
  clear hGR hGV hGB hLR hLI hLB
  go_enter Tryd.func38, Tryd.ntmps38
  go_wp2_with fail
  have hk := tget_any _ _ K0.mutLt (.string t.nm) (.slice A n c) (.int .i64 t.nx) B m d l id (K0.ro 3 rfl) (by omega) HQ.out.2
  simp only [GetRet, HGR.out.1, HGR.out.2.1, HGR.out.2.2] at hk
  refine hk.mono ?_
  clear hk
  rintro e w1 ⟨A1, n1, c1, rfl, hn1, hc1, hc12, r1, b1⟩
  have K1 := (K0.call b1).add r1
  have HN1 := hid hn1
  clear K0 F0 r1 b1 hn1
  have F1 := K1.facts
  simp only [World.size_alloc, World.size_drew, factsL, cellsF, Nat.reduceAdd, List.toList_toArray, List.set_cons_zero, List.set_cons_succ, List.setIfInBounds_toArray, and_true, true_and] at F1
  go_wp2_with fail
  have hk := rtget_any _ _ K1.mutLt (.string t.nm) (.slice A n c) (.int .i64 t.nx) B m d l id (K1.ro 4 rfl) (by omega) HQ.out.2
  simp only [GetRet, HGR.out.1, HGR.out.2.1, HGR.out.2.2] at hk
  refine hk.mono ?_
  clear hk
  rintro e w2 ⟨A2, n2, c2, rfl, hn2, hc2, hc22, r2, b2⟩
  have K2 := (K1.call b2).add r2
  clear K1 F1 r2 b2 hn2
  have F2 := K2.facts
  simp only [World.size_alloc, World.size_drew, factsL, cellsF, Nat.reduceAdd, List.toList_toArray, List.set_cons_zero, List.set_cons_succ, List.setIfInBounds_toArray, and_true, true_and] at F2
  go_wp2_with fail
  have hk := look_any _ _ K2.mutLt t.nm A n c t.cs t.nx B m d l key (K2.ro 4 rfl) (K2.ro 5 rfl) hn (by omega)
  simp only [HLR.out.1, HLR.out.2.1, HLR.out.2.2] at hk
  refine hk.mono ?_
  clear hk
  rintro e w3 ⟨rfl, b3⟩
  have K3 := K2.call b3
  clear K2 F2 b3
  have F3 := K3.facts
  simp only [World.size_alloc, World.size_drew, factsL, cellsF, Nat.reduceAdd, List.toList_toArray, List.set_cons_zero, List.set_cons_succ, List.setIfInBounds_toArray, and_true, true_and] at F3
  go_wp2_with fail
  have hk := rlook_any _ _ K3.mutLt t.nm A n c t.cs t.nx B m d l key (K3.ro 4 rfl) (K3.ro 5 rfl) hn (by omega)
  simp only [HLR.out.1, HLR.out.2.1, HLR.out.2.2] at hk
  refine hk.mono ?_
  clear hk
  rintro e w4 ⟨rfl, b4⟩
  have K4 := K3.call b4
  clear K3 F3 b4
  have F4 := K4.facts
  simp only [World.size_alloc, World.size_drew, factsL, cellsF, Nat.reduceAdd, List.toList_toArray, List.set_cons_zero, List.set_cons_succ, List.setIfInBounds_toArray, and_true, true_and] at F4
  go_wp2_with fail
  clear F4
  have hgv : n1 ≤ 4398046511104 := by
    rw [HN1.out]
    cases hg : GR with
    | none => rw [← HGR.out.2.1, hg]; simp
    | some y =>
      obtain ⟨r, hr, -, h5⟩ := getR_memL (HGR.out.1.trans hg)
      have h6 : r.vs.length = r.n := ((K4.ro 5 rfl).now.2 r hr).len
      have h7 := HQ.out.2 r hr
      rw [← HGR.out.2.1, hg]
      simp only [Option.getD_some]
      rw [← h5]
      omega
  obtain ⟨VB, hVB⟩ : ∃ VB, tabB t.nm t.cs t.nx (l.map Rw.row) = VB := ⟨_, rfl⟩
  obtain ⟨DB, hDB⟩ : ∃ DB, dupB t.cs (l.map Rw.row) = DB := ⟨_, rfl⟩
  have HVB := hid hVB
  have HDB := hid hDB
  clear hVB hDB
  obtain ⟨g3, hg3⟩ : ∃ g3, g3 = w.heap.size := ⟨_, rfl⟩
  rw [← hg3] at K4 ⊢
  have HG3 := hid hg3
  clear hg3
  obtain ⟨KL, hKL, KN⟩ := K4.name
  have HF : Hid (∀ wv, Hold M none w wv KL → wv.cell? ⟨g3, 0, none⟩ = some (.string t.nm) ∧ wv.cell? ⟨g3, 1, none⟩ = some (.slice A n c) ∧ wv.cell? ⟨g3, 2, none⟩ = some (.int .i64 t.nx) ∧ wv.cell? ⟨g3, 3, none⟩ = some (.slice B m d) ∧ g3 < wv.heap.size) := hid fun wv HC => by
    rw [hKL] at HC
    have y0 := HC.cst_ 3 rfl
    exact ⟨cell_of_row _ _ 0 _ _ _ y0, cell_of_row _ _ 1 _ _ _ y0, cell_of_row _ _ 2 _ _ _ y0, cell_of_row _ _ 3 _ _ _ y0, Blk.lt y0⟩
  have HX : Hid (∀ wv, Hold M none w wv KL → Ro wv (Mut M KL) (ColsIn A n t.cs) ∧ Ro wv (Mut M KL) (RwsIn B m l) ∧ Ro wv (Mut M KL) (VlsIn A1 n1 GV) ∧ Ro wv (Mut M KL) (VlsIn A2 n2 GV)) := hid fun wv HC => by
    rw [hKL] at HC ⊢
    exact ⟨HC.ro 4 rfl, HC.ro 5 rfl, HC.ro 1 rfl, HC.ro 0 rfl⟩
  clear hKL K4
  have n1_ : (VB == VB) = true := by simp
  have n2_ : (GB == GB) = true := by simp
  have n3_ : (LI == LI) = true := by simp
  have n4_ : (LB == LB) = true := by simp
  have n5_ : (DB == DB) = true := by simp
  refine wp_region_any (by kernel_rfl) ?_
  refine wpAny_hold 39 78 (KL) (spL [(40, IsV (.bool VB)), (42, IsV (.bool VB)), (47, IsV (.bool true)), (66, BagSl (Mut M KL) (sortV (l.map Rw.vs))), (68, BagSl (Mut M KL) (sortV (l.map Rw.vs))), (69, IsV (.bool true)), (73, IsV (.bool DB)), (75, IsV (.bool DB))]) (by kernel_rfl) (by kernel_rfl) (by kernel_rfl) rfl ?_ (KN.drew) ?_
  · exact stays_cons isV_mono (stays_cons isV_mono (stays_cons isV_mono (stays_cons bagSl_mono (stays_cons bagSl_mono (stays_cons isV_mono (stays_cons isV_mono (stays_cons isV_mono (stays_nil _))))))))
  simp only [List.take_succ_cons, List.take_zero, List.drop_succ_cons, List.drop_zero, Act.put, List.getElem_toArray, List.getElem_cons_zero, List.getElem_cons_succ, List.setIfInBounds_toArray, List.set_cons_succ, List.set_cons_zero]
  refine dw_val rfl rfl rfl ?_; apply Exists.intro; refine ⟨fun wv HC => ?_, ?_⟩
  · obtain ⟨f0, f1, f2, f3, f4⟩ := HF.out _ HC; go_simp <;> rfl
  simp only [Act.put, List.setIfInBounds_toArray, List.set_cons_succ, List.set_cons_zero]
  refine dw_callR 40 (IsV (.bool VB)) (f := 41) (args := #[.agg #[.string t.nm, .slice A n c, .int .i64 t.nx, .slice B m d]]) rfl rfl rfl rfl (fun wv => ?_) (fun wv HC hrm hD => ?_) ?_
  · go_simp <;> rfl
  · obtain ⟨X0, X1, -, -⟩ := HX.out _ HC
    refine (tvalid_any _ wv HC.mutLt t.nm A n c t.cs t.nx B m d l X0 X1 (by omega) (by omega) HQ.out.1 hs.out hcs.out).mono ?_
    rintro e w5 ⟨rfl, b5⟩
    rw [HVB.out]
    exact ⟨_, rfl, rfl, HC.call b5, RM.below b5⟩
  rintro u_ wx HCx rfl
  clear HCx
  simp only [Act.put, List.setIfInBounds_toArray, List.set_cons_succ, List.set_cons_zero]
  refine dw_val rfl rfl rfl ?_; apply Exists.intro; refine ⟨fun wv HC => ?_, ?_⟩
  · obtain ⟨f0, f1, f2, f3, f4⟩ := HF.out _ HC; go_simp <;> rfl
  simp only [Act.put, List.setIfInBounds_toArray, List.set_cons_succ, List.set_cons_zero]
  refine dw_callR 42 (IsV (.bool VB)) (f := 67) (args := #[.agg #[.string t.nm, .slice A n c, .int .i64 t.nx, .slice B m d]]) rfl rfl rfl rfl (fun wv => ?_) (fun wv HC hrm hD => ?_) ?_
  · go_simp <;> rfl
  · obtain ⟨X0, X1, -, -⟩ := HX.out _ HC
    refine (rtvalid_any _ wv HC.mutLt t.nm A n c t.cs t.nx B m d l X0 X1 (by omega) (by omega) HQ.out.1 hs.out hcs.out).mono ?_
    rintro e w5 ⟨rfl, b5⟩
    rw [HVB.out]
    exact ⟨_, rfl, rfl, HC.call b5, RM.below b5⟩
  rintro u_ wx HCx rfl
  clear HCx
  simp only [Act.put, List.setIfInBounds_toArray, List.set_cons_succ, List.set_cons_zero]
  refine dw_val rfl rfl rfl ?_; apply Exists.intro; refine ⟨fun wv HC => ?_, ?_⟩
  ·  go_simp <;> rfl
  simp only [Act.put, List.setIfInBounds_toArray, List.set_cons_succ, List.set_cons_zero]
  refine dw_val rfl rfl rfl ?_; apply Exists.intro; refine ⟨fun wv HC => ?_, ?_⟩
  ·  go_simp <;> rfl
  simp only [Act.put, List.setIfInBounds_toArray, List.set_cons_succ, List.set_cons_zero]
  refine dw_val rfl rfl rfl ?_; apply Exists.intro; refine ⟨fun wv HC => ?_, ?_⟩
  ·  go_simp <;> rfl
  simp only [Act.put, List.setIfInBounds_toArray, List.set_cons_succ, List.set_cons_zero]
  refine dw_val rfl rfl rfl ?_; apply Exists.intro; refine ⟨fun wv HC => ?_, ?_⟩
  ·  go_simp <;> rfl
  simp only [Act.put, List.setIfInBounds_toArray, List.set_cons_succ, List.set_cons_zero]
  refine dw_callR 47 (IsV (.bool true)) (f := 33) (args := #[.slice A1 n1 c1, .slice A2 n2 c2]) rfl rfl rfl rfl (fun wv => ?_) (fun wv HC hrm hD => ?_) ?_
  · go_simp <;> rfl
  · obtain ⟨-, -, X2, X3⟩ := HX.out _ HC
    have hk := eqVls_any wv A1 n1 c1 GV A2 n2 c2 GV X2.now X3.now (by omega)
    simp only [decide_true] at hk
    refine hk.mono ?_
    rintro e w5 ⟨rfl, q, rfl⟩
    exact ⟨_, rfl, rfl, HC.drewN q, Nat.le_refl _, fun _ _ _ => rfl⟩
  rintro u_ wx HCx rfl
  clear HCx
  simp only [Act.put, List.setIfInBounds_toArray, List.set_cons_succ, List.set_cons_zero]
  refine dw_val rfl rfl rfl ?_; apply Exists.intro; refine ⟨fun wv HC => ?_, ?_⟩
  ·  go_simp <;> rfl
  simp only [Act.put, List.setIfInBounds_toArray, List.set_cons_succ, List.set_cons_zero]
  refine dw_val rfl rfl rfl ?_; apply Exists.intro; refine ⟨fun wv HC => ?_, ?_⟩
  ·  go_simp <;> rfl
  simp only [Act.put, List.setIfInBounds_toArray, List.set_cons_succ, List.set_cons_zero]
  refine dw_val rfl rfl rfl ?_; apply Exists.intro; refine ⟨fun wv HC => ?_, ?_⟩
  ·  go_simp <;> rfl
  simp only [Act.put, List.setIfInBounds_toArray, List.set_cons_succ, List.set_cons_zero]
  refine dw_val rfl rfl rfl ?_; apply Exists.intro; refine ⟨fun wv HC => ?_, ?_⟩
  ·  go_simp <;> rfl
  simp only [Act.put, List.setIfInBounds_toArray, List.set_cons_succ, List.set_cons_zero]
  refine dw_val rfl rfl rfl ?_; apply Exists.intro; refine ⟨fun wv HC => ?_, ?_⟩
  ·  go_simp <;> rfl
  simp only [Act.put, List.setIfInBounds_toArray, List.set_cons_succ, List.set_cons_zero]
  refine dw_val rfl rfl rfl ?_; apply Exists.intro; refine ⟨fun wv HC => ?_, ?_⟩
  ·  go_simp <;> rfl
  simp only [Act.put, List.setIfInBounds_toArray, List.set_cons_succ, List.set_cons_zero]
  refine dw_val rfl rfl rfl ?_; apply Exists.intro; refine ⟨fun wv HC => ?_, ?_⟩
  ·  go_simp <;> rfl
  simp only [Act.put, List.setIfInBounds_toArray, List.set_cons_succ, List.set_cons_zero]
  refine dw_val rfl rfl rfl ?_; apply Exists.intro; refine ⟨fun wv HC => ?_, ?_⟩
  ·  go_simp <;> rfl
  simp only [Act.put, List.setIfInBounds_toArray, List.set_cons_succ, List.set_cons_zero]
  refine dw_val rfl rfl rfl ?_; apply Exists.intro; refine ⟨fun wv HC => ?_, ?_⟩
  ·  go_simp <;> rfl
  simp only [Act.put, List.setIfInBounds_toArray, List.set_cons_succ, List.set_cons_zero]
  refine dw_val rfl rfl rfl ?_; apply Exists.intro; refine ⟨fun wv HC => ?_, ?_⟩
  ·  go_simp <;> rfl
  simp only [Act.put, List.setIfInBounds_toArray, List.set_cons_succ, List.set_cons_zero]
  refine dw_val rfl rfl rfl ?_; apply Exists.intro; refine ⟨fun wv HC => ?_, ?_⟩
  ·  go_simp <;> rfl
  simp only [Act.put, List.setIfInBounds_toArray, List.set_cons_succ, List.set_cons_zero]
  refine dw_val rfl rfl rfl ?_; apply Exists.intro; refine ⟨fun wv HC => ?_, ?_⟩
  ·  go_simp <;> rfl
  simp only [Act.put, List.setIfInBounds_toArray, List.set_cons_succ, List.set_cons_zero]
  refine dw_val rfl rfl rfl ?_; apply Exists.intro; refine ⟨fun wv HC => ?_, ?_⟩
  ·  go_simp <;> rfl
  simp only [Act.put, List.setIfInBounds_toArray, List.set_cons_succ, List.set_cons_zero]
  refine dw_val rfl rfl rfl ?_; apply Exists.intro; refine ⟨fun wv HC => ?_, ?_⟩
  ·  go_simp <;> rfl
  simp only [Act.put, List.setIfInBounds_toArray, List.set_cons_succ, List.set_cons_zero]
  refine dw_val rfl rfl rfl ?_; apply Exists.intro; refine ⟨fun wv HC => ?_, ?_⟩
  ·  go_simp <;> rfl
  simp only [Act.put, List.setIfInBounds_toArray, List.set_cons_succ, List.set_cons_zero]
  refine dw_val rfl rfl rfl ?_; apply Exists.intro; refine ⟨fun wv HC => ?_, ?_⟩
  ·  go_simp <;> rfl
  simp only [Act.put, List.setIfInBounds_toArray, List.set_cons_succ, List.set_cons_zero]
  refine dw_val rfl rfl rfl ?_; apply Exists.intro; refine ⟨fun wv HC => ?_, ?_⟩
  ·  go_simp <;> rfl
  simp only [Act.put, List.setIfInBounds_toArray, List.set_cons_succ, List.set_cons_zero]
  refine dw_val rfl rfl rfl ?_; apply Exists.intro; refine ⟨fun wv HC => ?_, ?_⟩
  · obtain ⟨f0, f1, f2, f3, f4⟩ := HF.out _ HC; go_simp <;> rfl
  simp only [Act.put, List.setIfInBounds_toArray, List.set_cons_succ, List.set_cons_zero]
  refine dw_callR 66 (BagSl (Mut M KL) (sortV (l.map Rw.vs))) (f := 35) (args := #[.agg #[.string t.nm, .slice A n c, .int .i64 t.nx, .slice B m d]]) rfl rfl rfl rfl (fun wv => ?_) (fun wv HC hrm hD => ?_) ?_
  · go_simp <;> rfl
  · obtain ⟨X0, X1, -, -⟩ := HX.out _ HC
    refine (tbagt_any _ wv HC.mutLt _ _ _ B m d l X1 (by omega) HQ.out.1 HQ.out.2).mono ?_
    rintro e w5 ⟨A5, n5, c5, l5, rfl, h1, h2, r5, h3, h4, h5, b5⟩
    have h6 : l5.length = n5 := r5.now.len
    have h7 := congrArg List.length h5
    rw [sortV_len, List.length_map, List.length_map, h6, HL.out] at h7
    exact ⟨_, rfl, ⟨A5, n5, c5, l5, rfl, by omega, h4, h5, r5⟩, HC.call b5, RM.below b5⟩
  rintro u_ wx HCx ⟨A66, n66, c66, ls66, rfl, -, -, -, -⟩
  clear HCx
  simp only [Act.put, List.setIfInBounds_toArray, List.set_cons_succ, List.set_cons_zero]
  refine dw_val rfl rfl rfl ?_; apply Exists.intro; refine ⟨fun wv HC => ?_, ?_⟩
  · obtain ⟨f0, f1, f2, f3, f4⟩ := HF.out _ HC; go_simp <;> rfl
  simp only [Act.put, List.setIfInBounds_toArray, List.set_cons_succ, List.set_cons_zero]
  refine dw_callR 68 (BagSl (Mut M KL) (sortV (l.map Rw.vs))) (f := 24) (args := #[.agg #[.string t.nm, .slice A n c, .int .i64 t.nx, .slice B m d]]) rfl rfl rfl rfl (fun wv => ?_) (fun wv HC hrm hD => ?_) ?_
  · go_simp <;> rfl
  · obtain ⟨X0, X1, -, -⟩ := HX.out _ HC
    refine (rtbagt_any _ wv HC.mutLt _ _ _ B m d l X1 (by omega) HQ.out.1 HQ.out.2).mono ?_
    rintro e w5 ⟨A5, n5, c5, l5, rfl, h1, h2, r5, h3, h4, h5, b5⟩
    have h6 : l5.length = n5 := r5.now.len
    have h7 := congrArg List.length h5
    rw [sortV_len, List.length_map, List.length_map, h6, HL.out] at h7
    exact ⟨_, rfl, ⟨A5, n5, c5, l5, rfl, by omega, h4, h5, r5⟩, HC.call b5, RM.below b5⟩
  rintro u_ wx HCx ⟨A68, n68, c68, ls68, rfl, -, -, -, -⟩
  clear HCx
  simp only [Act.put, List.setIfInBounds_toArray, List.set_cons_succ, List.set_cons_zero]
  refine dw_callR 69 (IsV (.bool true)) (f := 15) (args := #[.slice A66 n66 c66, .slice A68 n68 c68]) rfl rfl rfl rfl (fun wv => ?_) (fun wv HC hrm hD => ?_) ?_
  · go_simp <;> rfl
  · have q1 : BagSl (Mut M KL) (sortV (l.map Rw.vs)) (.slice A66 n66 c66) wv := deps_at hD 27 rfl (by kernel_rfl) rfl rfl
    have q2 : BagSl (Mut M KL) (sortV (l.map Rw.vs)) (.slice A68 n68 c68) wv := deps_at hD 29 rfl (by kernel_rfl) rfl rfl
    obtain ⟨_, _, _, l1, e1, k1, k2, k3, r1⟩ := q1
    obtain ⟨_, _, _, l2, e2, -, -, j3, r2⟩ := q2
    injection e1 with a1 a2 a3
    injection e2 with a4 a5 a6
    subst a1 a2 a3 a4 a5 a6
    have hk := sametuples_any _ wv HC.mutLt _ n66 c66 l1 _ n68 c68 l2 r1 r2 (by omega) k2
    rw [decide_eq_true (k3.trans j3.symm)] at hk
    refine hk.mono ?_
    rintro e w5 ⟨rfl, b5⟩
    exact ⟨_, rfl, rfl, HC.call b5, RM.below b5⟩
  rintro u_ wx HCx rfl
  clear HCx
  simp only [Act.put, List.setIfInBounds_toArray, List.set_cons_succ, List.set_cons_zero]
  refine dw_val rfl rfl rfl ?_; apply Exists.intro; refine ⟨fun wv HC => ?_, ?_⟩
  ·  go_simp <;> rfl
  simp only [Act.put, List.setIfInBounds_toArray, List.set_cons_succ, List.set_cons_zero]
  refine dw_val rfl rfl rfl ?_; apply Exists.intro; refine ⟨fun wv HC => ?_, ?_⟩
  ·  go_simp <;> rfl
  simp only [Act.put, List.setIfInBounds_toArray, List.set_cons_succ, List.set_cons_zero]
  refine dw_val rfl rfl rfl ?_; apply Exists.intro; refine ⟨fun wv HC => ?_, ?_⟩
  · obtain ⟨f0, f1, f2, f3, f4⟩ := HF.out _ HC; go_simp <;> rfl
  simp only [Act.put, List.setIfInBounds_toArray, List.set_cons_succ, List.set_cons_zero]
  refine dw_callR 73 (IsV (.bool DB)) (f := 71) (args := #[.agg #[.string t.nm, .slice A n c, .int .i64 t.nx, .slice B m d]]) rfl rfl rfl rfl (fun wv => ?_) (fun wv HC hrm hD => ?_) ?_
  · go_simp <;> rfl
  · obtain ⟨X0, X1, -, -⟩ := HX.out _ HC
    refine (dup_any _ wv HC.mutLt t.nm A n c t.cs t.nx B m d l X0 X1 (by omega) (by omega) HQ.out.1).mono ?_
    rintro e w5 ⟨rfl, b5⟩
    rw [HDB.out]
    exact ⟨_, rfl, rfl, HC.call b5, RM.below b5⟩
  rintro u_ wx HCx rfl
  clear HCx
  simp only [Act.put, List.setIfInBounds_toArray, List.set_cons_succ, List.set_cons_zero]
  refine dw_val rfl rfl rfl ?_; apply Exists.intro; refine ⟨fun wv HC => ?_, ?_⟩
  · obtain ⟨f0, f1, f2, f3, f4⟩ := HF.out _ HC; go_simp <;> rfl
  simp only [Act.put, List.setIfInBounds_toArray, List.set_cons_succ, List.set_cons_zero]
  refine dw_callR 75 (IsV (.bool DB)) (f := 75) (args := #[.agg #[.string t.nm, .slice A n c, .int .i64 t.nx, .slice B m d]]) rfl rfl rfl rfl (fun wv => ?_) (fun wv HC hrm hD => ?_) ?_
  · go_simp <;> rfl
  · obtain ⟨X0, X1, -, -⟩ := HX.out _ HC
    refine (rdup_any _ wv HC.mutLt t.nm A n c t.cs t.nx B m d l X0 X1 (by omega) (by omega) HQ.out.1).mono ?_
    rintro e w5 ⟨rfl, b5⟩
    rw [HDB.out]
    exact ⟨_, rfl, rfl, HC.call b5, RM.below b5⟩
  rintro u_ wx HCx rfl
  clear HCx
  simp only [Act.put, List.setIfInBounds_toArray, List.set_cons_succ, List.set_cons_zero]
  refine dw_val rfl rfl rfl ?_; apply Exists.intro; refine ⟨fun wv HC => ?_, ?_⟩
  ·  go_simp <;> rfl
  simp only [Act.put, List.setIfInBounds_toArray, List.set_cons_succ, List.set_cons_zero]
  refine dw_val rfl rfl rfl ?_; apply Exists.intro; refine ⟨fun wv HC => ?_, ?_⟩
  ·  go_simp <;> rfl
  simp only [Act.put, List.setIfInBounds_toArray, List.set_cons_succ, List.set_cons_zero]
  refine rel_nil ?_
  rintro wx9 HX9
  rintro _hrm _HG
  clear _hrm _HG n1_ n2_ n3_ n4_ n5_
  go_wp2_with fail
  go_ret
  exact ⟨by first | rfl | simp, HX9.below⟩
end Go.Proofs.YtljmclbedpceoaaDoor

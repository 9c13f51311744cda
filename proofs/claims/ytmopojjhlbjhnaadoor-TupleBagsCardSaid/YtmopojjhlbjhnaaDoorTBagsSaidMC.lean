/- TupleBags answers true for all lists of rows and tapes: Sort, SameBag, Count and Minus of the program and of the reference are the same. Condition: the row's own, the laid table of words; the tied card. -/
import Derived.Test.YtmopojjhlbjhnaaDoorTBagsSaidMB
import Derived.Test.YtmopojjhlbjhnaaDoorTBagsSaidMA
import Derived.Test.YtmopojjhlbjhnaaDoorCards
import Derived.Test.YtmopojjhlbjhnaaDoorTie
namespace Go.Proofs.YtmopojjhlbjhnaaDoor
open Go.RowKit
set_option linter.unusedVariables false
set_option linter.unusedSimpArgs false

set_option maxHeartbeats 4000000 in
set_option maxRecDepth 100000 in
theorem rsamebag_any (M : Nat → Prop) (w : World) (hM : ∀ b, M b → b < w.heap.size) (A : Option Addr) (n c : Nat) (xs : List Sl) (B : Option Addr) (m d : Nat) (ys : List Sl) (hD : Ro w M (SlsIn A n xs)) (hE : Ro w M (SlsIn B m ys)) (hn : n ≤ 4398046511104) (hm : m ≤ 4398046511104) (hr : ∀ r ∈ xs, r.n ≤ 4398046511104) (hs : ∀ r ∈ ys, r.n ≤ 4398046511104) (hox : ∀ r ∈ xs, r.ok) (hoy : ∀ r ∈ ys, r.ok) :
    Calls Tryd.prog 16 #[.slice A n c, .slice B m d] w fun e w' => e = .returned (.bool (sameBagV (xs.map Sl.vs) (ys.map Sl.vs))) ∧ Below w.heap.size w w' := by
  have HQ := hid (And.intro hr (And.intro hs (And.intro hox hoy)))
  have K0 := ((Hold.start M w hM).add (hE.less (by simp [Mut]))).add (hD.less (by simp [Mut, Hp.foot]))
  clear hD hE hr hs hox hoy
  go_enter Tryd.func16, Tryd.ntmps16
  go_wp2_with fail
  refine (rsort_any _ _ K0.mutLt A n c xs (K0.ro 0 rfl) hn HQ.out.1 HQ.out.2.2.1).mono ?_
  rintro e w1 ⟨A1, n1, c1, la, rfl, h11, h12, r1, o1, m1, e1, b1⟩
  have K1 := (K0.call b1).add r1
  have HAO := hid o1
  have HAN := hid m1
  have HAE := hid e1
  have HAL := hid (show la.length = n1 from r1.now.len)
  clear K0 b1 r1 o1 m1 e1
  go_wp2_with fail
  refine (rsort_any _ _ K1.mutLt B m d ys (K1.ro 2 rfl) hm HQ.out.2.1 HQ.out.2.2.2).mono ?_
  rintro e w2 ⟨A2, n2, c2, lb, rfl, h21, h22, r2, o2, m2, e2, b2⟩
  have K2 := (K1.call b2).add r2
  have HBO := hid o2
  have HBN := hid m2
  have HBE := hid e2
  have HBL := hid (show lb.length = n2 from r2.now.len)
  have hn1 : n1 ≤ 4398046511104 := by
    have h1 := HAL.out
    have h2 := congrArg List.length HAE.out
    have h3 := (K2.ro 2 rfl).now.len
    rw [List.length_map, sortV_len, List.length_map] at h2
    omega
  have hn2 : n2 ≤ 4398046511104 := by
    have h1 := HBL.out
    have h2 := congrArg List.length HBE.out
    have h3 := (K2.ro 3 rfl).now.len
    rw [List.length_map, sortV_len, List.length_map] at h2
    omega
  clear K1 b2 r2 o2 m2 e2
  have HV := hid (show sameBagV (xs.map Sl.vs) (ys.map Sl.vs) = decide (la.map Sl.vs = lb.map Sl.vs) by rw [HAE.out, HBE.out]; rfl)
  by_cases hnn : n1 = n2
  · subst hnn
    have hb : ((n1 : Int) != (n1 : Int)) = false := by simp
    go_wp2_with fail
    go_loopw [19] (fun iv wr => ∃ (k : Nat), k ≤ n1 ∧ iv = .int .i64 k ∧ Hid ((la.map Sl.vs).take k = (lb.map Sl.vs).take k) ∧ Hold M none w wr [.ro (SlsIn A2 n1 lb), .ro (SlsIn A1 n1 la), .ro (SlsIn A n xs), .ro (SlsIn B m ys)]) (fun iv _ => n1 - (intOf iv).toNat)
    case atStart => exact ⟨0, by omega, rfl, hid (by simp), K2⟩
    case round =>
      clear K2
      obtain ⟨k, hk, rfl, HTK, H⟩ := hrel
      by_cases hlt : k < n1
      · have hd : decide ((k : Int) < (n1 : Int)) = true := by simp; omega
        have i0 : (0 : Int) ≤ (k : Int) := by omega
        have i1 : (k : Int) < (n1 : Int) := by omega
        obtain ⟨x, hx⟩ := get_of HAL.out hlt
        obtain ⟨y, hy⟩ := get_of HBL.out hlt
        have HX := hid (show (la.map Sl.vs)[k]? = some x.vs by simp [hx])
        have HY := hid (show (lb.map Sl.vs)[k]? = some y.vs by simp [hy])
        have HXN := hid (HAN.out x (List.mem_of_getElem? hx))
        have HYN := hid (HBN.out y (List.mem_of_getElem? hy))
        obtain ⟨g, o, rfl, hbx, x0, _⟩ := (H.ro 1 rfl).now.at_ hx
        obtain ⟨g', o', rfl, hby, y0, _⟩ := (H.ro 0 rfl).now.at_ hy
        have HXM := hid (List.mem_of_getElem? hx)
        have HYM := hid (List.mem_of_getElem? hy)
        have HXI := hid hx
        have HYI := hid hy
        clear hx hy x0 y0 hbx hby
        obtain ⟨KL, hKL, KN⟩ := H.name
        have HF : Hid (∀ wv, Hold M none w wv KL → wv.cell? ⟨g, o + k, none⟩ = some (.slice x.A x.n x.c) ∧ wv.cell? ⟨g', o' + k, none⟩ = some (.slice y.A y.n y.c) ∧ Ro wv (Mut M KL) (VlsIn x.A x.n x.vs) ∧ Ro wv (Mut M KL) (VlsIn y.A y.n y.vs)) := hid fun wv HC => by
          rw [hKL] at HC ⊢
          obtain ⟨_, _, e1, _, q1, _⟩ := (HC.ro 1 rfl).now.at_ HXI.out
          obtain ⟨_, _, e2, _, q2, _⟩ := (HC.ro 0 rfl).now.at_ HYI.out
          injection e1 with e1; injection e1 with e3 e4; subst e3 e4
          injection e2 with e2; injection e2 with e5 e6; subst e5 e6
          exact ⟨q1, q2, (HC.ro 1 rfl).imp fun w2 h => h.2 x HXM.out, (HC.ro 0 rfl).imp fun w2 h => h.2 y HYM.out⟩
        have HKL := hid hKL
        clear hKL H
        go_wp2_with fail
        refine wp_region_any (by kernel_rfl) ?_
        refine wpAny_hold 9 33 (KL) (spL [(30, IsV (.int .i64 (rowC x.vs y.vs)))]) (by kernel_rfl) (by kernel_rfl) (by kernel_rfl) rfl ?_ (KN.drew) ?_
        · exact stays_cons isV_mono (stays_nil _)
        simp only [List.take_succ_cons, List.take_zero, List.drop_succ_cons, List.drop_zero, Act.put, List.getElem_toArray, List.getElem_cons_zero, List.getElem_cons_succ, List.setIfInBounds_toArray, List.set_cons_succ, List.set_cons_zero]
        refine dw_val rfl rfl rfl ?_; apply Exists.intro; refine ⟨fun wv HC => ?_, ?_⟩
        ·  go_simp <;> rfl
        simp only [Act.put, List.setIfInBounds_toArray, List.set_cons_succ, List.set_cons_zero]
        refine dw_val rfl rfl rfl ?_; apply Exists.intro; refine ⟨fun wv HC => ?_, ?_⟩
        ·  go_simp <;> rfl
        simp only [Act.put, List.setIfInBounds_toArray, List.set_cons_succ, List.set_cons_zero]
        refine dw_val rfl rfl rfl ?_; apply Exists.intro; refine ⟨fun wv HC => ?_, ?_⟩
        ·  go_simp <;> rfl
        simp only [Act.put, List.setIfInBounds_toArray, List.set_cons_succ, List.set_cons_zero]
        refine dw_val rfl rfl rfl ?_; apply Exists.intro; refine ⟨fun wv HC => ?_, ?_⟩
        · obtain ⟨f0, f1, _, _⟩ := HF.out _ HC; go_simp <;> rfl
        simp only [Act.put, List.setIfInBounds_toArray, List.set_cons_succ, List.set_cons_zero]
        refine dw_val rfl rfl rfl ?_; apply Exists.intro; refine ⟨fun wv HC => ?_, ?_⟩
        ·  go_simp <;> rfl
        simp only [Act.put, List.setIfInBounds_toArray, List.set_cons_succ, List.set_cons_zero]
        refine dw_val rfl rfl rfl ?_; apply Exists.intro; refine ⟨fun wv HC => ?_, ?_⟩
        ·  go_simp <;> rfl
        simp only [Act.put, List.setIfInBounds_toArray, List.set_cons_succ, List.set_cons_zero]
        refine dw_val rfl rfl rfl ?_; apply Exists.intro; refine ⟨fun wv HC => ?_, ?_⟩
        ·  go_simp <;> rfl
        simp only [Act.put, List.setIfInBounds_toArray, List.set_cons_succ, List.set_cons_zero]
        refine dw_val rfl rfl rfl ?_; apply Exists.intro; refine ⟨fun wv HC => ?_, ?_⟩
        · obtain ⟨f0, f1, _, _⟩ := HF.out _ HC; go_simp <;> rfl
        simp only [Act.put, List.setIfInBounds_toArray, List.set_cons_succ, List.set_cons_zero]
        refine dw_callR 30 (IsV (.int .i64 (rowC x.vs y.vs))) (f := 25) (args := #[.slice x.A x.n x.c, .slice y.A y.n y.c]) rfl rfl rfl rfl (fun wv => ?_) (fun wv HC hrm hD => ?_) ?_
        · go_simp <;> rfl
        · obtain ⟨_, _, f2, f3⟩ := HF.out _ HC
          refine (rcmprows_ex _ wv HC.mutLt x.A x.n x.c x.vs y.A y.n y.c y.vs f2 f3 (by have := HXN.out; omega) (by have := HYN.out; omega)).mono ?_
          rintro e w5 ⟨rfl, b5⟩
          exact ⟨_, rfl, rfl, HC.call b5, RM.below b5⟩
        rintro u_ wx HCx rfl
        clear HCx
        simp only [Act.put, List.setIfInBounds_toArray, List.set_cons_succ, List.set_cons_zero]
        refine rel_nil ?_
        rintro wx9 HX9
        rintro _hrm _HG
        clear _hrm _HG
        rw [HKL.out] at HX9
        clear HKL HF KN
        obtain ⟨r, hr0⟩ : ∃ r, r = rowC x.vs y.vs := ⟨_, rfl⟩
        rw [← hr0]
        by_cases hz : x.vs = y.vs
        · have hb0 : (r != 0) = false := by rw [hr0, (rowC_eq _ _).2 hz]; rfl
          have HB := hid (takeEq_succ HX.out HY.out HTK.out hz)
          clear hz hr0
          go_wp2_with fail
          go_roundw
          case rel => exact ⟨k + 1, by omega, by go_num, HB, HX9⟩
          case measure => simp [intOf]; omega
        · have hb0 : (r != 0) = true := by
            have : r ≠ 0 := fun h => hz ((rowC_eq _ _).1 (hr0 ▸ h))
            simpa using this
          have HB := hid (beqL_no HX.out HY.out hz)
          clear hz hr0
          go_wp2_with fail
          go_ret
          exact ⟨by rw [HV.out, HB.out] <;> rfl, HX9.below⟩
      · obtain rfl : n1 = k := by omega
        have hd : decide ((n1 : Int) < (n1 : Int)) = false := by simp
        have HB := hid (show decide (la.map Sl.vs = lb.map Sl.vs) = true by
          have h := HTK.out
          rw [List.take_of_length_le (by rw [List.length_map, HAL.out]; exact Nat.le_refl _), List.take_of_length_le (by rw [List.length_map, HBL.out]; exact Nat.le_refl _)] at h
          simp [h])
        go_wp2_with fail
        go_ret
        exact ⟨by rw [HV.out, HB.out] <;> rfl, H.below⟩
  · have hb : ((n1 : Int) != (n2 : Int)) = true := by simp; omega
    have HB := hid (show decide (la.map Sl.vs = lb.map Sl.vs) = false by
      rw [decide_eq_false_iff_not]; intro h; have h1 := congrArg List.length h; rw [List.length_map, List.length_map, HAL.out, HBL.out] at h1; exact hnn h1)
    go_wp2_with fail
    go_ret
    exact ⟨by rw [HV.out, HB.out] <;> rfl, K2.below⟩
set_option maxHeartbeats 2000000 in
set_option maxRecDepth 100000 in
theorem rcount_any (M : Nat → Prop) (w : World) (hM : ∀ b, M b → b < w.heap.size) (A : Option Addr) (n c : Nat) (xs : List Sl) (B : Option Addr) (m d : Nat) (ys : List Vl) (hD : Ro w M (SlsIn A n xs)) (hE : Ro w M (VlsIn B m ys)) (hn : n ≤ 4398046511104) (hr : ∀ r ∈ xs, r.n ≤ 4398046511104) (hm : m ≤ 9223372036854775807) :
    Calls Tryd.prog 21 #[.slice A n c, .slice B m d] w fun e w' => e = .returned (.int .i64 (countV (xs.map Sl.vs) ys)) ∧ Below w.heap.size w w' := by
  have HL := hid hD.now.len
  have K0 := ((Hold.start M w hM).add (hE.less (by simp [Mut]))).add (hD.less (by simp [Mut, Hp.foot]))
  clear hD hE
  go_enter Tryd.func21, Tryd.ntmps21
  go_wp2_with fail
  go_loopw [5, 10] (fun sv iv wr => ∃ (k q : Nat), k ≤ n ∧ q ≤ k ∧ sv = .int .i64 q ∧ iv = .int .i64 k ∧ Hid (q = countV ((xs.map Sl.vs).take k) ys) ∧ Hold M none w wr [.ro (SlsIn A n xs), .ro (VlsIn B m ys)]) (fun _ iv _ => n - (intOf iv).toNat)
  case atStart => exact ⟨0, 0, by omega, by omega, rfl, rfl, hid (by simp [countV]), K0⟩
  case round =>
    clear K0
    obtain ⟨k, q, hk, hq, rfl, rfl, HC, H⟩ := hrel
    by_cases hlt : k < n
    · have hd : decide ((k : Int) < (n : Int)) = true := by simp; omega
      have i0 : (0 : Int) ≤ (k : Int) := by omega
      have i1 : (k : Int) < (n : Int) := by omega
      obtain ⟨x, hx⟩ := get_of HL.out hlt
      have HXN := hid (hr x (List.mem_of_getElem? hx))
      have HX := hid (show (xs.map Sl.vs)[k]? = some x.vs by simp [hx])
      have hcmp := rcmprows_ex _ wr H.mutLt x.A x.n x.c x.vs B m d ys ((H.ro 0 rfl).imp fun w2 h => h.2 x (List.mem_of_getElem? hx)) (H.ro 1 rfl) (by have := HXN.out; omega) hm
      obtain ⟨r, hr0⟩ : ∃ r, r = rowC x.vs ys := ⟨_, rfl⟩
      rw [← hr0] at hcmp
      have HCM := hid hcmp
      obtain ⟨g, o, rfl, hbx, x0, hvx⟩ := (H.ro 0 rfl).now.at_ hx
      clear hx hvx hcmp
      by_cases hb : x.vs = ys
      · have HN := hid (show q + 1 = countV ((xs.map Sl.vs).take (k + 1)) ys by rw [countV_step HX.out, if_pos hb, ← HC.out])
        have hb0 : (r == 0) = true := by rw [hr0, (rowC_eq _ _).2 hb]; rfl
        clear hb hr0
        go_wp2_with fail
        refine HCM.out.mono ?_
        rintro e w3 ⟨rfl, b3⟩
        have K3 := H.call b3
        clear H b3
        go_wp2_with fail
        go_roundw
        case rel => exact ⟨k + 1, q + 1, by omega, by omega, by go_num, by go_num, HN, K3⟩
        case measure => simp [intOf]; omega
      · have HN := hid (show q = countV ((xs.map Sl.vs).take (k + 1)) ys by rw [countV_step HX.out, if_neg hb, ← HC.out]; rfl)
        have hb0 : (r == 0) = false := by
          have : r ≠ 0 := fun h => hb ((rowC_eq _ _).1 (hr0 ▸ h))
          simpa using this
        clear hb hr0
        go_wp2_with fail
        refine HCM.out.mono ?_
        rintro e w3 ⟨rfl, b3⟩
        have K3 := H.call b3
        clear H b3
        go_wp2_with fail
        go_roundw
        case rel => exact ⟨k + 1, q, by omega, by omega, by first | rfl | go_num, by go_num, HN, K3⟩
        case measure => simp [intOf]; omega
    · obtain rfl : n = k := by omega
      have hd : decide ((n : Int) < (n : Int)) = false := by simp
      have HN := hid (show countV (xs.map Sl.vs) ys = q by
        rw [HC.out, List.take_of_length_le (by rw [List.length_map, HL.out]; exact Nat.le_refl _)])
      go_wp2_with fail
      go_ret
      exact ⟨by rw [HN.out] <;> rfl, H.below⟩
set_option maxHeartbeats 8000000 in
set_option maxRecDepth 100000 in
theorem rminus_any (M : Nat → Prop) (w : World) (hM : ∀ b, M b → b < w.heap.size) (A : Option Addr) (n c : Nat) (xs : List Sl) (B : Option Addr) (m d : Nat) (ys : List Sl) (hD : Ro w M (SlsIn A n xs)) (hE : Ro w M (SlsIn B m ys)) (hn : n ≤ 4398046511104) (hm : m ≤ 4398046511104) (hr : ∀ r ∈ xs, r.n ≤ 4398046511104) (hs : ∀ r ∈ ys, r.n ≤ 4398046511104) (hox : ∀ r ∈ xs, r.ok) (hoy : ∀ r ∈ ys, r.ok) :
    Calls Tryd.prog 19 #[.slice A n c, .slice B m d] w fun e w' => SlsRet w M (minusV (xs.map Sl.vs) (ys.map Sl.vs)) e w' := by
  have HQ := hid (And.intro hr (And.intro hs (And.intro hox hoy)))
  have K0 := ((Hold.start M w hM).add (hE.less (by simp [Mut]))).add (hD.less (by simp [Mut, Hp.foot]))
  clear hD hE hr hs hox hoy
  go_enter Tryd.func19, Tryd.ntmps19
  go_wp2_with fail
  refine (rsort_any _ _ K0.mutLt A n c xs (K0.ro 0 rfl) hn HQ.out.1 HQ.out.2.2.1).mono ?_
  rintro e w1 ⟨A1, n1, c1, la, rfl, h11, h12, r1, o1, m1, e1, b1⟩
  have K1 := (K0.call b1).add r1
  have HAO := hid o1
  have HAN := hid m1
  have HAE := hid e1
  have HAL := hid (show la.length = n1 from r1.now.len)
  clear K0 b1 r1 o1 m1 e1
  go_wp2_with fail
  refine (rsort_any _ _ K1.mutLt B m d ys (K1.ro 2 rfl) hm HQ.out.2.1 HQ.out.2.2.2).mono ?_
  rintro e w2 ⟨A2, n2, c2, lb, rfl, h21, h22, r2, o2, m2, e2, b2⟩
  have K2 := (K1.call b2).add r2
  have HBO := hid o2
  have HBN := hid m2
  have HBE := hid e2
  have HBL := hid (show lb.length = n2 from r2.now.len)
  have hn1 : n1 ≤ 4398046511104 := by
    have h1 := HAL.out
    have h2 := congrArg List.length HAE.out
    have h3 := (K2.ro 2 rfl).now.len
    rw [List.length_map, sortV_len, List.length_map] at h2
    omega
  have hn2 : n2 ≤ 4398046511104 := by
    have h1 := HBL.out
    have h2 := congrArg List.length HBE.out
    have h3 := (K2.ro 3 rfl).now.len
    rw [List.length_map, sortV_len, List.length_map] at h2
    omega
  clear K1 b2 r2 o2 m2 e2
  have K3 := (K2.add (show Ro w2 _ (SlVals []) from fun _ _ _ r hr => nomatch hr)).nil 31 1
  clear K2
  go_wp2_with fail
  go_loopw [7, 8, 17] (fun ov pv iv wr => ∃ (k p q cq : Nat) (O : Option Addr) (lo : List Sl), k ≤ n1 ∧ p ≤ n2 ∧ q ≤ k ∧ ov = .slice O q cq ∧ pv = .int .i64 p ∧ iv = .int .i64 k ∧ Hid (minL (la.map Sl.vs) (lb.map Sl.vs) = lo.map Sl.vs ++ minL ((la.map Sl.vs).drop k) ((lb.map Sl.vs).drop p)) ∧ Hid (∀ s ∈ lo, s.ok) ∧ Hid (∀ s ∈ lo, s.n ≤ 4398046511104) ∧ Hold M none w wr [.own 31 1 (.slice O q cq) q (slCells lo), .ro (SlVals lo), .ro (SlsIn A2 n2 lb), .ro (SlsIn A1 n1 la), .ro (SlsIn A n xs), .ro (SlsIn B m ys)]) (fun _ _ iv _ => n1 - (intOf iv).toNat)
  case atStart => exact ⟨0, 0, 0, 0, none, [], by omega, by omega, by omega, rfl, rfl, rfl, hid rfl, hid (fun s hs => nomatch hs), hid (fun s hs => nomatch hs), K3⟩
  case round =>
    clear K3
    obtain ⟨k, p, q, cq, O, lo, hk, hp, hq, rfl, rfl, rfl, HM, HOO, HNO, H⟩ := hrel
    by_cases hlt : k < n1
    · have hd : decide ((k : Int) < (n1 : Int)) = true := by simp; omega
      have i0 : (0 : Int) ≤ (k : Int) := by omega
      have i1 : (k : Int) < (n1 : Int) := by omega
      obtain ⟨t, ht⟩ := get_of HAL.out hlt
      have htv : Ro wr _ (VlsIn t.A t.n t.vs) := (H.ro 3 rfl).imp fun w2 h2 => h2.2 t (List.mem_of_getElem? ht)
      obtain ⟨bt, ot, rfl, hbt, t0, _⟩ := (H.ro 3 rfl).now.at_ ht
      have HTT := hid (show (la.map Sl.vs)[k]? = some t.vs by simp [ht])
      have HTO := hid (HAO.out t (List.mem_of_getElem? ht))
      have HTN := hid (HAN.out t (List.mem_of_getElem? ht))
      obtain ⟨tA, tn, tc, tvs⟩ := t
      dsimp only at *
      clear ht
      have K4 := H.add htv
      clear H htv
      go_wp2_with fail
      clear t0
      go_loopw [8] (fun pv wq => ∃ (p : Nat), p ≤ n2 ∧ pv = .int .i64 p ∧ Hid (minL (la.map Sl.vs) (lb.map Sl.vs) = lo.map Sl.vs ++ minL ((la.map Sl.vs).drop k) ((lb.map Sl.vs).drop p)) ∧ Hold M none w wq [.ro (VlsIn tA tn tvs), .own 31 1 (.slice O q cq) q (slCells lo), .ro (SlVals lo), .ro (SlsIn A2 n2 lb), .ro (SlsIn (some ⟨bt, ot, none⟩) n1 la), .ro (SlsIn A n xs), .ro (SlsIn B m ys)]) (fun pv _ => n2 - (intOf pv).toNat)
      case atStart => exact ⟨p, hp, rfl, HM, K4⟩
      case round =>
        clear K4 HM hp
        obtain ⟨p, hp, rfl, HM, H⟩ := hrel
        by_cases h0 : p < n2
        · have z0 : decide ((p : Int) < (n2 : Int)) = true := by rw [decide_eq_true_iff]; omega
          have z1 : (p : Int) < (n2 : Int) := by omega
          have z4 : (0 : Int) ≤ (p : Int) := by omega
          obtain ⟨s, hs⟩ := get_of HBL.out h0
          have HSS := hid (show (lb.map Sl.vs)[p]? = some s.vs by simp [hs])
          have HSN := hid (HBN.out s (List.mem_of_getElem? hs))
          have HSM := hid (List.mem_of_getElem? hs)
          have hcmp := rcmprows_ex _ wr H.mutLt s.A s.n s.c s.vs tA tn tc tvs ((H.ro 3 rfl).imp fun w2 h => h.2 s HSM.out) (H.ro 0 rfl) (by have := HSN.out; omega) (by have := HTN.out; omega)
          obtain ⟨r, hr0⟩ : ∃ r, r = rowC s.vs tvs := ⟨_, rfl⟩
          rw [← hr0] at hcmp
          have HRR := hid hr0
          have HCM := hid hcmp
          have HSI := hid hs
          obtain ⟨bx, ox, rfl, hbx, x0, _⟩ := (H.ro 3 rfl).now.at_ hs
          clear hr0 hcmp hs
          by_cases hlt2 : r < 0
          · have z2 : decide (r < 0) = true := decide_eq_true hlt2
            have HN := hid (show minL (la.map Sl.vs) (lb.map Sl.vs) = lo.map Sl.vs ++ minL ((la.map Sl.vs).drop k) ((lb.map Sl.vs).drop (p + 1)) by rw [HM.out, minL_skip HTT.out HSS.out (by rw [← HRR.out]; exact hlt2)])
            clear hlt2
            go_wp2_with fail
            refine HCM.out.mono ?_
            rintro e w5 ⟨rfl, b5⟩
            have H2 := H.call b5
            clear H b5 x0 hbx
            go_wp2_with fail
            go_roundw
            case rel => exact ⟨p + 1, by omega, by first | rfl | go_num, HN, H2⟩
            case measure => simp [intOf] <;> omega
          · have z2 : decide (r < 0) = false := decide_eq_false hlt2
            have HNL := hid hlt2
            clear hlt2
            go_wp2_with fail
            refine HCM.out.mono ?_
            rintro e w5 ⟨rfl, b5⟩
            have H2 := H.call b5
            clear H b5 x0 hbx
            have hcmp := rcmprows_ex _ w5 H2.mutLt s.A s.n s.c s.vs tA tn tc tvs ((H2.ro 3 rfl).imp fun w2 h => h.2 s HSM.out) (H2.ro 0 rfl) (by have := HSN.out; omega) (by have := HTN.out; omega)
            rw [← HRR.out] at hcmp
            have HCM2 := hid hcmp
            obtain ⟨_, _, e1, hbx, x0, _⟩ := (H2.ro 3 rfl).now.at_ HSI.out
            injection e1 with e1; injection e1 with e3 e4; subst e3 e4
            clear hcmp HCM
            by_cases hz : r = 0
            · have z3 : (r == 0) = true := by simp [hz]
              have HN := hid (show minL (la.map Sl.vs) (lb.map Sl.vs) = lo.map Sl.vs ++ minL ((la.map Sl.vs).drop (k + 1)) ((lb.map Sl.vs).drop (p + 1)) by rw [HM.out, minL_both HTT.out HSS.out (by rw [← HRR.out]; exact hz)])
              clear hz
              go_wp2_with fail
              refine HCM2.out.mono ?_
              rintro e w6 ⟨rfl, b6⟩
              have H3 := (H2.call b6).drop (List.sublist_cons_self _ _)
              clear H2 b6
              go_wp2_with fail
              go_roundw
              case rel => exact ⟨k + 1, p + 1, q, cq, O, lo, by omega, by omega, by omega, by first | rfl | go_num, by first | rfl | go_num, by first | rfl | go_num, HN, HOO, HNO, H3⟩
              case measure => simp [intOf]; omega
            · have z3 : (r == 0) = false := by simpa using hz
              have HN := hid (show minL (la.map Sl.vs) (lb.map Sl.vs) = (lo ++ [(⟨tA, tn, tc, tvs⟩ : Sl)]).map Sl.vs ++ minL ((la.map Sl.vs).drop (k + 1)) ((lb.map Sl.vs).drop p) by rw [HM.out, minL_keep HTT.out (fun s hs => by rw [HSS.out] at hs; injection hs with hs; subst hs; rw [← HRR.out]; exact ⟨by have := HNL.out; omega, hz⟩), List.map_append, List.append_assoc]; rfl)
              clear hz
              go_wp2_with fail
              refine HCM2.out.mono ?_
              rintro e w6 ⟨rfl, b6⟩
              have KY := H2.call b6
              clear H2 b6
              have HCE := hid (show slCells lo ++ (#[Value.slice tA tn tc]).toList = slCells (lo ++ [⟨tA, tn, tc, tvs⟩]) by simp [slCells, Sl.cells])
              go_wp2_with (at_builtin; go_must (refine wpList_appH KY 1 rfl Tryd.elSlc #[.slice tA tn tc] rfl (.tmp 51) (.tmp 53) rfl rfl _ (by first | rfl | simp) rfl rfl (by intro u hu; simp at hu; rcases hu with rfl; rfl) (by omega) (by omega) ?_); intro g9 cap9 w9 hc9 hm9 KB; rw [HCE.out] at KB; simp only [List.set_cons_zero, List.set_cons_succ] at KB)
              have KC := (KB.swapRo 2 rfl (sls_snoc (r := ⟨tA, tn, tc, tvs⟩) (KB.ro 2 rfl) (KB.ro 0 rfl))).drop (List.sublist_cons_self _ _)
              have HN2 := hid (okSnoc (P := Sl.ok) (x := (⟨tA, tn, tc, tvs⟩ : Sl)) HOO.out HTO.out)
              have HN3 := hid (okSnoc (P := fun s : Sl => s.n ≤ 4398046511104) (x := (⟨tA, tn, tc, tvs⟩ : Sl)) HNO.out HTN.out)
              go_roundw
              case rel => exact ⟨k + 1, p, q + 1, cap9, _, _, by omega, by omega, by omega, by first | rfl | go_num, by first | rfl | go_num, by first | rfl | go_num, HN, HN2, HN3, KC⟩
              case measure => simp [intOf]; omega
        · obtain rfl : n2 = p := by omega
          have z0 : decide ((n2 : Int) < (n2 : Int)) = false := by simp
          have HN := hid (show minL (la.map Sl.vs) (lb.map Sl.vs) = (lo ++ [(⟨tA, tn, tc, tvs⟩ : Sl)]).map Sl.vs ++ minL ((la.map Sl.vs).drop (k + 1)) ((lb.map Sl.vs).drop n2) by rw [HM.out, minL_keep HTT.out (fun s hs => by have h1 := (List.getElem?_eq_some_iff.1 hs).1; rw [List.length_map, HBL.out] at h1; omega), List.map_append, List.append_assoc]; rfl)
          have KY := H
          clear H
          have HCE := hid (show slCells lo ++ (#[Value.slice tA tn tc]).toList = slCells (lo ++ [⟨tA, tn, tc, tvs⟩]) by simp [slCells, Sl.cells])
          go_wp2_with (at_builtin; go_must (refine wpList_appH KY 1 rfl Tryd.elSlc #[.slice tA tn tc] rfl (.tmp 51) (.tmp 53) rfl rfl _ (by first | rfl | simp) rfl rfl (by intro u hu; simp at hu; rcases hu with rfl; rfl) (by omega) (by omega) ?_); intro g9 cap9 w9 hc9 hm9 KB; rw [HCE.out] at KB; simp only [List.set_cons_zero, List.set_cons_succ] at KB)
          have KC := (KB.swapRo 2 rfl (sls_snoc (r := ⟨tA, tn, tc, tvs⟩) (KB.ro 2 rfl) (KB.ro 0 rfl))).drop (List.sublist_cons_self _ _)
          have HN2 := hid (okSnoc (P := Sl.ok) (x := (⟨tA, tn, tc, tvs⟩ : Sl)) HOO.out HTO.out)
          have HN3 := hid (okSnoc (P := fun s : Sl => s.n ≤ 4398046511104) (x := (⟨tA, tn, tc, tvs⟩ : Sl)) HNO.out HTN.out)
          go_roundw
          case rel => exact ⟨k + 1, n2, q + 1, cap9, _, _, by omega, by omega, by omega, by first | rfl | go_num, by first | rfl | go_num, by first | rfl | go_num, HN, HN2, HN3, KC⟩
          case measure => simp [intOf]; omega
    · obtain rfl : n1 = k := by omega
      have hd : decide ((n1 : Int) < (n1 : Int)) = false := by simp
      have HF := hid (show lo.map Sl.vs = minusV (xs.map Sl.vs) (ys.map Sl.vs) by
        have h := HM.out
        rw [List.drop_of_length_le (show (la.map Sl.vs).length ≤ n1 by rw [List.length_map, HAL.out]; exact Nat.le_refl _), minL, List.append_nil] at h
        rw [← h, HAE.out, HBE.out]; rfl)
      obtain ⟨hc1, hc2, _⟩ := own_caps (H.get 0 rfl)
      have KS := H.sealRow 0 rfl
      simp only [List.set_cons_zero, List.set_cons_succ] at KS
      have r1 := (KS.roOut 0 rfl).and (KS.roOut 1 rfl)
      go_wp2_with fail
      go_ret
      exact ⟨O, q, cq, lo, rfl, hc1, hc2, r1, HOO.out, HNO.out, HF.out, KS.below⟩
end Go.Proofs.YtmopojjhlbjhnaaDoor

namespace Go.Proofs.YtmopojjhlbjhnaaDoor
open Go.RowKit
set_option linter.unusedVariables false
set_option linter.unusedSimpArgs false

theorem minusV_le (a b : List (List Vl)) : (minusV a b).length ≤ a.length := by
  have h : ∀ (x g : List (List Vl)), (minL x g).length ≤ x.length := by
    intro x
    induction x with
    | nil => intro g; simp [minL]
    | cons t x ih =>
      intro g
      rw [minL]
      split
      · have := ih []; simp; omega
      · split
        · rename_i s g' _ _; have := ih g'; simp; omega
        · rename_i s g' _ _; have := ih (s :: g'); simp; omega
  have := h (sortV a) (sortV b)
  rw [sortV_len] at this
  exact this
end Go.Proofs.YtmopojjhlbjhnaaDoor

namespace Go.Proofs.YtmopojjhlbjhnaaDoor
open Go.RowKit
set_option linter.unusedVariables false
set_option linter.unusedSimpArgs false

def numV (z : Int) : Vl := ⟨1, z, ⟨#[]⟩⟩
set_option maxHeartbeats 2000000 in
set_option maxRecDepth 100000 in
theorem lrow_any (M : Nat → Prop) (w : World) (hM : ∀ b, M b → b < w.heap.size) (g : Nat) (z : Int) (hg : Ro w M (fun w => w.heap[g]? = some (.cells #[.int .i64 z] 2 (0, 0)))) :
    Calls Tryd.prog 57 #[.slice (some ⟨g, 0, none⟩) 1 1] w fun e w' => RowRet 3 (vlCells [numV z]) 1 w M e w' := by
  have K0 := ((Hold.start M w hM).add (hg.less (by simp [Mut]))).nil 57 3
  clear hg
  go_enter Tryd.func57, Tryd.ntmps57
  go_wp2_with fail
  go_loopw [3, 8] (fun ov iv wr => ∃ (k cap : Nat) (C : Option Addr), k ≤ 1 ∧ ov = .slice C k cap ∧ iv = .int .i64 k ∧ Hold M none w wr [.own 57 3 (.slice C k cap) k (vlCells ([numV z].take k)), .ro (fun w => w.heap[g]? = some (.cells #[.int .i64 z] 2 (0, 0)))]) (fun _ iv _ => 1 - (intOf iv).toNat)
  case atStart => exact ⟨0, 0, none, by omega, rfl, rfl, K0⟩
  case round =>
    clear K0
    obtain ⟨k, cap, C, hk, rfl, rfl, H⟩ := hrel
    rcases (show k = 0 ∨ k = 1 by omega) with rfl | rfl
    · have hd : decide (((0 : Nat) : Int) < 1) = true := by decide
      have hb := (H.ro 1 rfl).now
      have c0 := cell_of_row _ _ 0 _ _ _ hb
      have hgl : g < wr.heap.size := Blk.lt hb
      clear hb
      have HCE := hid (show vlCells ([numV z].take 0) ++ (#[Value.int .i64 1, .int .i64 z, .string ⟨#[]⟩]).toList = vlCells ([numV z].take (0 + 1)) by simp [vlCells, numV, Vl.cells])
      go_wp2_with fail
      refine (num_any z _).mono ?_
      rintro e w2 ⟨rfl, b2⟩
      have H := H.call b2
      clear c0 hgl b2
      go_wp2_with (at_builtin; go_must (refine wpList_appH H 0 rfl Tryd.elVl #[.int .i64 1, .int .i64 z, .string ⟨#[]⟩] rfl (.tmp 12) (.tmp 15) rfl rfl _ (by first | rfl | simp) rfl rfl (by intro u hu; simp at hu; rcases hu with rfl | rfl | rfl <;> rfl) (by omega) (by omega) ?_); intro g9 cap9 w9 hc9 hm9 KB; rw [HCE.out] at KB; simp only [List.set_cons_zero, List.set_cons_succ] at KB)
      go_roundw
      case rel => exact ⟨0 + 1, cap9, _, by omega, rfl, by first | rfl | go_num, KB⟩
      case measure => simp [intOf]
    · have hd : decide (((1 : Nat) : Int) < 1) = false := by decide
      obtain ⟨hc1, hc2, _⟩ := own_caps (H.get 0 rfl)
      have KS := H.sealRow 0 rfl
      simp only [List.set_cons_zero] at KS
      have r1 := KS.roOut 0 rfl
      go_wp2_with fail
      go_ret
      exact ⟨C, 1, cap, rfl, rfl, hc1, hc2, r1, KS.below⟩
theorem rowC_num (a b : Int) : rowC [numV a] [numV b] = cmpI a b := by
  have h1 := (linI.eq 1 1).2 rfl
  have h2 := (linS.eq ⟨#[]⟩ ⟨#[]⟩).2 rfl
  by_cases h : cmpI a b = 0 <;> simp [rowC, cmpVl, cmpV, numV, firstNZ, h1, h2, h]
theorem minus5 : minusV [[numV 2], [numV 1], [numV 1]] [[numV 1], [numV 3]] = [[numV 1], [numV 2]] := by
  simp [minusV, sortV, insV, minL, rowC_num, cmpI]
theorem sls_2 {a b : Sl} {w : World} (h : VlsIn a.A a.n a.vs w) (k : VlsIn b.A b.n b.vs w) : ∀ r ∈ [a, b], VlsIn r.A r.n r.vs w := fun r hr => by
  simp only [List.mem_cons, List.not_mem_nil, or_false] at hr
  rcases hr with rfl | rfl
  · exact h
  · exact k
theorem sls_3 {a b c : Sl} {w : World} (h : VlsIn a.A a.n a.vs w) (k : VlsIn b.A b.n b.vs w) (l : VlsIn c.A c.n c.vs w) : ∀ r ∈ [a, b, c], VlsIn r.A r.n r.vs w := fun r hr => by
  simp only [List.mem_cons, List.not_mem_nil, or_false] at hr
  rcases hr with rfl | rfl | rfl
  · exact h
  · exact k
  · exact l
theorem numOk {z : Int} (h : I64 z) : ∀ v ∈ [numV z], v.ok := fun v hv => by
  simp at hv
  subst hv
  exact ⟨(show (-9223372036854775808:Int) ≤ 1 ∧ (1:Int) ≤ 9223372036854775807 by omega), h, Nat.zero_le _⟩
theorem slOk2 {A B : Option Addr} {c d : Nat} {x y : Int} (h1 : 1 ≤ c) (h2 : c ≤ 9223372036854775807) (k1 : 1 ≤ d) (k2 : d ≤ 9223372036854775807) (hx : I64 x := by unfold I64; decide) (hy : I64 y := by unfold I64; decide) : ∀ s ∈ [(⟨A, 1, c, [numV x]⟩ : Sl), ⟨B, 1, d, [numV y]⟩], s.ok := fun s hs => by
  simp only [List.mem_cons, List.not_mem_nil, or_false] at hs
  rcases hs with rfl | rfl
  · exact ⟨h1, h2, numOk hx⟩
  · exact ⟨k1, k2, numOk hy⟩
theorem slOk3 {A B C : Option Addr} {c d e : Nat} {x y z : Int} (h1 : 1 ≤ c) (h2 : c ≤ 9223372036854775807) (k1 : 1 ≤ d) (k2 : d ≤ 9223372036854775807) (l1 : 1 ≤ e) (l2 : e ≤ 9223372036854775807) (hx : I64 x := by unfold I64; decide) (hy : I64 y := by unfold I64; decide) (hz : I64 z := by unfold I64; decide) : ∀ s ∈ [(⟨A, 1, c, [numV x]⟩ : Sl), ⟨B, 1, d, [numV y]⟩, ⟨C, 1, e, [numV z]⟩], s.ok := fun s hs => by
  simp only [List.mem_cons, List.not_mem_nil, or_false] at hs
  rcases hs with rfl | rfl | rfl
  · exact ⟨h1, h2, numOk hx⟩
  · exact ⟨k1, k2, numOk hy⟩
  · exact ⟨l1, l2, numOk hz⟩
theorem slN2 {A B : Option Addr} {c d : Nat} {x y : List Vl} : ∀ s ∈ [(⟨A, 1, c, x⟩ : Sl), ⟨B, 1, d, y⟩], s.n ≤ 4398046511104 := fun s hs => by
  simp only [List.mem_cons, List.not_mem_nil, or_false] at hs
  rcases hs with rfl | rfl <;> (show (1 : Nat) ≤ _; omega)
theorem slN3 {A B C : Option Addr} {c d e : Nat} {x y z : List Vl} : ∀ s ∈ [(⟨A, 1, c, x⟩ : Sl), ⟨B, 1, d, y⟩, ⟨C, 1, e, z⟩], s.n ≤ 4398046511104 := fun s hs => by
  simp only [List.mem_cons, List.not_mem_nil, or_false] at hs
  rcases hs with rfl | rfl | rfl <;> (show (1 : Nat) ≤ _; omega)
set_option maxHeartbeats 4000000 in
set_option maxRecDepth 100000 in
theorem known5 : Gives 12 #[] (.bool true) := by
  intro w
  have K := Hold.begin_ w
  go_enter Tryd.func12, Tryd.ntmps12
  replace K := K.alloc_cst #[.int .i64 2] 2
  try simp only [World.size_alloc] at K
  go_wp2_with fail
  refine (lrow_any _ _ K.mutLt _ 2 (K.get 0 rfl)).mono ?_
  rintro e w1 ⟨A1, n1, c1, rfl, rfl, hc1, hd1, r1, e1⟩
  replace K := (K.call e1).add (show Ro w1 _ (VlsIn A1 1 [numV 2]) from r1)
  clear e1 r1
  replace K := K.alloc_cst #[.int .i64 1] 2
  try simp only [World.size_alloc] at K
  go_wp2_with fail
  refine (lrow_any _ _ K.mutLt _ 1 (K.get 0 rfl)).mono ?_
  rintro e w2 ⟨A2, n2, c2, rfl, rfl, hc2, hd2, r2, e2⟩
  replace K := (K.call e2).add (show Ro w2 _ (VlsIn A2 1 [numV 1]) from r2)
  clear e2 r2
  replace K := K.alloc_cst #[.int .i64 1] 2
  try simp only [World.size_alloc] at K
  go_wp2_with fail
  refine (lrow_any _ _ K.mutLt _ 1 (K.get 0 rfl)).mono ?_
  rintro e w3 ⟨A3, n3, c3, rfl, rfl, hc3, hd3, r3, e3⟩
  replace K := (K.call e3).add (show Ro w3 _ (VlsIn A3 1 [numV 1]) from r3)
  clear e3 r3
  replace K := K.alloc_cst #[.slice A1 1 c1, .slice A2 1 c2, .slice A3 1 c3] 31
  try simp only [World.size_alloc] at K
  replace K := K.alloc_cst #[.int .i64 1] 2
  try simp only [World.size_alloc] at K
  go_wp2_with fail
  refine (lrow_any _ _ K.mutLt _ 1 (K.get 0 rfl)).mono ?_
  rintro e w4 ⟨A4, n4, c4, rfl, rfl, hc4, hd4, r4, e4⟩
  replace K := (K.call e4).add (show Ro w4 _ (VlsIn A4 1 [numV 1]) from r4)
  clear e4 r4
  replace K := K.alloc_cst #[.int .i64 3] 2
  try simp only [World.size_alloc] at K
  go_wp2_with fail
  refine (lrow_any _ _ K.mutLt _ 3 (K.get 0 rfl)).mono ?_
  rintro e w5 ⟨A5, n5, c5, rfl, rfl, hc5, hd5, r5, e5⟩
  replace K := (K.call e5).add (show Ro w5 _ (VlsIn A5 1 [numV 3]) from r5)
  clear e5 r5
  replace K := K.alloc_cst #[.slice A4 1 c4, .slice A5 1 c5] 31
  try simp only [World.size_alloc] at K
  go_wp2_with fail
  have hX : Ro _ _ (SlsIn (some ⟨_, 0, none⟩) 3 [⟨A1, 1, c1, [numV 2]⟩, ⟨A2, 1, c2, [numV 1]⟩, ⟨A3, 1, c3, [numV 1]⟩]) := (ro_block (size := 1) (K.get 5 rfl) rfl).and (((K.ro 10 rfl).and ((K.ro 8 rfl).and (K.ro 6 rfl))).imp fun w h => sls_3 h.1 h.2.1 h.2.2)
  have hY : Ro _ _ (SlsIn (some ⟨_, 0, none⟩) 2 [⟨A4, 1, c4, [numV 1]⟩, ⟨A5, 1, c5, [numV 3]⟩]) := (ro_block (size := 1) (K.get 0 rfl) rfl).and (((K.ro 3 rfl).and (K.ro 1 rfl)).imp fun w h => sls_2 h.1 h.2)
  refine (tminus_any _ _ K.mutLt _ 3 3 [⟨A1, 1, c1, [numV 2]⟩, ⟨A2, 1, c2, [numV 1]⟩, ⟨A3, 1, c3, [numV 1]⟩] _ 2 2 [⟨A4, 1, c4, [numV 1]⟩, ⟨A5, 1, c5, [numV 3]⟩] hX hY (by omega) (by omega) (slN3) (slN2) (slOk3 hc1 hd1 hc2 hd2 hc3 hd3) (slOk2 hc4 hd4 hc5 hd5)).mono ?_
  rintro e w6 ⟨A6, n6, c6, l6, rfl, h61, h62, r6, o6, m6, e6, b6⟩
  replace K := (K.call b6).add r6
  clear hX hY b6 r6
  have HM := hid (show l6.map Sl.vs = [[numV 1], [numV 2]] from e6.trans minus5)
  have HMN := hid m6
  clear e6 m6 o6
  replace K := K.alloc_cst #[.int .i64 1] 2
  try simp only [World.size_alloc] at K
  go_wp2_with fail
  refine (lrow_any _ _ K.mutLt _ 1 (K.get 0 rfl)).mono ?_
  rintro e w7 ⟨A7, n7, c7, rfl, rfl, hc7, hd7, r7, e7⟩
  replace K := (K.call e7).add (show Ro w7 _ (VlsIn A7 1 [numV 1]) from r7)
  clear e7 r7
  replace K := K.alloc_cst #[.int .i64 2] 2
  try simp only [World.size_alloc] at K
  go_wp2_with fail
  refine (lrow_any _ _ K.mutLt _ 2 (K.get 0 rfl)).mono ?_
  rintro e w8 ⟨A8, n8, c8, rfl, rfl, hc8, hd8, r8, e8⟩
  replace K := (K.call e8).add (show Ro w8 _ (VlsIn A8 1 [numV 2]) from r8)
  clear e8 r8
  replace K := K.alloc_cst #[.slice A7 1 c7, .slice A8 1 c8] 31
  try simp only [World.size_alloc] at K
  go_wp2_with fail
  have hZ : Ro _ _ (SlsIn (some ⟨_, 0, none⟩) 2 [⟨A7, 1, c7, [numV 1]⟩, ⟨A8, 1, c8, [numV 2]⟩]) := (ro_block (size := 1) (K.get 0 rfl) rfl).and (((K.ro 3 rfl).and (K.ro 1 rfl)).imp fun w h => sls_2 h.1 h.2)
  have hn6 : n6 ≤ 4398046511204 := by have h1 := (K.ro 5 rfl).now.len; have h2 := congrArg List.length HM.out; rw [List.length_map] at h2; simp at h2; omega
  refine (sametuples_any _ _ K.mutLt A6 n6 c6 l6 _ 2 2 [⟨A7, 1, c7, [numV 1]⟩, ⟨A8, 1, c8, [numV 2]⟩] (K.ro 5 rfl) hZ hn6 HMN.out).mono ?_
  rintro e w9 ⟨rfl, b9⟩
  rw [show decide (l6.map Sl.vs = ([⟨A7, 1, c7, [numV 1]⟩, ⟨A8, 1, c8, [numV 2]⟩] : List Sl).map Sl.vs) = true from decide_eq_true (by rw [HM.out]; rfl)]
  replace K := K.call b9
  clear hZ b9 hn6
  replace K := K.alloc_cst #[.int .i64 1] 2
  try simp only [World.size_alloc] at K
  go_wp2_with fail
  refine (lrow_any _ _ K.mutLt _ 1 (K.get 0 rfl)).mono ?_
  rintro e w10 ⟨A10, n10, c10, rfl, rfl, hc10, hd10, r10, e10⟩
  replace K := (K.call e10).add (show Ro w10 _ (VlsIn A10 1 [numV 1]) from r10)
  clear e10 r10
  replace K := K.alloc_cst #[.int .i64 1] 2
  try simp only [World.size_alloc] at K
  go_wp2_with fail
  refine (lrow_any _ _ K.mutLt _ 1 (K.get 0 rfl)).mono ?_
  rintro e w11 ⟨A11, n11, c11, rfl, rfl, hc11, hd11, r11, e11⟩
  replace K := (K.call e11).add (show Ro w11 _ (VlsIn A11 1 [numV 1]) from r11)
  clear e11 r11
  replace K := K.alloc_cst #[.slice A10 1 c10, .slice A11 1 c11] 31
  try simp only [World.size_alloc] at K
  replace K := K.alloc_cst #[.int .i64 1] 2
  try simp only [World.size_alloc] at K
  go_wp2_with fail
  refine (lrow_any _ _ K.mutLt _ 1 (K.get 0 rfl)).mono ?_
  rintro e w12 ⟨A12, n12, c12, rfl, rfl, hc12, hd12, r12, e12⟩
  replace K := (K.call e12).add (show Ro w12 _ (VlsIn A12 1 [numV 1]) from r12)
  clear e12 r12
  go_wp2_with fail
  have hW : Ro _ _ (SlsIn (some ⟨_, 0, none⟩) 2 [⟨A10, 1, c10, [numV 1]⟩, ⟨A11, 1, c11, [numV 1]⟩]) := (ro_block (size := 1) (K.get 2 rfl) rfl).and (((K.ro 5 rfl).and (K.ro 3 rfl)).imp fun w h => sls_2 h.1 h.2)
  refine (tcount_any _ _ K.mutLt _ 2 2 [⟨A10, 1, c10, [numV 1]⟩, ⟨A11, 1, c11, [numV 1]⟩] A12 1 c12 [numV 1] hW (K.ro 0 rfl) (by omega) (slN2)).mono ?_
  rintro e w13 ⟨rfl, b13⟩
  rw [show (countV (([⟨A10, 1, c10, [numV 1]⟩, ⟨A11, 1, c11, [numV 1]⟩] : List Sl).map Sl.vs) [numV 1] : Int) = 2 by simp [countV]]
  replace K := K.call b13
  go_wp2_with fail
  go_ret
  exact ⟨by first | rfl | simp, K.below⟩
end Go.Proofs.YtmopojjhlbjhnaaDoor

namespace Go.Proofs.YtmopojjhlbjhnaaDoor
open Go.RowKit
set_option linter.unusedVariables false
set_option linter.unusedSimpArgs false

/-- four lists of rows in a block -/
def LsAt (g : Nat) (D : Nat → SlV Sl) (w : World) : Prop := g < w.heap.size ∧ ∀ i, i < 4 → w.cell? ⟨g, i, none⟩ = some (.slice (D i).A (D i).n (D i).c) ∧ SlsIn (D i).A (D i).n (D i).l w
def LsOk (D : Nat → SlV Sl) : Prop := ∀ i, i < 4 → (D i).n ≤ 30 ∧ (∀ r ∈ (D i).l, r.n ≤ 4398046511104) ∧ ∀ r ∈ (D i).l, r.ok
theorem ls_4 {w : World} {M : Nat → Prop} {g : Nat} {t : TypeId} {s0 s1 s2 s3 : SlV Sl}
    (h : Ro w M (fun w => w.heap[g]? = some (.cells #[.slice s0.A s0.n s0.c, .slice s1.A s1.n s1.c, .slice s2.A s2.n s2.c, .slice s3.A s3.n s3.c] t (0, 0))))
    (r0 : Ro w M (SlsIn s0.A s0.n s0.l)) (r1 : Ro w M (SlsIn s1.A s1.n s1.l)) (r2 : Ro w M (SlsIn s2.A s2.n s2.l)) (r3 : Ro w M (SlsIn s3.A s3.n s3.l))
    (k0 : s0.n ≤ 30 ∧ (∀ r ∈ s0.l, r.n ≤ 4398046511104) ∧ ∀ r ∈ s0.l, r.ok) (k1 : s1.n ≤ 30 ∧ (∀ r ∈ s1.l, r.n ≤ 4398046511104) ∧ ∀ r ∈ s1.l, r.ok) (k2 : s2.n ≤ 30 ∧ (∀ r ∈ s2.l, r.n ≤ 4398046511104) ∧ ∀ r ∈ s2.l, r.ok) (k3 : s3.n ≤ 30 ∧ (∀ r ∈ s3.l, r.n ≤ 4398046511104) ∧ ∀ r ∈ s3.l, r.ok) :
    ∃ D : Nat → SlV Sl, Ro w M (LsAt g D) ∧ LsOk D := by
  refine ⟨fun k => if k = 0 then s0 else if k = 1 then s1 else if k = 2 then s2 else s3, ?_, fun k hk => ?_⟩
  · refine ((h.and (r0.and r1)).and (r2.and r3)).imp fun w2 ⟨⟨hh, q0, q1⟩, q2, q3⟩ => ⟨Blk.lt (t := t) hh, fun k hk => ?_⟩
    have hb : Blk w2 g t _ := hh
    obtain rfl | rfl | rfl | rfl : k = 0 ∨ k = 1 ∨ k = 2 ∨ k = 3 := by omega
    · exact ⟨hb.cell 0, q0⟩
    · exact ⟨hb.cell 1, q1⟩
    · exact ⟨hb.cell 2, q2⟩
    · exact ⟨hb.cell 3, q3⟩
  · obtain rfl | rfl | rfl | rfl : k = 0 ∨ k = 1 ∨ k = 2 ∨ k = 3 := by omega
    · exact k0
    · exact k1
    · exact k2
    · exact k3
set_option maxHeartbeats 8000000 in
set_option maxRecDepth 100000 in
theorem tbags_walk (A0 : Option Addr) (n0 c0 : Nat) (xs : List Sl) (B : Option Addr) (m d : Nat) (ys : List Sl) (A : Option Addr) (n c : Nat) (zs : List Int) (w : World) (hX : Ro w None_ (SlsIn A0 n0 xs)) (hY : Ro w None_ (SlsIn B m ys)) (hx1 : ∀ r ∈ xs, r.n ≤ 4398046511104) (hx2 : ∀ r ∈ xs, r.ok) (hy1 : ∀ r ∈ ys, r.n ≤ 4398046511104) (hy2 : ∀ r ∈ ys, r.ok)
    (hr : Rd w w.heap.size 1 A n (zs.map (Value.int .i64))) (hz : Ints zs) (hn : n ≤ c) (hc : c ≤ 9223372036854775807) (hw : Wds w) :
    Calls Tryd.prog 3 #[.slice A0 n0 c0, .slice B m d, .slice A n c] w fun e w' => e = .returned (.bool true) ∧ Below w.heap.size w w' := by
  have hwl := hw.lt
  have HXO := hid (And.intro hx1 hx2)
  have HYO := hid (And.intro hy1 hy2)
  clear hx1 hx2 hy1 hy2
  have K0 := ((Hold.begin_ w).add (hX.less (by simp [Mut]))).add (hY.less (by simp [Mut, Hp.foot]))
  clear hX hY
  go_enter Tryd.func3, Tryd.ntmps3
  by_cases hn30 : 30 < n0
  · have hb1 : decide ((n0 : Int) > 30) = true := by rw [decide_eq_true_iff]; omega
    go_wp2_with fail
    refine (known5 _).mono ?_
    rintro e w9 ⟨rfl, b9⟩
    have K9 := K0.call b9
    go_wp2_with fail
    go_ret
    exact ⟨by first | rfl | simp, K9.below⟩
  have hb1 : decide ((n0 : Int) > 30) = false := by rw [decide_eq_false_iff_not]; omega
  have hb1' : decide (30 < n0) = false := by rw [decide_eq_false_iff_not]; omega
  by_cases hm30 : 30 < m
  · have hb2 : decide ((m : Int) > 30) = true := by rw [decide_eq_true_iff]; omega
    go_wp2_with fail
    refine (known5 _).mono ?_
    rintro e w9 ⟨rfl, b9⟩
    have K9 := K0.call b9
    go_wp2_with fail
    go_ret
    exact ⟨by first | rfl | simp, K9.below⟩
  have hb2 : decide ((m : Int) > 30) = false := by rw [decide_eq_false_iff_not]; omega
  have hb2' : decide (30 < m) = false := by rw [decide_eq_false_iff_not]; omega
  go_wp2_with fail
  refine (new_any A n c zs _ hr hz hn hc).mono ?_
  rintro e w0 ⟨T, rfl, hT, t1, b1⟩
  have K1 := Hold.newTape K0 b1 t1 hT (by simp [Mut, None_, Hp.foot])
  have wd0 : Wds w0 := hw.below b1 hwl
  have hT1 : 1 < T := by omega
  have K2 := K1.add (wd0.ro2 (show ¬ Mut None_ _ 1 from fun h => by simp [Mut, None_, Hp.foot] at h; omega))
  clear K1 K0 wd0 t1 b1 hw hr hwl hT hb1 hb1' hb2 hb2'
  go_wp2_with fail
  refine (trows_any (Mut None_ _) T _ K2.mutLt (K2.tp_ 1 rfl) (K2.get 1 rfl).2 ((K2.ro 0 rfl).less (mut_tp (i := 1) rfl)) hT1 7 (by omega)).mono ?_
  rintro e w1 ⟨A1, n1, c1, la, rfl, h11, h12, h13, o1, m1, r1, t2, g2⟩
  have K3 := (Hold.callT K2 1 rfl g2 t2).add r1
  clear K2 t2 g2 r1
  have HA := hid (And.intro o1 m1)
  clear o1 m1
  go_wp2_with fail
  refine (trows_any (Mut None_ _) T _ K3.mutLt (K3.tp_ 2 rfl) (K3.get 2 rfl).2 ((K3.ro 1 rfl).less (mut_tp (i := 2) rfl)) hT1 7 (by omega)).mono ?_
  rintro e w2 ⟨A2, n2, c2, lb, rfl, h21, h22, h23, o2, m2, r2, t3, g3⟩
  have K4 := ((Hold.callT K3 2 rfl g3 t3).add r2).alloc_cst #[.slice A0 n0 c0, .slice B m d, .slice A1 n1 c1, .slice A2 n2 c2] 22
  clear K3 t3 g3 r2
  have HB := hid (And.intro o2 m2)
  clear o2 m2
  obtain ⟨gl, hgl⟩ : ∃ g, g = w2.heap.size := ⟨_, rfl⟩
  rw [← hgl] at K4
  obtain ⟨D, hD, hDO⟩ := ls_4 (s0 := ⟨A0, n0, c0, xs⟩) (s1 := ⟨B, m, d, ys⟩) (s2 := ⟨A1, n1, c1, la⟩) (s3 := ⟨A2, n2, c2, lb⟩) (K4.get 0 rfl) (K4.ro 6 rfl) (K4.ro 5 rfl) (K4.ro 2 rfl) (K4.ro 1 rfl)
    ⟨show n0 ≤ 30 by omega, HXO.out⟩ ⟨show m ≤ 30 by omega, HYO.out⟩ ⟨show n1 ≤ 30 by omega, fun r hr => by have := HA.out.2 r hr; omega, HA.out.1⟩ ⟨show n2 ≤ 30 by omega, fun r hr => by have := HB.out.2 r hr; omega, HB.out.1⟩
  have K5 := K4.add hD
  have HDO := hid hDO
  clear hD hDO K4
  go_wp2_with fail
  rw [← hgl]
  clear hgl
  generalize World.alloc w2 _ = w3 at K5 ⊢
  obtain ⟨KL, hKL, KN⟩ := K5.name
  have HR : Hid (∀ wv, Hold None_ none w wv KL → Ro wv (Mut None_ KL) (LsAt gl D)) := hid fun wv HC => by rw [hKL] at HC ⊢; exact HC.ro 0 rfl
  clear hKL K5
  go_loopw [39] (fun iv wr => ∃ (i : Nat), i ≤ 4 ∧ iv = .int .i64 i ∧ Hold None_ none w wr KL) (fun iv _ => 4 - (intOf iv).toNat)
  case atStart => exact ⟨0, by omega, rfl, KN⟩
  case round =>
    clear KN
    obtain ⟨i, hi, rfl, H⟩ := hrel
    by_cases hlt : i < 4
    · have hd : decide ((i : Int) < 4) = true := by simp; omega
      have hd' : decide (i < 4) = true := by simp; omega
      have i0 : (0 : Int) ≤ (i : Int) := by omega
      have i1 : (i : Int) < 4 := by omega
      have hRo := HR.out _ H
      have x0 := (hRo.now.2 i hlt).1
      have hgx := hRo.now.1
      obtain ⟨xA, xn, xc, xl, hDx⟩ : ∃ xA xn xc xl, D i = ⟨xA, xn, xc, xl⟩ := ⟨_, _, _, _, rfl⟩
      rw [hDx] at x0
      dsimp only at x0
      have HX : Hid (∀ wv, Hold None_ none w wv KL → Ro wv (Mut None_ KL) (SlsIn xA xn xl)) := hid fun wv HC => (HR.out _ HC).imp fun w2 h => by have := (h.2 i hlt).2; rw [hDx] at this; exact this
      have HXO := hid (show xn ≤ 30 ∧ (∀ r ∈ xl, r.n ≤ 4398046511104) ∧ ∀ r ∈ xl, r.ok by have := HDO.out i hlt; rw [hDx] at this; exact this)
      have hx30 := HXO.out.1
      clear hDx hRo
      go_wp2_with fail
      clear x0 hgx
      go_loopw [45] (fun jv wr => ∃ (j : Nat), j ≤ 4 ∧ jv = .int .i64 j ∧ Hold None_ none w wr KL) (fun jv _ => 4 - (intOf jv).toNat)
      case atStart => exact ⟨0, by omega, rfl, H⟩
      case round =>
        clear H
        obtain ⟨j, hj, rfl, H⟩ := hrel
        by_cases hlt2 : j < 4
        · have he : decide ((j : Int) < 4) = true := by simp; omega
          have he' : decide (j < 4) = true := by simp; omega
          have j0 : (0 : Int) ≤ (j : Int) := by omega
          have j1 : (j : Int) < 4 := by omega
          have hRo := HR.out _ H
          have y0 := (hRo.now.2 j hlt2).1
          have hgy := hRo.now.1
          obtain ⟨yA, yn, yc, yl, hDy⟩ : ∃ yA yn yc yl, D j = ⟨yA, yn, yc, yl⟩ := ⟨_, _, _, _, rfl⟩
          rw [hDy] at y0
          dsimp only at y0
          have HY : Hid (∀ wv, Hold None_ none w wv KL → Ro wv (Mut None_ KL) (SlsIn yA yn yl)) := hid fun wv HC => (HR.out _ HC).imp fun w2 h => by have := (h.2 j hlt2).2; rw [hDy] at this; exact this
          have HYO := hid (show yn ≤ 30 ∧ (∀ r ∈ yl, r.n ≤ 4398046511104) ∧ ∀ r ∈ yl, r.ok by have := HDO.out j hlt2; rw [hDy] at this; exact this)
          have hy30 := HYO.out.1
          clear hDy hRo
          go_wp2_with fail
          refine (tsamebag_any _ _ H.mutLt xA xn xc xl yA yn yc yl (HX.out _ H) (HY.out _ H) (by omega) (by omega) HXO.out.2.1 HYO.out.2.1 HXO.out.2.2 HYO.out.2.2).mono ?_
          rintro e w5 ⟨rfl, b5⟩
          have H2 := H.call b5
          clear H b5 y0 hgy
          have hrb := rsamebag_any _ _ H2.mutLt xA xn xc xl yA yn yc yl (HX.out _ H2) (HY.out _ H2) (by omega) (by omega) HXO.out.2.1 HYO.out.2.1 HXO.out.2.2 HYO.out.2.2
          obtain ⟨sb, hsb⟩ : ∃ sb, sb = sameBagV (xl.map Sl.vs) (yl.map Sl.vs) := ⟨_, rfl⟩
          rw [← hsb] at hrb ⊢
          have HRB := hid hrb
          clear hrb hsb
          have hsn : (sb != sb) = false := by simp
          go_wp2_with fail
          refine HRB.out.mono ?_
          rintro e w6 ⟨rfl, b6⟩
          have H3 := H2.call b6
          clear H2 b6 HRB
          go_wp2_with fail
          clear hsn
          refine (tminus_any _ _ H3.mutLt xA xn xc xl yA yn yc yl (HX.out _ H3) (HY.out _ H3) (by omega) (by omega) HXO.out.2.1 HYO.out.2.1 HXO.out.2.2 HYO.out.2.2).mono ?_
          rintro e w7 ⟨A7, n7, c7, l7, rfl, h71, h72, r7, o7, m7, e7, b7⟩
          have H4 := H3.call b7
          have HM := hid (And.intro m7 e7)
          have hr7 := r7
          clear H3 b7 o7 m7 e7
          go_wp2_with fail
          refine (rminus_any _ _ H4.mutLt xA xn xc xl yA yn yc yl (HX.out _ H4) (HY.out _ H4) (by omega) (by omega) HXO.out.2.1 HYO.out.2.1 HXO.out.2.2 HYO.out.2.2).mono ?_
          rintro e w8 ⟨A8, n8, c8, l8, rfl, h81, h82, r8, o8, m8, e8, b8⟩
          have H5 := (((H4.add hr7).call b8).add (r8.less (mut_none rfl)))
          have HM2 := hid e8
          clear H4 b8 o8 m8 e8 hr7 r7 r8
          have hn7 : n7 ≤ 4398046511204 := by
            have h1 := (H5.ro 1 rfl).now.len
            have h2 := congrArg List.length HM.out.2
            have h3 := minusV_le (xl.map Sl.vs) (yl.map Sl.vs)
            have h4 := (HX.out _ (H5.drop (List.Sublist.cons _ (List.Sublist.cons _ (List.Sublist.refl _))))).now.len
            rw [List.length_map] at h2 h3
            omega
          go_wp2_with fail
          refine (sametuples_any _ _ H5.mutLt A7 n7 c7 l7 A8 n8 c8 l8 (H5.ro 1 rfl) (H5.ro 0 rfl) hn7 HM.out.1).mono ?_
          rintro e w9 ⟨rfl, b9⟩
          rw [show decide (l7.map Sl.vs = l8.map Sl.vs) = true from decide_eq_true (by rw [HM.out.2, HM2.out])]
          have H6 := (H5.call b9).drop (List.Sublist.cons _ (List.Sublist.cons _ (List.Sublist.refl _)))
          clear H5 b9 hn7 h71 h72 h81 h82
          go_wp2_with fail
          clear he he' j0 j1
          go_loopw [68] (fun kv wr => ∃ (k : Nat), k ≤ yn ∧ kv = .int .i64 k ∧ Hold None_ none w wr KL) (fun kv _ => yn - (intOf kv).toNat)
          case atStart => exact ⟨0, by omega, rfl, H6⟩
          case round =>
            clear H6
            obtain ⟨k, hk, rfl, H⟩ := hrel
            have hylen : yl.length = yn := (HY.out _ H).now.len
            by_cases hlt3 : k < yn
            · have hf : decide ((k : Int) < (yn : Int)) = true := by simp; omega
              have k0 : (0 : Int) ≤ (k : Int) := by omega
              have k1 : (k : Int) < (yn : Int) := by omega
              obtain ⟨r, hr⟩ := get_of hylen hlt3
              obtain ⟨br, or, hra, hbr, r0, _⟩ := (HY.out _ H).now.at_ hr
              have HRM := hid (List.mem_of_getElem? hr)
              have HRN := hid (HYO.out.2.1 r HRM.out)
              obtain ⟨rA, rn, rc, rvs⟩ := r
              dsimp only at *
              subst hra
              clear hr
              have hct := tcount_any _ wr H.mutLt xA xn xc xl rA rn rc rvs (HX.out _ H) ((HY.out _ H).imp fun w2 h => h.2 _ HRM.out) (by omega) HXO.out.2.1
              obtain ⟨ca, hca⟩ : ∃ ca, ca = countV (xl.map Sl.vs) rvs := ⟨_, rfl⟩
              rw [← hca] at hct
              have HCT := hid hct
              have HCA := hid hca
              clear hct hca hylen
              go_wp2_with fail
              refine HCT.out.mono ?_
              rintro e w5 ⟨rfl, b5⟩
              have H2 := H.call b5
              clear H b5 r0 hbr HCT
              go_wp2_with fail
              refine (rcount_any _ _ H2.mutLt xA xn xc xl rA rn rc rvs (HX.out _ H2) ((HY.out _ H2).imp fun w2 h => h.2 _ HRM.out) (by omega) HXO.out.2.1 (by have := HRN.out; omega)).mono ?_
              rw [← HCA.out]
              rintro e w6 ⟨rfl, b6⟩
              have H3 := H2.call b6
              clear H2 b6
              have hne : ((ca : Int) != (ca : Int)) = false := by simp
              go_wp2_with fail
              go_roundw
              case rel => exact ⟨k + 1, by omega, by go_num, H3⟩
              case measure => simp [intOf]; omega
            · obtain rfl : yn = k := by omega
              have hf : decide ((yn : Int) < (yn : Int)) = false := by simp
              clear hylen
              go_wp2_with fail
              go_roundw
              case rel => exact ⟨j + 1, by omega, by go_num, H⟩
              case measure => simp [intOf]; omega
        · obtain rfl : j = 4 := by omega
          have he : decide ((4 : Int) < 4) = false := by decide
          go_wp2_with fail
          refine (tsort_any _ _ H.mutLt xA xn xc xl (HX.out _ H) (by omega) HXO.out.2.1 HXO.out.2.2).mono ?_
          rintro e w5 ⟨A5, n5, c5, l5, rfl, h51, h52, r5, o5, m5, e5, b5⟩
          have H2 := (H.call b5)
          have HS := hid (And.intro m5 e5)
          have hr5 := r5
          clear H b5 o5 m5 e5
          go_wp2_with fail
          refine (rsort_any _ _ H2.mutLt xA xn xc xl (HX.out _ H2) (by omega) HXO.out.2.1 HXO.out.2.2).mono ?_
          rintro e w6 ⟨A6, n6, c6, l6, rfl, h61, h62, r6, o6, m6, e6, b6⟩
          have H3 := ((H2.add hr5).call b6).add (r6.less (mut_none rfl))
          have HS2 := hid e6
          clear H2 b6 o6 m6 e6 hr5 r5 r6
          have hn5 : n5 ≤ 4398046511204 := by
            have h1 := (H3.ro 1 rfl).now.len
            have h2 := congrArg List.length HS.out.2
            have h4 := (HX.out _ (H3.drop (List.Sublist.cons _ (List.Sublist.cons _ (List.Sublist.refl _))))).now.len
            rw [sortV_len, List.length_map, List.length_map] at h2
            omega
          go_wp2_with fail
          refine (sametuples_any _ _ H3.mutLt A5 n5 c5 l5 A6 n6 c6 l6 (H3.ro 1 rfl) (H3.ro 0 rfl) hn5 HS.out.1).mono ?_
          rintro e w7 ⟨rfl, b7⟩
          rw [show decide (l5.map Sl.vs = l6.map Sl.vs) = true from decide_eq_true (by rw [HS.out.2, HS2.out])]
          have H4 := (H3.call b7).drop (List.Sublist.cons _ (List.Sublist.cons _ (List.Sublist.refl _)))
          clear H3 b7 hn5
          go_wp2_with fail
          go_roundw
          case rel => exact ⟨i + 1, by omega, by go_num, H4⟩
          case measure => simp [intOf]; omega
    · obtain rfl : i = 4 := by omega
      have hd : decide ((4 : Int) < 4) = false := by decide
      go_wp2_with fail
      refine (known5 _).mono ?_
      rintro e w8 ⟨rfl, b8⟩
      have H8 := H.call b8
      clear H b8
      go_wp2_with fail
      go_ret
      exact ⟨by first | rfl | simp, H8.below⟩
end Go.Proofs.YtmopojjhlbjhnaaDoor

namespace Go.Proofs.YtmopojjhlbjhnaaDoor
open Go.ChangeShapes Go.WideShapes Go.ChangeAt Go.RowKit
set_option linter.unusedVariables false
set_option linter.unusedSimpArgs false

namespace LawTupleBags
set_option maxRecDepth 100000 in
theorem contract (H : Type) (enc : TypeId × Value → H) (W : World) (base : Nat) (args : Array Value) (ds gs : List (DataW H)) (before : List MemPlace)
    (hval0 : ∀ (j : Nat) t v, Tryd.f3.params[j]? = some t → args[j]? = some v → Value.okWide Tryd.prog W .any base t v)
    (hsz0 : (DataW.weightsEach Tryd.prog (Tryd.f3.params.toList ++ Rows.tupleBagsSpec.plain.varTypes Tryd.prog) (ds ++ gs)).all (· ≤ reachBytes) = true)
    (hW : DataW.Whole enc Tryd.prog Tryd.f3.params.toList Rows.tupleBagsSpec.vars false W args.toList ds gs before) (hL : laidMetH Tryd.prog Rows.tupleBagsRow.laid W) (hsh : W.ShapedOpen Tryd.prog) :
    Calls Tryd.prog 3 args W fun e W' => ∃ v, e = .returned v ∧ Rows.tupleBagsSpec.post enc Tryd.prog Tryd.f3 false true false false W args v W' := by
  have hsz : (DataW.weightsEach Tryd.prog (Tryd.f3.params.toList ++ Rows.tupleBagsSpec.plain.varTypes Tryd.prog) (ds ++ gs)).all (· ≤ reachBytes) = true := hsz0
  have hval : ∀ (j : Nat) t v, Tryd.f3.params[j]? = some t → args[j]? = some v → Value.okWide Tryd.prog W .any base t v := hval0
  have hW' := hW
  obtain ⟨p, q, hA0, hV, rfl, hfz, hnd⟩ := hW
  have hA : DataW.TrodAll enc Tryd.prog W 0 (fun _ => true) true Tryd.f3.params.toList args.toList ds p := hA0
  rw [Tryd.params3] at hA hval hsz
  obtain ⟨v0, vs0, d0, ds0, p0, q0, hargs, rfl, rfl, h0, r0⟩ := trodAll_cons hA
  obtain ⟨v1, vs1, d1, ds1, p1, q1, rfl, rfl, rfl, h1, r1⟩ := trodAll_cons r0
  obtain ⟨v2, vs2, d2, ds2, p2, q2, rfl, rfl, rfl, h2, r2⟩ := trodAll_cons r1
  obtain ⟨rfl, rfl, rfl⟩ := trodAll_nil r2
  obtain rfl : args = #[v0, v1, v2] := by cases args; simp_all
  obtain ⟨rfl, rfl⟩ := trodVars_none hV
  obtain ⟨sl0, ok0, rfl⟩ := opens_sls.slice Tryd.underlying22 (hval 0 22 v0 rfl rfl) h0 (sz_arg hsz (j := 0) rfl rfl)
  obtain ⟨sl1, ok1, rfl⟩ := opens_sls.slice Tryd.underlying22 (hval 1 22 v1 rfl rfl) h1 (sz_arg hsz (j := 1) rfl rfl)
  obtain ⟨A2, n2, c2, zs2, rfl, k2, z2, l2, m2, e2⟩ := open_i64s Tryd.underlying23 Tryd.underlying3 (by kernel_rfl) (hval 2 23 v2 rfl rfl) h2
  refine (tbags_walk sl0.A sl0.n sl0.c sl0.l sl1.A sl1.n sl1.c sl1.l A2 n2 c2 zs2 W (ro_sls ok0 fun _ _ h => h) (ro_sls ok1 fun _ _ h => h) (fun r hr => (ok0.ok r hr).n) (fun r hr => (ok0.ok r hr).ok) (fun r hr => (ok1.ok r hr).n) (fun r hr => (ok1.ok r hr).ok) k2 z2 l2 (by unfold maxLen at m2; omega) (wds_of_laid (rest := []) hL)).mono fun e W' ⟨he, hb⟩ => ?_
  exact ⟨_, he, law_post rfl laidOut (by kernel_rfl) (by kernel_rfl) Tryd.underlying4 rfl hW' hb⟩

theorem laid_met (os : Os) : laidMet Tryd.prog Rows.tupleBagsRow.laid ((wordsWorld os).forCall (fun _ _ => 0) ⟨#[], #[.slice none 0 0, .slice none 0 0, .slice none 0 0], []⟩).memory :=
  laidMet_of_run' 16 (by kernel_rfl) (by kernel_rfl)
theorem reads (os : Os) {H : Type} (enc : TypeId × Value → H) : ∃ places, DataW.whole enc Tryd.prog ((wordsWorld os).forCall (fun _ _ => 0) ⟨#[], #[.slice none 0 0, .slice none 0 0, .slice none 0 0], []⟩).memory Tryd.f3.params.toList Rows.tupleBagsSpec.vars false #[.slice none 0 0, .slice none 0 0, .slice none 0 0].toList 8 = some ([.nil, .nil, .nil], [], places) :=
  ⟨[], by kernel_rfl⟩

set_option maxRecDepth 100000 in
theorem lifted (os : Os) (started : os.Started) (H : Type) (enc : TypeId × Value → H) (F : Stop.Interp) :
    ReturnsInHanded {} Tryd.checked os 3 .any ((OpenSpec.ofChange Rows.tupleBagsSpec).preRow enc Tryd.prog Tryd.f3 Rows.tupleBagsRow.domain false Rows.tupleBagsRow.laid) (((OpenSpec.ofChange Rows.tupleBagsSpec).at F).post enc Tryd.prog Tryd.f3 false true false false) := by
  obtain ⟨places, hx⟩ := reads os enc
  refine returnsInHanded_of_row (C := Tryd.checked) (s := OpenSpec.ofChange Rows.tupleBagsSpec) own started (by kernel_rfl) Tryd.func3
    (witness_row_at (enc := enc) (C := Tryd.checked) false (wordsWorld os) #[.slice none 0 0, .slice none 0 0, .slice none 0 0] rfl (by kernel_rfl) (by kernel_rfl) (by kernel_rfl)
      (OpenSpec.preRow_of_cond 8 hx (by kernel_rfl) (fun k hk => by cases hk) (by kernel_rfl) (laid_met os))) ?_
  intro W base args ds gs before hval hW _ _ hsz0 hL hsh _
  exact contract H enc W base args ds gs before hval hsz0 hW hL hsh

theorem said : Rows.TupleBagsSaid :=
  OpenClaim.holds_of_cond 3 Tryd.f3 rfl rfl rfl rfl rfl rfl rfl ⟨rfl, rfl, rfl, rfl, rfl⟩ rfl rfl rfl rfl rfl (by kernel_rfl) Tryd.func3 (by kernel_rfl)
    (of_decide_eq_true (by kernel_rfl)) (by unfold Func.isWrapper; first | (rw [if_pos (by decide +kernel)]; kernel_rfl) | (rw [if_neg (by decide +kernel)]; exact ⟨rfl, rfl⟩))
    (fun os started H enc _ F => by rw [OpenClaim.pre_eq_preRow]; exact lifted os started H enc F)

theorem plain (f : FuncId) (fn : Func) (hf : Tryd.pinned.checked.prog.funcNamed "triggerstore/triggerstorelaw5.TupleBags" = some f) (hfn : Tryd.pinned.checked.prog.funcs[f]? = some fn) :
    false = Tryd.pinned.checked.prog.looks [] ∧ ∀ (j : Nat) t, fn.params[j]? = some t → Tryd.pinned.checked.prog.wantsStandIn t = false := by
  obtain rfl : f = 3 := Option.some.inj ((show Tryd.prog.funcNamed "triggerstore/triggerstorelaw5.TupleBags" = some 3 by kernel_rfl).symm.trans hf) |>.symm
  obtain rfl : fn = Tryd.f3 := (Option.some.inj (Tryd.func3.symm.trans hfn)).symm
  refine ⟨by kernel_rfl, fun j t ht => ?_⟩
  rw [Tryd.params3] at ht
  have hm := Array.mem_of_getElem? ht
  simp only [List.mem_toArray, List.mem_cons, List.not_mem_nil, or_false] at hm
  rcases hm with rfl | rfl | rfl
  · exact (show Tryd.prog.wantsStandIn 22 = false by kernel_rfl)
  · exact (show Tryd.prog.wantsStandIn 22 = false by kernel_rfl)
  · exact (show Tryd.prog.wantsStandIn 23 = false by kernel_rfl)
end LawTupleBags

theorem tupleBags_holds : Rows.TupleBagsCardSaid :=
  Claim7.holds_tied_plain_at .later [] _ _ _ _ LawTupleBags.said (fun _ h => by cases h) (by kernel_rfl) (fun _ h => by cases h) tupleBags_row_tie rfl ⟨rfl, rfl⟩ (by kernel_rfl) rfl LawTupleBags.plain (by kernel_rfl)
#print axioms tupleBags_holds
end Go.Proofs.YtmopojjhlbjhnaaDoor

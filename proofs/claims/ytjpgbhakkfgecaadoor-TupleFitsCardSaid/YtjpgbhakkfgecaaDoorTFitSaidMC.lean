/- TupleFits answers true for all schemas, rows and tapes: Fits of the program and of the reference are the same at the drawn row, at the row with one changed value, at the row without its first value, and at the raw ones. Condition: the row's own, the laid tables of words and of names; the tied card. -/
import Derived.Test.YtjpgbhakkfgecaaDoorTFitSaidMB
import Derived.Test.YtjpgbhakkfgecaaDoorTFitSaidMA
import Derived.Test.YtjpgbhakkfgecaaDoorCards
import Derived.Test.YtjpgbhakkfgecaaDoorTie
namespace Go.Proofs.YtjpgbhakkfgecaaDoor
open Go.RowKit
set_option linter.unusedVariables false
set_option linter.unusedSimpArgs false

/-- rows handed back -/
def SlsRet (w : World) (M : Nat → Prop) (L : List (List Vl)) (e : Ending) (w' : World) : Prop := ∃ (A : Option Addr) (n c : Nat) (l : List Sl), e = .returned (.slice A n c) ∧ n ≤ c ∧ c ≤ 9223372036854775807 ∧ Ro w' M (SlsIn A n l) ∧ (∀ s ∈ l, s.ok) ∧ (∀ s ∈ l, s.n ≤ 4398046511104) ∧ l.map Sl.vs = L ∧ Below w.heap.size w w'
set_option maxHeartbeats 4000000 in
set_option maxRecDepth 100000 in
theorem tsort_any (M : Nat → Prop) (w : World) (hM : ∀ b, M b → b < w.heap.size) (A : Option Addr) (n c : Nat) (l : List Sl) (hD : Ro w M (SlsIn A n l)) (hn : n ≤ 4398046511104) (hr : ∀ s ∈ l, s.n ≤ 4398046511104) (hok : ∀ s ∈ l, s.ok) :
    Calls Tryd.prog 36 #[.slice A n c] w fun e w' => SlsRet w M (sortV (l.map Sl.vs)) e w' := by
  have HL := hid hD.now.len
  have HR := hid hr
  have HOK := hid hok
  have K0 := (((Hold.start M w hM).add (hD.less (by simp [Mut]))).add (show Ro w _ (SlVals []) from fun _ _ _ r hr => nomatch hr)).nil 51 1
  clear hD hr hok
  go_enter Tryd.func36, Tryd.ntmps36
  go_wp2_with fail
  go_loopw [3, 8] (fun ov iv wr => ∃ (k cap : Nat) (C : Option Addr) (lo : List Sl), k ≤ n ∧ ov = .slice C k cap ∧ iv = .int .i64 k ∧ Hid (lo.map Sl.vs = (l.map Sl.vs).take k) ∧ Hid (∀ s ∈ lo, s.ok) ∧ Hid (∀ s ∈ lo, s.n ≤ 4398046511104) ∧ Hold M none w wr [.own 51 1 (.slice C k cap) k (slCells lo), .ro (SlVals lo), .ro (SlsIn A n l)]) (fun _ iv _ => n - (intOf iv).toNat)
  case atStart => exact ⟨0, 0, none, [], by omega, rfl, rfl, hid (by simp), hid (fun s hs => nomatch hs), hid (fun s hs => nomatch hs), K0⟩
  case round =>
    clear K0
    obtain ⟨k, cap, C, lo, hk, rfl, rfl, HLO, HOO, HNO, H⟩ := hrel
    by_cases hlt : k < n
    · have hd : decide ((k : Int) < (n : Int)) = true := by simp; omega
      have i0 : (0 : Int) ≤ (k : Int) := by omega
      have i1 : (k : Int) < (n : Int) := by omega
      obtain ⟨x, hx⟩ := get_of HL.out hlt
      obtain ⟨b, o, rfl, hb, c0, _⟩ := (H.ro 2 rfl).now.at_ hx
      have hxv : Ro wr _ (VlsIn x.A x.n x.vs) := (H.ro 2 rfl).imp fun w2 h2 => h2.2 x (List.mem_of_getElem? hx)
      have hxn := HR.out x (List.mem_of_getElem? hx)
      have HXO := hid (HOK.out x (List.mem_of_getElem? hx))
      have HX := hid (show (l.map Sl.vs)[k]? = some x.vs by rw [List.getElem?_map, hx]; rfl)
      clear hx
      go_wp2_with fail
      refine (cloneVls_any _ wr H.mutLt x.A x.n x.c x.vs hxv hxn).mono ?_
      rintro e w2 ⟨zA, zn, zc, rfl, h1, h2, h3, r2, b2⟩
      have K1 := (H.call b2).add (show Ro w2 _ (VlsIn zA zn x.vs) from r2)
      have hzn : x.vs.length = x.n := hxv.now.len
      have HZ := hid (And.intro h1 (And.intro h2 h3))
      clear H hxv b2 r2 h1 h2 h3 c0
      have HCE := hid (show slCells lo ++ (#[Value.slice zA zn zc]).toList = slCells (lo ++ [⟨zA, zn, zc, x.vs⟩]) by simp [slCells, Sl.cells])
      have FA := K1.facts
      simp only [World.size_alloc, World.size_drew, factsL, cellsF, Nat.reduceAdd, List.toList_toArray, List.set_cons_zero, List.set_cons_succ, List.setIfInBounds_toArray, and_true, true_and] at FA
      go_wp2_with (at_builtin; go_must (refine wpList_appH K1 1 rfl Tryd.elSlc #[.slice zA zn zc] rfl (.tmp 12) (.tmp 15) rfl rfl w2.heap.size (by first | rfl | simp) rfl rfl (by intro u hu; simp at hu; rcases hu with rfl; rfl) (by omega) (by omega) ?_); intro g9 cap9 w9 hc9 hm9 KB; rw [HCE.out] at KB; simp only [List.set_cons_zero, List.set_cons_succ] at KB)
      have KC := (KB.swapRo 2 rfl (sls_snoc (r := ⟨zA, zn, zc, x.vs⟩) (KB.ro 2 rfl) (KB.ro 0 rfl))).drop (List.sublist_cons_self _ _)
      have HN := hid (show (lo ++ [(⟨zA, zn, zc, x.vs⟩ : Sl)]).map Sl.vs = (l.map Sl.vs).take (k + 1) by rw [List.map_append, HLO.out, List.take_add_one, HX.out]; rfl)
      have HN2 := hid (okSnoc (P := Sl.ok) (x := (⟨zA, zn, zc, x.vs⟩ : Sl)) HOO.out ⟨HZ.out.2.1, HZ.out.2.2, HXO.out.vs⟩)
      have HN3 := hid (okSnoc (P := fun s : Sl => s.n ≤ 4398046511104) (x := (⟨zA, zn, zc, x.vs⟩ : Sl)) HNO.out (by have := HZ.out.1; show zn ≤ _; omega))
      go_roundw
      case rel => exact ⟨k + 1, cap9, _, _, by omega, by first | rfl | go_num, by first | rfl | go_num, HN, HN2, HN3, KC⟩
      case measure => simp [intOf]; omega
    · obtain rfl : n = k := by omega
      have hd : decide ((n : Int) < (n : Int)) = false := by simp
      have HLV := hid (show lo.map Sl.vs = l.map Sl.vs by
        have h := HLO.out
        rwa [List.take_of_length_le (by rw [List.length_map, HL.out]; exact Nat.le_refl _)] at h)
      clear HLO
      obtain ⟨hc1, hc2, _⟩ := own_caps (H.get 0 rfl)
      rcases own_addr (H.get 0 rfl) with ⟨rfl, rfl, rfl⟩ | ⟨g, rfl, hg⟩
      · have hcon := AnyF.slices_SortFunc_none (P := Tryd.prog) (ρ := Tryd.sortRows_ren) { Tryd.sortRows with } none 0 (.func (.func 76) #[] #[])
        have HCN := hid (show ∀ W, Calls Tryd.prog 77 #[.slice none 0 0, .func (.func 76) #[] #[]] W fun e w' => e = .returned (.tuple #[]) ∧ w' = W from hcon)
        clear hcon
        have HEM := hid (show sortV (l.map Sl.vs) = lo.map Sl.vs by
          have h0 : l = [] := List.eq_nil_of_length_eq_zero HL.out
          have h1 := HLV.out
          rw [h0] at h1 ⊢
          rw [h1]; rfl)
        have KS := H.sealRow 0 rfl
        simp only [List.set_cons_zero] at KS
        have r1 := (KS.roOut 0 rfl).and (KS.roOut 1 rfl)
        go_wp2_with fail
        refine (HCN.out _).mono ?_
        rintro e w2 ⟨rfl, rfl⟩
        go_wp2_with fail
        go_ret
        exact ⟨none, 0, 0, lo, rfl, by omega, by omega, r1, HOO.out, HNO.out, HEM.out.symm, KS.below⟩
      · have hsf := sortfn_any H 0 rfl (H.ro 1 rfl) (fun s hs => by have := HNO.out s hs; omega) (by omega)
        have HSF := hid hsf
        clear hsf
        go_wp2_with fail
        refine HSF.out.mono ?_
        rintro e w2 ⟨rfl, lo', hp, hs, K2⟩
        simp only [List.set_cons_zero] at K2
        have HEM := hid (show lo'.map Sl.vs = sortV (l.map Sl.vs) by
          rw [← HLV.out]
          exact sortV_of (hp.map _) (List.pairwise_map.2 (hs.imp fun h => by omega)))
        have HP := hid hp
        clear H hp hs
        have KV := K2.add (show Ro w2 _ (SlVals lo') from (K2.ro 1 rfl).imp fun w3 h3 s hs => h3 s (HP.out.mem_iff.1 hs))
        have KS := KV.sealRow 1 rfl
        simp only [List.set_cons_zero, List.set_cons_succ] at KS
        have r1 := (KS.roOut 1 rfl).and (KS.roOut 0 rfl)
        go_wp2_with fail
        go_ret
        exact ⟨_, n, cap, lo', rfl, hc1, hc2, r1, fun s hs => HOO.out s (HP.out.mem_iff.1 hs), fun s hs => HNO.out s (HP.out.mem_iff.1 hs), HEM.out, KS.below⟩
end Go.Proofs.YtjpgbhakkfgecaaDoor

namespace Go.Proofs.YtjpgbhakkfgecaaDoor
open Go.RowKit
set_option linter.unusedVariables false
set_option linter.unusedSimpArgs false

theorem sametuple_any (w : World) (A : Option Addr) (n c : Nat) (xs : List Vl) (B : Option Addr) (m d : Nat) (ys : List Vl) (hD : VlsIn A n xs w) (hE : VlsIn B m ys w) (hn : n ≤ 4398046511104) :
    Calls Tryd.prog 75 #[.slice A n c, .slice B m d] w fun e w' => e = .returned (.bool (decide (xs = ys))) ∧ ∃ q, w' = w.drewN q := by
  have HE := hid (eqVls_any w A n c xs B m d ys hD hE hn)
  clear hD hE
  go_enter Tryd.func75, Tryd.ntmps75
  go_wp2_with fail
  refine HE.out.mono ?_
  rintro e w1 ⟨rfl, q, rfl⟩
  obtain ⟨r, hr0⟩ : ∃ r, r = decide (xs = ys) := ⟨_, rfl⟩
  rw [← hr0]
  have HRR := hid hr0
  clear hr0
  go_wp2_with fail
  go_ret
  exact ⟨by rw [← HRR.out] <;> rfl, q, rfl⟩
set_option maxHeartbeats 2000000 in
set_option maxRecDepth 100000 in
theorem eqTps_any (M : Nat → Prop) (w : World) (hM : ∀ b, M b → b < w.heap.size) (A : Option Addr) (n c : Nat) (xs : List Sl) (B : Option Addr) (m d : Nat) (ys : List Sl) (hD : Ro w M (SlsIn A n xs)) (hE : Ro w M (SlsIn B m ys)) (hn : n ≤ 4398046511204) (hr : ∀ r ∈ xs, r.n ≤ 4398046511104) :
    Calls Tryd.prog 74 #[.slice A n c, .slice B m d, .func (.func 75) #[] #[]] w fun e w' => e = .returned (.bool (decide (xs.map Sl.vs = ys.map Sl.vs))) ∧ Below w.heap.size w w' := by
  have HL := hid hD.now.len
  have HK := hid hE.now.len
  by_cases hnm : n = m
  · subst hnm
    have hb : ((n : Int) != (n : Int)) = false := by simp
    have K0 := ((Hold.start M w hM).add (hE.less (by simp [Mut]))).add (hD.less (by simp [Mut, Hp.foot]))
    clear hD hE
    go_enter Tryd.func74, Tryd.ntmps74
    go_wp2_with fail
    go_loopw [17] (fun i wr => ∃ (k : Nat), k ≤ n ∧ i = .int .i64 k ∧ Hid ((xs.map Sl.vs).take k = (ys.map Sl.vs).take k) ∧ Hold M none w wr [.ro (SlsIn A n xs), .ro (SlsIn B n ys)]) (fun i _ => n - (intOf i).toNat)
    case atStart => exact ⟨0, by omega, rfl, hid (by simp), K0⟩
    case round =>
      clear K0
      obtain ⟨k, hk, rfl, HTK, H⟩ := hrel
      by_cases hlt : k < n
      · have hd : decide ((k : Int) < (n : Int)) = true := by simp; omega
        have i0 : (0 : Int) ≤ (k : Int) := by omega
        have i1 : (k : Int) < (n : Int) := by omega
        obtain ⟨x, hx⟩ := get_of HL.out hlt
        obtain ⟨y, hy⟩ := get_of HK.out hlt
        have hxn := hr x (List.mem_of_getElem? hx)
        have HX := hid (show (xs.map Sl.vs)[k]? = some x.vs by simp [hx])
        have HY := hid (show (ys.map Sl.vs)[k]? = some y.vs by simp [hy])
        obtain ⟨g, o, rfl, hbx, x0, hvx⟩ := (H.ro 0 rfl).now.at_ hx
        obtain ⟨g', o', rfl, hby, y0, hvy⟩ := (H.ro 1 rfl).now.at_ hy
        have HVX := hid hvx
        have HVY := hid hvy
        clear hx hy hvx hvy
        go_wp2_with fail
        refine (sametuple_any _ x.A x.n x.c x.vs y.A y.n y.c y.vs HVX.out HVY.out hxn).mono ?_
        rintro e w3 ⟨rfl, q3, rfl⟩
        have K3 := H.drewN q3
        clear H
        by_cases hb : x.vs = y.vs
        · have HB := hid (takeEq_succ HX.out HY.out HTK.out hb)
          rw [decide_eq_true hb]
          clear hb
          go_wp2_with fail
          go_roundw
          case rel => exact ⟨k + 1, by omega, by go_num, HB, K3⟩
          case measure => simp [intOf]; omega
        · have HB := hid (beqL_no HX.out HY.out hb)
          rw [decide_eq_false hb]
          clear hb
          go_wp2_with fail
          go_ret
          exact ⟨by rw [HB.out] <;> rfl, K3.below⟩
      · obtain rfl : n = k := by omega
        have hd : decide ((n : Int) < (n : Int)) = false := by simp
        have HB := hid (show decide (xs.map Sl.vs = ys.map Sl.vs) = true by
          have h := HTK.out
          rw [List.take_of_length_le (by rw [List.length_map, HL.out]; exact Nat.le_refl _), List.take_of_length_le (by rw [List.length_map, HK.out]; exact Nat.le_refl _)] at h
          simp [h])
        go_wp2_with fail
        go_ret
        exact ⟨by rw [HB.out] <;> rfl, H.below⟩
  · have hb : ((n : Int) != (m : Int)) = true := by simp; omega
    have HB := hid (show decide (xs.map Sl.vs = ys.map Sl.vs) = false by
      rw [decide_eq_false_iff_not]; intro h; have h1 := congrArg List.length h; rw [List.length_map, List.length_map, HL.out, HK.out] at h1; exact hnm h1)
    go_enter Tryd.func74, Tryd.ntmps74
    go_wp2_with fail
    go_ret
    exact ⟨by rw [HB.out] <;> rfl, Below.refl _ _⟩

theorem sametuples_any (M : Nat → Prop) (w : World) (hM : ∀ b, M b → b < w.heap.size) (A : Option Addr) (n c : Nat) (xs : List Sl) (B : Option Addr) (m d : Nat) (ys : List Sl) (hD : Ro w M (SlsIn A n xs)) (hE : Ro w M (SlsIn B m ys)) (hn : n ≤ 4398046511204) (hr : ∀ r ∈ xs, r.n ≤ 4398046511104) :
    Calls Tryd.prog 31 #[.slice A n c, .slice B m d] w fun e w' => e = .returned (.bool (decide (xs.map Sl.vs = ys.map Sl.vs))) ∧ Below w.heap.size w w' := by
  have HE := hid (eqTps_any M w hM A n c xs B m d ys hD hE hn hr)
  clear hD hE
  go_enter Tryd.func31, Tryd.ntmps31
  go_wp2_with fail
  refine HE.out.mono ?_
  rintro e w1 ⟨rfl, b1⟩
  have HB := hid b1
  clear b1
  obtain ⟨r, hr0⟩ : ∃ r, r = decide (xs.map Sl.vs = ys.map Sl.vs) := ⟨_, rfl⟩
  rw [← hr0]
  have HRR := hid hr0
  clear hr0
  go_wp2_with fail
  go_ret
  exact ⟨by rw [← HRR.out] <;> rfl, HB.out⟩
def countV (l : List (List Vl)) (t : List Vl) : Nat := l.countP fun x => decide (x = t)
theorem countV_step {l : List (List Vl)} {k : Nat} {x t : List Vl} (hx : l[k]? = some x) : countV (l.take (k + 1)) t = countV (l.take k) t + (if x = t then 1 else 0) := by
  unfold countV
  rw [List.take_add_one, hx, Option.toList_some, List.countP_append]
  by_cases h : x = t <;> simp [h]
set_option maxHeartbeats 2000000 in
set_option maxRecDepth 100000 in
theorem tcount_any (M : Nat → Prop) (w : World) (hM : ∀ b, M b → b < w.heap.size) (A : Option Addr) (n c : Nat) (xs : List Sl) (B : Option Addr) (m d : Nat) (ys : List Vl) (hD : Ro w M (SlsIn A n xs)) (hE : Ro w M (VlsIn B m ys)) (hn : n ≤ 4398046511104) (hr : ∀ r ∈ xs, r.n ≤ 4398046511104) :
    Calls Tryd.prog 34 #[.slice A n c, .slice B m d] w fun e w' => e = .returned (.int .i64 (countV (xs.map Sl.vs) ys)) ∧ Below w.heap.size w w' := by
  have HL := hid hD.now.len
  have K0 := ((Hold.start M w hM).add (hE.less (by simp [Mut]))).add (hD.less (by simp [Mut, Hp.foot]))
  clear hD hE
  go_enter Tryd.func34, Tryd.ntmps34
  go_wp2_with fail
  go_loopw [5, 10] (fun sv iv wr => ∃ (k q : Nat), k ≤ n ∧ q ≤ k ∧ sv = .int .i64 q ∧ iv = .int .i64 k ∧ Hid (q = countV ((xs.map Sl.vs).take k) ys) ∧ Hold M none w wr [.ro (SlsIn A n xs), .ro (VlsIn B m ys)]) (fun _ iv _ => n - (intOf iv).toNat)
  case atStart => exact ⟨0, 0, by omega, by omega, rfl, rfl, hid (by simp [countV]), K0⟩
  case round =>
    clear K0
    obtain ⟨k, q, hk, hq, rfl, rfl, HC, H⟩ := hrel
    by_cases hlt : k < n
    · have hd : decide ((k : Int) < (n : Int)) = true := by simp; omega
      have i0 : (0 : Int) ≤ (k : Int) := by omega
      have i1 : (k : Int) < (n : Int) := by omega
      obtain ⟨x, hx⟩ := get_of HL.out hlt
      have hxn := hr x (List.mem_of_getElem? hx)
      have HX := hid (show (xs.map Sl.vs)[k]? = some x.vs by simp [hx])
      obtain ⟨g, o, rfl, hbx, x0, hvx⟩ := (H.ro 0 rfl).now.at_ hx
      have HVX := hid hvx
      clear hx hvx
      go_wp2_with fail
      refine (eqVls_any _ x.A x.n x.c x.vs B m d ys HVX.out (H.ro 1 rfl).now hxn).mono ?_
      rintro e w3 ⟨rfl, q3, rfl⟩
      have K3 := H.drewN q3
      clear H
      by_cases hb : x.vs = ys
      · have HN := hid (show q + 1 = countV ((xs.map Sl.vs).take (k + 1)) ys by rw [countV_step HX.out, if_pos hb, ← HC.out])
        rw [decide_eq_true hb]
        clear hb
        go_wp2_with fail
        go_roundw
        case rel => exact ⟨k + 1, q + 1, by omega, by omega, by go_num, by go_num, HN, K3⟩
        case measure => simp [intOf]; omega
      · have HN := hid (show q = countV ((xs.map Sl.vs).take (k + 1)) ys by rw [countV_step HX.out, if_neg hb, ← HC.out]; rfl)
        rw [decide_eq_false hb]
        clear hb
        go_wp2_with fail
        go_roundw
        case rel => exact ⟨k + 1, q, by omega, by omega, by first | rfl | go_num, by go_num, HN, K3⟩
        case measure => simp [intOf]; omega
    · obtain rfl : n = k := by omega
      have hd : decide ((n : Int) < (n : Int)) = false := by simp
      have HN := hid (show countV (xs.map Sl.vs) ys = q by
        rw [HC.out, List.take_of_length_le (by rw [List.length_map, HL.out]; exact Nat.le_refl _)])
      go_wp2_with fail
      go_ret
      exact ⟨by rw [HN.out] <;> rfl, H.below⟩
end Go.Proofs.YtjpgbhakkfgecaaDoor

namespace Go.Proofs.YtjpgbhakkfgecaaDoor
open Go.RowKit
set_option linter.unusedVariables false
set_option linter.unusedSimpArgs false

/-- one list without the other, both sorted -/
def minL : List (List Vl) → List (List Vl) → List (List Vl)
  | [], _ => []
  | t :: x, g => match g.dropWhile (fun s => decide (rowC s t < 0)) with
    | [] => t :: minL x []
    | s :: g' => if rowC s t = 0 then minL x g' else t :: minL x (s :: g')
def minusV (a b : List (List Vl)) : List (List Vl) := minL (sortV a) (sortV b)
section
variable {a b : List (List Vl)} {k p : Nat} {t s : List Vl}
theorem minL_skip (ht : a[k]? = some t) (hs : b[p]? = some s) (h : rowC s t < 0) : minL (a.drop k) (b.drop p) = minL (a.drop k) (b.drop (p + 1)) := by
  rw [drop_cons ht, drop_cons hs, minL, List.dropWhile_cons, if_pos (by simpa using h), minL]
theorem minL_both (ht : a[k]? = some t) (hs : b[p]? = some s) (h : rowC s t = 0) : minL (a.drop k) (b.drop p) = minL (a.drop (k + 1)) (b.drop (p + 1)) := by
  rw [drop_cons ht, drop_cons hs, minL, List.dropWhile_cons, if_neg (by simp [h])]
  simp only [h, if_true]
theorem minL_keep (ht : a[k]? = some t) (hs : ∀ s, b[p]? = some s → ¬ rowC s t < 0 ∧ ¬ rowC s t = 0) : minL (a.drop k) (b.drop p) = t :: minL (a.drop (k + 1)) (b.drop p) := by
  rw [drop_cons ht, minL]
  cases hb : b.drop p with
  | nil => rfl
  | cons s g =>
    have h1 : b[p]? = some s := by
      have := congrArg (·[0]?) hb
      simpa using this
    obtain ⟨h2, h3⟩ := hs s h1
    rw [List.dropWhile_cons, if_neg (by simpa using h2)]
    simp only [h3, if_false]
end
theorem tail_sls {A : Option Addr} {n : Nat} {x : Sl} {l : List Sl} {w : World} (h : SlsIn A n (x :: l) w) : ∃ b o, A = some ⟨b, o, none⟩ ∧ SlsIn (some ⟨b, o + 1, none⟩) (n - 1) l w := by
  have hl := h.len
  simp only [List.length_cons] at hl
  obtain ⟨b, o, e, hb, hc⟩ := (show Rd w w.heap.size 1 A n (slCells (x :: l)) from h.1).2 (by omega)
  refine ⟨b, o, e, ⟨by rw [slCells_len]; omega, fun _ => ⟨b, o + 1, rfl, hb, fun j u hu => ?_⟩⟩, fun r hr => h.2 r (List.mem_cons_of_mem _ hr)⟩
  have h2 := hc (j + 1) u (by
    have e0 : slCells (x :: l) = x.cells ++ slCells l := by simp [slCells]
    rw [e0, List.getElem?_append_right (by simp [Sl.cells])]
    simpa [Sl.cells] using hu)
  rw [← h2]
  congr 2
  omega
theorem Ro.tailSls {w : World} {M : Nat → Prop} {A : Option Addr} {n : Nat} {x : Sl} {l : List Sl} (h : Ro w M (SlsIn A n (x :: l))) : ∃ b o, A = some ⟨b, o, none⟩ ∧ Ro w M (SlsIn (some ⟨b, o + 1, none⟩) (n - 1) l) := by
  obtain ⟨b, o, e, _⟩ := tail_sls h.now
  refine ⟨b, o, e, fun w2 h1 h2 => ?_⟩
  obtain ⟨b', o', e', h3⟩ := tail_sls (h w2 h1 h2)
  rw [e] at e'
  injection e' with e'
  injection e' with e1 e2
  subst e1; subst e2
  exact h3
theorem Ro.nilSls {w : World} {M : Nat → Prop} {A : Option Addr} {n : Nat} {l : List Sl} (hn : n = 0) (hl : l = []) : Ro w M (SlsIn A n l) := fun w2 _ _ => by
  subst hn; subst hl
  exact ⟨⟨rfl, fun h => absurd h (by omega)⟩, fun r hr => nomatch hr⟩
theorem mut_sub {M : Nat → Prop} {L L' : List Hp} (h : List.Sublist L' L) : ∀ b, Mut M L' b → Mut M L b := fun b hb => hb.imp id fun ⟨k, hk, hf⟩ => ⟨k, h.subset hk, hf⟩
/-- the length of a slice -/
def slLen : Value → Nat | .slice _ n _ => n | _ => 0
set_option maxHeartbeats 8000000 in
set_option maxRecDepth 100000 in
theorem tminus_any (M : Nat → Prop) (w : World) (hM : ∀ b, M b → b < w.heap.size) (A : Option Addr) (n c : Nat) (xs : List Sl) (B : Option Addr) (m d : Nat) (ys : List Sl) (hD : Ro w M (SlsIn A n xs)) (hE : Ro w M (SlsIn B m ys)) (hn : n ≤ 4398046511104) (hm : m ≤ 4398046511104) (hr : ∀ r ∈ xs, r.n ≤ 4398046511104) (hs : ∀ r ∈ ys, r.n ≤ 4398046511104) (hox : ∀ r ∈ xs, r.ok) (hoy : ∀ r ∈ ys, r.ok) :
    Calls Tryd.prog 32 #[.slice A n c, .slice B m d] w fun e w' => SlsRet w M (minusV (xs.map Sl.vs) (ys.map Sl.vs)) e w' := by
  have HL := hid hD.now.len
  have HQ := hid (And.intro hr (And.intro hs (And.intro hox hoy)))
  have K0 := ((Hold.start M w hM).add (hE.less (by simp [Mut]))).add (hD.less (by simp [Mut, Hp.foot]))
  clear hD hE hr hs hox hoy
  go_enter Tryd.func32, Tryd.ntmps32
  go_wp2_with fail
  refine (tsort_any _ _ K0.mutLt B m d ys (K0.ro 1 rfl) hm HQ.out.2.1 HQ.out.2.2.2).mono ?_
  rintro e w1 ⟨A2, n2, c2, lb, rfl, h21, h22, r1, o1, m1, e1, b1⟩
  have K1 := (K0.call b1).add r1
  have HBN := hid m1
  have HBE := hid e1
  clear K0 b1 r1 o1 m1 e1
  go_wp2_with fail
  refine (tsort_any _ _ K1.mutLt A n c xs (K1.ro 1 rfl) hn HQ.out.1 HQ.out.2.2.1).mono ?_
  rintro e w2 ⟨A1, n1, c1, la, rfl, h11, h12, r2, o2, m2, e2, b2⟩
  have K2 := (K1.call b2).add r2
  have HAO := hid o2
  have HAN := hid m2
  have HAE := hid e2
  clear K1 b2 r2 o2 m2 e2
  have HAL := hid (show la.length = n1 from (K2.ro 0 rfl).now.len)
  have HBL := hid (show lb.length = n2 from (K2.ro 1 rfl).now.len)
  have hn1 : n1 ≤ 4398046511104 := by
    have h2 := congrArg List.length HAE.out
    rw [List.length_map, sortV_len, List.length_map] at h2
    have := HL.out
    have := HAL.out
    omega
  have K3 : Hold M none w w2 [.ro (SlsIn A2 n2 (lb.drop 0)), .own 51 1 (.slice none 0 0) 0 (slCells []), .ro (SlVals [] ), .ro (SlsIn A1 n1 la), .ro (SlsIn A n xs), .ro (SlsIn B m ys)] := ((((K2.add (show Ro w2 _ (SlsIn A2 n2 (lb.drop 0)) from K2.ro 1 rfl)).add (show Ro w2 _ (SlVals []) from fun _ _ _ r hr => nomatch hr)).nil 51 1).perm (List.perm_middle (l₁ := [_, _]))).drop (List.Sublist.cons_cons _ (List.Sublist.cons_cons _ (List.Sublist.cons_cons _ (List.Sublist.cons_cons _ (List.sublist_cons_self _ _)))))
  clear K2
  go_wp2_with fail
  go_loopw [5, 6, 14] (fun gv ov iv wr => ∃ (k p np cp q cq : Nat) (Ap O : Option Addr) (lo : List Sl), k ≤ n1 ∧ gv = .slice Ap np cp ∧ ov = .slice O q cq ∧ iv = .int .i64 k ∧ Hid (np + p = n2) ∧ np ≤ cp ∧ cp ≤ 9223372036854775807 ∧ q ≤ k ∧ Hid (minL (la.map Sl.vs) (lb.map Sl.vs) = lo.map Sl.vs ++ minL ((la.map Sl.vs).drop k) ((lb.map Sl.vs).drop p)) ∧ Hid (∀ s ∈ lo, s.ok) ∧ Hid (∀ s ∈ lo, s.n ≤ 4398046511104) ∧ Hold M none w wr [.ro (SlsIn Ap np (lb.drop p)), .own 51 1 (.slice O q cq) q (slCells lo), .ro (SlVals lo), .ro (SlsIn A1 n1 la), .ro (SlsIn A n xs), .ro (SlsIn B m ys)]) (fun _ _ iv _ => n1 - (intOf iv).toNat)
  case atStart => exact ⟨0, 0, n2, c2, 0, 0, A2, none, [], by omega, rfl, rfl, rfl, hid (by omega), h21, h22, by omega, hid rfl, hid (fun s hs => nomatch hs), hid (fun s hs => nomatch hs), K3⟩
  case round =>
    clear K3
    obtain ⟨k, p, np, cp, q, cq, Ap, O, lo, hk, rfl, rfl, rfl, HNP, hncp, hcp, hq, HM, HOO, HNO, H⟩ := hrel
    by_cases hlt : k < n1
    · have hd : decide ((k : Int) < (n1 : Int)) = true := by simp; omega
      have i0 : (0 : Int) ≤ (k : Int) := by omega
      have i1 : (k : Int) < (n1 : Int) := by omega
      obtain ⟨t, ht⟩ := get_of HAL.out hlt
      have htv : Ro wr _ (VlsIn t.A t.n t.vs) := (H.ro 3 rfl).imp fun w2 h2 => h2.2 t (List.mem_of_getElem? ht)
      obtain ⟨bt, ot, rfl, hbt, t0, _⟩ := (H.ro 3 rfl).now.at_ ht
      have HTT := hid (show (la.map Sl.vs)[k]? = some t.vs by simp [ht])
      have HTO := hid (HAO.out t (List.mem_of_getElem? ht))
      have HTN := hid (HAN.out t (List.mem_of_getElem? ht))
      obtain ⟨tA, tn, tc, tvs⟩ := t
      dsimp only at *
      clear ht
      have K4 := (H.add htv).sinkN 1
      simp only [List.take_succ_cons, List.take_zero, List.drop_succ_cons, List.drop_zero, List.cons_append, List.nil_append] at K4
      clear H htv
      go_wp2_with fail
      clear t0
      go_loopw [5] (fun gv wq => ∃ (p np cp : Nat) (Ap : Option Addr), Hid (np + p = n2) ∧ gv = .slice Ap np cp ∧ np ≤ cp ∧ cp ≤ 9223372036854775807 ∧ Hid (minL (la.map Sl.vs) (lb.map Sl.vs) = lo.map Sl.vs ++ minL ((la.map Sl.vs).drop k) ((lb.map Sl.vs).drop p)) ∧ Hold M none w wq [.ro (SlsIn Ap np (lb.drop p)), .ro (VlsIn tA tn tvs), .own 51 1 (.slice O q cq) q (slCells lo), .ro (SlVals lo), .ro (SlsIn (some ⟨bt, ot, none⟩) n1 la), .ro (SlsIn A n xs), .ro (SlsIn B m ys)]) (fun gv _ => slLen gv)
      case atStart => exact ⟨p, np, cp, Ap, HNP, rfl, hncp, hcp, HM, K4⟩
      case round =>
        clear K4 HM HNP hncp hcp
        obtain ⟨p, np, cp, Ap, HNP, rfl, hncp, hcp, HM, H⟩ := hrel
        by_cases h0 : 0 < np
        · have z0 : decide ((np : Int) > 0) = true := by rw [decide_eq_true_iff]; omega
          have z1 : (0 : Int) < (np : Int) := by omega
          obtain ⟨s, hs⟩ := get_of HBL.out (show p < n2 by have := HNP.out; omega)
          have HSS := hid (show (lb.map Sl.vs)[p]? = some s.vs by simp [hs])
          have HSN := hid (HBN.out s (List.mem_of_getElem? hs))
          have hdr := drop_cons hs
          have hbf : Ro wr _ (SlsIn Ap np (s :: lb.drop (p + 1))) := (H.ro 0 rfl).imp fun w2 h2 => by rw [← hdr]; exact h2
          obtain ⟨bx, ox, rfl, hnxt⟩ := hbf.tailSls
          obtain ⟨b', o', e', hbx', x0, _⟩ := hbf.now.at_ (k := 0) rfl
          obtain ⟨rfl, rfl⟩ : bx = b' ∧ ox = o' := by injection e' with e'; injection e' with e1 e2; exact ⟨e1, e2⟩
          simp only [Nat.add_zero] at x0
          have hsv : Ro wr _ (VlsIn s.A s.n s.vs) := hbf.imp fun w2 h2 => h2.2 _ (List.mem_cons_self ..)
          obtain ⟨sA, sn, sc, svs⟩ := s
          dsimp only at *
          have HDR := hid hdr
          clear hs hdr hbf e'
          have hcmp := vcmprows_gr wr sA sn sc svs tA tn tc tvs (hsv.less (fun b hb => hb.elim)) ((H.ro 1 rfl).less (fun b hb => hb.elim)) (by have := HSN.out; omega) (by have := HTN.out; omega)
          obtain ⟨r, hr0⟩ : ∃ r, r = rowC svs tvs := ⟨_, rfl⟩
          rw [← hr0] at hcmp
          have HRR := hid hr0
          have HCM := hid hcmp
          clear hr0 hcmp hsv
          have hnx0 : Ro wr _ (SlsIn (some ⟨bx, ox + 1, none⟩) (np - 1) (lb.drop (p + 1))) := hnxt
          by_cases hlt2 : r < 0
          · have z2 : decide (r < 0) = true := decide_eq_true hlt2
            have HN := hid (show minL (la.map Sl.vs) (lb.map Sl.vs) = lo.map Sl.vs ++ minL ((la.map Sl.vs).drop k) ((lb.map Sl.vs).drop (p + 1)) by rw [HM.out, minL_skip HTT.out HSS.out (by rw [← HRR.out]; exact hlt2)])
            clear hlt2 hnx0
            go_wp2_with fail
            refine HCM.out.mono ?_
            rintro e w5 ⟨rfl, g5⟩
            have H2 := H.call g5.below
            replace hnxt := g5.ro hnxt
            clear H g5
            by_cases hc1 : cp = 1
            · have HZ := hid (show lb.drop (p + 1) = [] from List.drop_of_length_le (by rw [HBL.out]; have := HNP.out; omega))
              have KX := H2.swapRo 0 rfl (Ro.nilSls (A := some ⟨bx, ox, none⟩) (n := np - 1) (l := lb.drop (p + 1)) (by omega) HZ.out)
              simp only [List.set_cons_zero, List.set_cons_succ] at KX
              clear H2 hnxt
              go_wp2_with fail
              go_roundw
              case rel => exact ⟨p + 1, np - 1, 0, (some ⟨bx, ox, none⟩), hid (by have := HNP.out; omega), by first | rfl | (simp <;> omega), by omega, by omega, HN, KX⟩
              case measure => simp [slLen] <;> omega
            · have KX := H2.swapRo 0 rfl hnxt
              simp only [List.set_cons_zero, List.set_cons_succ] at KX
              clear H2 hnxt
              go_wp2_with fail
              go_roundw
              case rel => exact ⟨p + 1, np - 1, (cp - 1), (some ⟨bx, ox + 1, none⟩), hid (by have := HNP.out; omega), by first | rfl | (simp <;> omega), by omega, by omega, HN, KX⟩
              case measure => simp [slLen] <;> omega
          · have z2 : decide (r < 0) = false := decide_eq_false hlt2
            have HNL := hid hlt2
            clear hlt2 hnx0
            go_wp2_with fail
            refine HCM.out.mono ?_
            rintro e w5 ⟨rfl, g5⟩
            have H2 := H.call g5.below
            replace hnxt := g5.ro hnxt
            clear H
            have x1 : w5.cell? ⟨bx, ox, none⟩ = some (.slice sA sn sc) := (World.cell?_of_block (g5.block hbx')).trans x0
            have hbx5 : bx < w5.heap.size := Nat.lt_of_lt_of_le hbx' g5.size
            clear x0 hbx' g5
            have hsv : Ro w5 _ (VlsIn sA sn svs) := (H2.ro 0 rfl).imp fun w2 h2 => by rw [HDR.out] at h2; exact h2.2 _ (List.mem_cons_self ..)
            have hcmp := vcmprows_gr w5 sA sn sc svs tA tn tc tvs (hsv.less (fun b hb => hb.elim)) ((H2.ro 1 rfl).less (fun b hb => hb.elim)) (by have := HSN.out; omega) (by have := HTN.out; omega)
            rw [← HRR.out] at hcmp
            have HCM2 := hid hcmp
            clear hcmp hsv HCM
            by_cases hz : r = 0
            · have z3 : (r == 0) = true := by simp [hz]
              have HN := hid (show minL (la.map Sl.vs) (lb.map Sl.vs) = lo.map Sl.vs ++ minL ((la.map Sl.vs).drop (k + 1)) ((lb.map Sl.vs).drop (p + 1)) by rw [HM.out, minL_both HTT.out HSS.out (by rw [← HRR.out]; exact hz)])
              clear hz
              go_wp2_with fail
              refine HCM2.out.mono ?_
              rintro e w6 ⟨rfl, g6⟩
              have H3 := (H2.call g6.below).drop (List.Sublist.cons_cons _ (List.sublist_cons_self _ _))
              have hnx6 := g6.ro hnxt
              replace hnxt : Ro w6 (Mut M [.ro (SlsIn (some ⟨bx, ox, none⟩) np (lb.drop p)), .own 51 1 (.slice O q cq) q (slCells lo), .ro (SlVals lo), .ro (SlsIn (some ⟨bt, ot, none⟩) n1 la), .ro (SlsIn A n xs), .ro (SlsIn B m ys)]) (SlsIn (some ⟨bx, ox + 1, none⟩) (np - 1) (lb.drop (p + 1))) := hnx6.less (mut_sub (List.Sublist.cons_cons _ (List.sublist_cons_self _ _)))
              clear H2 g6 hnx6
              by_cases hc1 : cp = 1
              · have HZ := hid (show lb.drop (p + 1) = [] from List.drop_of_length_le (by rw [HBL.out]; have := HNP.out; omega))
                have KX := H3.swapRo 0 rfl (Ro.nilSls (A := some ⟨bx, ox, none⟩) (n := np - 1) (l := lb.drop (p + 1)) (by omega) HZ.out)
                simp only [List.set_cons_zero, List.set_cons_succ] at KX
                clear H3 hnxt
                go_wp2_with fail
                go_roundw
                case rel => exact ⟨k + 1, p + 1, np - 1, 0, q, cq, (some ⟨bx, ox, none⟩), O, lo, by omega, by first | rfl | (simp <;> omega), rfl, by first | rfl | go_num, hid (by have := HNP.out; omega), by omega, by omega, by omega, HN, HOO, HNO, KX⟩
                case measure => simp [intOf]; omega
              · have KX := H3.swapRo 0 rfl hnxt
                simp only [List.set_cons_zero, List.set_cons_succ] at KX
                clear H3 hnxt
                go_wp2_with fail
                go_roundw
                case rel => exact ⟨k + 1, p + 1, np - 1, (cp - 1), q, cq, (some ⟨bx, ox + 1, none⟩), O, lo, by omega, by first | rfl | (simp <;> omega), rfl, by first | rfl | go_num, hid (by have := HNP.out; omega), by omega, by omega, by omega, HN, HOO, HNO, KX⟩
                case measure => simp [intOf]; omega
            · have z3 : (r == 0) = false := by simpa using hz
              have HN := hid (show minL (la.map Sl.vs) (lb.map Sl.vs) = (lo ++ [(⟨tA, tn, tc, tvs⟩ : Sl)]).map Sl.vs ++ minL ((la.map Sl.vs).drop (k + 1)) ((lb.map Sl.vs).drop p) by rw [HM.out, minL_keep HTT.out (fun s hs => by rw [HSS.out] at hs; injection hs with hs; subst hs; rw [← HRR.out]; exact ⟨by have := HNL.out; omega, hz⟩), List.map_append, List.append_assoc]; rfl)
              clear hz
              go_wp2_with fail
              refine HCM2.out.mono ?_
              rintro e w6 ⟨rfl, g6⟩
              have KY := (H2.call g6.below).perm (List.Perm.swap _ _ _)
              clear H2 g6 hnxt
              have HCE := hid (show slCells lo ++ (#[Value.slice tA tn tc]).toList = slCells (lo ++ [⟨tA, tn, tc, tvs⟩]) by simp [slCells, Sl.cells])
              go_wp2_with (at_builtin; go_must (refine wpList_appH KY 2 rfl Tryd.elSlc #[.slice tA tn tc] rfl (.tmp 44) (.tmp 46) rfl rfl w6.heap.size (by first | rfl | simp) rfl rfl (by intro u hu; simp at hu; rcases hu with rfl; rfl) (by omega) (by omega) ?_); intro g9 cap9 w9 hc9 hm9 KB; rw [HCE.out] at KB; simp only [List.set_cons_zero, List.set_cons_succ] at KB)
              have KC := (KB.swapRo 3 rfl (sls_snoc (r := ⟨tA, tn, tc, tvs⟩) (KB.ro 3 rfl) (KB.ro 0 rfl))).drop (List.sublist_cons_self _ _)
              have HN2 := hid (okSnoc (P := Sl.ok) (x := (⟨tA, tn, tc, tvs⟩ : Sl)) HOO.out HTO.out)
              have HN3 := hid (okSnoc (P := fun s : Sl => s.n ≤ 4398046511104) (x := (⟨tA, tn, tc, tvs⟩ : Sl)) HNO.out HTN.out)
              go_roundw
              case rel => exact ⟨k + 1, p, np, cp, q + 1, cap9, _, _, _, by omega, rfl, by first | rfl | go_num, by first | rfl | go_num, HNP, by omega, by omega, by omega, HN, HN2, HN3, KC⟩
              case measure => simp [intOf]; omega
        · obtain rfl : np = 0 := by omega
          have z0 : decide ((0 : Int) > 0) = false := by decide
          have HN := hid (show minL (la.map Sl.vs) (lb.map Sl.vs) = (lo ++ [(⟨tA, tn, tc, tvs⟩ : Sl)]).map Sl.vs ++ minL ((la.map Sl.vs).drop (k + 1)) ((lb.map Sl.vs).drop p) by rw [HM.out, minL_keep HTT.out (fun s hs => by have h1 := (List.getElem?_eq_some_iff.1 hs).1; rw [List.length_map, HBL.out] at h1; have := HNP.out; omega), List.map_append, List.append_assoc]; rfl)
          have KY := H.perm (List.Perm.swap _ _ _)
          clear H
          have HCE := hid (show slCells lo ++ (#[Value.slice tA tn tc]).toList = slCells (lo ++ [⟨tA, tn, tc, tvs⟩]) by simp [slCells, Sl.cells])
          go_wp2_with (at_builtin; go_must (refine wpList_appH KY 2 rfl Tryd.elSlc #[.slice tA tn tc] rfl (.tmp 44) (.tmp 46) rfl rfl wr.heap.size (by first | rfl | simp) rfl rfl (by intro u hu; simp at hu; rcases hu with rfl; rfl) (by omega) (by omega) ?_); intro g9 cap9 w9 hc9 hm9 KB; rw [HCE.out] at KB; simp only [List.set_cons_zero, List.set_cons_succ] at KB)
          have KC := (KB.swapRo 3 rfl (sls_snoc (r := ⟨tA, tn, tc, tvs⟩) (KB.ro 3 rfl) (KB.ro 0 rfl))).drop (List.sublist_cons_self _ _)
          have HN2 := hid (okSnoc (P := Sl.ok) (x := (⟨tA, tn, tc, tvs⟩ : Sl)) HOO.out HTO.out)
          have HN3 := hid (okSnoc (P := fun s : Sl => s.n ≤ 4398046511104) (x := (⟨tA, tn, tc, tvs⟩ : Sl)) HNO.out HTN.out)
          go_roundw
          case rel => exact ⟨k + 1, p, 0, cp, q + 1, cap9, _, _, _, by omega, rfl, by first | rfl | go_num, by first | rfl | go_num, HNP, by omega, by omega, by omega, HN, HN2, HN3, KC⟩
          case measure => simp [intOf]; omega
    · obtain rfl : n1 = k := by omega
      have hd : decide ((n1 : Int) < (n1 : Int)) = false := by simp
      have HF := hid (show lo.map Sl.vs = minusV (xs.map Sl.vs) (ys.map Sl.vs) by
        have h := HM.out
        rw [List.drop_of_length_le (show (la.map Sl.vs).length ≤ n1 by rw [List.length_map, HAL.out]; exact Nat.le_refl _), minL, List.append_nil] at h
        rw [← h, HAE.out, HBE.out]; rfl)
      obtain ⟨hc1, hc2, _⟩ := own_caps (H.get 1 rfl)
      have KS := H.sealRow 1 rfl
      simp only [List.set_cons_zero, List.set_cons_succ] at KS
      have r1 := (KS.roOut 1 rfl).and (KS.roOut 2 rfl)
      go_wp2_with fail
      go_ret
      exact ⟨O, q, cq, lo, rfl, hc1, hc2, r1, HOO.out, HNO.out, HF.out, KS.below⟩
end Go.Proofs.YtjpgbhakkfgecaaDoor

namespace Go.Proofs.YtjpgbhakkfgecaaDoor
open Go.RowKit
set_option linter.unusedVariables false
set_option linter.unusedSimpArgs false

def numV (z : Int) : Vl := ⟨1, z, ⟨#[]⟩⟩
set_option maxHeartbeats 2000000 in
set_option maxRecDepth 100000 in
theorem lrow_any (M : Nat → Prop) (w : World) (hM : ∀ b, M b → b < w.heap.size) (g : Nat) (z : Int) (hg : Ro w M (fun w => w.heap[g]? = some (.cells #[.int .i64 z] 2 (0, 0)))) :
    Calls Tryd.prog 71 #[.slice (some ⟨g, 0, none⟩) 1 1] w fun e w' => RowRet 3 (vlCells [numV z]) 1 w M e w' := by
  have K0 := ((Hold.start M w hM).add (hg.less (by simp [Mut]))).nil 71 3
  clear hg
  go_enter Tryd.func71, Tryd.ntmps71
  go_wp2_with fail
  go_loopw [3, 8] (fun ov iv wr => ∃ (k cap : Nat) (C : Option Addr), k ≤ 1 ∧ ov = .slice C k cap ∧ iv = .int .i64 k ∧ Hold M none w wr [.own 71 3 (.slice C k cap) k (vlCells ([numV z].take k)), .ro (fun w => w.heap[g]? = some (.cells #[.int .i64 z] 2 (0, 0)))]) (fun _ iv _ => 1 - (intOf iv).toNat)
  case atStart => exact ⟨0, 0, none, by omega, rfl, rfl, K0⟩
  case round =>
    clear K0
    obtain ⟨k, cap, C, hk, rfl, rfl, H⟩ := hrel
    rcases (show k = 0 ∨ k = 1 by omega) with rfl | rfl
    · have hd : decide (((0 : Nat) : Int) < 1) = true := by decide
      have hb := (H.ro 1 rfl).now
      have c0 := cell_of_row _ _ 0 _ _ _ hb
      have hgl : g < wr.heap.size := Blk.lt hb
      clear hb
      have HCE := hid (show vlCells ([numV z].take 0) ++ (#[Value.int .i64 1, .int .i64 z, .string ⟨#[]⟩]).toList = vlCells ([numV z].take (0 + 1)) by simp [vlCells, numV, Vl.cells])
      go_wp2_with fail
      refine (num_any z _).mono ?_
      rintro e w2 ⟨rfl, b2⟩
      have H := H.call b2
      clear c0 hgl b2
      go_wp2_with (at_builtin; go_must (refine wpList_appH H 0 rfl Tryd.elVl #[.int .i64 1, .int .i64 z, .string ⟨#[]⟩] rfl (.tmp 12) (.tmp 15) rfl rfl _ (by first | rfl | simp) rfl rfl (by intro u hu; simp at hu; rcases hu with rfl | rfl | rfl <;> rfl) (by omega) (by omega) ?_); intro g9 cap9 w9 hc9 hm9 KB; rw [HCE.out] at KB; simp only [List.set_cons_zero, List.set_cons_succ] at KB)
      go_roundw
      case rel => exact ⟨0 + 1, cap9, _, by omega, rfl, by first | rfl | go_num, KB⟩
      case measure => simp [intOf]
    · have hd : decide (((1 : Nat) : Int) < 1) = false := by decide
      obtain ⟨hc1, hc2, _⟩ := own_caps (H.get 0 rfl)
      have KS := H.sealRow 0 rfl
      simp only [List.set_cons_zero] at KS
      have r1 := KS.roOut 0 rfl
      go_wp2_with fail
      go_ret
      exact ⟨C, 1, cap, rfl, rfl, hc1, hc2, r1, KS.below⟩
theorem rowC_num (a b : Int) : rowC [numV a] [numV b] = cmpI a b := by
  have h1 := (linI.eq 1 1).2 rfl
  have h2 := (linS.eq ⟨#[]⟩ ⟨#[]⟩).2 rfl
  by_cases h : cmpI a b = 0 <;> simp [rowC, cmpVl, cmpV, numV, firstNZ, h1, h2, h]
theorem minus5 : minusV [[numV 2], [numV 1], [numV 1]] [[numV 1], [numV 3]] = [[numV 1], [numV 2]] := by
  simp [minusV, sortV, insV, minL, rowC_num, cmpI]
theorem sls_2 {a b : Sl} {w : World} (h : VlsIn a.A a.n a.vs w) (k : VlsIn b.A b.n b.vs w) : ∀ r ∈ [a, b], VlsIn r.A r.n r.vs w := fun r hr => by
  simp only [List.mem_cons, List.not_mem_nil, or_false] at hr
  rcases hr with rfl | rfl
  · exact h
  · exact k
theorem sls_3 {a b c : Sl} {w : World} (h : VlsIn a.A a.n a.vs w) (k : VlsIn b.A b.n b.vs w) (l : VlsIn c.A c.n c.vs w) : ∀ r ∈ [a, b, c], VlsIn r.A r.n r.vs w := fun r hr => by
  simp only [List.mem_cons, List.not_mem_nil, or_false] at hr
  rcases hr with rfl | rfl | rfl
  · exact h
  · exact k
  · exact l
theorem numOk {z : Int} (h : I64 z) : ∀ v ∈ [numV z], v.ok := fun v hv => by
  simp at hv
  subst hv
  exact ⟨(show (-9223372036854775808:Int) ≤ 1 ∧ (1:Int) ≤ 9223372036854775807 by omega), h, Nat.zero_le _⟩
theorem slOk2 {A B : Option Addr} {c d : Nat} {x y : Int} (h1 : 1 ≤ c) (h2 : c ≤ 9223372036854775807) (k1 : 1 ≤ d) (k2 : d ≤ 9223372036854775807) (hx : I64 x := by unfold I64; decide) (hy : I64 y := by unfold I64; decide) : ∀ s ∈ [(⟨A, 1, c, [numV x]⟩ : Sl), ⟨B, 1, d, [numV y]⟩], s.ok := fun s hs => by
  simp only [List.mem_cons, List.not_mem_nil, or_false] at hs
  rcases hs with rfl | rfl
  · exact ⟨h1, h2, numOk hx⟩
  · exact ⟨k1, k2, numOk hy⟩
theorem slOk3 {A B C : Option Addr} {c d e : Nat} {x y z : Int} (h1 : 1 ≤ c) (h2 : c ≤ 9223372036854775807) (k1 : 1 ≤ d) (k2 : d ≤ 9223372036854775807) (l1 : 1 ≤ e) (l2 : e ≤ 9223372036854775807) (hx : I64 x := by unfold I64; decide) (hy : I64 y := by unfold I64; decide) (hz : I64 z := by unfold I64; decide) : ∀ s ∈ [(⟨A, 1, c, [numV x]⟩ : Sl), ⟨B, 1, d, [numV y]⟩, ⟨C, 1, e, [numV z]⟩], s.ok := fun s hs => by
  simp only [List.mem_cons, List.not_mem_nil, or_false] at hs
  rcases hs with rfl | rfl | rfl
  · exact ⟨h1, h2, numOk hx⟩
  · exact ⟨k1, k2, numOk hy⟩
  · exact ⟨l1, l2, numOk hz⟩
theorem slN2 {A B : Option Addr} {c d : Nat} {x y : List Vl} : ∀ s ∈ [(⟨A, 1, c, x⟩ : Sl), ⟨B, 1, d, y⟩], s.n ≤ 4398046511104 := fun s hs => by
  simp only [List.mem_cons, List.not_mem_nil, or_false] at hs
  rcases hs with rfl | rfl <;> (show (1 : Nat) ≤ _; omega)
theorem slN3 {A B C : Option Addr} {c d e : Nat} {x y z : List Vl} : ∀ s ∈ [(⟨A, 1, c, x⟩ : Sl), ⟨B, 1, d, y⟩, ⟨C, 1, e, z⟩], s.n ≤ 4398046511104 := fun s hs => by
  simp only [List.mem_cons, List.not_mem_nil, or_false] at hs
  rcases hs with rfl | rfl | rfl <;> (show (1 : Nat) ≤ _; omega)
set_option maxHeartbeats 4000000 in
set_option maxRecDepth 100000 in
theorem known5 : Gives 27 #[] (.bool true) := by
  intro w
  have K := Hold.begin_ w
  go_enter Tryd.func27, Tryd.ntmps27
  replace K := K.alloc_cst #[.int .i64 2] 2
  try simp only [World.size_alloc] at K
  go_wp2_with fail
  refine (lrow_any _ _ K.mutLt _ 2 (K.get 0 rfl)).mono ?_
  rintro e w1 ⟨A1, n1, c1, rfl, rfl, hc1, hd1, r1, e1⟩
  replace K := (K.call e1).add (show Ro w1 _ (VlsIn A1 1 [numV 2]) from r1)
  clear e1 r1
  replace K := K.alloc_cst #[.int .i64 1] 2
  try simp only [World.size_alloc] at K
  go_wp2_with fail
  refine (lrow_any _ _ K.mutLt _ 1 (K.get 0 rfl)).mono ?_
  rintro e w2 ⟨A2, n2, c2, rfl, rfl, hc2, hd2, r2, e2⟩
  replace K := (K.call e2).add (show Ro w2 _ (VlsIn A2 1 [numV 1]) from r2)
  clear e2 r2
  replace K := K.alloc_cst #[.int .i64 1] 2
  try simp only [World.size_alloc] at K
  go_wp2_with fail
  refine (lrow_any _ _ K.mutLt _ 1 (K.get 0 rfl)).mono ?_
  rintro e w3 ⟨A3, n3, c3, rfl, rfl, hc3, hd3, r3, e3⟩
  replace K := (K.call e3).add (show Ro w3 _ (VlsIn A3 1 [numV 1]) from r3)
  clear e3 r3
  replace K := K.alloc_cst #[.slice A1 1 c1, .slice A2 1 c2, .slice A3 1 c3] 51
  try simp only [World.size_alloc] at K
  replace K := K.alloc_cst #[.int .i64 1] 2
  try simp only [World.size_alloc] at K
  go_wp2_with fail
  refine (lrow_any _ _ K.mutLt _ 1 (K.get 0 rfl)).mono ?_
  rintro e w4 ⟨A4, n4, c4, rfl, rfl, hc4, hd4, r4, e4⟩
  replace K := (K.call e4).add (show Ro w4 _ (VlsIn A4 1 [numV 1]) from r4)
  clear e4 r4
  replace K := K.alloc_cst #[.int .i64 3] 2
  try simp only [World.size_alloc] at K
  go_wp2_with fail
  refine (lrow_any _ _ K.mutLt _ 3 (K.get 0 rfl)).mono ?_
  rintro e w5 ⟨A5, n5, c5, rfl, rfl, hc5, hd5, r5, e5⟩
  replace K := (K.call e5).add (show Ro w5 _ (VlsIn A5 1 [numV 3]) from r5)
  clear e5 r5
  replace K := K.alloc_cst #[.slice A4 1 c4, .slice A5 1 c5] 51
  try simp only [World.size_alloc] at K
  go_wp2_with fail
  have hX : Ro _ _ (SlsIn (some ⟨_, 0, none⟩) 3 [⟨A1, 1, c1, [numV 2]⟩, ⟨A2, 1, c2, [numV 1]⟩, ⟨A3, 1, c3, [numV 1]⟩]) := (ro_block (size := 1) (K.get 5 rfl) rfl).and (((K.ro 10 rfl).and ((K.ro 8 rfl).and (K.ro 6 rfl))).imp fun w h => sls_3 h.1 h.2.1 h.2.2)
  have hY : Ro _ _ (SlsIn (some ⟨_, 0, none⟩) 2 [⟨A4, 1, c4, [numV 1]⟩, ⟨A5, 1, c5, [numV 3]⟩]) := (ro_block (size := 1) (K.get 0 rfl) rfl).and (((K.ro 3 rfl).and (K.ro 1 rfl)).imp fun w h => sls_2 h.1 h.2)
  refine (tminus_any _ _ K.mutLt _ 3 3 [⟨A1, 1, c1, [numV 2]⟩, ⟨A2, 1, c2, [numV 1]⟩, ⟨A3, 1, c3, [numV 1]⟩] _ 2 2 [⟨A4, 1, c4, [numV 1]⟩, ⟨A5, 1, c5, [numV 3]⟩] hX hY (by omega) (by omega) (slN3) (slN2) (slOk3 hc1 hd1 hc2 hd2 hc3 hd3) (slOk2 hc4 hd4 hc5 hd5)).mono ?_
  rintro e w6 ⟨A6, n6, c6, l6, rfl, h61, h62, r6, o6, m6, e6, b6⟩
  replace K := (K.call b6).add r6
  clear hX hY b6 r6
  have HM := hid (show l6.map Sl.vs = [[numV 1], [numV 2]] from e6.trans minus5)
  have HMN := hid m6
  clear e6 m6 o6
  replace K := K.alloc_cst #[.int .i64 1] 2
  try simp only [World.size_alloc] at K
  go_wp2_with fail
  refine (lrow_any _ _ K.mutLt _ 1 (K.get 0 rfl)).mono ?_
  rintro e w7 ⟨A7, n7, c7, rfl, rfl, hc7, hd7, r7, e7⟩
  replace K := (K.call e7).add (show Ro w7 _ (VlsIn A7 1 [numV 1]) from r7)
  clear e7 r7
  replace K := K.alloc_cst #[.int .i64 2] 2
  try simp only [World.size_alloc] at K
  go_wp2_with fail
  refine (lrow_any _ _ K.mutLt _ 2 (K.get 0 rfl)).mono ?_
  rintro e w8 ⟨A8, n8, c8, rfl, rfl, hc8, hd8, r8, e8⟩
  replace K := (K.call e8).add (show Ro w8 _ (VlsIn A8 1 [numV 2]) from r8)
  clear e8 r8
  replace K := K.alloc_cst #[.slice A7 1 c7, .slice A8 1 c8] 51
  try simp only [World.size_alloc] at K
  go_wp2_with fail
  have hZ : Ro _ _ (SlsIn (some ⟨_, 0, none⟩) 2 [⟨A7, 1, c7, [numV 1]⟩, ⟨A8, 1, c8, [numV 2]⟩]) := (ro_block (size := 1) (K.get 0 rfl) rfl).and (((K.ro 3 rfl).and (K.ro 1 rfl)).imp fun w h => sls_2 h.1 h.2)
  have hn6 : n6 ≤ 4398046511204 := by have h1 := (K.ro 5 rfl).now.len; have h2 := congrArg List.length HM.out; rw [List.length_map] at h2; simp at h2; omega
  refine (sametuples_any _ _ K.mutLt A6 n6 c6 l6 _ 2 2 [⟨A7, 1, c7, [numV 1]⟩, ⟨A8, 1, c8, [numV 2]⟩] (K.ro 5 rfl) hZ hn6 HMN.out).mono ?_
  rintro e w9 ⟨rfl, b9⟩
  rw [show decide (l6.map Sl.vs = ([⟨A7, 1, c7, [numV 1]⟩, ⟨A8, 1, c8, [numV 2]⟩] : List Sl).map Sl.vs) = true from decide_eq_true (by rw [HM.out]; rfl)]
  replace K := K.call b9
  clear hZ b9 hn6
  replace K := K.alloc_cst #[.int .i64 1] 2
  try simp only [World.size_alloc] at K
  go_wp2_with fail
  refine (lrow_any _ _ K.mutLt _ 1 (K.get 0 rfl)).mono ?_
  rintro e w10 ⟨A10, n10, c10, rfl, rfl, hc10, hd10, r10, e10⟩
  replace K := (K.call e10).add (show Ro w10 _ (VlsIn A10 1 [numV 1]) from r10)
  clear e10 r10
  replace K := K.alloc_cst #[.int .i64 1] 2
  try simp only [World.size_alloc] at K
  go_wp2_with fail
  refine (lrow_any _ _ K.mutLt _ 1 (K.get 0 rfl)).mono ?_
  rintro e w11 ⟨A11, n11, c11, rfl, rfl, hc11, hd11, r11, e11⟩
  replace K := (K.call e11).add (show Ro w11 _ (VlsIn A11 1 [numV 1]) from r11)
  clear e11 r11
  replace K := K.alloc_cst #[.slice A10 1 c10, .slice A11 1 c11] 51
  try simp only [World.size_alloc] at K
  replace K := K.alloc_cst #[.int .i64 1] 2
  try simp only [World.size_alloc] at K
  go_wp2_with fail
  refine (lrow_any _ _ K.mutLt _ 1 (K.get 0 rfl)).mono ?_
  rintro e w12 ⟨A12, n12, c12, rfl, rfl, hc12, hd12, r12, e12⟩
  replace K := (K.call e12).add (show Ro w12 _ (VlsIn A12 1 [numV 1]) from r12)
  clear e12 r12
  go_wp2_with fail
  have hW : Ro _ _ (SlsIn (some ⟨_, 0, none⟩) 2 [⟨A10, 1, c10, [numV 1]⟩, ⟨A11, 1, c11, [numV 1]⟩]) := (ro_block (size := 1) (K.get 2 rfl) rfl).and (((K.ro 5 rfl).and (K.ro 3 rfl)).imp fun w h => sls_2 h.1 h.2)
  refine (tcount_any _ _ K.mutLt _ 2 2 [⟨A10, 1, c10, [numV 1]⟩, ⟨A11, 1, c11, [numV 1]⟩] A12 1 c12 [numV 1] hW (K.ro 0 rfl) (by omega) (slN2)).mono ?_
  rintro e w13 ⟨rfl, b13⟩
  rw [show (countV (([⟨A10, 1, c10, [numV 1]⟩, ⟨A11, 1, c11, [numV 1]⟩] : List Sl).map Sl.vs) [numV 1] : Int) = 2 by simp [countV]]
  replace K := K.call b13
  go_wp2_with fail
  go_ret
  exact ⟨by first | rfl | simp, K.below⟩
end Go.Proofs.YtjpgbhakkfgecaaDoor

namespace Go.Proofs.YtjpgbhakkfgecaaDoor
open Go.RowKit
set_option linter.unusedVariables false
set_option linter.unusedSimpArgs false

theorem okFrom_get {α : Type} {t : Nat → α → Bool} : ∀ (l : List α) (k : Nat), okFrom t k l = true → ∀ x ∈ l, ∃ j, t j x = true
  | [], k, h, x, hx => by simp at hx
  | y :: l, k, h, x, hx => by
    simp only [okFrom, Bool.and_eq_true] at h
    rcases List.mem_cons.1 hx with rfl | hx
    · exact ⟨k, h.1⟩
    · exact okFrom_get l (k + 1) h.2 x hx
theorem schemaB_cols {nm : ByteArray} {l : List Col} (h : schemaB nm l = true) : (∀ x ∈ l, ColOk x) ∧ 1 ≤ l.length := by
  simp only [schemaB, Bool.and_eq_true, decide_eq_true_eq] at h
  refine ⟨fun x hx => ?_, h.1.1.1.2⟩
  obtain ⟨j, hj⟩ := okFrom_get l 0 h.1.2 x hx
  simp only [colOk, Bool.and_eq_true, Bool.or_eq_true, decide_eq_true_eq] at hj
  unfold ColOk
  omega
theorem mut_tp5 {M : Nat → Prop} {L : List Hp} {T i : Nat} (hi : L[i]? = some (.tp T)) : ∀ b, Mut (Mut M L) [.tp T] b → Mut M L b := fun b hb => by
  rcases hb with hb | ⟨k, hk, hf⟩
  · exact hb
  · simp only [List.mem_singleton] at hk
    subst hk
    exact .inr ⟨_, List.mem_of_getElem? hi, hf⟩
theorem vlsIn_tail {w : World} {g n : Nat} {l : List Vl} (h : VlsIn (some ⟨g, 0, none⟩) n l w) : VlsIn (some ⟨g, 3, none⟩) (n - 1) (l.drop 1) w := by
  have hl := h.len
  obtain ⟨h1, h2⟩ : Rd w w.heap.size 3 _ n (vlCells l) := h
  refine (⟨?_, fun hn => ?_⟩ : Rd w w.heap.size 3 _ (n - 1) (vlCells (l.drop 1)))
  · rw [vlCells_len, List.length_drop, hl]
  · obtain ⟨b, o, e, hb, hc⟩ := h2 (by omega)
    injection e with e
    injection e with e1 e2
    subst e1 e2
    refine ⟨g, 3, rfl, hb, fun j u hu => ?_⟩
    have h3 := hc (3 + j) u
    rw [Nat.zero_add] at h3
    refine h3 ?_
    cases l with
    | nil => simp [vlCells] at hu
    | cons x l =>
      rw [List.drop_succ_cons, List.drop_zero] at hu
      rw [show vlCells (x :: l) = x.cells ++ vlCells l by simp [vlCells], List.getElem?_append_right (by show 3 ≤ _; omega)]
      rw [show 3 + j - x.cells.length = j by show 3 + j - 3 = j; omega]
      exact hu
theorem vlsIn_tail9 {w : World} {g n cm : Nat} (hn : n ≤ cm) {l : List Vl} (h : VlsIn (some ⟨g, 0, none⟩) n l w) : VlsIn (if cm = 1 then some ⟨g, 0, none⟩ else some ⟨g, 3, none⟩) (n - 1) (l.drop 1) w := by
  by_cases hc : cm = 1
  · have hl := h.len
    refine (⟨?_, fun hn => by omega⟩ : Rd w w.heap.size 3 _ (n - 1) (vlCells (l.drop 1)))
    rw [vlCells_len, List.length_drop, hl]
  · rw [if_neg hc]
    exact vlsIn_tail h
set_option maxHeartbeats 8000000 in
set_option maxRecDepth 100000 in
theorem tfforms_walk (nm0 : ByteArray) (A0 : Option Addr) (n0 c0 : Nat) (cs0 : List Col) (B0 : Option Addr) (m0 d0 : Nat) (vs0 : List Vl) (A : Option Addr) (n c : Nat) (zs : List Int) (w : World) (hC0 : Ro w None_ (SlR 4 A0 n0 (colCells cs0))) (hR0 : Ro w None_ (VlsIn B0 m0 vs0)) (hn0 : n0 ≤ 9223372036854775807) (hm0 : m0 ≤ 9223372036854775807) (hv0 : ∀ v ∈ vs0, v.ok)
    (hr : Rd w w.heap.size 1 A n (zs.map (Value.int .i64))) (hz : Ints zs) (hn : n ≤ c) (hc : c ≤ 9223372036854775807) (hw : Wds w) (hnw : Nms w) :
    Calls Tryd.prog 9 #[.agg #[.string nm0, .slice A0 n0 c0], .slice B0 m0 d0, .slice A n c] w fun e w' => e = .returned (.bool true) ∧ Below w.heap.size w w' := by
  have hwl := hw.lt
  have hnl := hnw.lt
  have K0 := (((Hold.begin_ w).add (hR0.less (by simp [Mut]))).add (hC0.less (by simp [Mut, Hp.foot]))).alloc_cst #[.string nm0, .slice A0 n0 c0] 24
  have HB0 := hid (And.intro hn0 (And.intro hm0 hv0))
  have F0 := K0.facts
  simp only [World.size_alloc, World.size_drew, factsL, cellsF, Nat.reduceAdd, List.toList_toArray, List.set_cons_zero, List.set_cons_succ, List.setIfInBounds_toArray, and_true, true_and] at F0
  clear hC0 hR0 hn0 hm0 hv0
  go_enter Tryd.func9, Tryd.ntmps9
  obtain ⟨g3, hg3⟩ : ∃ g3, g3 = w.heap.size := ⟨_, rfl⟩
  go_wp2_with fail
  rw [← hg3] at K0 ⊢
  clear F0
  generalize w.alloc _ = w1 at K0 ⊢
  have hr1 : Rd w1 w1.heap.size 1 A n (zs.map (Value.int .i64)) := (hr.keep fun p hp => World.cell?_of_block (w := w) (K0.below.block p.block hp)).more K0.grow.size
  have wd1 : Wds w1 := hw.below K0.below hwl
  have nd1 : Nms w1 := hnw.below K0.below hnl
  have hle1 : w.heap.size ≤ w1.heap.size := K0.grow.size
  clear hr hw hnw
  refine (new_any A n c zs _ hr1 hz hn hc).mono ?_
  rintro e w2 ⟨T, rfl, hT, t1, b1⟩
  have K1 := Hold.newTape K0 b1 t1 hT (by simp [Mut, None_, Hp.foot])
  have hT1 : 1 < T := by omega
  have hT2 : 0 < T := by omega
  have wd0 : Wds w2 := wd1.below b1 (by omega)
  have nd0 : Nms w2 := nd1.below b1 (by omega)
  have K2 := (K1.add (wd0.ro2 (show ¬ Mut None_ _ 1 from fun h => by simp [Mut, None_, Hp.foot] at h; omega))).add (nd0.ro (show ¬ Mut None_ _ 0 from fun h => by simp [Mut, None_, Hp.foot] at h; omega))
  clear K1 K0 wd0 wd1 nd0 nd1 t1 b1 hr1 hT
  have HG3 := hid hg3
  clear hg3
  go_wp2_with fail
  refine (anyschema_any (Mut None_ _) T _ K2.mutLt (K2.tp_ 2 rfl) (K2.get 2 rfl).2 (K2.ro 0 rfl).now hT2).mono ?_
  rintro e w3 ⟨nm1, A1, n1, c1, cs1, rfl, hv1, hs1, hx1, h51, hc1, hc63, r1, t2, g2⟩
  have K3 := ((Hold.callT K2 2 rfl g2 t2).add r1).alloc_cst #[.string nm1, .slice A1 n1 c1] 24
  have hl1 : cs1.length = n1 := (RdC.of_sl r1.now).len
  obtain ⟨hco, hco1⟩ := schemaB_cols hv1
  clear K2 g2 t2 r1 hv1 hs1 hx1
  obtain ⟨g8, hg8⟩ : ∃ g8, g8 = w3.heap.size := ⟨_, rfl⟩
  rw [← hg8] at K3
  have FA := K3.facts
  simp only [World.size_alloc, World.size_drew, factsL, cellsF, Nat.reduceAdd, List.toList_toArray, List.set_cons_zero, List.set_cons_succ, List.setIfInBounds_toArray, and_true, true_and] at FA
  have HCO := hid hco
  have hn11 : 1 ≤ n1 := by omega
  have HL1 := hid hl1
  clear hco hco1 hl1
  go_wp2_with fail
  rw [← hg8]
  have HG8 := hid hg8
  clear hg8
  generalize World.alloc w3 _ = w3' at K3 FA ⊢
  refine (trow_any (Mut None_ _) T _ K3.mutLt (K3.tp_ 4 rfl) (K3.get 4 rfl).2 nm1 A1 n1 c1 cs1 ((K3.ro 1 rfl).less (mut_tp5 (i := 4) rfl)) ((K3.ro 3 rfl).less (mut_tp5 (i := 4) rfl)) hT1 (by omega) HCO.out).mono ?_
  rintro e w4 ⟨Al, nl, cl, vl, rfl, hnl', hvl, hfl, ho, t4, g4⟩
  have K4a := Hold.addOwn K3 (Hold.callT K3 4 rfl g4 t4) (RM.grown g4 (.inr ⟨_, List.mem_of_getElem? (i := 4) rfl, rfl⟩)) ho
  obtain ⟨hcl1, hcl2, _⟩ := own_caps (K4a.get 0 rfl)
  have K4 := K4a.sealRow 0 rfl
  simp only [List.set_cons_zero] at K4
  obtain rfl : n1 = nl := by have h1 := fitsAll_len hfl; have h2 := HL1.out; omega
  have HVL := hid (And.intro hnl'.symm hvl)
  have hft := fitsT_all hfl
  clear K3 K4a FA t4 g4 ho hnl' hvl hfl
  have FA := K4.facts
  simp only [World.size_alloc, World.size_drew, factsL, cellsF, Nat.reduceAdd, List.toList_toArray, List.set_cons_zero, List.set_cons_succ, List.setIfInBounds_toArray, and_true, true_and] at FA
  go_wp2_with fail
  refine (tfits_any _ _ K4.mutLt nm1 A1 n1 c1 cs1 Al n1 cl vl (K4.ro 2 rfl) (K4.ro 0 rfl) (by omega) (by omega) HVL.out.2).mono ?_
  rintro e w5 ⟨rfl, b5⟩
  rw [hft]
  have K5 := (K4.call b5).alloc_own #[] 71 3 0 (by unfold maxLen; omega) rfl
  clear K4 FA hft b5
  have FA := K5.facts
  simp only [World.size_alloc, World.size_drew, factsL, cellsF, Nat.reduceAdd, List.toList_toArray, List.set_cons_zero, List.set_cons_succ, List.setIfInBounds_toArray, and_true, true_and] at FA
  have hrl := hid (K5.ro 1 rfl).now
  have h1l := hid (one_vls vl)
  go_wp2_with (at_builtin; go_must (refine wpList_appAllH K5 0 rfl Tryd.elVl hrl.out rfl (.tmp 22) (.tmp 23) rfl rfl rfl h1l.out (by omega) (by omega) ?_); intro C' cm w6 hcm1 hcm2 K6; simp only [List.nil_append, List.set_cons_zero] at K6; (try simp only [Nat.zero_add] at K6 hcm1 ⊢); (have F6 := K6.facts); simp only [World.size_alloc, World.size_drew, factsL, cellsF, Nat.reduceAdd, List.toList_toArray, List.set_cons_zero, List.set_cons_succ, List.setIfInBounds_toArray, and_true, true_and] at F6)
  clear K5 hrl h1l FA F6
  obtain ⟨gm, rfl⟩ : ∃ gm, C' = some ⟨gm, 0, none⟩ := by
    rcases own_addr (K6.get 0 rfl) with ⟨_, h, _⟩ | ⟨g, h, _⟩
    · omega
    · exact ⟨g, h⟩
  refine (next_any T (n1 : Int) _ (K6.tp_ 6 rfl) (by omega) (by omega)).mono ?_
  rintro e w7 ⟨q, rfl, q0, q1, t7, g7⟩
  obtain ⟨q, rfl⟩ := Int.eq_ofNat_of_zero_le q0
  have K7 := Hold.callT K6 6 rfl g7 t7
  clear K6 t7 g7
  have FA := K7.facts
  simp only [World.size_alloc, World.size_drew, factsL, cellsF, Nat.reduceAdd, List.toList_toArray, List.set_cons_zero, List.set_cons_succ, List.setIfInBounds_toArray, and_true, true_and] at FA
  go_wp2_with fail
  refine (odd2_any T _ (K7.tp_ 6 rfl) (K7.ro 5 rfl).now hT1).mono ?_
  rintro e w8 ⟨kv, iv, sv, rfl, ⟨hsv, hkv, hiv⟩, t8, g8'⟩
  have K8 := Hold.callT K7 6 rfl g8' t8
  clear K7 t8 g8' FA
  have HQL := hid (show q < vl.length by have := HVL.out.1; omega)
  have hl3 : vl.length = n1 := HVL.out.1
  obtain ⟨uq, huq⟩ : ∃ uq, vl[q]? = some uq := ⟨_, List.getElem?_eq_getElem HQL.out⟩
  obtain ⟨⟨z0, z1, z2⟩, ⟨z3, z4, z5⟩, z6⟩ := own_vl (K8.get 0 rfl) huq
  clear huq
  have K9 := K8.putVl 0 rfl q HQL.out ⟨kv, iv, sv⟩
  simp only [List.set_cons_zero] at K9
  have HMS := hid (oks_set HVL.out.2 (k := q) (v := ⟨kv, iv, sv⟩) ⟨hkv, hiv, by show sv.size ≤ maxLen; unfold maxLen; omega⟩)
  clear K8
  generalize vl.set q ⟨kv, iv, sv⟩ = ms at HMS K9
  have KS := K9.sealRow 0 rfl
  simp only [List.set_cons_zero] at KS
  clear K9
  go_wp2_with fail
  clear z0 z1 z2 z3 z4 z5 z6
  generalize World.setCell _ _ _ = w9 at KS ⊢
  obtain ⟨KL, hKL, KN⟩ := KS.name
  have HF : Hid (∀ wv, Hold None_ none w wv KL → wv.cell? ⟨g3, 0, none⟩ = some (.string nm0) ∧ wv.cell? ⟨g3, 1, none⟩ = some (.slice A0 n0 c0) ∧ g3 < wv.heap.size ∧ wv.cell? ⟨g8, 0, none⟩ = some (.string nm1) ∧ wv.cell? ⟨g8, 1, none⟩ = some (.slice A1 n1 c1) ∧ g8 < wv.heap.size) := hid fun wv HC => by
    rw [hKL] at HC
    have y0 := HC.cst_ 7 rfl
    have y1 := HC.cst_ 2 rfl
    exact ⟨cell_of_row _ _ 0 _ _ _ y0, cell_of_row _ _ 1 _ _ _ y0, Blk.lt y0, cell_of_row _ _ 0 _ _ _ y1, cell_of_row _ _ 1 _ _ _ y1, Blk.lt y1⟩
  have HX : Hid (∀ wv, Hold None_ none w wv KL → Ro wv (Mut None_ KL) (SlR 4 A0 n0 (colCells cs0)) ∧ Ro wv (Mut None_ KL) (SlR 4 A1 n1 (colCells cs1)) ∧ Ro wv (Mut None_ KL) (VlsIn B0 m0 vs0) ∧ Ro wv (Mut None_ KL) (VlsIn (some ⟨gm, 0, none⟩) n1 ms) ∧ Ro wv (Mut None_ KL) (VlsIn (if cm = 1 then some ⟨gm, 0, none⟩ else some ⟨gm, 3, none⟩) (n1 - 1) (ms.drop 1))) := hid fun wv HC => by
    rw [hKL] at HC ⊢
    have hm : Ro wv _ (VlsIn (some ⟨gm, 0, none⟩) n1 ms) := HC.ro 0 rfl
    exact ⟨HC.ro 8 rfl, HC.ro 3 rfl, HC.ro 9 rfl, hm, hm.imp fun w2 h => vlsIn_tail9 hcm1 h⟩
  have HKL := hid hKL
  clear hKL KS HQL hl3 HVL
  refine wp_region_any (by kernel_rfl) ?_
  refine wpAny_hold 39 72 (KL) (spL [(35, IsV (.int .i64 (fitsT cs0 vs0))), (38, IsV (.int .i64 (fitsT cs0 vs0))), (43, IsV (.int .i64 (fitsT cs1 ms))), (46, IsV (.int .i64 (fitsT cs1 ms))), (53, IsV (.int .i64 (fitsT cs1 (ms.drop 1)))), (57, IsV (.int .i64 (fitsT cs1 (ms.drop 1)))), (63, IsV (.int .i64 (fitsT cs1 vs0))), (66, IsV (.int .i64 (fitsT cs1 vs0))), (70, IsV (.bool true))]) (by kernel_rfl) (by kernel_rfl) (by kernel_rfl) rfl ?_ (KN.drew) ?_
  · exact stays_cons isV_mono (stays_cons isV_mono (stays_cons isV_mono (stays_cons isV_mono (stays_cons isV_mono (stays_cons isV_mono (stays_cons isV_mono (stays_cons isV_mono (stays_cons isV_mono (stays_nil _)))))))))
  simp only [List.take_succ_cons, List.take_zero, List.drop_succ_cons, List.drop_zero, Act.put, List.getElem_toArray, List.getElem_cons_zero, List.getElem_cons_succ, List.setIfInBounds_toArray, List.set_cons_succ, List.set_cons_zero]
  refine dw_val rfl rfl rfl ?_; apply Exists.intro; refine ⟨fun wv HC => ?_, ?_⟩
  · obtain ⟨f0, f1, f2, f3, f4, f5⟩ := HF.out _ HC; go_simp <;> rfl
  simp only [Act.put, List.setIfInBounds_toArray, List.set_cons_succ, List.set_cons_zero]
  refine dw_val rfl rfl rfl ?_; apply Exists.intro; refine ⟨fun wv HC => ?_, ?_⟩
  ·  go_simp <;> rfl
  simp only [Act.put, List.setIfInBounds_toArray, List.set_cons_succ, List.set_cons_zero]
  refine dw_callR 35 (IsV (.int .i64 (fitsT cs0 vs0))) (f := 42) (args := #[.agg #[.string nm0, .slice A0 n0 c0], .slice B0 m0 d0]) rfl rfl rfl rfl (fun wv => ?_) (fun wv HC hrm hD => ?_) ?_
  · go_simp <;> rfl
  · obtain ⟨X0, X1, X2, X3, X4⟩ := HX.out _ HC
    refine (tfits_any _ wv HC.mutLt nm0 A0 n0 c0 cs0 B0 m0 d0 vs0 X0 X2 HB0.out.1 HB0.out.2.1 HB0.out.2.2).mono ?_
    rintro e w5 ⟨rfl, b5⟩
    exact ⟨_, rfl, rfl, HC.call b5, RM.below b5⟩
  rintro u_ wx HCx rfl
  clear HCx
  simp only [Act.put, List.setIfInBounds_toArray, List.set_cons_succ, List.set_cons_zero]
  refine dw_val rfl rfl rfl ?_; apply Exists.intro; refine ⟨fun wv HC => ?_, ?_⟩
  · obtain ⟨f0, f1, f2, f3, f4, f5⟩ := HF.out _ HC; go_simp <;> rfl
  simp only [Act.put, List.setIfInBounds_toArray, List.set_cons_succ, List.set_cons_zero]
  refine dw_val rfl rfl rfl ?_; apply Exists.intro; refine ⟨fun wv HC => ?_, ?_⟩
  ·  go_simp <;> rfl
  simp only [Act.put, List.setIfInBounds_toArray, List.set_cons_succ, List.set_cons_zero]
  refine dw_callR 38 (IsV (.int .i64 (fitsT cs0 vs0))) (f := 44) (args := #[.agg #[.string nm0, .slice A0 n0 c0], .slice B0 m0 d0]) rfl rfl rfl rfl (fun wv => ?_) (fun wv HC hrm hD => ?_) ?_
  · go_simp <;> rfl
  · obtain ⟨X0, X1, X2, X3, X4⟩ := HX.out _ HC
    refine (rtfits_any _ wv HC.mutLt nm0 A0 n0 c0 cs0 B0 m0 d0 vs0 X0 X2 HB0.out.1 HB0.out.2.1 HB0.out.2.2).mono ?_
    rintro e w5 ⟨rfl, b5⟩
    exact ⟨_, rfl, rfl, HC.call b5, RM.below b5⟩
  rintro u_ wx HCx rfl
  clear HCx
  simp only [Act.put, List.setIfInBounds_toArray, List.set_cons_succ, List.set_cons_zero]
  refine dw_val rfl rfl rfl ?_; apply Exists.intro; refine ⟨fun wv HC => ?_, ?_⟩
  ·  go_simp <;> rfl
  simp only [Act.put, List.setIfInBounds_toArray, List.set_cons_succ, List.set_cons_zero]
  refine dw_val rfl rfl rfl ?_; apply Exists.intro; refine ⟨fun wv HC => ?_, ?_⟩
  ·  go_simp <;> rfl
  simp only [Act.put, List.setIfInBounds_toArray, List.set_cons_succ, List.set_cons_zero]
  refine dw_val rfl rfl rfl ?_; apply Exists.intro; refine ⟨fun wv HC => ?_, ?_⟩
  · obtain ⟨f0, f1, f2, f3, f4, f5⟩ := HF.out _ HC; go_simp <;> rfl
  simp only [Act.put, List.setIfInBounds_toArray, List.set_cons_succ, List.set_cons_zero]
  refine dw_val rfl rfl rfl ?_; apply Exists.intro; refine ⟨fun wv HC => ?_, ?_⟩
  ·  go_simp <;> rfl
  simp only [Act.put, List.setIfInBounds_toArray, List.set_cons_succ, List.set_cons_zero]
  refine dw_callR 43 (IsV (.int .i64 (fitsT cs1 ms))) (f := 42) (args := #[.agg #[.string nm1, .slice A1 n1 c1], .slice (some ⟨gm, 0, none⟩) n1 cm]) rfl rfl rfl rfl (fun wv => ?_) (fun wv HC hrm hD => ?_) ?_
  · go_simp <;> rfl
  · obtain ⟨X0, X1, X2, X3, X4⟩ := HX.out _ HC
    refine (tfits_any _ wv HC.mutLt nm1 A1 n1 c1 cs1 (some ⟨gm, 0, none⟩) n1 cm ms X1 X3 (by omega) (by omega) HMS.out).mono ?_
    rintro e w5 ⟨rfl, b5⟩
    exact ⟨_, rfl, rfl, HC.call b5, RM.below b5⟩
  rintro u_ wx HCx rfl
  clear HCx
  simp only [Act.put, List.setIfInBounds_toArray, List.set_cons_succ, List.set_cons_zero]
  refine dw_val rfl rfl rfl ?_; apply Exists.intro; refine ⟨fun wv HC => ?_, ?_⟩
  · obtain ⟨f0, f1, f2, f3, f4, f5⟩ := HF.out _ HC; go_simp <;> rfl
  simp only [Act.put, List.setIfInBounds_toArray, List.set_cons_succ, List.set_cons_zero]
  refine dw_val rfl rfl rfl ?_; apply Exists.intro; refine ⟨fun wv HC => ?_, ?_⟩
  ·  go_simp <;> rfl
  simp only [Act.put, List.setIfInBounds_toArray, List.set_cons_succ, List.set_cons_zero]
  refine dw_callR 46 (IsV (.int .i64 (fitsT cs1 ms))) (f := 44) (args := #[.agg #[.string nm1, .slice A1 n1 c1], .slice (some ⟨gm, 0, none⟩) n1 cm]) rfl rfl rfl rfl (fun wv => ?_) (fun wv HC hrm hD => ?_) ?_
  · go_simp <;> rfl
  · obtain ⟨X0, X1, X2, X3, X4⟩ := HX.out _ HC
    refine (rtfits_any _ wv HC.mutLt nm1 A1 n1 c1 cs1 (some ⟨gm, 0, none⟩) n1 cm ms X1 X3 (by omega) (by omega) HMS.out).mono ?_
    rintro e w5 ⟨rfl, b5⟩
    exact ⟨_, rfl, rfl, HC.call b5, RM.below b5⟩
  rintro u_ wx HCx rfl
  clear HCx
  simp only [Act.put, List.setIfInBounds_toArray, List.set_cons_succ, List.set_cons_zero]
  refine dw_val rfl rfl rfl ?_; apply Exists.intro; refine ⟨fun wv HC => ?_, ?_⟩
  ·  go_simp <;> rfl
  simp only [Act.put, List.setIfInBounds_toArray, List.set_cons_succ, List.set_cons_zero]
  refine dw_val rfl rfl rfl ?_; apply Exists.intro; refine ⟨fun wv HC => ?_, ?_⟩
  ·  go_simp <;> rfl
  simp only [Act.put, List.setIfInBounds_toArray, List.set_cons_succ, List.set_cons_zero]
  refine dw_val rfl rfl rfl ?_; apply Exists.intro; refine ⟨fun wv HC => ?_, ?_⟩
  ·  go_simp <;> rfl
  simp only [Act.put, List.setIfInBounds_toArray, List.set_cons_succ, List.set_cons_zero]
  refine dw_val rfl rfl rfl ?_; apply Exists.intro; refine ⟨fun wv HC => ?_, ?_⟩
  · obtain ⟨f0, f1, f2, f3, f4, f5⟩ := HF.out _ HC; go_simp <;> rfl
  simp only [Act.put, List.setIfInBounds_toArray, List.set_cons_succ, List.set_cons_zero]
  refine dw_val rfl rfl rfl ?_; apply Exists.intro; refine ⟨fun wv HC => ?_, ?_⟩
  ·  go_simp <;> rfl
  simp only [Act.put, List.setIfInBounds_toArray, List.set_cons_succ, List.set_cons_zero]
  refine dw_val rfl rfl rfl ?_; apply Exists.intro; refine ⟨fun wv HC => ?_, ?_⟩
  · have hx1 : (1 : Int) ≤ (n1 : Int) := (by omega); go_simp <;> rfl
  simp only [Act.put, List.setIfInBounds_toArray, List.set_cons_succ, List.set_cons_zero]
  refine dw_callR 53 (IsV (.int .i64 (fitsT cs1 (ms.drop 1)))) (f := 42) (args := #[.agg #[.string nm1, .slice A1 n1 c1], .slice (if cm = 1 then some ⟨gm, 0, none⟩ else some ⟨gm, 3, none⟩) (n1 - 1) (cm - 1)]) rfl rfl rfl rfl (fun wv => ?_) (fun wv HC hrm hD => ?_) ?_
  · go_simp <;> rfl
  · obtain ⟨X0, X1, X2, X3, X4⟩ := HX.out _ HC
    refine (tfits_any _ wv HC.mutLt nm1 A1 n1 c1 cs1 (if cm = 1 then some ⟨gm, 0, none⟩ else some ⟨gm, 3, none⟩) (n1 - 1) (cm - 1) (ms.drop 1) X1 X4 (by omega) (by omega) (fun v hv => HMS.out v (List.mem_of_mem_drop hv))).mono ?_
    rintro e w5 ⟨rfl, b5⟩
    exact ⟨_, rfl, rfl, HC.call b5, RM.below b5⟩
  rintro u_ wx HCx rfl
  clear HCx
  simp only [Act.put, List.setIfInBounds_toArray, List.set_cons_succ, List.set_cons_zero]
  refine dw_val rfl rfl rfl ?_; apply Exists.intro; refine ⟨fun wv HC => ?_, ?_⟩
  · obtain ⟨f0, f1, f2, f3, f4, f5⟩ := HF.out _ HC; go_simp <;> rfl
  simp only [Act.put, List.setIfInBounds_toArray, List.set_cons_succ, List.set_cons_zero]
  refine dw_val rfl rfl rfl ?_; apply Exists.intro; refine ⟨fun wv HC => ?_, ?_⟩
  ·  go_simp <;> rfl
  simp only [Act.put, List.setIfInBounds_toArray, List.set_cons_succ, List.set_cons_zero]
  refine dw_val rfl rfl rfl ?_; apply Exists.intro; refine ⟨fun wv HC => ?_, ?_⟩
  · have hx1 : (1 : Int) ≤ (n1 : Int) := (by omega); go_simp <;> rfl
  simp only [Act.put, List.setIfInBounds_toArray, List.set_cons_succ, List.set_cons_zero]
  refine dw_callR 57 (IsV (.int .i64 (fitsT cs1 (ms.drop 1)))) (f := 44) (args := #[.agg #[.string nm1, .slice A1 n1 c1], .slice (if cm = 1 then some ⟨gm, 0, none⟩ else some ⟨gm, 3, none⟩) (n1 - 1) (cm - 1)]) rfl rfl rfl rfl (fun wv => ?_) (fun wv HC hrm hD => ?_) ?_
  · go_simp <;> rfl
  · obtain ⟨X0, X1, X2, X3, X4⟩ := HX.out _ HC
    refine (rtfits_any _ wv HC.mutLt nm1 A1 n1 c1 cs1 (if cm = 1 then some ⟨gm, 0, none⟩ else some ⟨gm, 3, none⟩) (n1 - 1) (cm - 1) (ms.drop 1) X1 X4 (by omega) (by omega) (fun v hv => HMS.out v (List.mem_of_mem_drop hv))).mono ?_
    rintro e w5 ⟨rfl, b5⟩
    exact ⟨_, rfl, rfl, HC.call b5, RM.below b5⟩
  rintro u_ wx HCx rfl
  clear HCx
  simp only [Act.put, List.setIfInBounds_toArray, List.set_cons_succ, List.set_cons_zero]
  refine dw_val rfl rfl rfl ?_; apply Exists.intro; refine ⟨fun wv HC => ?_, ?_⟩
  ·  go_simp <;> rfl
  simp only [Act.put, List.setIfInBounds_toArray, List.set_cons_succ, List.set_cons_zero]
  refine dw_val rfl rfl rfl ?_; apply Exists.intro; refine ⟨fun wv HC => ?_, ?_⟩
  ·  go_simp <;> rfl
  simp only [Act.put, List.setIfInBounds_toArray, List.set_cons_succ, List.set_cons_zero]
  refine dw_val rfl rfl rfl ?_; apply Exists.intro; refine ⟨fun wv HC => ?_, ?_⟩
  ·  go_simp <;> rfl
  simp only [Act.put, List.setIfInBounds_toArray, List.set_cons_succ, List.set_cons_zero]
  refine dw_val rfl rfl rfl ?_; apply Exists.intro; refine ⟨fun wv HC => ?_, ?_⟩
  · obtain ⟨f0, f1, f2, f3, f4, f5⟩ := HF.out _ HC; go_simp <;> rfl
  simp only [Act.put, List.setIfInBounds_toArray, List.set_cons_succ, List.set_cons_zero]
  refine dw_val rfl rfl rfl ?_; apply Exists.intro; refine ⟨fun wv HC => ?_, ?_⟩
  ·  go_simp <;> rfl
  simp only [Act.put, List.setIfInBounds_toArray, List.set_cons_succ, List.set_cons_zero]
  refine dw_callR 63 (IsV (.int .i64 (fitsT cs1 vs0))) (f := 42) (args := #[.agg #[.string nm1, .slice A1 n1 c1], .slice B0 m0 d0]) rfl rfl rfl rfl (fun wv => ?_) (fun wv HC hrm hD => ?_) ?_
  · go_simp <;> rfl
  · obtain ⟨X0, X1, X2, X3, X4⟩ := HX.out _ HC
    refine (tfits_any _ wv HC.mutLt nm1 A1 n1 c1 cs1 B0 m0 d0 vs0 X1 X2 (by omega) HB0.out.2.1 HB0.out.2.2).mono ?_
    rintro e w5 ⟨rfl, b5⟩
    exact ⟨_, rfl, rfl, HC.call b5, RM.below b5⟩
  rintro u_ wx HCx rfl
  clear HCx
  simp only [Act.put, List.setIfInBounds_toArray, List.set_cons_succ, List.set_cons_zero]
  refine dw_val rfl rfl rfl ?_; apply Exists.intro; refine ⟨fun wv HC => ?_, ?_⟩
  · obtain ⟨f0, f1, f2, f3, f4, f5⟩ := HF.out _ HC; go_simp <;> rfl
  simp only [Act.put, List.setIfInBounds_toArray, List.set_cons_succ, List.set_cons_zero]
  refine dw_val rfl rfl rfl ?_; apply Exists.intro; refine ⟨fun wv HC => ?_, ?_⟩
  ·  go_simp <;> rfl
  simp only [Act.put, List.setIfInBounds_toArray, List.set_cons_succ, List.set_cons_zero]
  refine dw_callR 66 (IsV (.int .i64 (fitsT cs1 vs0))) (f := 44) (args := #[.agg #[.string nm1, .slice A1 n1 c1], .slice B0 m0 d0]) rfl rfl rfl rfl (fun wv => ?_) (fun wv HC hrm hD => ?_) ?_
  · go_simp <;> rfl
  · obtain ⟨X0, X1, X2, X3, X4⟩ := HX.out _ HC
    refine (rtfits_any _ wv HC.mutLt nm1 A1 n1 c1 cs1 B0 m0 d0 vs0 X1 X2 (by omega) HB0.out.2.1 HB0.out.2.2).mono ?_
    rintro e w5 ⟨rfl, b5⟩
    exact ⟨_, rfl, rfl, HC.call b5, RM.below b5⟩
  rintro u_ wx HCx rfl
  clear HCx
  simp only [Act.put, List.setIfInBounds_toArray, List.set_cons_succ, List.set_cons_zero]
  refine dw_val rfl rfl rfl ?_; apply Exists.intro; refine ⟨fun wv HC => ?_, ?_⟩
  ·  go_simp <;> rfl
  simp only [Act.put, List.setIfInBounds_toArray, List.set_cons_succ, List.set_cons_zero]
  refine dw_val rfl rfl rfl ?_; apply Exists.intro; refine ⟨fun wv HC => ?_, ?_⟩
  ·  go_simp <;> rfl
  simp only [Act.put, List.setIfInBounds_toArray, List.set_cons_succ, List.set_cons_zero]
  refine dw_val rfl rfl rfl ?_; apply Exists.intro; refine ⟨fun wv HC => ?_, ?_⟩
  ·  go_simp <;> rfl
  simp only [Act.put, List.setIfInBounds_toArray, List.set_cons_succ, List.set_cons_zero]
  refine dw_callR 70 (IsV (.bool true)) (f := 27) (args := #[]) rfl rfl rfl rfl (fun wv => ?_) (fun wv HC hrm hD => ?_) ?_
  · go_simp <;> rfl
  · refine (known5 _).mono ?_
    rintro e w5 ⟨rfl, b5⟩
    exact ⟨_, rfl, rfl, HC.call b5, RM.below b5⟩
  rintro u_ wx HCx rfl
  clear HCx
  simp only [Act.put, List.setIfInBounds_toArray, List.set_cons_succ, List.set_cons_zero]
  refine dw_val rfl rfl rfl ?_; apply Exists.intro; refine ⟨fun wv HC => ?_, ?_⟩
  ·  go_simp <;> rfl
  simp only [Act.put, List.setIfInBounds_toArray, List.set_cons_succ, List.set_cons_zero]
  refine rel_nil ?_
  rintro wx9 HX9
  rintro _hrm _HG
  clear _hrm _HG
  go_wp2_with fail
  all_goals go_ret
  all_goals exact ⟨by first | rfl | simp, HX9.below⟩
end Go.Proofs.YtjpgbhakkfgecaaDoor

namespace Go.Proofs.YtjpgbhakkfgecaaDoor
open Go.ChangeShapes Go.WideShapes Go.ChangeAt Go.RowKit
set_option linter.unusedVariables false
set_option linter.unusedSimpArgs false

namespace LawTupleFits
set_option maxRecDepth 100000 in
theorem contract (H : Type) (enc : TypeId × Value → H) (W : World) (base : Nat) (args : Array Value) (ds gs : List (DataW H)) (before : List MemPlace)
    (hval0 : ∀ (j : Nat) t v, Tryd.f9.params[j]? = some t → args[j]? = some v → Value.okWide Tryd.prog W .any base t v)
    (hsz0 : (DataW.weightsEach Tryd.prog (Tryd.f9.params.toList ++ Rows.tupleFitsSpec.plain.varTypes Tryd.prog) (ds ++ gs)).all (· ≤ reachBytes) = true)
    (hW : DataW.Whole enc Tryd.prog Tryd.f9.params.toList Rows.tupleFitsSpec.vars false W args.toList ds gs before) (hL : laidMetH Tryd.prog Rows.tupleFitsRow.laid W) (hsh : W.ShapedOpen Tryd.prog) :
    Calls Tryd.prog 9 args W fun e W' => ∃ v, e = .returned v ∧ Rows.tupleFitsSpec.post enc Tryd.prog Tryd.f9 false true false false W args v W' := by
  have hsz : (DataW.weightsEach Tryd.prog (Tryd.f9.params.toList ++ Rows.tupleFitsSpec.plain.varTypes Tryd.prog) (ds ++ gs)).all (· ≤ reachBytes) = true := hsz0
  have hval : ∀ (j : Nat) t v, Tryd.f9.params[j]? = some t → args[j]? = some v → Value.okWide Tryd.prog W .any base t v := hval0
  have hW' := hW
  obtain ⟨p, q, hA0, hV, rfl, hfz, hnd⟩ := hW
  have hA : DataW.TrodAll enc Tryd.prog W 0 (fun _ => true) true Tryd.f9.params.toList args.toList ds p := hA0
  rw [Tryd.params9] at hA hval hsz
  obtain ⟨v0, vs0, d0, ds0, p0, q0, hargs, rfl, rfl, h0, r0⟩ := trodAll_cons hA
  obtain ⟨v1, vs1, d1, ds1, p1, q1, rfl, rfl, rfl, h1, r1⟩ := trodAll_cons r0
  obtain ⟨v2, vs2, d2, ds2, p2, q2, rfl, rfl, rfl, h2, r2⟩ := trodAll_cons r1
  obtain ⟨rfl, rfl, rfl⟩ := trodAll_nil r2
  obtain rfl : args = #[v0, v1, v2] := by cases args; simp_all
  obtain ⟨rfl, rfl⟩ := trodVars_none hV
  obtain ⟨nm0, A0, n0, c0, cl0, rfl, k0, o0, l0, m0, wn0⟩ := open_schema (hval 0 24 v0 rfl rfl) h0
  obtain ⟨sl1, ok1, rfl⟩ := opens_vls.slice Tryd.underlying51 (hval 1 51 v1 rfl rfl) h1 (sz_arg hsz (j := 1) rfl rfl)
  obtain ⟨A2, n2, c2, zs2, rfl, k2, z2, l2, m2, e2⟩ := open_i64s Tryd.underlying28 Tryd.underlying3 (by kernel_rfl) (hval 2 28 v2 rfl rfl) h2
  refine (tfforms_walk nm0 A0 n0 c0 cl0 sl1.A sl1.n sl1.c sl1.l A2 n2 c2 zs2 W (Rd.ro (show Rd W W.heap.size 4 A0 n0 (colCells cl0) from k0) (Nat.le_refl _) fun _ _ h => h) (vals_arg ok1 fun _ _ h => h) (by unfold maxLen at m0; omega) (by have := valsArg_n ok1; omega) ok1.ok k2 z2 l2 (by unfold maxLen at m2; omega) (both_of_laid hL).1 (both_of_laid hL).2).mono fun e W' ⟨he, hb⟩ => ?_
  exact ⟨_, he, law_post rfl laidOut (by kernel_rfl) (by kernel_rfl) Tryd.underlying4 rfl hW' hb⟩

theorem laid_met (os : Os) : laidMet Tryd.prog Rows.tupleFitsRow.laid ((bothWorld os).forCall (fun _ _ => 0) ⟨#[], #[.agg #[.string ⟨#[]⟩, .slice none 0 0], .slice none 0 0, .slice none 0 0], []⟩).memory :=
  laidMet_of_run' 16 (by kernel_rfl) (by kernel_rfl)
theorem reads (os : Os) {H : Type} (enc : TypeId × Value → H) : ∃ places, DataW.whole enc Tryd.prog ((bothWorld os).forCall (fun _ _ => 0) ⟨#[], #[.agg #[.string ⟨#[]⟩, .slice none 0 0], .slice none 0 0, .slice none 0 0], []⟩).memory Tryd.f9.params.toList Rows.tupleFitsSpec.vars false #[.agg #[.string ⟨#[]⟩, .slice none 0 0], .slice none 0 0, .slice none 0 0].toList 8 = some ([.agg [.lit (.string []), .nil], .nil, .nil], [], places) :=
  ⟨[], by kernel_rfl⟩

set_option maxRecDepth 100000 in
theorem lifted (os : Os) (started : os.Started) (H : Type) (enc : TypeId × Value → H) (F : Stop.Interp) :
    ReturnsInHanded {} Tryd.checked os 9 .any ((OpenSpec.ofChange Rows.tupleFitsSpec).preRow enc Tryd.prog Tryd.f9 Rows.tupleFitsRow.domain false Rows.tupleFitsRow.laid) (((OpenSpec.ofChange Rows.tupleFitsSpec).at F).post enc Tryd.prog Tryd.f9 false true false false) := by
  obtain ⟨places, hx⟩ := reads os enc
  refine returnsInHanded_of_row (C := Tryd.checked) (s := OpenSpec.ofChange Rows.tupleFitsSpec) own started (by kernel_rfl) Tryd.func9
    (witness_row_at (enc := enc) (C := Tryd.checked) false (bothWorld os) #[.agg #[.string ⟨#[]⟩, .slice none 0 0], .slice none 0 0, .slice none 0 0] rfl (by kernel_rfl) (by kernel_rfl) (by kernel_rfl)
      (OpenSpec.preRow_of_cond 8 hx (by kernel_rfl) (fun k hk => by cases hk) (by kernel_rfl) (laid_met os))) ?_
  intro W base args ds gs before hval hW _ _ hsz0 hL hsh _
  exact contract H enc W base args ds gs before hval hsz0 hW hL hsh

theorem said : Rows.TupleFitsSaid :=
  OpenClaim.holds_of_cond 9 Tryd.f9 rfl rfl rfl rfl rfl rfl rfl ⟨rfl, rfl, rfl, rfl, rfl⟩ rfl rfl rfl rfl rfl (by kernel_rfl) Tryd.func9 (by kernel_rfl)
    (of_decide_eq_true (by kernel_rfl)) (by unfold Func.isWrapper; first | (rw [if_pos (by decide +kernel)]; kernel_rfl) | (rw [if_neg (by decide +kernel)]; exact ⟨rfl, rfl⟩))
    (fun os started H enc _ F => by rw [OpenClaim.pre_eq_preRow]; exact lifted os started H enc F)

theorem plain (f : FuncId) (fn : Func) (hf : Tryd.pinned.checked.prog.funcNamed "triggerstore/triggerstorelaw5.TupleFits" = some f) (hfn : Tryd.pinned.checked.prog.funcs[f]? = some fn) :
    false = Tryd.pinned.checked.prog.looks [] ∧ ∀ (j : Nat) t, fn.params[j]? = some t → Tryd.pinned.checked.prog.wantsStandIn t = false := by
  obtain rfl : f = 9 := Option.some.inj ((show Tryd.prog.funcNamed "triggerstore/triggerstorelaw5.TupleFits" = some 9 by kernel_rfl).symm.trans hf) |>.symm
  obtain rfl : fn = Tryd.f9 := (Option.some.inj (Tryd.func9.symm.trans hfn)).symm
  refine ⟨by kernel_rfl, fun j t ht => ?_⟩
  rw [Tryd.params9] at ht
  have hm := Array.mem_of_getElem? ht
  simp only [List.mem_toArray, List.mem_cons, List.not_mem_nil, or_false] at hm
  rcases hm with rfl | rfl | rfl
  · exact (show Tryd.prog.wantsStandIn 24 = false by kernel_rfl)
  · exact (show Tryd.prog.wantsStandIn 51 = false by kernel_rfl)
  · exact (show Tryd.prog.wantsStandIn 28 = false by kernel_rfl)
end LawTupleFits

theorem tupleFits_holds : Rows.TupleFitsCardSaid :=
  Claim7.holds_tied_plain_at .later [] _ _ _ _ LawTupleFits.said (fun _ h => by cases h) (by kernel_rfl) (fun _ h => by cases h) tupleFits_row_tie rfl ⟨rfl, rfl⟩ (by kernel_rfl) rfl LawTupleFits.plain (by kernel_rfl)
#print axioms tupleFits_holds
end Go.Proofs.YtjpgbhakkfgecaaDoor

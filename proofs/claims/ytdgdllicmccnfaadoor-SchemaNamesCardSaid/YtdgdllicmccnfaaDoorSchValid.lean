/- The contracts of Valid, of package schema and of its reference. -/
import Derived.Test.YtdgdllicmccnfaaDoorSchFind
import Derived.Test.YtdgdllicmccnfaaDoorNames2
namespace Go.Proofs.YtdgdllicmccnfaaDoor
open Go.RowKit
set_option linter.unusedVariables false
set_option linter.unusedSimpArgs false

def colOk (l : List Col) (k : Nat) (c : Col) : Bool := nameB c.name && (findB (named c.name) l == (k : Int)) && decide (1 ≤ c.ty) && decide (c.ty ≤ 3) && (!c.key || c.nn)
def schemaB (nm : ByteArray) (l : List Col) : Bool := nameB nm && decide (1 ≤ l.length) && decide (l.length ≤ 6) && okFrom (colOk l) 0 l && decide ((l.filter Col.key).length ≤ 1)
theorem named_self (c : Col) : named c.name c = true := by simp [named]
theorem schemaB_bad {nm : ByteArray} {l : List Col} (h : okFrom (colOk l) 0 l = false) : schemaB nm l = false := by simp [schemaB, h]
theorem schemaB_end {nm : ByteArray} {l : List Col} {n : Nat} (hv : nameB nm = true) (hl : l.length = n) (h1 : 1 ≤ n) (h2 : n ≤ 6) (h : okFrom (colOk l) 0 l = true) : schemaB nm l = decide (((l.filter Col.key).length : Int) ≤ 1) := by
  simp [schemaB, hv, hl, h1, h2, h]; omega
theorem keys_end {l : List Col} {n : Nat} (hl : l.length = n) : ((l.take n).filter Col.key).length = (l.filter Col.key).length := by rw [List.take_of_length_le (by omega)]
theorem keys_le (l : List Col) (k : Nat) : ((l.take k).filter Col.key).length ≤ k := Nat.le_trans (List.length_filter_le _ _) (List.length_take_le _ _)

set_option maxHeartbeats 8000000 in
theorem svalid_any (M : Nat → Prop) (w : World) (hM : ∀ b, M b → b < w.heap.size) (nm : ByteArray) (A : Option Addr) (n c : Nat) (l : List Col) (hD : Ro w M (SlR 4 A n (colCells l))) (hn : n ≤ 9223372036854775807) (hs : nm.size ≤ maxLen) (hok : ∀ x ∈ l, x.name.size ≤ maxLen) :
    Calls Tryd.prog 11 #[.agg #[.string nm, .slice A n c]] w fun e w' => e = .returned (.bool (schemaB nm l)) ∧ Below w.heap.size w w' := by
  have HL := hid (RdC.of_sl hD.now).len
  have K0 := ((Hold.start M w hM).add (hD.less (by simp [Mut]))).alloc_cst #[.string nm, .slice A n c] 24
  cases hv : nameB nm
  · have HN : Hid (schemaB nm l = false) := by unfold Hid; simp [schemaB, hv]
    have HV := hid hv; clear hv
    go_enter Tryd.func11, Tryd.ntmps11
    go_wp2_with fail
    refine (validname_any nm _ hs).mono ?_
    rintro e w1 ⟨rfl, b1⟩
    have K1 := Hold.call (K0) b1
    clear b1
    try simp only [World.size_alloc] at K1
    have F1 := K1.facts
    simp only [World.size_alloc, World.size_drew, factsL, cellsF, Nat.reduceAdd, List.toList_toArray, List.set_cons_zero, List.set_cons_succ, List.setIfInBounds_toArray, and_true, true_and] at F1
    rw [HV.out]
    go_wp2_with fail
    go_ret
    exact ⟨by rw [HN.out] <;> rfl, K1.below⟩
  have HV := hid hv; clear hv
  by_cases h1 : n < 1
  · have HN : Hid (schemaB nm l = false) := by unfold Hid; have := HL.out; simp [schemaB]; intros; omega
    go_enter Tryd.func11, Tryd.ntmps11
    go_wp2_with fail
    refine (validname_any nm _ hs).mono ?_
    rintro e w1 ⟨rfl, b1⟩
    have K1 := Hold.call (K0) b1
    clear b1
    try simp only [World.size_alloc] at K1
    have F1 := K1.facts
    simp only [World.size_alloc, World.size_drew, factsL, cellsF, Nat.reduceAdd, List.toList_toArray, List.set_cons_zero, List.set_cons_succ, List.setIfInBounds_toArray, and_true, true_and] at F1
    rw [HV.out]
    go_wp2_with fail
    go_ret
    exact ⟨by rw [HN.out] <;> rfl, K1.below⟩
  by_cases h6 : 6 < n
  · have HN : Hid (schemaB nm l = false) := by unfold Hid; have := HL.out; simp [schemaB]; intros; omega
    go_enter Tryd.func11, Tryd.ntmps11
    go_wp2_with fail
    refine (validname_any nm _ hs).mono ?_
    rintro e w1 ⟨rfl, b1⟩
    have K1 := Hold.call (K0) b1
    clear b1
    try simp only [World.size_alloc] at K1
    have F1 := K1.facts
    simp only [World.size_alloc, World.size_drew, factsL, cellsF, Nat.reduceAdd, List.toList_toArray, List.set_cons_zero, List.set_cons_succ, List.setIfInBounds_toArray, and_true, true_and] at F1
    rw [HV.out]
    go_wp2_with fail
    go_ret
    exact ⟨by rw [HN.out] <;> rfl, K1.below⟩
  have n1 : 1 ≤ n := by omega
  have n6 : n ≤ 6 := by omega
  go_enter Tryd.func11, Tryd.ntmps11
  go_wp2_with fail
  refine (validname_any nm _ hs).mono ?_
  rintro e w1 ⟨rfl, b1⟩
  have K1 := Hold.call (K0) b1
  clear b1
  try simp only [World.size_alloc] at K1
  have F1 := K1.facts
  simp only [World.size_alloc, World.size_drew, factsL, cellsF, Nat.reduceAdd, List.toList_toArray, List.set_cons_zero, List.set_cons_succ, List.setIfInBounds_toArray, and_true, true_and] at F1
  rw [HV.out]
  go_wp2_with fail
  go_loopw [3, 25] (fun q i wr => ∃ k : Nat, k ≤ n ∧ i = .int .i64 k ∧ q = .int .i64 ((l.take k).filter Col.key).length ∧ okFrom (colOk l) 0 l = okFrom (colOk l) k (l.drop k) ∧ Hold M none w wr [.cst w.heap.size 24 #[.string nm, .slice A n c], .ro (SlR 4 A n (colCells l))]) (fun _ i _ => n - (intOf i).toNat)
  case atStart => exact ⟨0, by omega, rfl, rfl, rfl, K1⟩
  case round =>
    obtain ⟨k, hk, rfl, rfl, hf, H⟩ := hrel
    have HF := hid hf; clear hf F1
    by_cases hlt : k < n
    · obtain ⟨x, hc⟩ := get_col HL.out hlt
      have hx : x.name.size ≤ maxLen := hok x (List.mem_of_getElem? hc)
      have hfl := find_le (named_self x) hc
      have HQ := hid (filter_snoc Col.key hc)
      have hql := keys_le l k
      have hql1 := keys_le l (k + 1)
      obtain ⟨b, o, rfl, hb, c0, c1, c2, c3⟩ := (RdC.of_sl (H.ro 1 rfl).now).at_ hc
      have HOk : Hid (colOk l k x = (nameB x.name && (findB (named x.name) l == (k : Int)) && decide (1 ≤ x.ty) && decide (x.ty ≤ 3) && (!x.key || x.nn))) := rfl
      have HBad : Hid (colOk l k x = false → schemaB nm l = false) := fun h => schemaB_bad (ok_bad HF.out hc h)
      have HGood : Hid (colOk l k x = true → okFrom (colOk l) 0 l = okFrom (colOk l) (k + 1) (l.drop (k + 1))) := fun h => ok_good HF.out hc h
      obtain ⟨nx, ty, nn, key⟩ := x
      simp only at c0 c1 c2 c3 hx hfl
      have HX := hid (find_any M)
      obtain ⟨f, hfe⟩ : ∃ f, f = findB (named nx) l := ⟨_, rfl⟩
      rw [← hfe] at hfl
      have HFE := hid hfe; clear hfe
      obtain ⟨q, hqe⟩ : ∃ q, q = ((l.take k).filter Col.key).length := ⟨_, rfl⟩
      rw [← hqe] at hql
      have HQE := hid hqe
      rw [← hqe]
      clear hqe hc
      simp only at HOk HQ
      rw [← HFE.out] at HOk
      cases hvx : nameB nx
      · have HC : Hid (colOk l k ⟨nx, ty, nn, key⟩ = false) := by unfold Hid; rw [HOk.out, hvx]; rfl
        have HVX := hid hvx; clear hvx
        have KB := H.alloc_cst #[.string nx, .int .i64 ty, .bool nn, .bool key] 35
        go_wp2_with fail
        refine (validname_any nx _ hx).mono ?_
        rintro e w2 ⟨rfl, b2⟩
        have K2 := Hold.call (KB) b2
        clear b2
        try simp only [World.size_alloc] at K2
        have F2 := K2.facts
        simp only [World.size_alloc, World.size_drew, factsL, cellsF, Nat.reduceAdd, List.toList_toArray, List.set_cons_zero, List.set_cons_succ, List.setIfInBounds_toArray, and_true, true_and] at F2
        rw [HVX.out]
        go_wp2_with fail
        go_ret
        exact ⟨by rw [HBad.out HC.out] <;> rfl, K2.below⟩
      have HVX := hid hvx; clear hvx
      by_cases hfk : f < k
      · have HC : Hid (colOk l k ⟨nx, ty, nn, key⟩ = false) := by unfold Hid; rw [HOk.out, show (f == (k : Int)) = false from by rw [beq_eq_false_iff_ne]; omega]; simp
        have KB := H.alloc_cst #[.string nx, .int .i64 ty, .bool nn, .bool key] 35
        go_wp2_with fail
        refine (validname_any nx _ hx).mono ?_
        rintro e w2 ⟨rfl, b2⟩
        have K2 := Hold.call (KB) b2
        clear b2
        try simp only [World.size_alloc] at K2
        have F2 := K2.facts
        simp only [World.size_alloc, World.size_drew, factsL, cellsF, Nat.reduceAdd, List.toList_toArray, List.set_cons_zero, List.set_cons_succ, List.setIfInBounds_toArray, and_true, true_and] at F2
        rw [HVX.out]
        go_wp2_with fail
        refine (find_any (Mut M _) _ K2.mutLt nm _ n c l nx (K2.ro 2 rfl) hn).mono ?_
        rintro e w3 ⟨rfl, b3⟩
        have K3 := Hold.call K2 b3
        clear b3
        rw [← HFE.out]
        have F3 := K3.facts
        simp only [World.size_alloc, World.size_drew, factsL, cellsF, Nat.reduceAdd, List.toList_toArray, List.set_cons_zero, List.set_cons_succ, List.setIfInBounds_toArray, and_true, true_and] at F3
        go_wp2_with fail
        go_ret
        exact ⟨by rw [HBad.out HC.out] <;> rfl, K3.below⟩
      have hfe : f = k := by omega
      have HFK := hid hfe; clear hfe
      by_cases hlo : ty < 1
      · have HC : Hid (colOk l k ⟨nx, ty, nn, key⟩ = false) := by unfold Hid; rw [HOk.out, show decide (1 ≤ ty) = false from by simp; omega]; simp
        have KB := H.alloc_cst #[.string nx, .int .i64 ty, .bool nn, .bool key] 35
        go_wp2_with fail
        refine (validname_any nx _ hx).mono ?_
        rintro e w2 ⟨rfl, b2⟩
        have K2 := Hold.call (KB) b2
        clear b2
        try simp only [World.size_alloc] at K2
        have F2 := K2.facts
        simp only [World.size_alloc, World.size_drew, factsL, cellsF, Nat.reduceAdd, List.toList_toArray, List.set_cons_zero, List.set_cons_succ, List.setIfInBounds_toArray, and_true, true_and] at F2
        rw [HVX.out]
        go_wp2_with fail
        refine (find_any (Mut M _) _ K2.mutLt nm _ n c l nx (K2.ro 2 rfl) hn).mono ?_
        rintro e w3 ⟨rfl, b3⟩
        have K3 := Hold.call K2 b3
        clear b3
        rw [← HFE.out]
        have F3 := K3.facts
        simp only [World.size_alloc, World.size_drew, factsL, cellsF, Nat.reduceAdd, List.toList_toArray, List.set_cons_zero, List.set_cons_succ, List.setIfInBounds_toArray, and_true, true_and] at F3
        go_wp2_with fail
        go_ret
        exact ⟨by rw [HBad.out HC.out] <;> rfl, K3.below⟩
      have hlo1 : 1 ≤ ty := by omega
      by_cases hhi : 3 < ty
      · have HC : Hid (colOk l k ⟨nx, ty, nn, key⟩ = false) := by unfold Hid; rw [HOk.out, show decide (ty ≤ 3) = false from by simp; omega]; simp
        have KB := H.alloc_cst #[.string nx, .int .i64 ty, .bool nn, .bool key] 35
        go_wp2_with fail
        refine (validname_any nx _ hx).mono ?_
        rintro e w2 ⟨rfl, b2⟩
        have K2 := Hold.call (KB) b2
        clear b2
        try simp only [World.size_alloc] at K2
        have F2 := K2.facts
        simp only [World.size_alloc, World.size_drew, factsL, cellsF, Nat.reduceAdd, List.toList_toArray, List.set_cons_zero, List.set_cons_succ, List.setIfInBounds_toArray, and_true, true_and] at F2
        rw [HVX.out]
        go_wp2_with fail
        refine (find_any (Mut M _) _ K2.mutLt nm _ n c l nx (K2.ro 2 rfl) hn).mono ?_
        rintro e w3 ⟨rfl, b3⟩
        have K3 := Hold.call K2 b3
        clear b3
        rw [← HFE.out]
        have F3 := K3.facts
        simp only [World.size_alloc, World.size_drew, factsL, cellsF, Nat.reduceAdd, List.toList_toArray, List.set_cons_zero, List.set_cons_succ, List.setIfInBounds_toArray, and_true, true_and] at F3
        go_wp2_with fail
        go_ret
        exact ⟨by rw [HBad.out HC.out] <;> rfl, K3.below⟩
      have hhi3 : ty ≤ 3 := by omega
      by_cases hkn : key = false ∨ nn = true
      rotate_left
      · obtain ⟨rfl, rfl⟩ : key = true ∧ nn = false := by cases key <;> cases nn <;> simp at hkn ⊢
        have HC : Hid (colOk l k ⟨nx, ty, false, true⟩ = false) := by unfold Hid; rw [HOk.out]; simp
        clear hkn
        have KB := H.alloc_cst #[.string nx, .int .i64 ty, .bool false, .bool true] 35
        go_wp2_with fail
        refine (validname_any nx _ hx).mono ?_
        rintro e w2 ⟨rfl, b2⟩
        have K2 := Hold.call (KB) b2
        clear b2
        try simp only [World.size_alloc] at K2
        have F2 := K2.facts
        simp only [World.size_alloc, World.size_drew, factsL, cellsF, Nat.reduceAdd, List.toList_toArray, List.set_cons_zero, List.set_cons_succ, List.setIfInBounds_toArray, and_true, true_and] at F2
        rw [HVX.out]
        go_wp2_with fail
        refine (find_any (Mut M _) _ K2.mutLt nm _ n c l nx (K2.ro 2 rfl) hn).mono ?_
        rintro e w3 ⟨rfl, b3⟩
        have K3 := Hold.call K2 b3
        clear b3
        rw [← HFE.out]
        have F3 := K3.facts
        simp only [World.size_alloc, World.size_drew, factsL, cellsF, Nat.reduceAdd, List.toList_toArray, List.set_cons_zero, List.set_cons_succ, List.setIfInBounds_toArray, and_true, true_and] at F3
        go_wp2_with fail
        go_ret
        exact ⟨by rw [HBad.out HC.out] <;> rfl, K3.below⟩
      have HC : Hid (colOk l k ⟨nx, ty, nn, key⟩ = true) := by unfold Hid; rw [HOk.out, HVX.out, HFK.out, show decide (1 ≤ ty) = true from by simp; omega, show decide (ty ≤ 3) = true from by simp; omega]; rcases hkn with rfl | rfl <;> simp
      rcases hkn with rfl | rfl
      · have HQ0 : Hid (((l.take (k + 1)).filter Col.key).length = q) := by unfold Hid; rw [HQ.out, HQE.out]; rfl
        have KB := H.alloc_cst #[.string nx, .int .i64 ty, .bool nn, .bool false] 35
        go_wp2_with fail
        refine (validname_any nx _ hx).mono ?_
        rintro e w2 ⟨rfl, b2⟩
        have K2 := Hold.call (KB) b2
        clear b2
        try simp only [World.size_alloc] at K2
        have F2 := K2.facts
        simp only [World.size_alloc, World.size_drew, factsL, cellsF, Nat.reduceAdd, List.toList_toArray, List.set_cons_zero, List.set_cons_succ, List.setIfInBounds_toArray, and_true, true_and] at F2
        rw [HVX.out]
        go_wp2_with fail
        refine (find_any (Mut M _) _ K2.mutLt nm _ n c l nx (K2.ro 2 rfl) hn).mono ?_
        rintro e w3 ⟨rfl, b3⟩
        have K3 := Hold.call K2 b3
        clear b3
        rw [← HFE.out]
        have F3 := K3.facts
        simp only [World.size_alloc, World.size_drew, factsL, cellsF, Nat.reduceAdd, List.toList_toArray, List.set_cons_zero, List.set_cons_succ, List.setIfInBounds_toArray, and_true, true_and] at F3
        go_wp2_with fail
        go_roundw
        case rel => exact ⟨k + 1, by omega, by go_num, by rw [HQ0.out], HGood.out HC.out, K3.drop (List.sublist_cons_self _ _)⟩
        case measure => simp [intOf]; omega
      · cases key
        · have HQ0 : Hid (((l.take (k + 1)).filter Col.key).length = q) := by unfold Hid; rw [HQ.out, HQE.out]; rfl
          have KB := H.alloc_cst #[.string nx, .int .i64 ty, .bool true, .bool false] 35
          go_wp2_with fail
          refine (validname_any nx _ hx).mono ?_
          rintro e w2 ⟨rfl, b2⟩
          have K2 := Hold.call (KB) b2
          clear b2
          try simp only [World.size_alloc] at K2
          have F2 := K2.facts
          simp only [World.size_alloc, World.size_drew, factsL, cellsF, Nat.reduceAdd, List.toList_toArray, List.set_cons_zero, List.set_cons_succ, List.setIfInBounds_toArray, and_true, true_and] at F2
          rw [HVX.out]
          go_wp2_with fail
          refine (find_any (Mut M _) _ K2.mutLt nm _ n c l nx (K2.ro 2 rfl) hn).mono ?_
          rintro e w3 ⟨rfl, b3⟩
          have K3 := Hold.call K2 b3
          clear b3
          rw [← HFE.out]
          have F3 := K3.facts
          simp only [World.size_alloc, World.size_drew, factsL, cellsF, Nat.reduceAdd, List.toList_toArray, List.set_cons_zero, List.set_cons_succ, List.setIfInBounds_toArray, and_true, true_and] at F3
          go_wp2_with fail
          go_roundw
          case rel => exact ⟨k + 1, by omega, by go_num, by rw [HQ0.out], HGood.out HC.out, K3.drop (List.sublist_cons_self _ _)⟩
          case measure => simp [intOf]; omega
        · have HQ0 : Hid (((l.take (k + 1)).filter Col.key).length = q + 1) := by unfold Hid; rw [HQ.out, HQE.out]; rfl
          have KB := H.alloc_cst #[.string nx, .int .i64 ty, .bool true, .bool true] 35
          go_wp2_with fail
          refine (validname_any nx _ hx).mono ?_
          rintro e w2 ⟨rfl, b2⟩
          have K2 := Hold.call (KB) b2
          clear b2
          try simp only [World.size_alloc] at K2
          have F2 := K2.facts
          simp only [World.size_alloc, World.size_drew, factsL, cellsF, Nat.reduceAdd, List.toList_toArray, List.set_cons_zero, List.set_cons_succ, List.setIfInBounds_toArray, and_true, true_and] at F2
          rw [HVX.out]
          go_wp2_with fail
          refine (find_any (Mut M _) _ K2.mutLt nm _ n c l nx (K2.ro 2 rfl) hn).mono ?_
          rintro e w3 ⟨rfl, b3⟩
          have K3 := Hold.call K2 b3
          clear b3
          rw [← HFE.out]
          have F3 := K3.facts
          simp only [World.size_alloc, World.size_drew, factsL, cellsF, Nat.reduceAdd, List.toList_toArray, List.set_cons_zero, List.set_cons_succ, List.setIfInBounds_toArray, and_true, true_and] at F3
          go_wp2_with fail
          go_roundw
          case rel => exact ⟨k + 1, by omega, by go_num, by rw [HQ0.out]; go_num, HGood.out HC.out, K3.drop (List.sublist_cons_self _ _)⟩
          case measure => simp [intOf]; omega
    · obtain rfl : k = n := by omega
      have HN := hid (schemaB_end HV.out HL.out n1 n6 (ok_end HF.out (by rw [HL.out]; omega)))
      have HK := hid (keys_end HL.out)
      have hql := keys_le l k
      obtain ⟨q, hqe⟩ : ∃ q, q = ((l.take k).filter Col.key).length := ⟨_, rfl⟩
      rw [← hqe] at hql HK
      rw [← hqe]
      clear hqe
      go_wp2_with fail
      go_ret
      exact ⟨by rw [HN.out, ← HK.out] <;> rfl, H.below⟩

theorem rvalidname_b (s : ByteArray) (w : World) (hs : s.size ≤ maxLen) : Calls Tryd.prog 35 #[.string s] w fun e w' => e = .returned (.bool (nameB s)) ∧ Below w.heap.size w w' :=
  (rvalidname_any s w hs).mono fun e w' ⟨h1, h2⟩ => ⟨h1, by subst h2; exact Below.refl _ _⟩

set_option maxHeartbeats 8000000 in
theorem rsvalid_any (M : Nat → Prop) (w : World) (hM : ∀ b, M b → b < w.heap.size) (nm : ByteArray) (A : Option Addr) (n c : Nat) (l : List Col) (hD : Ro w M (SlR 4 A n (colCells l))) (hn : n ≤ 9223372036854775807) (hs : nm.size ≤ maxLen) (hok : ∀ x ∈ l, x.name.size ≤ maxLen) :
    Calls Tryd.prog 12 #[.agg #[.string nm, .slice A n c]] w fun e w' => e = .returned (.bool (schemaB nm l)) ∧ Below w.heap.size w w' := by
  have HL := hid (RdC.of_sl hD.now).len
  have K0 := ((Hold.start M w hM).add (hD.less (by simp [Mut]))).alloc_cst #[.string nm, .slice A n c] 24
  cases hv : nameB nm
  · have HN : Hid (schemaB nm l = false) := by unfold Hid; simp [schemaB, hv]
    have HV := hid hv; clear hv
    go_enter Tryd.func12, Tryd.ntmps12
    go_wp2_with fail
    refine (rvalidname_b nm _ hs).mono ?_
    rintro e w1 ⟨rfl, b1⟩
    have K1 := Hold.call (K0) b1
    clear b1
    try simp only [World.size_alloc] at K1
    have F1 := K1.facts
    simp only [World.size_alloc, World.size_drew, factsL, cellsF, Nat.reduceAdd, List.toList_toArray, List.set_cons_zero, List.set_cons_succ, List.setIfInBounds_toArray, and_true, true_and] at F1
    rw [HV.out]
    go_wp2_with fail
    go_ret
    exact ⟨by rw [HN.out] <;> rfl, K1.below⟩
  have HV := hid hv; clear hv
  by_cases h1 : n < 1
  · have HN : Hid (schemaB nm l = false) := by unfold Hid; have := HL.out; simp [schemaB]; intros; omega
    go_enter Tryd.func12, Tryd.ntmps12
    go_wp2_with fail
    refine (rvalidname_b nm _ hs).mono ?_
    rintro e w1 ⟨rfl, b1⟩
    have K1 := Hold.call (K0) b1
    clear b1
    try simp only [World.size_alloc] at K1
    have F1 := K1.facts
    simp only [World.size_alloc, World.size_drew, factsL, cellsF, Nat.reduceAdd, List.toList_toArray, List.set_cons_zero, List.set_cons_succ, List.setIfInBounds_toArray, and_true, true_and] at F1
    rw [HV.out]
    go_wp2_with fail
    go_ret
    exact ⟨by rw [HN.out] <;> rfl, K1.below⟩
  by_cases h6 : 6 < n
  · have HN : Hid (schemaB nm l = false) := by unfold Hid; have := HL.out; simp [schemaB]; intros; omega
    go_enter Tryd.func12, Tryd.ntmps12
    go_wp2_with fail
    refine (rvalidname_b nm _ hs).mono ?_
    rintro e w1 ⟨rfl, b1⟩
    have K1 := Hold.call (K0) b1
    clear b1
    try simp only [World.size_alloc] at K1
    have F1 := K1.facts
    simp only [World.size_alloc, World.size_drew, factsL, cellsF, Nat.reduceAdd, List.toList_toArray, List.set_cons_zero, List.set_cons_succ, List.setIfInBounds_toArray, and_true, true_and] at F1
    rw [HV.out]
    go_wp2_with fail
    go_ret
    exact ⟨by rw [HN.out] <;> rfl, K1.below⟩
  have n1 : 1 ≤ n := by omega
  have n6 : n ≤ 6 := by omega
  go_enter Tryd.func12, Tryd.ntmps12
  go_wp2_with fail
  refine (rvalidname_b nm _ hs).mono ?_
  rintro e w1 ⟨rfl, b1⟩
  have K1 := Hold.call (K0) b1
  clear b1
  try simp only [World.size_alloc] at K1
  have F1 := K1.facts
  simp only [World.size_alloc, World.size_drew, factsL, cellsF, Nat.reduceAdd, List.toList_toArray, List.set_cons_zero, List.set_cons_succ, List.setIfInBounds_toArray, and_true, true_and] at F1
  rw [HV.out]
  go_wp2_with fail
  go_loopw [3, 25] (fun q i wr => ∃ k : Nat, k ≤ n ∧ i = .int .i64 k ∧ q = .int .i64 ((l.take k).filter Col.key).length ∧ okFrom (colOk l) 0 l = okFrom (colOk l) k (l.drop k) ∧ Hold M none w wr [.cst w.heap.size 24 #[.string nm, .slice A n c], .ro (SlR 4 A n (colCells l))]) (fun _ i _ => n - (intOf i).toNat)
  case atStart => exact ⟨0, by omega, rfl, rfl, rfl, K1⟩
  case round =>
    obtain ⟨k, hk, rfl, rfl, hf, H⟩ := hrel
    have HF := hid hf; clear hf F1
    by_cases hlt : k < n
    · obtain ⟨x, hc⟩ := get_col HL.out hlt
      have hx : x.name.size ≤ maxLen := hok x (List.mem_of_getElem? hc)
      have hfl := find_le (named_self x) hc
      have HQ := hid (filter_snoc Col.key hc)
      have hql := keys_le l k
      have hql1 := keys_le l (k + 1)
      obtain ⟨b, o, rfl, hb, c0, c1, c2, c3⟩ := (RdC.of_sl (H.ro 1 rfl).now).at_ hc
      have HOk : Hid (colOk l k x = (nameB x.name && (findB (named x.name) l == (k : Int)) && decide (1 ≤ x.ty) && decide (x.ty ≤ 3) && (!x.key || x.nn))) := rfl
      have HBad : Hid (colOk l k x = false → schemaB nm l = false) := fun h => schemaB_bad (ok_bad HF.out hc h)
      have HGood : Hid (colOk l k x = true → okFrom (colOk l) 0 l = okFrom (colOk l) (k + 1) (l.drop (k + 1))) := fun h => ok_good HF.out hc h
      obtain ⟨nx, ty, nn, key⟩ := x
      simp only at c0 c1 c2 c3 hx hfl
      have HX := hid (find_any M)
      obtain ⟨f, hfe⟩ : ∃ f, f = findB (named nx) l := ⟨_, rfl⟩
      rw [← hfe] at hfl
      have HFE := hid hfe; clear hfe
      obtain ⟨q, hqe⟩ : ∃ q, q = ((l.take k).filter Col.key).length := ⟨_, rfl⟩
      rw [← hqe] at hql
      have HQE := hid hqe
      rw [← hqe]
      clear hqe hc
      simp only at HOk HQ
      rw [← HFE.out] at HOk
      cases hvx : nameB nx
      · have HC : Hid (colOk l k ⟨nx, ty, nn, key⟩ = false) := by unfold Hid; rw [HOk.out, hvx]; rfl
        have HVX := hid hvx; clear hvx
        have KB := H.alloc_cst #[.string nx, .int .i64 ty, .bool nn, .bool key] 35
        go_wp2_with fail
        refine (rvalidname_b nx _ hx).mono ?_
        rintro e w2 ⟨rfl, b2⟩
        have K2 := Hold.call (KB) b2
        clear b2
        try simp only [World.size_alloc] at K2
        have F2 := K2.facts
        simp only [World.size_alloc, World.size_drew, factsL, cellsF, Nat.reduceAdd, List.toList_toArray, List.set_cons_zero, List.set_cons_succ, List.setIfInBounds_toArray, and_true, true_and] at F2
        rw [HVX.out]
        go_wp2_with fail
        go_ret
        exact ⟨by rw [HBad.out HC.out] <;> rfl, K2.below⟩
      have HVX := hid hvx; clear hvx
      by_cases hlo : ty < 1
      · have HC : Hid (colOk l k ⟨nx, ty, nn, key⟩ = false) := by unfold Hid; rw [HOk.out, show decide (1 ≤ ty) = false from by simp; omega]; simp
        have KB := H.alloc_cst #[.string nx, .int .i64 ty, .bool nn, .bool key] 35
        go_wp2_with fail
        refine (rvalidname_b nx _ hx).mono ?_
        rintro e w2 ⟨rfl, b2⟩
        have K2 := Hold.call (KB) b2
        clear b2
        try simp only [World.size_alloc] at K2
        have F2 := K2.facts
        simp only [World.size_alloc, World.size_drew, factsL, cellsF, Nat.reduceAdd, List.toList_toArray, List.set_cons_zero, List.set_cons_succ, List.setIfInBounds_toArray, and_true, true_and] at F2
        rw [HVX.out]
        go_wp2_with fail
        go_ret
        exact ⟨by rw [HBad.out HC.out] <;> rfl, K2.below⟩
      have hlo1 : 1 ≤ ty := by omega
      by_cases hhi : 3 < ty
      · have HC : Hid (colOk l k ⟨nx, ty, nn, key⟩ = false) := by unfold Hid; rw [HOk.out, show decide (ty ≤ 3) = false from by simp; omega]; simp
        have KB := H.alloc_cst #[.string nx, .int .i64 ty, .bool nn, .bool key] 35
        go_wp2_with fail
        refine (rvalidname_b nx _ hx).mono ?_
        rintro e w2 ⟨rfl, b2⟩
        have K2 := Hold.call (KB) b2
        clear b2
        try simp only [World.size_alloc] at K2
        have F2 := K2.facts
        simp only [World.size_alloc, World.size_drew, factsL, cellsF, Nat.reduceAdd, List.toList_toArray, List.set_cons_zero, List.set_cons_succ, List.setIfInBounds_toArray, and_true, true_and] at F2
        rw [HVX.out]
        go_wp2_with fail
        go_ret
        exact ⟨by rw [HBad.out HC.out] <;> rfl, K2.below⟩
      have hhi3 : ty ≤ 3 := by omega
      by_cases hkn : key = false ∨ nn = true
      rotate_left
      · obtain ⟨rfl, rfl⟩ : key = true ∧ nn = false := by cases key <;> cases nn <;> simp at hkn ⊢
        have HC : Hid (colOk l k ⟨nx, ty, false, true⟩ = false) := by unfold Hid; rw [HOk.out]; simp
        clear hkn
        have KB := H.alloc_cst #[.string nx, .int .i64 ty, .bool false, .bool true] 35
        go_wp2_with fail
        refine (rvalidname_b nx _ hx).mono ?_
        rintro e w2 ⟨rfl, b2⟩
        have K2 := Hold.call (KB) b2
        clear b2
        try simp only [World.size_alloc] at K2
        have F2 := K2.facts
        simp only [World.size_alloc, World.size_drew, factsL, cellsF, Nat.reduceAdd, List.toList_toArray, List.set_cons_zero, List.set_cons_succ, List.setIfInBounds_toArray, and_true, true_and] at F2
        rw [HVX.out]
        go_wp2_with fail
        go_ret
        exact ⟨by rw [HBad.out HC.out] <;> rfl, K2.below⟩
      by_cases hfk : f < k
      · have HC : Hid (colOk l k ⟨nx, ty, nn, key⟩ = false) := by unfold Hid; rw [HOk.out, show (f == (k : Int)) = false from by rw [beq_eq_false_iff_ne]; omega]; simp
        have hne : (f != (k : Int)) = true := by rw [bne_iff_ne]; omega
        rcases hkn with rfl | rfl
        · have KB := H.alloc_cst #[.string nx, .int .i64 ty, .bool nn, .bool false] 35
          go_wp2_with fail
          refine (rvalidname_b nx _ hx).mono ?_
          rintro e w2 ⟨rfl, b2⟩
          have K2 := Hold.call (KB) b2
          clear b2
          try simp only [World.size_alloc] at K2
          have F2 := K2.facts
          simp only [World.size_alloc, World.size_drew, factsL, cellsF, Nat.reduceAdd, List.toList_toArray, List.set_cons_zero, List.set_cons_succ, List.setIfInBounds_toArray, and_true, true_and] at F2
          rw [HVX.out]
          go_wp2_with fail
          refine (rfind_any (Mut M _) _ K2.mutLt nm _ n c l nx (K2.ro 2 rfl) hn).mono ?_
          rintro e w3 ⟨rfl, b3⟩
          have K3 := Hold.call K2 b3
          clear b3
          rw [← HFE.out]
          have F3 := K3.facts
          simp only [World.size_alloc, World.size_drew, factsL, cellsF, Nat.reduceAdd, List.toList_toArray, List.set_cons_zero, List.set_cons_succ, List.setIfInBounds_toArray, and_true, true_and] at F3
          go_wp2_with fail
          go_ret
          exact ⟨by rw [HBad.out HC.out] <;> rfl, K3.below⟩
        · cases key
          · have KB := H.alloc_cst #[.string nx, .int .i64 ty, .bool true, .bool false] 35
            go_wp2_with fail
            refine (rvalidname_b nx _ hx).mono ?_
            rintro e w2 ⟨rfl, b2⟩
            have K2 := Hold.call (KB) b2
            clear b2
            try simp only [World.size_alloc] at K2
            have F2 := K2.facts
            simp only [World.size_alloc, World.size_drew, factsL, cellsF, Nat.reduceAdd, List.toList_toArray, List.set_cons_zero, List.set_cons_succ, List.setIfInBounds_toArray, and_true, true_and] at F2
            rw [HVX.out]
            go_wp2_with fail
            refine (rfind_any (Mut M _) _ K2.mutLt nm _ n c l nx (K2.ro 2 rfl) hn).mono ?_
            rintro e w3 ⟨rfl, b3⟩
            have K3 := Hold.call K2 b3
            clear b3
            rw [← HFE.out]
            have F3 := K3.facts
            simp only [World.size_alloc, World.size_drew, factsL, cellsF, Nat.reduceAdd, List.toList_toArray, List.set_cons_zero, List.set_cons_succ, List.setIfInBounds_toArray, and_true, true_and] at F3
            go_wp2_with fail
            go_ret
            exact ⟨by rw [HBad.out HC.out] <;> rfl, K3.below⟩
          · have KB := H.alloc_cst #[.string nx, .int .i64 ty, .bool true, .bool true] 35
            go_wp2_with fail
            refine (rvalidname_b nx _ hx).mono ?_
            rintro e w2 ⟨rfl, b2⟩
            have K2 := Hold.call (KB) b2
            clear b2
            try simp only [World.size_alloc] at K2
            have F2 := K2.facts
            simp only [World.size_alloc, World.size_drew, factsL, cellsF, Nat.reduceAdd, List.toList_toArray, List.set_cons_zero, List.set_cons_succ, List.setIfInBounds_toArray, and_true, true_and] at F2
            rw [HVX.out]
            go_wp2_with fail
            refine (rfind_any (Mut M _) _ K2.mutLt nm _ n c l nx (K2.ro 2 rfl) hn).mono ?_
            rintro e w3 ⟨rfl, b3⟩
            have K3 := Hold.call K2 b3
            clear b3
            rw [← HFE.out]
            have F3 := K3.facts
            simp only [World.size_alloc, World.size_drew, factsL, cellsF, Nat.reduceAdd, List.toList_toArray, List.set_cons_zero, List.set_cons_succ, List.setIfInBounds_toArray, and_true, true_and] at F3
            go_wp2_with fail
            go_ret
            exact ⟨by rw [HBad.out HC.out] <;> rfl, K3.below⟩
      have hfe : f = k := by omega
      have hne : (f != (k : Int)) = false := by rw [bne_eq_false_iff_eq]; omega
      have HFK := hid hfe; clear hfe
      have HC : Hid (colOk l k ⟨nx, ty, nn, key⟩ = true) := by unfold Hid; rw [HOk.out, HVX.out, HFK.out, show decide (1 ≤ ty) = true from by simp; omega, show decide (ty ≤ 3) = true from by simp; omega]; rcases hkn with rfl | rfl <;> simp
      rcases hkn with rfl | rfl
      · have HQ0 : Hid (((l.take (k + 1)).filter Col.key).length = q) := by unfold Hid; rw [HQ.out, HQE.out]; rfl
        have KB := H.alloc_cst #[.string nx, .int .i64 ty, .bool nn, .bool false] 35
        go_wp2_with fail
        refine (rvalidname_b nx _ hx).mono ?_
        rintro e w2 ⟨rfl, b2⟩
        have K2 := Hold.call (KB) b2
        clear b2
        try simp only [World.size_alloc] at K2
        have F2 := K2.facts
        simp only [World.size_alloc, World.size_drew, factsL, cellsF, Nat.reduceAdd, List.toList_toArray, List.set_cons_zero, List.set_cons_succ, List.setIfInBounds_toArray, and_true, true_and] at F2
        rw [HVX.out]
        go_wp2_with fail
        refine (rfind_any (Mut M _) _ K2.mutLt nm _ n c l nx (K2.ro 2 rfl) hn).mono ?_
        rintro e w3 ⟨rfl, b3⟩
        have K3 := Hold.call K2 b3
        clear b3
        rw [← HFE.out]
        have F3 := K3.facts
        simp only [World.size_alloc, World.size_drew, factsL, cellsF, Nat.reduceAdd, List.toList_toArray, List.set_cons_zero, List.set_cons_succ, List.setIfInBounds_toArray, and_true, true_and] at F3
        go_wp2_with fail
        go_roundw
        case rel => exact ⟨k + 1, by omega, by go_num, by rw [HQ0.out], HGood.out HC.out, K3.drop (List.sublist_cons_self _ _)⟩
        case measure => simp [intOf]; omega
      · cases key
        · have HQ0 : Hid (((l.take (k + 1)).filter Col.key).length = q) := by unfold Hid; rw [HQ.out, HQE.out]; rfl
          have KB := H.alloc_cst #[.string nx, .int .i64 ty, .bool true, .bool false] 35
          go_wp2_with fail
          refine (rvalidname_b nx _ hx).mono ?_
          rintro e w2 ⟨rfl, b2⟩
          have K2 := Hold.call (KB) b2
          clear b2
          try simp only [World.size_alloc] at K2
          have F2 := K2.facts
          simp only [World.size_alloc, World.size_drew, factsL, cellsF, Nat.reduceAdd, List.toList_toArray, List.set_cons_zero, List.set_cons_succ, List.setIfInBounds_toArray, and_true, true_and] at F2
          rw [HVX.out]
          go_wp2_with fail
          refine (rfind_any (Mut M _) _ K2.mutLt nm _ n c l nx (K2.ro 2 rfl) hn).mono ?_
          rintro e w3 ⟨rfl, b3⟩
          have K3 := Hold.call K2 b3
          clear b3
          rw [← HFE.out]
          have F3 := K3.facts
          simp only [World.size_alloc, World.size_drew, factsL, cellsF, Nat.reduceAdd, List.toList_toArray, List.set_cons_zero, List.set_cons_succ, List.setIfInBounds_toArray, and_true, true_and] at F3
          go_wp2_with fail
          go_roundw
          case rel => exact ⟨k + 1, by omega, by go_num, by rw [HQ0.out], HGood.out HC.out, K3.drop (List.sublist_cons_self _ _)⟩
          case measure => simp [intOf]; omega
        · have HQ0 : Hid (((l.take (k + 1)).filter Col.key).length = q + 1) := by unfold Hid; rw [HQ.out, HQE.out]; rfl
          have KB := H.alloc_cst #[.string nx, .int .i64 ty, .bool true, .bool true] 35
          go_wp2_with fail
          refine (rvalidname_b nx _ hx).mono ?_
          rintro e w2 ⟨rfl, b2⟩
          have K2 := Hold.call (KB) b2
          clear b2
          try simp only [World.size_alloc] at K2
          have F2 := K2.facts
          simp only [World.size_alloc, World.size_drew, factsL, cellsF, Nat.reduceAdd, List.toList_toArray, List.set_cons_zero, List.set_cons_succ, List.setIfInBounds_toArray, and_true, true_and] at F2
          rw [HVX.out]
          go_wp2_with fail
          refine (rfind_any (Mut M _) _ K2.mutLt nm _ n c l nx (K2.ro 2 rfl) hn).mono ?_
          rintro e w3 ⟨rfl, b3⟩
          have K3 := Hold.call K2 b3
          clear b3
          rw [← HFE.out]
          have F3 := K3.facts
          simp only [World.size_alloc, World.size_drew, factsL, cellsF, Nat.reduceAdd, List.toList_toArray, List.set_cons_zero, List.set_cons_succ, List.setIfInBounds_toArray, and_true, true_and] at F3
          go_wp2_with fail
          go_roundw
          case rel => exact ⟨k + 1, by omega, by go_num, by rw [HQ0.out]; go_num, HGood.out HC.out, K3.drop (List.sublist_cons_self _ _)⟩
          case measure => simp [intOf]; omega
    · obtain rfl : k = n := by omega
      have HN := hid (schemaB_end HV.out HL.out n1 n6 (ok_end HF.out (by rw [HL.out]; omega)))
      have HK := hid (keys_end HL.out)
      have hql := keys_le l k
      obtain ⟨q, hqe⟩ : ∃ q, q = ((l.take k).filter Col.key).length := ⟨_, rfl⟩
      rw [← hqe] at hql HK
      rw [← hqe]
      clear hqe
      go_wp2_with fail
      go_ret
      exact ⟨by rw [HN.out, ← HK.out] <;> rfl, H.below⟩
end Go.Proofs.YtdgdllicmccnfaaDoor

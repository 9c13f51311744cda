/- GraphForms answers true, for all graphs, lists of nodes and tapes. No condition. -/
import Derived.Test.YtaefjgjojflppaaGraphFormsMC
import Derived.Test.YtaefjgjojflppaaGraphFormsMA
import Derived.SizedLaws
import Derived.Deep.Slices
import Derived.Deep.Fields
import Derived.ChangeSame
import Derived.Lib.SmallJoins
import Derived.Test.YtaefjgjojflppaaGraphFormsMB
namespace Go.Proofs.Ytaefjgjojflppaa
open Go.RowKit
set_option linter.unusedVariables false
set_option linter.unusedSimpArgs false

abbrev clV (bx : Nat) : Value := .func (.func 51) #[] #[.pointer (some ⟨bx, 0, none⟩)]
set_option maxHeartbeats 4000000 in
set_option maxRecDepth 100000 in
theorem indexEds_any (w : World) (A : Option Addr) (n c : Nat) (l : List Ed) (bx : Nat) (R : Option Addr) (m d : Nat) (rm : List Int) (hD : Ro w None_ (EdsIn A n l)) (hB : Ro w None_ (fun w => w.heap[bx]? = some (.cells #[.slice R m d] 33 (0, 0)))) (hE : Ro w None_ (IsIn R m rm)) (hn : n ≤ 1000000) (hm : m ≤ 17592186044416) :
    Calls Try.prog 61 #[.slice A n c, clV bx] w fun e w' => (∃ i : Int, e = .returned (.int .i64 i) ∧ ((i = -1 ∧ woutL l rm = l) ∨ ∃ (k : Nat) (x : Ed), i = k ∧ l[k]? = some x ∧ touB rm x = true ∧ woutL (l.take k) rm = l.take k)) ∧ Below w.heap.size w w' := by
  have HL := hid hD.now.len
  have K0 := (((Hold.start None_ w (fun b hb => hb.elim)).add (hE.less (by simp [Mut]))).add (hB.less (by simp [Mut, Hp.foot]))).add (hD.less (by simp [Mut, Hp.foot]))
  go_enter Try.func61, Try.ntmps61
  go_wp2_with fail
  go_loopw [8] (fun i wr => ∃ (k : Nat), k ≤ n ∧ i = .int .i64 k ∧ Hid (woutL (l.take k) rm = l.take k) ∧ Hold None_ none w wr [.ro (EdsIn A n l), .ro (fun w => w.heap[bx]? = some (.cells #[.slice R m d] 33 (0, 0))), .ro (IsIn R m rm)]) (fun i _ => n - (intOf i).toNat)
  case atStart => exact ⟨0, by omega, rfl, hid rfl, K0⟩
  case round =>
    clear K0
    obtain ⟨k, hk, rfl, HW, H⟩ := hrel
    by_cases hlt : k < n
    · have hd : decide ((k : Int) < (n : Int)) = true := by simp; omega
      have i0 : (0 : Int) ≤ (k : Int) := by omega
      have i1 : (k : Int) < (n : Int) := by omega
      obtain ⟨x, hx⟩ := get_of HL.out hlt
      obtain ⟨g, o, rfl, hb, c0, c1⟩ := (H.ro 0 rfl).now.at_ hx
      have HX := hid hx; clear hx
      go_wp2_with fail
      refine (gwclos_any _ wr H.mutLt x bx R m d rm (H.ro 1 rfl) (H.ro 2 rfl) hm).mono ?_
      rintro e w5 ⟨rfl, b5⟩
      have K5 := H.call b5
      clear b5 H
      cases ht : touB rm x
      · have HT := hid ht; clear ht
        go_wp2_with fail
        go_roundw
        case rel => exact ⟨k + 1, by omega, by go_num, hid (by rw [wout_snoc HX.out, HT.out, HW.out, List.take_add_one, HX.out]; rfl), K5⟩
        case measure => simp [intOf]; omega
      · have HT := hid ht; clear ht
        go_wp2_with fail
        go_ret
        exact ⟨⟨k, by first | rfl | simp, .inr ⟨k, x, rfl, HX.out, HT.out, HW.out⟩⟩, K5.below⟩
    · obtain rfl : n = k := by omega
      have hd : decide ((n : Int) < (n : Int)) = false := by simp
      go_wp2_with fail
      go_ret
      refine ⟨⟨-1, by first | rfl | simp, .inl ⟨rfl, ?_⟩⟩, H.below⟩
      have := HW.out
      rwa [List.take_of_length_le (show l.length ≤ n by rw [HL.out]; exact Nat.le_refl _)] at this
theorem edCells_set (l : List Ed) (q : Nat) (x : Ed) : edCells (l.set q x) = ((edCells l).set (q * 2) (.int .i64 x.f)).set (q * 2 + 1) (.int .i64 x.t) := by
  induction l generalizing q with
  | nil => simp [edCells]
  | cons y l ih =>
    cases q with
    | zero => simp [edCells, Ed.cells]
    | succ q =>
      have := ih q
      simp only [edCells, List.set_cons_succ, List.flatMap_cons, Ed.cells] at this ⊢
      rw [this, show (q + 1) * 2 = q * 2 + 1 + 1 by omega]
      simp
abbrev DL (g n c : Nat) (cur : List Ed) (bx : Nat) (R : Option Addr) (m d : Nat) (rm : List Int) (F : List Hp) : List Hp :=
  .own 53 2 (.slice (some ⟨g, 0, none⟩) n c) n (edCells cur) :: .ro (fun w => w.heap[bx]? = some (.cells #[.slice R m d] 33 (0, 0))) :: .ro (IsIn R m rm) :: F
set_option maxHeartbeats 4000000 in
set_option maxRecDepth 100000 in
theorem deleteEds_any (M : Nat → Prop) (w0 w : World) (g n c : Nat) (l : List Ed) (bx : Nat) (R : Option Addr) (m d : Nat) (rm : List Int) (F : List Hp) (K : Hold M none w0 w (DL g n c l bx R m d rm F)) (hn : n ≤ 1000000) (hm : m ≤ 17592186044416) :
    Calls Try.prog 50 #[.slice (some ⟨g, 0, none⟩) n c, clV bx] w fun e w' => ∃ q, e = .returned (.slice (some ⟨g, 0, none⟩) q c) ∧ q = (woutL l rm).length ∧ Hold M none w0 w' (.own 53 2 (.slice (some ⟨g, 0, none⟩) q c) q (edCells (woutL l rm)) :: .ro (fun w => w.heap[bx]? = some (.cells #[.slice R m d] 33 (0, 0))) :: .ro (IsIn R m rm) :: F) := by
  have HL := hid (show l.length = n by have := (K.get 0 rfl).1; rw [edCells_len] at this; omega)
  have hcn := own_caps (K.get 0 rfl)
  have r0 : Ro w None_ (EdsIn (some ⟨g, 0, none⟩) n l) := (Rd.of_own (K.get 0 rfl)).ro (Nat.le_refl _) (fun _ _ h => h)
  go_enter Try.func50, Try.ntmps50
  go_wp2_with fail
  refine (indexEds_any w _ n c l bx R m d rm r0 ((K.ro 1 rfl).less (fun _ h => h.elim)) ((K.ro 2 rfl).less (fun _ h => h.elim)) hn hm).mono ?_
  rintro e w2 ⟨⟨i, rfl, hi⟩, b2⟩
  have K2 := K.call b2
  clear r0 b2 K
  rcases hi with ⟨rfl, hw⟩ | ⟨k, x, rfl, hx, ht, hw⟩
  · have HW := hid hw; clear hw
    go_wp2_with fail
    go_ret
    exact ⟨n, by first | rfl | simp, by rw [HW.out, HL.out], by rw [HW.out]; exact K2⟩
  · have hkn : k < n := by have := (List.getElem?_eq_some_iff.1 hx).1; have := HL.out; omega
    have he : ((k : Int) == (-1 : Int)) = false := by rw [beq_eq_false_iff_ne]; omega
    have HS := hid (show woutL (l.take (k + 1)) rm = l.take k by rw [wout_snoc hx, ht, hw]; simp)
    clear hx ht hw
    go_wp2_with fail
    go_loopw [5, 6] (fun iv jv wr => ∃ (q j : Nat) (cur : List Ed), q < j ∧ j ≤ n ∧ iv = .int .i64 q ∧ jv = .int .i64 j ∧ Hid (cur.length = n ∧ cur.take q = woutL (l.take j) rm ∧ cur.drop j = l.drop j) ∧ Hold M none w0 wr (DL g n c cur bx R m d rm F)) (fun _ jv _ => n - (intOf jv).toNat)
    case atStart => exact ⟨k, k + 1, l, by omega, by omega, rfl, by go_num, hid ⟨HL.out, HS.out.symm, rfl⟩, K2⟩
    case round =>
      clear K2
      obtain ⟨q, j, cur, hqj, hj, rfl, rfl, HC, H⟩ := hrel
      by_cases hlt : j < n
      · have hd : decide ((j : Int) < (n : Int)) = true := by simp; omega
        have hjl : j < l.length := by rw [HL.out]; exact hlt
        obtain ⟨x, hx⟩ := get_of HL.out hlt
        have hcx : cur[j]? = some x := by
          have h1 : (cur.drop j)[0]? = (l.drop j)[0]? := by rw [HC.out.2.2]
          simpa [hx] using h1
        have HX := hid hx; clear hx
        have c0 : wr.cell? ⟨g, j * 2, none⟩ = some (.int .i64 x.f) := ((H.get 0 rfl).cellAt (j * 2) (by omega)).trans (flat_get Ed.cells 2 (fun _ => rfl) cur j 0 x (by omega) hcx)
        have c1 : wr.cell? ⟨g, j * 2 + 1, none⟩ = some (.int .i64 x.t) := ((H.get 0 rfl).cellAt (j * 2 + 1) (by omega)).trans (flat_get Ed.cells 2 (fun _ => rfl) cur j 1 x (by omega) hcx)
        clear hcx
        have i0 : (0 : Int) ≤ (j : Int) := by omega
        have i1 : (j : Int) < (n : Int) := by omega
        have i2 : (0 : Int) ≤ (q : Int) := by omega
        have i3 : (q : Int) < (n : Int) := by omega
        have K1 := H.alloc_cst #[.int .i64 x.f, .int .i64 x.t] 53
        go_wp2_with fail
        refine (gwclos_any _ _ K1.mutLt x bx R m d rm (K1.ro 2 rfl) (K1.ro 3 rfl) hm).mono ?_
        rintro e w5 ⟨rfl, b5⟩
        have K5 := K1.call b5
        have hgl : g < wr.heap.size := (H.fresh _ (List.mem_cons_self ..) g rfl).2
        obtain ⟨gb, hgb⟩ : ∃ gb, gb = wr.heap.size := ⟨_, rfl⟩
        rw [← hgb] at K5 ⊢
        have hgg : ¬ gb = g := by omega
        have HGB := hid hgb
        clear b5 K1 hgb
        cases ht : touB rm x
        · have HT := hid ht; clear ht
          have F5 := K5.facts
          simp only [World.size_alloc, World.size_drew, factsL, cellsF, Nat.reduceAdd, List.toList_toArray, and_true, true_and] at F5
          obtain ⟨y0, hy0⟩ : ∃ y, w5.cell? ⟨g, q * 2, none⟩ = some y := ⟨_, ((K5.get 1 rfl).cellAt (q * 2) (by omega)).trans (List.getElem?_eq_getElem (by rw [edCells_len, HC.out.1]; omega))⟩
          obtain ⟨y1, hy1⟩ : ∃ y, w5.cell? ⟨g, q * 2 + 1, none⟩ = some y := ⟨_, ((K5.get 1 rfl).cellAt (q * 2 + 1) (by omega)).trans (List.getElem?_eq_getElem (by rw [edCells_len, HC.out.1]; omega))⟩
          have hf0 := (K5.get 1 rfl).frozenAt (q * 2)
          have hf1 := (K5.get 1 rfl).frozenAt (q * 2 + 1)
          have K6 := (K5.put_ 1 rfl (q * 2) (.int .i64 x.f)).put_ 1 rfl (q * 2 + 1) (.int .i64 x.t)
          simp only [List.set_cons_zero, List.set_cons_succ] at K6
          rw [← edCells_set] at K6
          have hgg2 : ¬ g = gb := fun e => hgg e.symm
          go_wp2_with fail
          have hqc : q < cur.length := by rw [HC.out.1]; omega
          refine ⟨⟨q + 1, j + 1, cur.set q x, by omega, by omega, by go_num, by go_num, hid ⟨by simpa using HC.out.1, ?_, ?_⟩, K6.drop (List.sublist_cons_self _ _)⟩, by simp [intOf]; omega⟩
          · rw [wout_snoc HX.out, HT.out, ← HC.out.2.1, List.take_succ_eq_append_getElem (by simpa using hqc), List.getElem_set_self, List.take_set_of_le (Nat.le_refl _)]
            rfl
          · rw [List.drop_set_of_lt (by omega)]
            have := congrArg List.tail HC.out.2.2
            simpa [List.tail_drop] using this
        · have HT := hid ht; clear ht
          go_wp2_with fail
          go_roundw
          case rel => exact ⟨q, j + 1, cur, by omega, by omega, rfl, by go_num, hid ⟨HC.out.1, by rw [HC.out.2.1, wout_snoc HX.out, HT.out]; simp, by have := congrArg List.tail HC.out.2.2; simpa [List.tail_drop] using this⟩, K5.drop (List.sublist_cons_self _ _)⟩
          case measure => simp [intOf]; omega
      · obtain rfl : n = j := by omega
        have hd : decide ((n : Int) < (n : Int)) = false := by simp
        have i2 : (0 : Int) ≤ (q : Int) := by omega
        have i3 : (q : Int) ≤ (n : Int) := by omega
        have i4 : (q : Int) ≤ (c : Int) := by omega
        have hne : ¬ c = q := by omega
        have hcl : ∀ j, j < (n - q) * 2 → (wr.cell? ⟨g, q * 2 + j, none⟩).isSome = true := fun j hj => by
          rw [(H.get 0 rfl).cellAt (q * 2 + j) (by omega), List.getElem?_eq_getElem (by rw [edCells_len, HC.out.1]; omega)]; rfl
        have hfl : ∀ j, j < (n - q) * 2 → wr.frozen? ⟨g, q * 2 + j, none⟩ = false := fun j hj => (H.get 0 rfl).frozenAt (q * 2 + j)
        have HRC := hid fun ty => run_clear_ed wr ty g (q * 2) (n - q) (c - q) (by omega) hcl hfl
        clear hcl hfl
        have K6 := (Hold.setCells (List.replicate ((n - q) * 2) (.int .i64 0)) _ (q * 2) _ _ H (i := 0) rfl).cutRow 0 (n := q) rfl (by omega)
        simp only [List.set_cons_zero, List.set_cons_succ] at K6
        rw [setL_take _ _ _ _ (Nat.le_refl _)] at K6
        have e1 : (edCells cur).take (q * 2) = edCells (woutL l rm) := by
          have h1 := HC.out.2.1
          rw [List.take_of_length_le (show l.length ≤ n by rw [HL.out]; exact Nat.le_refl _)] at h1
          rw [← h1]
          have h2 : edCells cur = edCells (cur.take q) ++ edCells (cur.drop q) := by
            unfold edCells; rw [← List.flatMap_append, List.take_append_drop]
          rw [h2, List.take_append_of_le_length (by rw [edCells_len, List.length_take, HC.out.1]; omega), List.take_of_length_le (by rw [edCells_len, List.length_take, HC.out.1]; omega)]
        rw [e1] at K6
        clear e1
        have hq2 := hid (show q = (woutL l rm).length by
          have h1 := HC.out.2.1
          rw [List.take_of_length_le (show l.length ≤ n by rw [HL.out]; exact Nat.le_refl _)] at h1
          rw [← h1, List.length_take, HC.out.1]; omega)
        have hrc := HRC.out 0
        go_wp2_with fail
        go_ret
        exact ⟨q, by first | rfl | simp, hq2.out, K6⟩
end Go.Proofs.Ytaefjgjojflppaa

namespace Go.Proofs.Ytaefjgjojflppaa
open Go.RowKit
set_option linter.unusedVariables false
set_option linter.unusedSimpArgs false

set_option maxHeartbeats 4000000 in
set_option maxRecDepth 100000 in
theorem deleteNil_any (w : World) (bx : Nat) (R : Option Addr) (m d : Nat) (rm : List Int) (hB : Ro w None_ (fun w => w.heap[bx]? = some (.cells #[.slice R m d] 33 (0, 0)))) (hE : Ro w None_ (IsIn R m rm)) (hm : m ≤ 17592186044416) :
    Calls Try.prog 50 #[.slice none 0 0, clV bx] w fun e w' => e = .returned (.slice none 0 0) ∧ Below w.heap.size w w' := by
  go_enter Try.func50, Try.ntmps50
  go_wp2_with fail
  refine (indexEds_any w none 0 0 [] bx R m d rm ro_nil hB hE (by omega) hm).mono ?_
  rintro e w2 ⟨⟨i, rfl, hi⟩, b2⟩
  rcases hi with ⟨rfl, hw⟩ | ⟨k, x, rfl, hx, ht, hw⟩
  · go_wp2_with fail
    go_ret
    exact ⟨by first | rfl | simp, b2⟩
  · simp at hx
set_option maxHeartbeats 4000000 in
set_option maxRecDepth 100000 in
theorem gwout_any (M : Nat → Prop) (w : World) (hM : ∀ b, M b → b < w.heap.size) (A : Option Addr) (n c : Nat) (l : List Ed) (R : Option Addr) (m d : Nat) (rm : List Int) (hD : Ro w M (EdsIn A n l)) (hE : Ro w M (IsIn R m rm)) (hn : n ≤ 1000000) (hm : m ≤ 17592186044416) :
    Calls Try.prog 33 #[.slice A n c, .slice R m d] w fun e w' => EdsRet w M (woutL l rm) e w' := by
  have HL := hid hD.now.len
  have K0 := (((Hold.start M w hM).add (hE.less (by simp [Mut]))).add (hD.less (by simp [Mut, Hp.foot]))).alloc_cst #[.slice R m d] 33
  have K1 := K0.add (K0.get 0 rfl)
  obtain ⟨bx, hbx⟩ : ∃ bx, bx = w.heap.size := ⟨_, rfl⟩
  rw [← hbx] at K1
  have HBX := hid hbx
  go_enter Try.func33, Try.ntmps33
  go_wp2_with fail
  rw [← hbx]
  clear hbx K0
  refine (cloneEds_any _ A n c l (K1.ro 2 rfl).now hn).mono ?_
  rintro e w2 ⟨A2, n2, c2, rfl, hn2, ho2, b2⟩
  have K2 := K1.callOwn b2 ho2
  have HN2 := hid hn2
  clear ho2 b2 K1 hn2
  go_wp2_with fail
  have K3 := K2.drop (List.Sublist.cons_cons _ (List.Sublist.cons_cons _ (List.Sublist.cons _ (List.Sublist.cons _ (List.Sublist.refl _)))))
  clear K2
  have hcl := own_caps (K3.get 0 rfl)
  rcases own_addr (K3.get 0 rfl) with ⟨rfl, h0, h1⟩ | ⟨g, rfl, _⟩
  · subst h0 h1
    obtain rfl : l = [] := List.length_eq_zero_iff.1 (by rw [← HN2.out])
    refine (deleteNil_any w2 bx R m d rm ((K3.ro 1 rfl).less (fun _ h => h.elim)) ((K3.ro 2 rfl).less (fun _ h => h.elim)) hm).mono ?_
    rintro e w3 ⟨rfl, b3⟩
    have K4 := K3.call b3
    go_wp2_with fail
    go_ret
    exact ⟨none, 0, 0, by first | rfl | simp, rfl, by omega, by omega, ro_nil, K4.below⟩
  · refine (deleteEds_any M w w2 g n2 c2 l bx R m d rm [] K3 (by have h1 := HN2.out; have h2 := HL.out; omega) hm).mono ?_
    rintro e w3 ⟨q, rfl, hq, K4⟩
    have HQ := hid hq; clear hq
    have hc4 := own_caps (K4.get 0 rfl)
    have KS := K4.sealRow 0 rfl
    go_wp2_with fail
    go_ret
    exact ⟨_, q, c2, by first | rfl | simp, HQ.out, hc4.1, hc4.2.1, KS.roOut 0 rfl, KS.below⟩
end Go.Proofs.Ytaefjgjojflppaa

namespace Go.Proofs.Ytaefjgjojflppaa
open Go.RowKit
set_option linter.unusedVariables false
set_option linter.unusedSimpArgs false

theorem valid_snoc {N : Int} {l : List Ed} {x : Ed} (h : validG N l = true) (hx : inE N x = true) (hl : ∀ e ∈ l, edLt e x = true) : validG N (l ++ [x]) = true := by
  unfold validG at h ⊢
  simp only [Bool.and_eq_true] at h ⊢
  refine ⟨h.1, ?_⟩
  rw [List.all_eq_true] at h ⊢
  intro k hk
  have hk2 : k < l.length + 1 := by simpa using hk
  unfold okE
  rcases Nat.lt_or_ge k l.length with hlt | hge
  · have := h.2 k (List.mem_range.2 hlt)
    unfold okE at this
    have e1 : edAt (l ++ [x]) k = edAt l k := by simp [edAt, List.getD, List.getElem?_append_left hlt]
    have e2 : edAt (l ++ [x]) (k - 1) = edAt l (k - 1) := by simp [edAt, List.getD, List.getElem?_append_left (show k - 1 < l.length by omega)]
    rw [e1, e2]; exact this
  · obtain rfl : k = l.length := by omega
    have e1 : edAt (l ++ [x]) l.length = x := by simp [edAt, List.getD]
    rw [e1, hx, Bool.true_and]
    by_cases h0 : l.length = 0
    · simp [h0]
    · have hlt : l.length - 1 < l.length := by omega
      have e2 : edAt (l ++ [x]) (l.length - 1) = l[l.length - 1] := by simp [edAt, List.getD, List.getElem?_append_left hlt, hlt]
      rw [e2, hl _ (List.getElem_mem hlt)]; simp
/-- a valid graph whose edges come before (i, k) -/
structure GAt (N i k : Nat) (l : List Ed) : Prop where
  v : validG N l = true
  lt : ∀ e ∈ l, e.f < (i : Int) ∨ (e.f = (i : Int) ∧ e.t < (k : Int))
theorem GAt.skip {N i k : Nat} {l : List Ed} (h : GAt N i k l) : GAt N i (k + 1) l := ⟨h.v, fun e he => by have := h.lt e he; omega⟩
theorem GAt.take {N i k : Nat} {l : List Ed} (h : GAt N i k l) (hi : i < N) (hk : k < N) : GAt N i (k + 1) (l ++ [⟨(i : Int), (k : Int)⟩]) := by
  refine ⟨valid_snoc h.v (by unfold inE; simp only [Bool.and_eq_true, decide_eq_true_eq]; omega) fun e he => ?_, fun e he => ?_⟩
  · have := h.lt e he
    unfold edLt
    simp only [Bool.or_eq_true, Bool.and_eq_true, decide_eq_true_eq]
    omega
  · rcases List.mem_append.1 he with he | he
    · have := h.lt e he; omega
    · simp at he; subst he; exact .inr ⟨rfl, show (k : Int) < ((k + 1 : Nat) : Int) by omega⟩
theorem GAt.row {N i : Nat} {l : List Ed} (h : GAt N i N l) : GAt N (i + 1) 0 l := ⟨h.v, fun e he => by have := h.lt e he; omega⟩
/-- What made leaves: a valid graph, in memory that nobody writes. -/
def MadeG (w : World) (T : Nat) (M : Nat → Prop) (most : Nat) (e : Ending) (w' : World) : Prop :=
  ∃ (N : Nat) (A : Option Addr) (n c : Nat) (l : List Ed), e = .returned (.tuple #[.int .i64 N, .slice A n c]) ∧ N ≤ most ∧ n ≤ 100 ∧ n ≤ c ∧ c ≤ 9223372036854775807 ∧ validG N l = true ∧ Ro w' M (EdsIn A n l) ∧ Tp w' T ∧ w.grownBy w' (some T)
set_option maxHeartbeats 8000000 in
set_option maxRecDepth 100000 in
theorem gmade_any (M : Nat → Prop) (T : Nat) (N0 : Nat) (w : World) (hM : ∀ b, M b → b < w.heap.size) (ht : Tp w T) (hMT : ∀ b, M b → T ≤ b) (hN2 : N0 ≤ 9) :
    Calls Try.prog 26 #[.pointer (some ⟨T, 0, none⟩), .int .i64 N0] w fun e w' => MadeG w T M N0 e w' := by
  have K0 := Hold.startT M w T hM ht hMT
  go_enter Try.func26, Try.ntmps26
  go_wp2_with fail
  refine (next_any T (N0 + 1) _ (K0.tp_ 0 rfl) (by omega) (by omega)).mono ?_
  rintro e w1 ⟨N, rfl, n0, n1, t1, g1⟩
  have K2 := (Hold.callT K0 0 rfl g1 t1)
  clear g1 t1 K0
  obtain ⟨N, rfl⟩ := Int.eq_ofNat_of_zero_le n0
  go_wp2_with fail
  refine (next_any T 4 _ (K2.tp_ 0 rfl) (by omega) (by omega)).mono ?_
  rintro e w2 ⟨s, rfl, s0, s1, t2, g2⟩
  have K3 := (Hold.callT K2 0 rfl g2 t2).nil 53 2
  clear g2 t2 K2
  go_wp2_with fail
  go_loopw [8, 9] (fun v iv wr => ∃ (i n c : Nat) (A : Option Addr) (l : List Ed), iv = .int .i64 i ∧ i ≤ N ∧ v = .slice A n c ∧ n ≤ 9 * i ∧ Hid (GAt N i 0 l) ∧ Hold M (some T) w wr [.own 53 2 (.slice A n c) n (edCells l), .tp T]) (fun _ iv _ => N - (intOf iv).toNat)
  case atStart => exact ⟨0, 0, 0, none, [], rfl, by omega, rfl, by omega, hid ⟨validG_yes (by omega) (by omega) (by simp), by simp⟩, K3⟩
  case round =>
    clear K3
    obtain ⟨i, n, c, A, l, rfl, hi, rfl, hn, HG, H⟩ := hrel
    by_cases hlt : i < N
    · have hd : decide ((i : Int) < (N : Int)) = true := by simp; omega
      go_wp2_with fail
      go_loopw [8, 10] (fun v kv wr => ∃ (k n c : Nat) (A : Option Addr) (l : List Ed), kv = .int .i64 k ∧ k ≤ N ∧ v = .slice A n c ∧ n ≤ 9 * i + k ∧ Hid (GAt N i k l) ∧ Hold M (some T) w wr [.own 53 2 (.slice A n c) n (edCells l), .tp T]) (fun _ kv _ => N - (intOf kv).toNat)
      case atStart => exact ⟨0, n, c, A, l, rfl, by omega, rfl, by omega, HG, H⟩
      case round =>
        clear H HG hn
        obtain ⟨k, n, c, A, l, rfl, hk, rfl, hn, HG, H⟩ := hrel
        by_cases hlt2 : k < N
        · have hd2 : decide ((k : Int) < (N : Int)) = true := by simp; omega
          go_wp2_with fail
          refine (bool_any T (2 + s) _ (H.tp_ 1 rfl) (by omega) (by omega)).mono ?_
          rintro e w5 ⟨bb, rfl, t5, g5⟩
          have K5 := Hold.callT H 1 rfl g5 t5
          clear t5 g5 H
          cases bb
          · go_wp2_with fail
            go_roundw
            case rel => exact ⟨k + 1, n, c, A, l, by go_num, by omega, rfl, by omega, hid HG.out.skip, K5⟩
            case measure => simp [intOf]; omega
          · go_wp2_with (at_builtin; go_must (refine wpList_appH K5 0 rfl Try.elEd #[.int .i64 i, .int .i64 k] rfl (.tmp 31) (.tmp 35) rfl rfl w5.heap.size rfl rfl rfl (by intro u hu; simp at hu; rcases hu with rfl | rfl <;> rfl) (by omega) (by omega) ?_); intro g6 cap6 w6 hc6 hm6 K6)
            go_roundw
            case rel =>
              refine ⟨k + 1, n + 1, cap6, _, l ++ [⟨(i : Int), (k : Int)⟩], by go_num, by omega, rfl, by omega, hid (HG.out.take hlt hlt2), ?_⟩
              have e : edCells (l ++ [⟨(i : Int), (k : Int)⟩]) = edCells l ++ (#[Value.int .i64 (i : Int), .int .i64 (k : Int)]).toList := by simp [edCells, Ed.cells]
              rw [e]; exact K6
            case measure => simp [intOf]; omega
        · obtain rfl : k = N := by omega
          have hd2 : decide ((k : Int) < (k : Int)) = false := by simp
          go_wp2_with fail
          go_roundw
          case rel => exact ⟨i + 1, n, c, A, l, by go_num, by omega, rfl, by omega, hid HG.out.row, H⟩
          case measure => simp [intOf]; omega
    · obtain rfl : i = N := by omega
      have hd : decide ((i : Int) < (i : Int)) = false := by simp
      have hcap := own_caps (H.get 0 rfl)
      have KS := H.sealRow 0 rfl
      simp only [List.set_cons_zero] at KS
      go_wp2_with fail
      go_ret2
      exact ⟨i, A, n, c, l, rfl, by omega, by omega, hcap.1, hcap.2.1, HG.out.v, KS.roOut 0 rfl, KS.tp_ 1 rfl, KS.grow⟩
/-- the graph of the check -/
def kEd : List Ed := [⟨0, 1⟩, ⟨1, 0⟩, ⟨1, 2⟩]
theorem kOn : wonL 3 kEd = [0, 1] := by kernel_rfl
theorem kLng : lngL 3 kEd = -1 := by kernel_rfl
theorem kOut : woutL kEd [0] = [⟨1, 2⟩] := by decide
theorem kLng2 : lngL 3 [⟨1, 2⟩] = 2 := by kernel_rfl
set_option maxHeartbeats 4000000 in
theorem gknown_any (w : World) : Calls Try.prog 25 #[] w fun e w' => e = .returned (.bool true) ∧ Below w.heap.size w w' := by
  have K1 := (Hold.begin_ w).alloc_cst #[.int .i64 0, .int .i64 1, .int .i64 1, .int .i64 0, .int .i64 1, .int .i64 2] 53
  have k1 : Ro _ _ (EdsIn (some ⟨w.heap.size, 0, none⟩) 3 kEd) := ro_block (t := 53) (cs := #[.int .i64 0, .int .i64 1, .int .i64 1, .int .i64 0, .int .i64 1, .int .i64 2]) (n := 3) (size := 2) (K1.get 0 rfl) rfl
  have K2 := K1.add k1
  clear k1 K1
  go_enter Try.func25, Try.ntmps25
  go_wp2_with fail
  refine (gon_any _ _ K2.mutLt 3 (some ⟨w.heap.size, 0, none⟩) 3 3 kEd (K2.ro 0 rfl) (by omega)).mono ?_
  rintro e w3 ⟨A3, n3, c3, rfl, hn3, hc3, hc32, r3, b3⟩
  rw [kOn] at hn3 r3
  obtain rfl : n3 = 2 := hn3
  have K3 := (((K2.call b3).add r3).alloc_cst #[.int .i64 0, .int .i64 1] 3)
  have k4 : Ro _ _ (IsIn (some ⟨w3.heap.size, 0, none⟩) 2 [0, 1]) := ro_block (t := 3) (cs := #[.int .i64 0, .int .i64 1]) (n := 2) (size := 1) (K3.get 0 rfl) rfl
  have i3 := hid (show IsIn A3 2 [0, 1] _ from (K3.ro 1 rfl).now)
  have i4 := hid k4.now
  clear b3 r3 k4 K2
  go_wp2_with fail
  refine (eqInts_any _ A3 2 c3 [0, 1] _ 2 2 [0, 1] i3.out i4.out (by omega) (by omega)).mono ?_
  rintro e w4 ⟨rfl, q, rfl⟩
  have K4 := K3.drewN q
  rw [show ([(0 : Int), 1] == [0, 1]) = true from by decide]
  clear K3 i3 i4
  go_wp2_with fail
  refine (glng_any _ _ K4.mutLt 3 (some ⟨w.heap.size, 0, none⟩) 3 3 kEd (K4.ro 2 rfl) (by omega)).mono ?_
  rintro e w5 ⟨rfl, b5⟩
  rw [kLng]
  have K5 := (K4.call b5).alloc_cst #[.int .i64 0] 3
  clear b5 K4
  have k5 : Ro _ _ (IsIn (some ⟨w5.heap.size, 0, none⟩) 1 [0]) := ro_block (t := 3) (cs := #[.int .i64 0]) (n := 1) (size := 1) (K5.get 0 rfl) rfl
  have K6 := K5.add k5
  clear k5 K5
  go_wp2_with fail
  refine (gwout_any _ _ K6.mutLt (some ⟨w.heap.size, 0, none⟩) 3 3 kEd (some ⟨w5.heap.size, 0, none⟩) 1 1 [0] (K6.ro 4 rfl) (K6.ro 0 rfl) (by omega) (by omega)).mono ?_
  rintro e w6 ⟨A6, n6, c6, rfl, hn6, hc6, hc62, r6, b6⟩
  rw [kOut] at hn6 r6
  obtain rfl : n6 = 1 := hn6
  have K7 := (K6.call b6).add r6
  clear K6 b6 r6
  go_wp2_with fail
  refine (glng_any _ _ K7.mutLt 3 A6 1 c6 _ (K7.ro 0 rfl) (by omega)).mono ?_
  rintro e w7 ⟨rfl, b7⟩
  rw [kLng2]
  have K8 := K7.call b7
  clear K7 b7
  go_wp2_with fail
  go_ret
  exact ⟨by first | rfl | simp, K8.below⟩
end Go.Proofs.Ytaefjgjojflppaa

namespace Go.Proofs.Ytaefjgjojflppaa
open Go.RowKit
set_option linter.unusedVariables false
set_option linter.unusedSimpArgs false

theorem onL_len (N : Int) (l : List Ed) : (onL N l).length ≤ 64 := by
  cases hv : validG N l
  · rw [onL_no hv]; simp
  · obtain ⟨h0, h1⟩ := valid_range hv
    obtain ⟨n, rfl⟩ := Int.eq_ofNat_of_zero_le h0
    rw [onL_yes hv]
    have := onN_le n l n
    simp; omega
theorem topL_len (N : Int) (l : List Ed) : ((topL N l).getD []).length ≤ 64 := by
  cases ho : topL N l with
  | none => simp
  | some o =>
    obtain ⟨n, rfl, h1, _, _, h2, _⟩ := topL_is ho
    simp; omega
theorem wout_all (l : List Ed) (rm : List Int) : (woutL l rm).length ≤ l.length := List.length_filter_le _ _
set_option maxHeartbeats 4000000 in
set_option maxRecDepth 100000 in
theorem galike_any (M : Nat → Prop) (w : World) (hM : ∀ b, M b → b < w.heap.size) (N : Int) (A : Option Addr) (n c : Nat) (l : List Ed) (R : Option Addr) (m d : Nat) (rm : List Int) (hD : Ro w M (EdsIn A n l)) (hE : Ro w M (IsIn R m rm)) (hn : n ≤ 1000000) (hm : m ≤ 17592186044416) :
    Calls Try.prog 29 #[.int .i64 N, .slice A n c, .slice R m d] w fun e w' => e = .returned (.bool true) ∧ Below w.heap.size w w' := by
  have HL := hid (show l.length = n from hD.now.len)
  have K0 := ((Hold.start M w hM).add (hE.less (by simp [Mut]))).add (hD.less (by simp [Mut, Hp.foot]))
  clear hD hE
  go_enter Try.func29, Try.ntmps29
  go_wp2_with fail
  refine (gtop_any _ _ K0.mutLt N A n c l (K0.ro 0 rfl) hn).mono ?_
  rintro e w1 ⟨A1, n1, c1, rfl, hn1, _, _, r1, b1⟩
  have K1 := (K0.call b1).add r1
  have HN1 := hid (show n1 ≤ 17592186044416 by have := topL_len N l; omega)
  clear K0 b1 r1 hn1
  go_wp2_with fail
  refine (rtop_any _ _ K1.mutLt N A n c l (K1.ro 1 rfl) hn).mono ?_
  rintro e w2 ⟨A2, n2, c2, rfl, hn2, _, _, r2, b2⟩
  have K2 := (K1.call b2).add r2
  have HN2 := hid (show n2 ≤ 17592186044416 by have := topL_len N l; omega)
  clear K1 b2 r2 hn2
  generalize (topL N l).getD [] = ord at *
  generalize (topL N l).isSome = ok at *
  go_wp2_with fail
  refine (gvalid_any _ _ K2.mutLt N A n c l (K2.ro 2 rfl) (by omega)).mono ?_
  rintro e w3 ⟨rfl, b3⟩
  have K3 := K2.call b3
  clear K2 b3
  go_wp2_with fail
  refine (rgvalid_any _ _ K3.mutLt N A n c l (K3.ro 2 rfl) (by omega)).mono ?_
  rintro e w4 ⟨rfl, b4⟩
  have K4 := K3.call b4
  clear K3 b4
  generalize validG N l = vv at *
  have hvv : (vv == vv) = true := by cases vv <;> rfl
  have hok : (ok == ok) = true := by cases ok <;> rfl
  go_wp2_with fail
  refine (gwout_any _ _ K4.mutLt A n c l R m d rm (K4.ro 2 rfl) (K4.ro 3 rfl) hn hm).mono ?_
  rintro e w5 ⟨A5, n5, c5, rfl, hn5, _, _, r5, b5⟩
  have K5 := (K4.call b5).add r5
  have HN5 := hid (show n5 ≤ 1000000 by have := wout_all l rm; have := HL.out; omega)
  clear K4 b5 r5 hn5
  go_wp2_with fail
  refine (rwout_any _ _ K5.mutLt A n c l R m d rm (K5.ro 3 rfl) (K5.ro 4 rfl) hn (by omega)).mono ?_
  rintro e w6 ⟨A6, n6, c6, rfl, hn6, _, _, r6, b6⟩
  have K6 := (K5.call b6).add r6
  clear K5 b6 r6 hn6
  go_wp2_with fail
  refine (eqEds_any _ A5 n5 c5 _ A6 n6 c6 _ (K6.ro 1 rfl).now (K6.ro 0 rfl).now HN5.out).mono ?_
  rintro e w7 ⟨rfl, q7, rfl⟩
  rw [show decide (woutL l rm = woutL l rm) = true by simp]
  have K7 := K6.drewN q7
  clear K6
  generalize w6.drewN q7 = w7 at *
  go_wp2_with fail
  refine (gon_any _ _ K7.mutLt N A n c l (K7.ro 4 rfl) hn).mono ?_
  rintro e w8 ⟨A8, n8, c8, rfl, hn8, _, _, r8, b8⟩
  rw [won_on] at r8 hn8
  have HN8 := hid (show n8 ≤ 17592186044416 by have := onL_len N l; rw [hn8, iCells_len]; omega)
  have K8 := (K7.call b8).add r8
  clear K7 b8 r8 hn8
  go_wp2_with fail
  refine (ron_any _ _ K8.mutLt N A n c l (K8.ro 5 rfl) hn).mono ?_
  rintro e w9 ⟨A9, n9, c9, rfl, hn9, _, _, r9, b9⟩
  have HN9 := hid (show n9 ≤ 17592186044416 by have := onL_len N l; rw [hn9, iCells_len]; omega)
  have K9 := (K8.call b9).add r9
  clear K8 b9 r9 hn9
  go_wp2_with fail
  refine (eqInts_any _ A8 n8 c8 _ A9 n9 c9 _ (K9.ro 1 rfl).now (K9.ro 0 rfl).now HN8.out HN9.out).mono ?_
  rintro e wa ⟨rfl, qa, rfl⟩
  rw [show (onL N l == onL N l) = true by simp]
  have Ka := K9.drewN qa
  clear K9
  generalize w9.drewN qa = wa at *
  go_wp2_with fail
  refine (eqInts_any _ A1 n1 c1 _ A2 n2 c2 _ (Ka.ro 5 rfl).now (Ka.ro 4 rfl).now HN1.out HN2.out).mono ?_
  rintro e wb ⟨rfl, qb, rfl⟩
  rw [show (toI ord == toI ord) = true by simp]
  have Kb := Ka.drewN qb
  clear Ka
  generalize wa.drewN qb = wb at *
  go_wp2_with fail
  refine (glng_any _ _ Kb.mutLt N A n c l (Kb.ro 6 rfl) hn).mono ?_
  rintro e wc ⟨rfl, bc⟩
  have Kc := Kb.call bc
  clear Kb bc
  go_wp2_with fail
  refine (rlng_any _ _ Kc.mutLt N A n c l (Kc.ro 6 rfl) hn).mono ?_
  rintro e wd ⟨rfl, bd⟩
  have Kd := Kc.call bd
  clear Kc bd
  generalize lngL N l = ln at *
  have hln : (ln == ln) = true := by simp
  go_wp2_with fail
  go_ret
  exact ⟨by first | rfl | simp, Kd.below⟩
end Go.Proofs.Ytaefjgjojflppaa

namespace Go.Proofs.Ytaefjgjojflppaa
open Go.ChangeShapes Go.WideShapes Go.ChangeAt Go.RowKit
set_option linter.unusedVariables false
section
variable {H : Type} {enc : TypeId × Value → H} {P : Program}
theorem i64_wf {x : Int} (h : (Lit.int .i64 x).wf = true) : I64 x := by
  simp [Lit.wf, IntKind.min, IntKind.max, IntKind.signed, IntKind.bits] at h
  exact ⟨by omega, by omega⟩

theorem open_i64s {t e : TypeId} {W : World} {r : Reach} {b0 : Nat} {v : Value} {d : DataW H} {p : List MemPlace} (ht : P.underlying t = some (.slice e)) (he : P.underlying e = some (.int .i64)) (hc : P.cellsOf e = 1)
    (hok : Value.okWide P W r b0 t v) (h : DataW.Trod enc P W 0 (fun _ => true) true t v d p) :
    ∃ A n c zs, v = .slice A n c ∧ Rd W W.heap.size 1 A n (zs.map (Value.int .i64)) ∧ Ints zs ∧ n ≤ c ∧ c ≤ maxLen ∧ ((d = .nil ∧ n = 0) ∨ ∃ el sp, d = .slice el sp ∧ el.length + sp.length = c) := by
  obtain ⟨A, n, c, rfl⟩ := okWide_slice ht hok
  obtain ⟨fuel, hf⟩ := h
  rcases open_ints ht he hc (by simpa [Value.cells] using hf) with ⟨hcs, hx⟩ | ⟨a, len, cap, zs, hcs, _, hl, hm, hz, hx, hcell, hwz⟩
  · simp at hcs; obtain ⟨rfl, rfl, rfl⟩ := hcs
    simp only [Prod.mk.injEq] at hx
    exact ⟨none, 0, 0, [], rfl, Rd.none_, fun _ h => (nomatch h), Nat.le_refl _, Nat.zero_le _, .inl ⟨hx.1, rfl⟩⟩
  · simp at hcs; obtain ⟨rfl, rfl, rfl⟩ := hcs
    simp only [if_true] at hz
    simp only [Prod.mk.injEq] at hx
    refine ⟨some a, n, c, zs.take n, rfl, ⟨by simp [hz]; omega, fun hn => ?_⟩, fun x hx => i64_wf (hwz x (List.mem_of_mem_take hx)), hl, hm, .inr ⟨_, _, hx.1, by simp [lits, hz]; omega⟩⟩
    obtain ⟨b, off, rfl, hcc⟩ := ints_at hcell (by omega)
    refine ⟨b, off, rfl, World.block_lt_of_cell? W ⟨b, off + 0, none⟩ (hcc 0 (by omega)), fun j u hu => ?_⟩
    have hj : j < n := by have := (List.getElem?_eq_some_iff.1 hu).1; simp [hz] at this; omega
    rw [hcc j (by omega)]
    rw [← hu]
    simp [List.getElem?_take_of_lt hj, List.getD, show j < zs.length by omega]

/-- The reach, of a slice argument. -/
theorem reach_slice {ts : List TypeId} {ds : List (DataW H)} (h : (DataW.weightsEach P ts ds).all (· ≤ reachBytes) = true) {j : Nat} {t e : TypeId} {d : DataW H} {n c by_ : Nat} (ht : ts[j]? = some t) (hd : ds[j]? = some d) (hu : P.underlying t = some (.slice e)) (hb : P.bytesOf e = by_)
    (hd2 : (d = .nil ∧ n = 0) ∨ ∃ el sp, d = .slice el sp ∧ el.length + sp.length = c) (hn : n ≤ c) : n * by_ ≤ 140737488351232 := by
  rcases hd2 with ⟨_, rfl⟩ | ⟨el, sp, rfl, hl⟩
  · simp
  · have := sized_slice h ht hd hu
    rw [hl, hb] at this
    simp only [reachBytes] at this
    exact Nat.le_trans (Nat.mul_le_mul_right _ hn) this
end
end Go.Proofs.Ytaefjgjojflppaa

namespace Go.Proofs.Ytaefjgjojflppaa
open Go.Joins Go.ChangeShapes Go.WideShapes Go.ChangeAt Go.RowKit Go.Deep
set_option linter.unusedVariables false
section
variable {H : Type} {enc : TypeId × Value → H} {P : Program} {w : World} {base : Nat} {spare : Nat → Bool} {held : Bool}
theorem open_slice_fields {t e : TypeId} {fs : Array Field} {fuel : Nat} {cs : List Value} {x : DataW H × List MemPlace} (ht : P.underlying t = some (.slice e)) (he : P.underlying e = some (.struct fs))
    (hone : oneCellFields P fs = true) (hC : P.cellsOf e = fs.size) (h : DataW.trod enc P w base spare held fuel t cs = some x) :
    (cs = [.slice none 0 0] ∧ x = (.nil, [])) ∨
    ∃ (a : Addr) (len cap m : Nat) (D : Nat → DataW H) (Pl : Nat → List MemPlace), cs = [.slice (some a) len cap] ∧ base ≤ a.block ∧ len ≤ cap ∧ cap ≤ maxLen ∧ m = (if spare a.block then cap else len) ∧
      x = (.slice ((List.range len).map D) ((List.range (m - len)).map fun j => D (len + j)), MemPlace.row a (m * fs.size) ++ (List.range m).flatMap Pl) ∧
      ∀ i, i < m → ∃ (ys : List (DataW H × List MemPlace)) (n : Nat), D i = .agg (ys.map (·.1)) ∧ Pl i = ys.flatMap (·.2) ∧ ys.length = fs.size ∧
        ∀ (j : Nat) (f : Field), fs[j]? = some f → ∃ (v : Value) (y : DataW H × List MemPlace), w.cell? (a.add (i * fs.size + j)) = some v ∧ ys[j]? = some y ∧ DataW.trod enc P w base spare held n f.type [v] = some y := by
  rcases open_slice ht h with h0 | ⟨a, len, cap, m, n, D, Pl, hcs, hb, hl, hm, hmm, hx, hi⟩
  · exact .inl h0
  · refine .inr ⟨a, len, cap, m, D, Pl, hcs, hb, hl, hm, hmm, by rw [hC] at hx; exact hx, fun i him => ?_⟩
    obtain ⟨cs', hc, ht'⟩ := hi i him
    rw [hC] at hc
    obtain ⟨ys, n', hn', hy, hlen, hyl, hf⟩ := DataW.trod_struct he ht'
    obtain ⟨_, hcl, hat⟩ := World.cells?_some hc
    simp only [Prod.mk.injEq] at hy
    refine ⟨ys, n', hy.1, hy.2, hyl, fun j f hj => ?_⟩
    obtain ⟨ho, hk⟩ := hone_of hone j f hj
    have hjl : j < fs.size := (Array.getElem?_eq_some_iff.1 hj).1
    have hcell := hat j hjl
    have hv : cs'[j]? = some (cs'[j]'(by omega)) := List.getElem?_eq_getElem (by omega)
    have h1 := hf j f hj
    rw [ho, hk] at h1
    have hone' : (cs'.drop j).take 1 = [cs'[j]'(by omega)] := by
      rw [List.drop_eq_getElem_cons (by omega)]
      rfl
    rw [hone'] at h1
    have hys : ys[j]? = some (ys[j]'(by omega)) := List.getElem?_eq_getElem (by omega)
    refine ⟨_, _, ?_, hys, h1.trans hys⟩
    rw [← Go.Deep.add_add, hcell, hv]
end
section
variable {H : Type} {enc : TypeId × Value → H} {P : Program}
theorem trod_slice_form {t e : TypeId} {W : World} {fuel : Nat} {v : Value} {x : DataW H × List MemPlace} (ht : P.underlying t = some (.slice e)) (h : DataW.trod enc P W 0 (fun _ => true) true fuel t [v] = some x) : ∃ A n c, v = .slice A n c := by
  rcases open_slice ht h with ⟨h0, _⟩ | ⟨a, len, cap, m, n, D, Pl, hcs, _⟩
  · exact ⟨none, 0, 0, by simpa using h0⟩
  · exact ⟨_, _, _, by simpa using hcs⟩
theorem open_structs {α : Type} (dflt : α) (cel : α → List Value) (Ok : α → Prop) {k : Nat} (hk : 0 < k) (hcl : ∀ x, (cel x).length = k) {t e : TypeId} {W : World} {fuel : Nat} {cs : List Value} {x : DataW H × List MemPlace} {fs : Array Field} (ht : P.underlying t = some (.slice e)) (he : P.underlying e = some (.struct fs))
    (hone : oneCellFields P fs = true) (hC : P.cellsOf e = fs.size) (hfs : fs.size = k)
    (hrow : ∀ vs : Nat → Value, (∀ (j : Nat) (f : Field), fs[j]? = some f → ∃ n y, DataW.trod enc P W 0 (fun _ => true) true n f.type [vs j] = some y) → ∃ x, Ok x ∧ ∀ j, j < k → (cel x)[j]? = some (vs j))
    (h : DataW.trod enc P W 0 (fun _ => true) true fuel t cs = some x) :
    ∃ (A : Option Addr) (n c : Nat) (l : List α), cs = [.slice A n c] ∧ Rd W W.heap.size k A n (l.flatMap cel) ∧ (∀ z ∈ l, Ok z) ∧ n ≤ c ∧ c ≤ maxLen ∧ ((x.1 = .nil ∧ n = 0) ∨ ∃ el sp, x.1 = .slice el sp ∧ el.length + sp.length = c) := by
  rcases open_slice_fields ht he hone hC h with ⟨rfl, rfl⟩ | ⟨a, len, cap, m, D, Pl, rfl, _, hl, hm, hmm, rfl, hi⟩
  · exact ⟨none, 0, 0, [], rfl, Rd.none_, fun _ h => (nomatch h), Nat.le_refl _, Nat.zero_le _, .inl ⟨rfl, rfl⟩⟩
  · simp only [if_true] at hmm
    subst hmm
    have hcol : ∀ i, i < m → ∃ z : α, Ok z ∧ ∀ j, j < k → W.cell? (a.add (i * k + j)) = (cel z)[j]? := by
      intro i hi'
      obtain ⟨ys, nn, _, _, _, hf⟩ := hi i hi'
      obtain ⟨z, hz, hzc⟩ := hrow (fun j => (W.cell? (a.add (i * k + j))).getD undef) (fun j f hj => by
        obtain ⟨v, y, c0, _, h0⟩ := hf j f hj
        rw [hfs] at c0
        exact ⟨nn, y, by simp only [c0, Option.getD_some]; exact h0⟩)
      refine ⟨z, hz, fun j hj => ?_⟩
      obtain ⟨v, y, c0, _, _⟩ := hf j (fs[j]'(by omega)) (by simp)
      rw [hfs] at c0
      rw [hzc j hj, c0]; rfl
    obtain ⟨F, hF⟩ : ∃ F : Nat → α, ∀ i, i < m → Ok (F i) ∧ ∀ j, j < k → W.cell? (a.add (i * k + j)) = (cel (F i))[j]? := by
      refine ⟨fun i => if h : i < m then Classical.choose (hcol i h) else dflt, fun i hi => ?_⟩
      simp only [hi, dif_pos]
      exact Classical.choose_spec (hcol i hi)
    refine ⟨some a, len, m, (List.range len).map F, rfl, ⟨by rw [flat_len cel k hcl]; simp, fun hn => ?_⟩, fun z hz => ?_, hl, hm, .inr ⟨_, _, rfl, by simp; omega⟩⟩
    · obtain ⟨b, off, spot⟩ := a
      have h0 : ∃ u, W.cell? ((⟨b, off, spot⟩ : Addr).add (0 * k + 0)) = some u := by
        rw [(hF 0 (by omega)).2 0 hk]
        exact ⟨_, List.getElem?_eq_getElem (by rw [hcl]; exact hk)⟩
      obtain ⟨u0, hu0⟩ := h0
      have hspot : spot = none := by simpa [Addr.add] using World.cell?_spot hu0
      subst hspot
      refine ⟨b, off, rfl, World.block_lt_of_cell? W ⟨b, off, none⟩ (by simpa [Addr.add] using hu0), fun j u hu => ?_⟩
      obtain ⟨z, hz, hzu⟩ := flat_inv cel k hk hcl _ j u hu
      have hj : j / k < len := by have := (List.getElem?_eq_some_iff.1 hz).1; simpa using this
      simp only [List.getElem?_map, List.getElem?_range hj, Option.map_some, Option.some.injEq] at hz
      subst hz
      rw [← Go.WideShapes.add_plain]
      have hjd : j = j / k * k + j % k := by rw [Nat.mul_comm]; exact (Nat.div_add_mod j k).symm
      rw [hjd, (hF (j / k) (by omega)).2 (j % k) (Nat.mod_lt _ hk)]
      exact hzu
    · simp only [List.mem_map, List.mem_range] at hz
      obtain ⟨i, hi', rfl⟩ := hz
      exact (hF i (by omega)).1

theorem open_items {t e : TypeId} {W : World} {r : Reach} {b0 : Nat} {v : Value} {d : DataW H} {p : List MemPlace} {f0 f1 f2 f3 : Field} {e2 e3 : TypeId} (ht : P.underlying t = some (.slice e)) (he : P.underlying e = some (.struct #[f0, f1, f2, f3]))
    (hone : oneCellFields P #[f0, f1, f2, f3] = true) (hC : P.cellsOf e = 4)
    (u0 : P.underlying f0.type = some .string) (u1 : P.underlying f1.type = some (.int .i64)) (u2 : P.underlying f2.type = some (.slice e2)) (u3 : P.underlying f3.type = some (.slice e3))
    (hok : Value.okWide P W r b0 t v) (h : DataW.Trod enc P W 0 (fun _ => true) true t v d p) :
    ∃ A n c its, v = .slice A n c ∧ ItsIn A n its W ∧ n ≤ c ∧ c ≤ maxLen := by
  obtain ⟨A0, n0, c0, rfl⟩ := okWide_slice ht hok
  obtain ⟨fuel, hf⟩ := h
  obtain ⟨A, n, c, l, hcs, hr, _, hn, hc, _⟩ := open_structs (α := It) ⟨⟨#[]⟩, 0, none, 0, 0, none, 0, 0⟩ It.cells (fun _ => True) (k := 4) (by omega) (fun _ => rfl) ht he hone hC rfl (fun vs hv => by
    obtain ⟨_, _, h0⟩ := hv 0 f0 rfl
    obtain ⟨_, _, h1⟩ := hv 1 f1 rfl
    obtain ⟨_, _, h2⟩ := hv 2 f2 rfl
    obtain ⟨_, _, h3⟩ := hv 3 f3 rfl
    obtain ⟨s, e0, _, w0⟩ := DataW.trod_string u0 h0
    obtain ⟨k, e1, _, w1⟩ := DataW.trod_int u1 h1
    obtain ⟨oa, on, oc, e2⟩ := trod_slice_form u2 h2
    obtain ⟨na, nn, nc, e3⟩ := trod_slice_form u3 h3
    simp only [List.cons.injEq, and_true] at e0 e1
    refine ⟨⟨s, k, oa, on, oc, na, nn, nc⟩, trivial, fun j hj => ?_⟩
    match j, hj with
    | 0, _ => simp [It.cells, e0]
    | 1, _ => simp [It.cells, e1]
    | 2, _ => simp [It.cells, e2]
    | 3, _ => simp [It.cells, e3]) (by simpa [Value.cells] using hf)
  simp only [List.cons.injEq, Value.slice.injEq, and_true] at hcs
  obtain ⟨rfl, rfl, rfl⟩ := hcs
  exact ⟨_, _, _, l, rfl, hr, hn, hc⟩
theorem open_links {t e : TypeId} {W : World} {r : Reach} {b0 : Nat} {v : Value} {d : DataW H} {p : List MemPlace} {f0 f1 : Field} (ht : P.underlying t = some (.slice e)) (he : P.underlying e = some (.struct #[f0, f1]))
    (hone : oneCellFields P #[f0, f1] = true) (hC : P.cellsOf e = 2)
    (u0 : P.underlying f0.type = some .string) (u1 : P.underlying f1.type = some .string)
    (hok : Value.okWide P W r b0 t v) (h : DataW.Trod enc P W 0 (fun _ => true) true t v d p) :
    ∃ A n c l, v = .slice A n c ∧ LksIn A n l W ∧ n ≤ c ∧ c ≤ maxLen := by
  obtain ⟨A0, n0, c0, rfl⟩ := okWide_slice ht hok
  obtain ⟨fuel, hf⟩ := h
  obtain ⟨A, n, c, l, hcs, hr, _, hn, hc, _⟩ := open_structs (α := Lk) ⟨⟨#[]⟩, ⟨#[]⟩⟩ Lk.cells (fun _ => True) (k := 2) (by omega) (fun _ => rfl) ht he hone hC rfl (fun vs hv => by
    obtain ⟨_, _, h0⟩ := hv 0 f0 rfl
    obtain ⟨_, _, h1⟩ := hv 1 f1 rfl
    obtain ⟨s, e0, _, w0⟩ := DataW.trod_string u0 h0
    obtain ⟨s', e1, _, w1⟩ := DataW.trod_string u1 h1
    simp only [List.cons.injEq, and_true] at e0 e1
    refine ⟨⟨s, s'⟩, trivial, fun j hj => ?_⟩
    match j, hj with
    | 0, _ => simp [Lk.cells, e0]
    | 1, _ => simp [Lk.cells, e1]) (by simpa [Value.cells] using hf)
  simp only [List.cons.injEq, Value.slice.injEq, and_true] at hcs
  obtain ⟨rfl, rfl, rfl⟩ := hcs
  exact ⟨_, _, _, l, rfl, hr, hn, hc⟩
end
end Go.Proofs.Ytaefjgjojflppaa

namespace Go.Proofs.Ytaefjgjojflppaa
open Go.Joins Go.ChangeShapes Go.WideShapes Go.ChangeAt Go.RowKit Go.Deep
set_option linter.unusedVariables false
set_option linter.unusedSimpArgs false
section
variable {P : Program} {H : Type} {enc : TypeId × Value → H}
theorem open_edges {t e : TypeId} {W : World} {r : Reach} {b0 : Nat} {v : Value} {d : DataW H} {p : List MemPlace} {f0 f1 : Field} (ht : P.underlying t = some (.slice e)) (he : P.underlying e = some (.struct #[f0, f1]))
    (hone : oneCellFields P #[f0, f1] = true) (hC : P.cellsOf e = 2)
    (u0 : P.underlying f0.type = some (.int .i64)) (u1 : P.underlying f1.type = some (.int .i64))
    (hok : Value.okWide P W r b0 t v) (h : DataW.Trod enc P W 0 (fun _ => true) true t v d p) :
    ∃ A n c l, v = .slice A n c ∧ EdsIn A n l W ∧ n ≤ c ∧ c ≤ maxLen := by
  obtain ⟨A0, n0, c0, rfl⟩ := okWide_slice ht hok
  obtain ⟨fuel, hf⟩ := h
  obtain ⟨A, n, c, l, hcs, hr, _, hn, hc, _⟩ := open_structs (α := Ed) ⟨0, 0⟩ Ed.cells (fun _ => True) (k := 2) (by omega) (fun _ => rfl) ht he hone hC rfl (fun vs hv => by
    obtain ⟨_, _, h0⟩ := hv 0 f0 rfl
    obtain ⟨_, _, h1⟩ := hv 1 f1 rfl
    obtain ⟨s, e0, _, w0⟩ := DataW.trod_int u0 h0
    obtain ⟨s', e1, _, w1⟩ := DataW.trod_int u1 h1
    simp only [List.cons.injEq, and_true] at e0 e1
    refine ⟨⟨s, s'⟩, trivial, fun j hj => ?_⟩
    match j, hj with
    | 0, _ => simp [Ed.cells, e0]
    | 1, _ => simp [Ed.cells, e1]) (by simpa [Value.cells] using hf)
  simp only [List.cons.injEq, Value.slice.injEq, and_true] at hcs
  obtain ⟨rfl, rfl, rfl⟩ := hcs
  exact ⟨_, _, _, l, rfl, hr, hn, hc⟩
end
end Go.Proofs.Ytaefjgjojflppaa

namespace Go.Proofs.Ytaefjgjojflppaa
open Go.ChangeShapes Go.WideShapes Go.ChangeAt Go.RowKit
set_option linter.unusedVariables false
set_option linter.unusedSimpArgs false

def downL (l : List Ed) (k : Nat) : List Ed := (l.take k).filter fun e => decide (e.f < e.t)
theorem down_yes {l : List Ed} {k : Nat} {x : Ed} (hx : l[k]? = some x) (h : decide (x.f < x.t) = true) : downL l (k + 1) = downL l k ++ [x] := by
  unfold downL; rw [List.take_add_one, hx, List.filter_append]; simp only [Option.toList_some, List.filter_cons, List.filter_nil, h, if_true]
theorem down_no {l : List Ed} {k : Nat} {x : Ed} (hx : l[k]? = some x) (h : decide (x.f < x.t) = false) : downL l (k + 1) = downL l k := by
  unfold downL; rw [List.take_add_one, hx, List.filter_append]; simp only [Option.toList_some, List.filter_cons, List.filter_nil, h, if_false, List.append_nil, Bool.false_eq_true]
set_option maxHeartbeats 4000000 in
set_option maxRecDepth 100000 in
theorem graphForms_walk (N : Int) (A : Option Addr) (n c : Nat) (l : List Ed) (R : Option Addr) (m d : Nat) (rm : List Int) (C : Option Addr) (q qc : Nat) (ts : List Int) (w : World) (hD : EdsIn A n l w) (hnc : n ≤ c) (hc : c ≤ 9223372036854775807) (hI : I64 N)
    (hP : IsIn R m rm w) (hmd : m ≤ d) (hd : d ≤ 9223372036854775807) (hm44 : m ≤ 17592186044416)
    (hr : Rd w w.heap.size 1 C q (ts.map (Value.int .i64))) (hz : Ints ts) (hq : q ≤ qc) (hqc : qc ≤ 9223372036854775807) :
    Calls Try.prog 7 #[.int .i64 N, .slice A n c, .slice R m d, .slice C q qc] w fun e w' => e = .returned (.bool true) ∧ Below w.heap.size w w' := by
  have hD' : Ro w None_ (EdsIn A n l) := Rd.ro hD (Nat.le_refl _) (fun _ _ h => h)
  have hP' : Ro w None_ (IsIn R m rm) := Rd.ro hP (Nat.le_refl _) (fun _ _ h => h)
  by_cases hbig : 60 < n
  · have h1 : decide ((n : Int) > 60) = true := by simp; omega
    go_enter Try.func7, Try.ntmps7
    go_wp2_with fail
    refine (gknown_any w).mono ?_
    rintro e w1 ⟨rfl, b1⟩
    go_wp2_with fail
    go_ret
    exact ⟨rfl, b1⟩
  · have h1 : decide ((n : Int) > 60) = false := by simp; omega
    have hn : n ≤ 1000000 := by omega
    have K0 := ((Hold.begin_ w).add (hP'.less (by simp [Mut]))).add (hD'.less (by simp [Mut, Hp.foot, None_]))
    clear hbig
    go_enter Try.func7, Try.ntmps7
    go_wp2_with fail
    refine (new_any C q qc ts w hr hz hq hqc).mono ?_
    rintro e w1 ⟨T, rfl, hT, t1, b1⟩
    have K1 := K0.newTape b1 t1 hT (by simp [Mut, Hp.foot, None_])
    clear K0 b1 t1 hr hz
    go_wp2_with fail
    refine (gmade_any _ T 8 w1 K1.mutLt (K1.tp_ 0 rfl) (by simp [Mut, Hp.foot, None_]) (by omega)).mono ?_
    rintro e w2 ⟨N2, A2, n2, c2, l2, rfl, hN2, hn2, hc2, hc22, hv2, r2, t2, g2⟩
    have K2 := (K1.callT 0 rfl g2 t2).add (r2.less (by simp [Mut, Hp.foot, None_]))
    clear K1 r2 t2 g2 hv2 hD' hP' hD hP
    go_wp2_with fail
    refine (gmade_any _ T 9 w2 K2.mutLt (K2.tp_ 1 rfl) (by simp [Mut, Hp.foot, None_]) (by omega)).mono ?_
    rintro e w3 ⟨N3, A3, n3, c3, l3, rfl, hN3, hn3, hc3, hc33, hv3, r3, t3, g3⟩
    have K3 := ((K2.callT 1 rfl g3 t3).add (r3.less (by simp [Mut, Hp.foot, None_]))).nil 53 2
    clear K2 r3 t3 g3 hv3
    have HL := hid (show l3.length = n3 from (K3.ro 1 rfl).now.len)
    go_wp2_with fail
    go_loopw [14, 37] (fun v kv wr => ∃ (k q3 cc : Nat) (A4 : Option Addr), kv = .int .i64 k ∧ k ≤ n3 ∧ v = .slice A4 q3 cc ∧ q3 ≤ k ∧ Hold None_ none w wr [.own 53 2 (.slice A4 q3 cc) q3 (edCells (downL l3 k)), .ro (EdsIn A3 n3 l3), .ro (EdsIn A2 n2 l2), .tp T, .ro (EdsIn A n l), .ro (IsIn R m rm)]) (fun _ kv _ => n3 - (intOf kv).toNat)
    case atStart => exact ⟨0, 0, 0, none, rfl, by omega, rfl, by omega, K3⟩
    case round =>
      clear K3
      obtain ⟨k, q3, cc, A4, rfl, hk, rfl, hq3, H⟩ := hrel
      by_cases hlt : k < n3
      · have hd3 : decide ((k : Int) < (n3 : Int)) = true := by simp; omega
        have k0 : (0 : Int) ≤ (k : Int) := by omega
        obtain ⟨x, hx⟩ := get_of HL.out hlt
        obtain ⟨ga, o, rfl, hb, c0, c1⟩ := (H.ro 1 rfl).now.at_ hx
        have K4 := H.alloc_cst #[.int .i64 x.f, .int .i64 x.t] 53
        cases hft : decide (x.f < x.t)
        · have HN := hid (down_no hx hft)
          clear hx
          go_wp2_with fail
          go_roundw
          case rel => exact ⟨k + 1, q3, cc, A4, by go_num, by omega, rfl, by omega, by rw [HN.out]; exact K4.drop (List.sublist_cons_self _ _)⟩
          case measure => simp [intOf]; omega
        · have HN := hid (down_yes hx hft)
          clear hx
          go_wp2_with (at_builtin; go_must (refine wpList_appH K4 1 rfl Try.elEd #[.int .i64 x.f, .int .i64 x.t] rfl (.tmp 46) (.tmp 48) rfl rfl (wr.heap.size + 1) (by simp) rfl rfl (by intro u hu; simp at hu; rcases hu with rfl | rfl <;> rfl) (by omega) (by omega) ?_); intro g6 cap6 w6 hc6 hm6 K6)
          go_roundw
          case rel =>
            have e : edCells (downL l3 (k + 1)) = edCells (downL l3 k) ++ (#[Value.int .i64 x.f, .int .i64 x.t]).toList := by rw [HN.out]; simp [edCells, Ed.cells]
            exact ⟨k + 1, q3 + 1, cap6, _, by go_num, by omega, rfl, by omega, by rw [e]; exact K6.drop (List.sublist_cons_self _ _)⟩
          case measure => simp [intOf]; omega
      · obtain rfl : k = n3 := by omega
        have hd3 : decide ((k : Int) < (k : Int)) = false := by simp
        have K5 := H.sealRow 0 rfl
        simp only [List.set_cons_zero] at K5
        clear H
        have hq3' : q3 ≤ 100 := by omega
        generalize downL l3 k = l4 at *
        have K5' : Hold None_ none w wr [.ro (EdsIn A4 q3 l4), .ro (EdsIn A3 k l3), .ro (EdsIn A2 n2 l2), .tp T, .ro (EdsIn A n l), .ro (IsIn R m rm)] := K5
        clear K5
        go_wp2_with fail
        refine (cloneEds_any _ A2 n2 c2 l2 (K5'.ro 2 rfl).now (by omega)).mono ?_
        rintro e w6 ⟨A6, n6, c6, rfl, hn6, ho6, b6⟩
        have K6 := K5'.callOwn b6 ho6
        have HL2 := hid (show l2.length = n2 from (K5'.ro 2 rfl).now.len)
        have hn6' : n6 ≤ 100 := by have := HL2.out; omega
        clear K5' b6 ho6 hn6
        go_wp2_with fail
        refine (next_any T 9 _ (K6.tp_ 4 rfl) (by omega) (by omega)).mono ?_
        rintro e w7 ⟨f, rfl, f0, f1, t7, g7⟩
        have K7 := K6.callT 4 rfl g7 t7
        clear K6 t7 g7
        go_wp2_with fail
        refine (next_any T 9 _ (K7.tp_ 4 rfl) (by omega) (by omega)).mono ?_
        rintro e w8 ⟨t, rfl, t0, t1, t8, g8⟩
        have K8 := K7.callT 4 rfl g8 t8
        clear K7 t8 g8
        go_wp2_with (at_builtin; go_must (refine wpList_appH K8 0 rfl Try.elEd #[.int .i64 f, .int .i64 (t - 1)] rfl (.tmp 52) (.tmp 59) rfl rfl w8.heap.size rfl rfl rfl (by intro u hu; simp at hu; rcases hu with rfl | rfl <;> rfl) (by omega) (by omega) ?_); intro g9 cap9 w9 hc9 hm9 K9')
        have K9 := K9'.sealRow 0 rfl
        have e9 : edCells l2 ++ (#[Value.int .i64 f, .int .i64 (t - 1)]).toList = edCells (l2 ++ [⟨f, t - 1⟩]) := by simp [edCells, Ed.cells]
        simp only [List.set_cons_zero] at K9
        rw [e9] at K9
        have K9a : Hold None_ none w w9 [.ro (EdsIn (some ⟨g9, 0, none⟩) (n6 + 1) (l2 ++ [⟨f, t - 1⟩])), .ro (EdsIn A4 q3 l4), .ro (EdsIn A3 k l3), .ro (EdsIn A2 n2 l2), .tp T, .ro (EdsIn A n l), .ro (IsIn R m rm)] := K9
        clear K8 K9 K9' e9
        generalize l2 ++ [⟨f, t - 1⟩] = l5 at *
        refine (next_any T 9 _ (K9a.tp_ 4 rfl) (by omega) (by omega)).mono ?_
        rintro e wa ⟨x1, rfl, x10, x11, ta, ga⟩
        have Ka := K9a.callT 4 rfl ga ta
        clear K9a ta ga
        go_wp2_with fail
        refine (next_any T 9 _ (Ka.tp_ 4 rfl) (by omega) (by omega)).mono ?_
        rintro e wb ⟨x2, rfl, x20, x21, tb, gb⟩
        have Kb := (Ka.callT 4 rfl gb tb).alloc_cst #[.int .i64 x1, .int .i64 x2] 3
        clear Ka tb gb
        have kb : Ro _ _ (IsIn (some ⟨wb.heap.size, 0, none⟩) 2 [x1, x2]) := ro_block (t := 3) (cs := #[.int .i64 x1, .int .i64 x2]) (n := 2) (size := 1) (Kb.get 0 rfl) rfl
        have Kc := (Kb.add kb).drop (List.Sublist.cons_cons _ (List.sublist_cons_self _ _))
        clear Kb kb
        go_wp2_with fail
        refine (galike_any _ _ Kc.mutLt N A n c l R m d rm (Kc.ro 6 rfl) (Kc.ro 7 rfl) hn hm44).mono ?_
        rintro e wc ⟨rfl, bc⟩
        have Kd := Kc.call bc
        clear Kc bc
        go_wp2_with fail
        refine (wmod_any N 70 _ hI (by omega) (by omega)).mono ?_
        rintro e wd ⟨rfl, rfl⟩
        go_wp2_with fail
        refine (galike_any _ _ Kd.mutLt (N % 70) A n c l R m d rm (Kd.ro 6 rfl) (Kd.ro 7 rfl) hn hm44).mono ?_
        rintro e we ⟨rfl, be⟩
        have Ke := Kd.call be
        clear Kd be
        go_wp2_with fail
        refine (galike_any _ _ Ke.mutLt N2 A2 n2 c2 l2 _ 2 2 [x1, x2] (Ke.ro 4 rfl) (Ke.ro 0 rfl) (by omega) (by omega)).mono ?_
        rintro e wf ⟨rfl, bf⟩
        have Kf := Ke.call bf
        clear Ke bf
        go_wp2_with fail
        refine (galike_any _ _ Kf.mutLt N3 A4 q3 cc l4 _ 2 2 [x1, x2] (Kf.ro 2 rfl) (Kf.ro 0 rfl) (by omega) (by omega)).mono ?_
        rintro e wg ⟨rfl, bg⟩
        have Kg := Kf.call bg
        clear Kf bg
        go_wp2_with fail
        refine (galike_any _ _ Kg.mutLt N2 (some ⟨g9, 0, none⟩) (n6 + 1) cap9 l5 _ 2 2 [x1, x2] (Kg.ro 1 rfl) (Kg.ro 0 rfl) (by omega) (by omega)).mono ?_
        rintro e wh ⟨rfl, bh⟩
        have Kh := Kg.call bh
        clear Kg bh
        go_wp2_with fail
        refine (galike_any _ _ Kh.mutLt N2 A2 n2 c2 l2 R m d rm (Kh.ro 4 rfl) (Kh.ro 7 rfl) (by omega) hm44).mono ?_
        rintro e wi ⟨rfl, bi⟩
        have Ki := Kh.call bi
        clear Kh bi
        go_wp2_with fail
        refine (gknown_any _).mono ?_
        rintro e wj ⟨rfl, bj⟩
        have Kj := Ki.call bj
        go_wp2_with fail
        go_ret
        exact ⟨by first | rfl | simp, Kj.below⟩
set_option maxRecDepth 100000 in
theorem graphForms_lifted (os : Os) (started : os.Started) (H : Type) (enc : TypeId × Value → H) :
    ReturnsInHanded {} Try.checked os 7 .any (Rows.graphFormsSpec.pre6 enc Try.prog Try.f7 Rows.graphFormsRow.domain false) (Rows.graphFormsSpec.post enc Try.prog Try.f7 false true false false) := by
  refine returnsInHanded_of_change_sized (C := Try.checked) own started (by kernel_rfl) Try.func7
    (ChangeSpec.witness6 (enc := enc) (C := Try.checked) false ⟨#[], #[.int .i64 0, .slice none 0 0, .slice none 0 0, .slice none 0 0], []⟩ 8 (by kernel_rfl) (by kernel_rfl) (by kernel_rfl) (by kernel_rfl)) ?_
  intro W base args ds gs before hval0 hW _ hsz0 _
  have hsz : (DataW.weightsEach Try.prog (Try.f7.params.toList ++ Rows.graphFormsSpec.plain.varTypes Try.prog) (ds ++ gs)).all (· ≤ reachBytes) = true := hsz0
  have hval : ∀ (j : Nat) t v, Try.f7.params[j]? = some t → args[j]? = some v → Value.okWide Try.prog W .any base t v := hval0
  have hW' := hW
  obtain ⟨p, q, hA0, hV, rfl, hfz, hnd⟩ := hW
  have hA : DataW.TrodAll enc Try.prog W 0 (fun _ => true) true Try.f7.params.toList args.toList ds p := hA0
  rw [Try.params7] at hA hval hsz
  obtain ⟨v0, vs0, d0, ds0, p0, q0, hargs, rfl, rfl, h0, r0⟩ := trodAll_cons hA
  obtain ⟨v1, vs1, d1, ds1, p1, q1, rfl, rfl, rfl, h1, r1⟩ := trodAll_cons r0
  obtain ⟨v2, vs2, d2, ds2, p2, q2, rfl, rfl, rfl, h2, r2⟩ := trodAll_cons r1
  obtain ⟨v3, vs3, d3, ds3, p3, q3, rfl, rfl, rfl, h3, r3⟩ := trodAll_cons r2
  obtain ⟨rfl, rfl, rfl⟩ := trodAll_nil r3
  obtain rfl : args = #[v0, v1, v2, v3] := by cases args; simp_all
  obtain ⟨rfl, rfl⟩ := trodVars_none hV
  obtain ⟨a0, rfl, rfl, rfl, w0⟩ := open_int Try.underlying3 (hval 0 3 v0 rfl rfl) h0
  obtain ⟨A1, n1, c1, ed1, rfl, k1, l1, m1⟩ := open_edges Try.underlying49 Try.underlying53 (by kernel_rfl) (by kernel_rfl) Try.underlying3 Try.underlying3 (hval 1 49 v1 rfl rfl) h1
  obtain ⟨A2, n2, c2, zs2, rfl, k2, z2, l2, m2, e2⟩ := open_i64s Try.underlying33 Try.underlying3 (by kernel_rfl) (hval 2 33 v2 rfl rfl) h2
  have s2 := reach_slice hsz (j := 2) (n := n2) (by_ := 8) rfl rfl Try.underlying33 (by kernel_rfl) e2 l2
  obtain ⟨A3, n3, c3, zs3, rfl, k3, z3, l3, m3, e3⟩ := open_i64s Try.underlying33 Try.underlying3 (by kernel_rfl) (hval 3 33 v3 rfl rfl) h3
  have s3 := reach_slice hsz (j := 3) (n := n3) (by_ := 8) rfl rfl Try.underlying33 (by kernel_rfl) e3 l3
  refine (graphForms_walk _ _ _ _ _ _ _ _ zs2 _ _ _ _ W k1 l1 (by unfold maxLen at m1; omega) (i64_of_wf w0) k2 l2 m2 (by omega) k3 z3 l3 m3).mono fun e W' ⟨he, hb⟩ => ?_
  exact ⟨_, he, law_post rfl laidOut (by kernel_rfl) (by kernel_rfl) Try.underlying4 rfl hW' hb⟩

theorem graphForms_holds : Rows.GraphFormsSaid :=
  OpenClaim.holds_of_wide 7 Try.f7 rfl rfl rfl rfl rfl rfl rfl ⟨rfl, rfl, rfl, rfl, rfl⟩ rfl rfl rfl rfl rfl (by kernel_rfl) Try.func7 (by kernel_rfl)
    (of_decide_eq_true (by kernel_rfl)) (by unfold Func.isWrapper; first | (rw [if_pos (by decide +kernel)]; kernel_rfl) | (rw [if_neg (by decide +kernel)]; exact ⟨rfl, rfl⟩))
    (fun os started H enc _ => graphForms_lifted os started H enc)
#print axioms graphForms_holds
end Go.Proofs.Ytaefjgjojflppaa

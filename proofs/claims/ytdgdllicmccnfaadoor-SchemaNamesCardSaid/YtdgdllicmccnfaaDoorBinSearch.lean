/- The contract of slices.BinarySearch at strings, on a sorted list. -/
import Derived.Test.YtdgdllicmccnfaaDoorData
import Derived.Test.YtdgdllicmccnfaaDoorCmpPlain
import Derived.WalkSpells
namespace Go.Proofs.YtdgdllicmccnfaaDoor
open Go.RowKit
set_option linter.unusedVariables false
set_option linter.unusedSimpArgs false

def ltS (a b : ByteArray) : Bool := Op.bytesLess a.toList b.toList
def strCells (l : List ByteArray) : List Value := l.map Value.string
/-- lo is where t stands or would stand in l. -/
def BsAt (l : List ByteArray) (t : ByteArray) (lo hi : Nat) : Prop := (∀ j a, l[j]? = some a → j < lo → ltS a t = true) ∧ (∀ j a, l[j]? = some a → hi ≤ j → ltS a t = false)

theorem ltS_irrefl (a : ByteArray) : ltS a a = false := by
  cases h : ltS a a
  · rfl
  · exact absurd rfl (less_asymm _ _ h).2
theorem bs_found {l : List ByteArray} {t : ByteArray} {lo : Nat} (hs : l.Pairwise (fun a b => ltS a b = true)) (h : BsAt l t lo lo) {a : ByteArray} (ha : l[lo]? = some a) : (a.toList == t.toList) = l.any (fun x => x.toList == t.toList) := by
  cases e : (a.toList == t.toList)
  · symm
    rw [List.any_eq_false]
    intro x hx hxt
    have hxt' : x.toList = t.toList := by simpa using hxt
    obtain ⟨j, hj⟩ := List.getElem?_of_mem hx
    have hne : x.toList ≠ a.toList := fun e' => by rw [← e', hxt'] at e; simp at e
    rcases Nat.lt_trichotomy j lo with hlt | heq | hgt
    · have h1 := h.1 j x hj hlt
      unfold ltS at h1; rw [hxt'] at h1
      exact absurd h1 (by have := ltS_irrefl t; unfold ltS at this; simp [this])
    · subst heq; rw [hj] at ha; injection ha with ha; exact hne (by rw [ha])
    · have h2 := h.2 lo a ha (Nat.le_refl _)
      obtain ⟨hj1, hj2⟩ := List.getElem?_eq_some_iff.1 hj
      obtain ⟨hl1, hl2⟩ := List.getElem?_eq_some_iff.1 ha
      have h3 := List.pairwise_iff_getElem.1 hs lo j hl1 hj1 hgt
      rw [hj2, hl2] at h3
      unfold ltS at h2 h3; rw [hxt'] at h3; rw [h3] at h2; cases h2
  · symm
    rw [List.any_eq_true]
    exact ⟨a, List.mem_of_getElem? ha, e⟩
theorem bs_none {l : List ByteArray} {t : ByteArray} {lo : Nat} (h : BsAt l t lo lo) (ha : l.length ≤ lo) : l.any (fun x => x.toList == t.toList) = false := by
  rw [List.any_eq_false]
  intro x hx hxt
  have hxt' : x.toList = t.toList := by simpa using hxt
  obtain ⟨j, hj⟩ := List.getElem?_of_mem hx
  have h1 := h.1 j x hj (by have := (List.getElem?_eq_some_iff.1 hj).1; omega)
  unfold ltS at h1; rw [hxt'] at h1
  exact absurd h1 (by have := ltS_irrefl t; unfold ltS at this; simp [this])
theorem bs_up {l : List ByteArray} {t a : ByteArray} {lo hi h : Nat} (hs : l.Pairwise (fun a b => ltS a b = true)) (hb : BsAt l t lo hi) (ha : l[h]? = some a) (hl : ltS a t = true) (tr : ∀ x y z : ByteArray, ltS x y = true → ltS y z = true → ltS x z = true) : BsAt l t (h + 1) hi := by
  refine ⟨fun j x hj hlt => ?_, hb.2⟩
  rcases Nat.lt_or_ge j h with h1 | h1
  · obtain ⟨hj1, rfl⟩ := List.getElem?_eq_some_iff.1 hj
    obtain ⟨hl1, rfl⟩ := List.getElem?_eq_some_iff.1 ha
    exact tr _ _ _ (List.pairwise_iff_getElem.1 hs j h hj1 hl1 h1) hl
  · obtain rfl : j = h := by omega
    rw [hj] at ha; injection ha with ha; rw [ha]; exact hl
theorem bs_down {l : List ByteArray} {t a : ByteArray} {lo hi h : Nat} (hs : l.Pairwise (fun a b => ltS a b = true)) (hb : BsAt l t lo hi) (ha : l[h]? = some a) (hl : ltS a t = false) (tr : ∀ x y z : ByteArray, ltS x y = true → ltS y z = true → ltS x z = true) : BsAt l t lo h := by
  refine ⟨hb.1, fun j x hj hlt => ?_⟩
  rcases Nat.lt_or_ge h j with h1 | h1
  · obtain ⟨hj1, rfl⟩ := List.getElem?_eq_some_iff.1 hj
    obtain ⟨hl1, rfl⟩ := List.getElem?_eq_some_iff.1 ha
    cases e : ltS l[j] t
    · rfl
    · rw [tr _ _ _ (List.pairwise_iff_getElem.1 hs h j hl1 hj1 h1) e] at hl; cases hl
  · obtain rfl : j = h := by omega
    rw [hj] at ha; injection ha with ha; rw [ha]; exact hl
theorem less_trans_ : ∀ x y z : List UInt8, Op.bytesLess x y = true → Op.bytesLess y z = true → Op.bytesLess x z = true
  | [], [], _, h, _ => by simp [Op.bytesLess] at h
  | [], _ :: _, [], _, h => by simp [Op.bytesLess] at h
  | [], _ :: _, _ :: _, _, _ => by simp [Op.bytesLess]
  | _ :: _, [], _, h, _ => by simp [Op.bytesLess] at h
  | _ :: _, _ :: _, [], _, h => by simp [Op.bytesLess] at h
  | a :: x, b :: y, c :: z, h1, h2 => by
    simp only [Op.bytesLess, Bool.or_eq_true, Bool.and_eq_true, decide_eq_true_eq, beq_iff_eq] at h1 h2 ⊢
    rcases h1 with h1 | ⟨rfl, h1⟩ <;> rcases h2 with h2 | ⟨rfl, h2⟩
    · exact .inl (by rw [UInt8.lt_iff_toNat_lt] at *; omega)
    · exact .inl h1
    · exact .inl h2
    · exact .inr ⟨rfl, less_trans_ x y z h1 h2⟩
theorem ltS_trans (x y z : ByteArray) (h1 : ltS x y = true) (h2 : ltS y z = true) : ltS x z = true := less_trans_ _ _ _ h1 h2

set_option maxHeartbeats 400000 in
theorem cless_any (a b : ByteArray) (w : World) : Calls Tryd.prog 69 #[.string a, .string b] w fun e w' => e = .returned (.bool (ltS a b)) ∧ w = w' := by
  obtain ⟨r, hr⟩ : ∃ r, r = Op.bytesLess a.toList b.toList := ⟨_, rfl⟩
  have HR := hid hr
  cases h1 : Op.bytesLess a.toList b.toList
  all_goals
    go_enter Tryd.func69, Tryd.ntmps69
    go_wp2
    go_ret
    exact ⟨by simp [ltS, h1], rfl⟩

theorem str_get {l : List ByteArray} {m : Nat} {a : ByteArray} (h : l[m]? = some a) : (strCells l).getD m undef = .string a := by simp [strCells, List.getD, h]
set_option maxHeartbeats 2000000 in
theorem bsearch_any (A : Option Addr) (n c : Nat) (l : List ByteArray) (t : ByteArray) (w : World) (hr : Rd w w.heap.size 1 A n (strCells l)) (hn : n ≤ 4611686018427387904) (hs : l.Pairwise (fun a b => ltS a b = true)) :
    Calls Tryd.prog 61 #[.slice A n c, .string t] w fun e w' => (∃ i : Int, e = .returned (.tuple #[.int .i64 i, .bool (l.any (fun x => x.toList == t.toList))])) ∧ w = w' := by
  have HL : Hid (l.length = n) := by unfold Hid; have := hr.1; simpa [strCells] using this
  go_enter Tryd.func61, Tryd.ntmps61
  go_wp2_with fail
  go_loop [7, 8] (fun i j => ∃ lo hi : Nat, lo ≤ hi ∧ hi ≤ n ∧ i = .int .i64 lo ∧ j = .int .i64 hi ∧ BsAt l t lo hi) (fun i j => (intOf j).toNat - (intOf i).toNat)
  case atStart => exact ⟨0, n, by omega, by omega, rfl, rfl, fun j a _ h => absurd h (by omega), fun j a ha h => absurd (List.getElem?_eq_some_iff.1 ha).1 (by rw [HL.out]; omega)⟩
  case round =>
    obtain ⟨lo, hi, h1, h2, rfl, rfl, hb⟩ := hrel
    have HB := hid hb; clear hb
    by_cases hlt : lo < hi
    · obtain ⟨m, hm⟩ : ∃ m : Nat, m = (lo + hi) / 2 := ⟨_, rfl⟩
      have hm1 : lo ≤ m := by omega
      have hm2 : m < hi := by omega
      have hmi : ((lo : Int) + hi) / 2 = m := by omega
      have HM := hid hm; clear hm
      obtain ⟨a, ha⟩ : ∃ a, l[m]? = some a := ⟨l[m]'(by rw [HL.out]; omega), List.getElem?_eq_getElem _⟩
      obtain ⟨b, o, rfl, hbB, hc⟩ := hr.at1 (k := m) (by omega)
      rw [str_get ha] at hc
      have HA := hid ha; clear ha
      have HC := hid (cless_any a t)
      cases hl : ltS a t
      · rw [hl] at HC
        have HN := hid hl; clear hl
        go_wp2_with fail
        refine (HC.out _).mono ?_
        rintro e w' ⟨rfl, rfl⟩
        go_wp2_with fail
        go_round
        case rel => exact ⟨lo, m, by omega, by omega, rfl, rfl, bs_down hs HB.out HA.out HN.out ltS_trans⟩
        case measure => simp [intOf]; omega
      · rw [hl] at HC
        have HN := hid hl; clear hl
        go_wp2_with fail
        refine (HC.out _).mono ?_
        rintro e w' ⟨rfl, rfl⟩
        go_wp2_with fail
        go_round
        case rel => exact ⟨m + 1, hi, by omega, by omega, by go_num, rfl, bs_up hs HB.out HA.out HN.out ltS_trans⟩
        case measure => simp [intOf]; omega
    · obtain rfl : lo = hi := by omega
      by_cases hln : lo < n
      · obtain ⟨a, ha⟩ : ∃ a, l[lo]? = some a := ⟨l[lo]'(by rw [HL.out]; omega), List.getElem?_eq_getElem _⟩
        obtain ⟨b, o, rfl, hbB, hc⟩ := hr.at1 (k := lo) (by omega)
        rw [str_get ha] at hc
        have HF := hid (bs_found hs HB.out ha)
        clear ha
        cases he : (a.toList == t.toList)
        · rw [he] at HF
          go_wp2
          go_ret2
          exact ⟨⟨_, by rw [← HF.out] <;> rfl⟩, rfl⟩
        · rw [he] at HF
          go_wp2
          go_ret2
          exact ⟨⟨_, by rw [← HF.out] <;> rfl⟩, rfl⟩
      · have HF := hid (bs_none HB.out (by rw [HL.out]; omega))
        go_wp2_with fail
        go_ret2
        exact ⟨⟨_, by rw [HF.out] <;> rfl⟩, rfl⟩
end Go.Proofs.YtdgdllicmccnfaaDoor

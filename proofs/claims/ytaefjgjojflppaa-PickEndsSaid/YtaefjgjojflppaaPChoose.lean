/- PChoose: the contract of pick.Choose. -/
import Derived.Test.YtaefjgjojflppaaInts
namespace Go.Proofs.Ytaefjgjojflppaa
open Go.RowKit
set_option linter.unusedVariables false
set_option linter.unusedSimpArgs false

theorem OwnInts.chosen {w w1 : World} {M : Nat → Prop} {xs : List Int} {A : Option Addr} {n c : Nat} (hM : ∀ b, M b → b < w.heap.size) (hn : n = xs.length) (ho : w1.ownsRow w.heap.size 3 1 (.slice A n c) n (iCells xs)) (hb : Below w.heap.size w w1) :
    n = xs.length ∧ n ≤ c ∧ c ≤ 9223372036854775807 ∧ Ro w1 M (IsIn A n xs) ∧ Below w.heap.size w w1 := by
  have hc := own_caps ho
  refine ⟨hn, hc.1, hc.2.1, fun w2 h1 h2 => ?_, hb⟩
  refine Rd.of_own (w := w2) (base := w.heap.size) (e := 3) (c := c) ⟨ho.1, ?_⟩
  rcases ho.2 with hn' | ⟨g, cap, cur, hv, hbg, hgg, rest⟩
  · exact .inl hn'
  · refine .inr ⟨g, cap, cur, hv, hbg, (h2 g ?_ (fun hm => by have := hM g hm; omega)).trans hgg, rest⟩
    rcases Nat.lt_or_ge g w1.heap.size with hlt | hge
    · exact hlt
    · rw [Array.getElem?_eq_none hge] at hgg; cases hgg

set_option maxHeartbeats 4000000 in
theorem choose_low (M : Nat → Prop) (w : World) (hM : ∀ b, M b → b < w.heap.size) (N : Int) (A : Option Addr) (n c : Nat) (xs : List Int) (hN : N < 2 ∨ n = 0) (hD : Ro w M (IsIn A n xs)) (hn : n ≤ 17592186044416) :
    Calls Try.prog 16 #[.int .i64 N, .slice A n c] w fun e w' => Chosen w M 0 xs e w' := by
  have HX : Hid (∀ w1 (A1 : Option Addr) (n1 c1 : Nat), n1 = xs.length → w1.ownsRow w.heap.size 3 1 (.slice A1 n1 c1) n1 (iCells xs) → Below w.heap.size w w1 → Chosen w M 0 xs (.returned (.tuple #[.int .i64 0, .slice A1 n1 c1])) w1) := hid fun w1 A1 n1 c1 h1 h2 h3 => ⟨A1, n1, c1, rfl, OwnInts.chosen hM h1 h2 h3⟩
  by_cases h2 : N < 2
  · have hd : decide (N < 2) = true := by simpa using h2
    go_enter Try.func16, Try.ntmps16
    go_wp2_with fail
    refine (cloneInts_any w A n c xs hD.now hn).mono ?_
    rintro e w1 ⟨A1, n1, c1, rfl, h1, h2, h3⟩
    have H1 := hid h1; clear h1
    go_wp2_with fail
    go_ret2
    exact HX.out _ _ _ _ H1.out h2 h3
  · obtain rfl : n = 0 := hN.resolve_left h2
    have hd : decide (N < 2) = false := by simpa using h2
    go_enter Try.func16, Try.ntmps16
    go_wp2_with fail
    refine (cloneInts_any w A 0 c xs hD.now hn).mono ?_
    rintro e w1 ⟨A1, n1, c1, rfl, h1, h2, h3⟩
    have H1 := hid h1; clear h1
    go_wp2_with fail
    go_ret2
    exact HX.out _ _ _ _ H1.out h2 h3

theorem IsIn.tail {w : World} {A : Option Addr} {n : Nat} {x : Int} {xs : List Int} {b o : Nat} (h : IsIn (some ⟨b, o, none⟩) (n + 1) (x :: xs) w) : IsIn (some ⟨b, o + 1, none⟩) n xs w := by
  obtain ⟨h1, h2⟩ := (show Rd w w.heap.size 1 _ (n + 1) (iCells (x :: xs)) from h)
  refine ⟨by simp [iCells] at h1 ⊢; omega, fun h0 => ?_⟩
  obtain ⟨b', o', e, hb, hc⟩ := h2 (by omega)
  obtain ⟨rfl, rfl⟩ : b = b' ∧ o = o' := by injection e with e; injection e with a1 a2; exact ⟨a1, a2⟩
  exact ⟨b, o + 1, rfl, hb, fun j u hu => by have := hc (j + 1) u (by simpa [iCells] using hu); rwa [show o + (j + 1) = o + 1 + j by omega] at this⟩
theorem IsIn.zero {w : World} (A : Option Addr) : IsIn A 0 [] w := ⟨rfl, fun h => absurd h (by omega)⟩

set_option maxHeartbeats 4000000 in
theorem choose_take (M : Nat → Prop) (w : World) (hM : ∀ b, M b → b < w.heap.size) (N : Int) (hN : 2 ≤ N) (hN2 : N ≤ 9223372036854775807) (A : Option Addr) (n c : Nat) (hc : n + 1 ≤ c) (x : Int) (xs : List Int) (hD : Ro w M (IsIn A (n + 1) (x :: xs))) (hn : n ≤ 17592186044415) :
    Calls Try.prog 16 #[.int .i64 N, .slice A (n + 1 : Nat) c] w fun e w' => Chosen w M (pickK N x) xs e w' := by
  have HX : Hid (∀ k w1 (A1 : Option Addr) (n1 c1 : Nat), pickK N x = k → n1 = xs.length → w1.ownsRow w.heap.size 3 1 (.slice A1 n1 c1) n1 (iCells xs) → Below w.heap.size w w1 → Chosen w M (pickK N x) xs (.returned (.tuple #[.int .i64 k, .slice A1 n1 c1])) w1) := hid fun k w1 A1 n1 c1 h0 h1 h2 h3 => ⟨A1, n1, c1, by rw [h0], OwnInts.chosen hM h1 h2 h3⟩
  have HL := hid (show xs.length = n from by have := hD.now.len; simpa using this)
  have hd : decide (N < 2) = false := by simp; omega
  obtain ⟨b, o, rfl, hb, hcl⟩ := (show Rd w w.heap.size 1 A (n + 1) (iCells (x :: xs)) from hD.now).2 (by omega)
  have c0 : w.cell? ⟨b, o, none⟩ = some (.int .i64 x) := by simpa using hcl 0 _ rfl
  have hz : ((n : Int) + 1 == 0) = false := by rw [beq_eq_false_iff_ne]; omega
  have hNz : (N == 0) = false := by rw [beq_eq_false_iff_ne]; omega
  have hr1 : x.tmod N < N := Int.tmod_lt_of_pos x (by omega)
  have hr2 : -N < x.tmod N := by have := Int.tmod_lt_of_pos (-x) (show 0 < N by omega); rw [Int.neg_tmod] at this; omega
  obtain ⟨r, hr⟩ : ∃ r, x.tmod N = r := ⟨_, rfl⟩
  rw [hr] at hr1 hr2
  have HK := hid (show pickK N x = if r < 0 then r + N else r by unfold pickK; rw [hr])
  have HT := hid (IsIn.tail (A := some ⟨b, o, none⟩) hD.now)
  clear hcl
  have hcc : (n = 0 ∧ c = 1) ∨ 1 < c := by omega
  by_cases hs : r < 0
  · have hsd : decide (r < 0) = true := by simpa using hs
    have hw : wrap64 (r + N) = r + N := IntWalk.wrap64_in _ (by omega)
    have HK2 := hid (show pickK N x = r + N by rw [HK.out, if_pos hs])
    rcases hcc with ⟨rfl, rfl⟩ | hcc
    · obtain rfl : xs = [] := List.length_eq_zero_iff.1 HL.out
      go_enter Try.func16, Try.ntmps16
      go_wp2_with fail
      refine (cloneInts_any w _ 0 _ [] (IsIn.zero _) (by omega)).mono ?_
      rintro e w1 ⟨A1, n1, c1, rfl, h1, h2, h3⟩
      have H1 := hid h1; clear h1
      go_wp2_with fail
      go_ret2
      exact HX.out _ _ _ _ _ HK2.out H1.out h2 h3
    · go_enter Try.func16, Try.ntmps16
      go_wp2_with fail
      refine (cloneInts_any w _ n _ xs HT.out (by omega)).mono ?_
      rintro e w1 ⟨A1, n1, c1, rfl, h1, h2, h3⟩
      have H1 := hid h1; clear h1
      go_wp2_with fail
      go_ret2
      exact HX.out _ _ _ _ _ HK2.out H1.out h2 h3
  · have hsd : decide (r < 0) = false := by simpa using hs
    have HK2 := hid (show pickK N x = r by rw [HK.out, if_neg hs])
    rcases hcc with ⟨rfl, rfl⟩ | hcc
    · obtain rfl : xs = [] := List.length_eq_zero_iff.1 HL.out
      go_enter Try.func16, Try.ntmps16
      go_wp2_with fail
      refine (cloneInts_any w _ 0 _ [] (IsIn.zero _) (by omega)).mono ?_
      rintro e w1 ⟨A1, n1, c1, rfl, h1, h2, h3⟩
      have H1 := hid h1; clear h1
      go_wp2_with fail
      go_ret2
      exact HX.out _ _ _ _ _ HK2.out H1.out h2 h3
    · go_enter Try.func16, Try.ntmps16
      go_wp2_with fail
      refine (cloneInts_any w _ n _ xs HT.out (by omega)).mono ?_
      rintro e w1 ⟨A1, n1, c1, rfl, h1, h2, h3⟩
      have H1 := hid h1; clear h1
      go_wp2_with fail
      go_ret2
      exact HX.out _ _ _ _ _ HK2.out H1.out h2 h3

/-- What Choose answers: one answer for both packages. -/
def chosenK (N : Int) (xs : List Int) : Int := match xs with | [] => 0 | x :: _ => if N < 2 then 0 else pickK N x
def chosenL (N : Int) (xs : List Int) : List Int := match xs with | [] => [] | x :: r => if N < 2 then x :: r else r
theorem choose_any (M : Nat → Prop) (w : World) (hM : ∀ b, M b → b < w.heap.size) (N : Int) (hN : I64 N) (A : Option Addr) (n c : Nat) (hc : n ≤ c) (xs : List Int) (hD : Ro w M (IsIn A n xs)) (hn : n ≤ 17592186044416) :
    Calls Try.prog 16 #[.int .i64 N, .slice A n c] w fun e w' => Chosen w M (chosenK N xs) (chosenL N xs) e w' := by
  have hl := hD.now.len
  rcases xs with _ | ⟨x, xs⟩
  · exact choose_low M w hM N A n c [] (.inr (by simpa using hl.symm)) hD hn
  · by_cases h : N < 2
    · simp only [chosenK, chosenL, h, if_true]
      exact choose_low M w hM N A n c _ (.inl h) hD hn
    · simp only [chosenK, chosenL, h, if_false]
      obtain ⟨n, rfl⟩ : ∃ m, n = m + 1 := ⟨xs.length, by simpa using hl.symm⟩
      exact choose_take M w hM N (by omega) hN.2 A n c hc x xs hD (by omega)
theorem rchoose_any (M : Nat → Prop) (w : World) (hM : ∀ b, M b → b < w.heap.size) (N : Int) (hN : I64 N) (A : Option Addr) (n c : Nat) (hc : n ≤ c) (xs : List Int) (hD : Ro w M (IsIn A n xs)) (hn : n ≤ 17592186044416) :
    Calls Try.prog 17 #[.int .i64 N, .slice A n c] w fun e w' => Chosen w M (chosenK N xs) (chosenL N xs) e w' := by
  have hl := hD.now.len
  rcases xs with _ | ⟨x, xs⟩
  · obtain rfl : n = 0 := by simpa using hl.symm
    exact rchoose_none M w hM N A c [] hD
  · by_cases h : N < 2
    · simp only [chosenK, chosenL, h, if_true]
      exact rchoose_low M w hM N h A n c _ hD hn
    · simp only [chosenK, chosenL, h, if_false]
      obtain ⟨n, rfl⟩ : ∃ m, n = m + 1 := ⟨xs.length, by simpa using hl.symm⟩
      exact rchoose_take M w hM N (by omega) hN.2 A n c hc x xs hD (by omega)
end Go.Proofs.Ytaefjgjojflppaa

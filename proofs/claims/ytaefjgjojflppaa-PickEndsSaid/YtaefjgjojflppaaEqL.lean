/- EqL: same, EqualFunc over lists of lists. -/
import Derived.Test.YtaefjgjojflppaaROrders
namespace Go.Proofs.Ytaefjgjojflppaa
open Go.RowKit
set_option linter.unusedVariables false
set_option linter.unusedSimpArgs false

theorem extS_len (f : Nat → Nat → Bool) (n : Nat) : ∀ (fuel : Nat) (us : List Bool) (nw : List Int), ∀ x ∈ extS f n fuel us nw, x.length = n
  | 0, _, _, x, h => by simp [extS] at h
  | fuel + 1, us, nw, x, h => by
    unfold extS at h
    split at h
    · rename_i hl; simp at h; rw [h]; exact hl
    · obtain ⟨i, hi, hx⟩ := List.mem_flatMap.1 h
      split at hx
      · exact extS_len f n fuel _ _ x hx
      · cases hx
theorem ordL_lens (f : Nat → Nat → Bool) (n : Nat) (most : Int) : ∀ x ∈ ordL f n most, x.length = n := fun x hx => by
  unfold ordL at hx
  split at hx
  · cases hx
  · exact extS_len f n _ _ _ x (List.mem_of_mem_take hx)
theorem ordL_le (f : Nat → Nat → Bool) (n : Nat) (most : Int) : (ordL f n most).length ≤ most.toNat := by
  unfold ordL
  split
  · simp
  · rw [List.length_take]; omega
theorem same_any (w : World) (A : Option Addr) (n c : Nat) (xs : List Int) (B : Option Addr) (m d : Nat) (ys : List Int) (hD : IsIn A n xs w) (hE : IsIn B m ys w) (hn : n ≤ 17592186044416) (hm : m ≤ 17592186044416) :
    Calls Try.prog 24 #[.slice A n c, .slice B m d] w fun e w' => e = .returned (.bool (xs == ys)) ∧ ∃ q, w' = w.drewN q := by
  go_enter Try.func24, Try.ntmps24
  go_wp2_with fail
  refine (eqInts_any w A n c xs B m d ys hD hE hn hm).mono ?_
  rintro e w1 ⟨rfl, q, rfl⟩
  go_wp2_with fail
  go_ret
  exact ⟨rfl, q, rfl⟩
/-- the list of lists at a place -/
theorem outs_at {w : World} {O : Option Addr} {m k : Nat} {ovs : List Value} {outs : List (List Int)} (h : SlR 1 O m ovs w) (ho : OutsIn ovs outs w) (hk : k < m) :
    ∃ (b o : Nat) (A : Option Addr) (n c : Nat) (xs : List Int), O = some ⟨b, o, none⟩ ∧ outs[k]? = some xs ∧ w.cell? ⟨b, o + k, none⟩ = some (.slice A n c) ∧ n = xs.length ∧ IsIn A n xs w := by
  have h1 : Rd w w.heap.size 1 O m ovs := h
  have hl := h1.1
  obtain ⟨b, o, e, _, hc⟩ := h1.at1 hk
  have hko : k < outs.length := by have := ho.1; omega
  have hkv : k < ovs.length := by omega
  obtain ⟨A, n, c, hv, _, _, hin⟩ := ho.2 k ovs[k] outs[k] (List.getElem?_eq_getElem hkv) (List.getElem?_eq_getElem hko)
  rw [List.getD, List.getElem?_eq_getElem hkv, Option.getD_some, hv] at hc
  exact ⟨b, o, A, n, c, _, e, List.getElem?_eq_getElem hko, hc, hin.len.symm, hin⟩
theorem take_eq_succ {α} {xs ys : List α} {k : Nat} {x y : α} (hx : xs[k]? = some x) (hy : ys[k]? = some y) (h : xs.take k = ys.take k) (he : x = y) : xs.take (k + 1) = ys.take (k + 1) := by
  rw [List.take_add_one, List.take_add_one, hx, hy, h, he]
theorem beq_no {xs ys : List (List Int)} {k : Nat} {x y : List Int} (hx : xs[k]? = some x) (hy : ys[k]? = some y) (h : (x == y) = false) : (xs == ys) = false := by
  rw [beq_eq_false_iff_ne] at h ⊢
  rintro rfl
  rw [hx] at hy
  exact h (by injection hy)
set_option maxHeartbeats 4000000 in
theorem eqFunc_any (w : World) (O : Option Addr) (m c : Nat) (ovs : List Value) (outs : List (List Int)) (O' : Option Addr) (m' c' : Nat) (ovs' : List Value) (outs' : List (List Int)) (h1 : SlR 1 O m ovs w) (h2 : OutsIn ovs outs w) (h3 : SlR 1 O' m' ovs' w) (h4 : OutsIn ovs' outs' w)
    (hl : ∀ x ∈ outs, x.length ≤ 17592186044416) (hl' : ∀ x ∈ outs', x.length ≤ 17592186044416) (hm : m ≤ 17592186044416) :
    Calls Try.prog 22 #[.slice O m c, .slice O' m' c', .func (.func 24) #[] #[]] w fun e w' => e = .returned (.bool (outs == outs')) ∧ ∃ q, w' = w.drewN q := by
  have HM := hid (show m = outs.length by have := (show Rd w w.heap.size 1 O m ovs from h1).1; have := h2.1; omega)
  have HM' := hid (show m' = outs'.length by have := (show Rd w w.heap.size 1 O' m' ovs' from h3).1; have := h4.1; omega)
  by_cases hmm : m = m'
  · subst hmm
    go_enter Try.func22, Try.ntmps22
    have hb : ((m : Int) != (m : Int)) = false := by simp
    go_wp2_with fail
    go_loopw [17] (fun i wr => ∃ (k q : Nat), k ≤ m ∧ i = .int .i64 k ∧ wr = w.drewN q ∧ outs.take k = outs'.take k) (fun i _ => m - (intOf i).toNat)
    case atStart => exact ⟨0, 0, by omega, rfl, rfl, by simp⟩
    case round =>
      obtain ⟨k, q, hk, rfl, rfl, htk⟩ := hrel
      have HTK := hid htk; clear htk
      by_cases hlt : k < m
      · have hd : decide ((k : Int) < (m : Int)) = true := by simp; omega
        obtain ⟨b, o, A, n, cc, xs, rfl, hx, hcell, hn, hin⟩ := outs_at h1 h2 hlt
        obtain ⟨b', o', A', n', cc', ys, rfl, hy, hcell', hn', hin'⟩ := outs_at h3 h4 hlt
        have hnb := hl _ (List.mem_of_getElem? hx)
        have hnb' := hl' _ (List.mem_of_getElem? hy)
        rw [← hn] at hnb
        rw [← hn'] at hnb'
        have HX := hid hx; have HY := hid hy; clear hx hy hn hn'
        go_wp2_with fail
        refine (same_any (w.drewN q) A n cc xs A' n' cc' ys hin hin' hnb hnb').mono ?_
        rintro e w3 ⟨rfl, q2, rfl⟩
        cases hb : (xs == ys)
        · have HB := hid (beq_no HX.out HY.out hb); clear hb
          go_wp2_with fail
          go_ret
          exact ⟨by rw [HB.out]; rfl, q + q2, rfl ⟩
        · have HB := hid (take_eq_succ HX.out HY.out HTK.out (eq_of_beq hb)); clear hb
          go_wp2_with fail
          go_roundw
          case rel => exact ⟨k + 1, q + q2, by omega, by go_num, rfl, HB.out⟩
          case measure => simp [intOf]; omega
      · obtain rfl : m = k := by omega
        have hE : outs = outs' := by
          have h := HTK.out
          rwa [List.take_of_length_le (by have := HM.out; omega), List.take_of_length_le (by have := HM'.out; omega)] at h
        have HB := hid (show (outs == outs') = true by rw [hE]; simp); clear hE
        go_wp2_with fail
        go_ret
        exact ⟨by rw [HB.out]; rfl, q, rfl⟩
  · have hb : ((m : Int) != (m' : Int)) = true := by simp; omega
    have HB := hid (show (outs == outs') = false by
      rw [beq_eq_false_iff_ne]; intro h; have := HM.out; have := HM'.out; rw [h] at *; omega)
    go_enter Try.func22, Try.ntmps22
    go_wp2_with fail
    go_ret
    exact ⟨by rw [HB.out]; rfl, 0, rfl⟩
/-- the items and the order of the check -/
def kIts : List It := [⟨⟨#[98]⟩, 0, none, 0, 0, none, 0, 0⟩, ⟨⟨#[97]⟩, 0, none, 0, 0, none, 0, 0⟩, ⟨⟨#[98]⟩, 0, none, 0, 0, none, 0, 0⟩]
def kLks : List Lk := [⟨⟨#[97]⟩, ⟨#[98]⟩⟩]
theorem kElig : eligL kIts kLks kIts.length = [.int .i64 1] := by kernel_rfl
theorem kOrd : (ordL (ordF kIts kLks) 3 9).length = 2 := by kernel_rfl
abbrev kCells : Array Value := #[.string ⟨#[98]⟩, .int .i64 0, .slice none 0 0, .slice none 0 0, .string ⟨#[97]⟩, .int .i64 0, .slice none 0 0, .slice none 0 0, .string ⟨#[98]⟩, .int .i64 0, .slice none 0 0, .slice none 0 0]
set_option maxHeartbeats 4000000 in
theorem known_any (w : World) : Calls Try.prog 13 #[] w fun e w' => e = .returned (.bool true) ∧ Below w.heap.size w w' := by
  have K1 := ((Hold.begin_ w).alloc_cst kCells 27).alloc_cst #[.string ⟨#[97]⟩, .string ⟨#[98]⟩] 30
  rw [World.size_alloc] at K1
  have k1 : Ro _ _ (ItsIn (some ⟨w.heap.size, 0, none⟩) 3 kIts) := ro_block (t := 27) (cs := kCells) (n := 3) (size := 4) (K1.get 1 rfl) rfl
  have k2 : Ro _ _ (LksIn (some ⟨w.heap.size + 1, 0, none⟩) 1 kLks) := ro_block (t := 30) (cs := #[.string ⟨#[97]⟩, .string ⟨#[98]⟩]) (n := 1) (size := 2) (K1.get 0 rfl) rfl
  have K2 := (K1.add k2).add (k1.less (mut_none rfl))
  go_enter Try.func13, Try.ntmps13
  go_wp2_with fail
  refine (elig_any _ _ K2.mutLt (some ⟨w.heap.size, 0, none⟩) 3 3 kIts (some ⟨w.heap.size + 1, 0, none⟩) 1 1 kLks (K2.ro 0 rfl) (K2.ro 1 rfl) (by omega) (by omega)).mono ?_
  rintro e w3 ⟨A3, n3, c3, rfl, hn3, hc3, hc32, r3, b3⟩
  rw [kElig] at hn3 r3
  obtain rfl : n3 = 1 := hn3
  have K3 := (((K2.call b3).add r3).alloc_cst #[.int .i64 1] 3)
  have k4 : Ro _ _ (IsIn (some ⟨w3.heap.size, 0, none⟩) 1 [1]) := ro_block (t := 3) (cs := #[.int .i64 1]) (n := 1) (size := 1) (K3.get 0 rfl) rfl
  have i3 := hid (show IsIn A3 1 [1] _ from (K3.ro 1 rfl).now)
  have i4 := hid k4.now
  clear b3 r3 k4 K1 K2 k1 k2
  go_wp2_with fail
  refine (eqInts_any _ A3 1 c3 [1] _ 1 1 [1] i3.out i4.out (by omega) (by omega)).mono ?_
  rintro e w4 ⟨rfl, q, rfl⟩
  have K4 := K3.drewN q
  rw [show ([(1 : Int)] == [1]) = true from by decide]
  clear K3 i3 i4
  go_wp2_with fail
  refine (porders_any _ _ K4.mutLt (some ⟨w.heap.size, 0, none⟩) 3 3 kIts (some ⟨w.heap.size + 1, 0, none⟩) 1 1 kLks 9 (K4.ro 2 rfl) (K4.ro 3 rfl) (by omega) (by omega) (by omega) (by unfold I64; omega)).mono ?_
  rintro e w5 ⟨O, m5, c5, ovs, rfl, hm5, hc5, hc52, r5, o5, b5⟩
  rw [kOrd] at hm5
  subst hm5
  have K5 := K4.call b5
  clear r5 o5 b5 K4
  go_wp2_with fail
  go_ret
  exact ⟨by first | rfl | simp, K5.below⟩
end Go.Proofs.Ytaefjgjojflppaa

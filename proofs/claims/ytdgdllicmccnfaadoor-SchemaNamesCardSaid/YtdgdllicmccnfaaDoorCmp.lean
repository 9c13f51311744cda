/- The contracts of cmp.Compare, cmp.Or and of the two comparisons of values. -/
import Derived.Test.YtdgdllicmccnfaaDoorVal
import Derived.Test.YtdgdllicmccnfaaDoorBoxes
import Derived.Deep.RegionHeld3
namespace Go.Proofs.YtdgdllicmccnfaaDoor
open Go.RowKit
set_option linter.unusedVariables false

def cmpI (a b : Int) : Int := if a < b then -1 else if b < a then 1 else 0
def cmpS (a b : ByteArray) : Int := if Op.bytesLess a.toList b.toList then -1 else if a.toList == b.toList then 0 else 1

theorem cmp_int (a b : Int) (w : World) :
    Calls Tryd.prog 73 #[.int .i64 a, .int .i64 b] w fun e w' => e = .returned (.int .i64 (cmpI a b)) ∧ w = w' := by
  by_cases h1 : a < b
  · go_enter Tryd.func73, Tryd.ntmps73
    go_wp2
    go_ret
    exact ⟨by simp [cmpI, h1], rfl⟩
  · by_cases h2 : b < a
    · go_enter Tryd.func73, Tryd.ntmps73
      go_wp2
      go_ret
      exact ⟨by simp [cmpI, h1, h2], rfl⟩
    · go_enter Tryd.func73, Tryd.ntmps73
      go_wp2
      go_ret
      exact ⟨by rw [show cmpI a b = 0 from by unfold cmpI; rw [if_neg (by omega), if_neg (by omega)]]; rfl, rfl⟩

theorem cmp_int64 (a b : Int) (w : World) :
    Calls Tryd.prog 74 #[.int .i64 a, .int .i64 b] w fun e w' => e = .returned (.int .i64 (cmpI a b)) ∧ w = w' := by
  by_cases h1 : a < b
  · go_enter Tryd.func74, Tryd.ntmps74
    go_wp2
    go_ret
    exact ⟨by simp [cmpI, h1], rfl⟩
  · by_cases h2 : b < a
    · go_enter Tryd.func74, Tryd.ntmps74
      go_wp2
      go_ret
      exact ⟨by simp [cmpI, h1, h2], rfl⟩
    · go_enter Tryd.func74, Tryd.ntmps74
      go_wp2
      go_ret
      exact ⟨by rw [show cmpI a b = 0 from by unfold cmpI; rw [if_neg (by omega), if_neg (by omega)]]; rfl, rfl⟩

theorem cmp_string (a b : ByteArray) (w : World) :
    Calls Tryd.prog 75 #[.string a, .string b] w fun e w' => e = .returned (.int .i64 (cmpS a b)) ∧ w = w' := by
  cases h1 : Op.bytesLess a.toList b.toList
  · cases h2 : (a.toList == b.toList)
    · go_enter Tryd.func75, Tryd.ntmps75
      go_wp2
      go_ret
      exact ⟨by simp [cmpS, h1, h2], rfl⟩
    · go_enter Tryd.func75, Tryd.ntmps75
      go_wp2
      go_ret
      exact ⟨by simp [cmpS, h1, h2], rfl⟩
  · go_enter Tryd.func75, Tryd.ntmps75
    go_wp2
    go_ret
    exact ⟨by simp [cmpS, h1], rfl⟩

/-- The first number that is not 0, or 0. -/
def firstNZ : List Int → Int
  | [] => 0
  | x :: r => if x = 0 then firstNZ r else x

theorem firstNZ_skip (l : List Int) (k : Nat) (h : ∀ j, j < k → l.getD j 0 = 0) : firstNZ l = firstNZ (l.drop k) := by
  induction k generalizing l with
  | zero => simp
  | succ k ih =>
    cases l with
    | nil => simp
    | cons x r =>
      have h0 : x = 0 := by simpa using h 0 (by omega)
      simp only [firstNZ, h0, if_true, List.drop_succ_cons]
      exact ih r (fun j hj => by simpa using h (j + 1) (by omega))

set_option maxHeartbeats 1000000 in
theorem or_int (A : Option Addr) (n c : Nat) (zs : List Int) (w : World) (B : Nat) (hr : Rd w B 1 A n (zs.map (Value.int .i64))) (hn : n ≤ 9223372036854775807) :
    Calls Tryd.prog 72 #[.slice A n c] w fun e w' => e = .returned (.int .i64 (firstNZ zs)) ∧ w = w' := by
  have hl : zs.length = n := by simpa using hr.1
  have HL := hid hl; clear hl
  go_enter Tryd.func72, Tryd.ntmps72
  go_wp2_with fail
  go_loop [8] (fun i => ∃ k : Nat, k ≤ n ∧ i = .int .i64 k ∧ ∀ j, j < k → zs.getD j 0 = 0) (fun i => n - (intOf i).toNat)
  case atStart => exact ⟨0, by omega, rfl, fun j hj => absurd hj (by omega)⟩
  case round =>
    obtain ⟨k, hk, rfl, hz⟩ := hrel
    have HZ := hid hz; clear hz
    by_cases hlt : k < n
    · obtain ⟨b, o, rfl, hb, hc⟩ := hr.at1 hlt
      rw [ints_get _ _ _ (by rw [HL.out]; omega)] at hc
      obtain ⟨x, hx⟩ : ∃ x, x = zs.getD k 0 := ⟨_, rfl⟩
      rw [← hx] at hc
      have HX := hid hx; clear hx
      by_cases h0 : x = 0
      · have k0 : (x != 0) = false := by simpa using h0
        have H0 := hid h0; clear h0
        go_wp2_with fail
        go_round
        case rel =>
          refine ⟨k + 1, by omega, by go_num, fun j hj => ?_⟩
          by_cases e : j = k
          · subst e; rw [← HX.out]; exact H0.out
          · exact HZ.out j (by omega)
        case measure => simp [intOf]; omega
      · have k0 : (x != 0) = true := by simpa using h0
        have HF : Hid (firstNZ zs = x) := by
          unfold Hid
          rw [firstNZ_skip zs k HZ.out, List.drop_eq_getElem_cons (by rw [HL.out]; omega)]
          have : zs[k]'(by rw [HL.out]; omega) = x := by rw [HX.out]; simp [List.getD, show k < zs.length by rw [HL.out]; omega]
          rw [this, firstNZ, if_neg h0]
        clear h0
        go_wp2_with fail
        go_ret
        exact ⟨by rw [HF.out]; rfl, rfl⟩
    · obtain rfl : k = n := by omega
      have HF : Hid (firstNZ zs = 0) := by
        unfold Hid
        rw [firstNZ_skip zs k HZ.out, List.drop_of_length_le (by rw [HL.out]; omega)]; rfl
      go_wp2
      go_ret
      exact ⟨by rw [HF.out]; rfl, rfl⟩

theorem six {w : World} {g g' : Nat} {t : TypeId} {x y z x' y' z' : Value} (h : Blk w g t #[x, y, z]) (h' : Blk w g' t #[x', y', z']) :
    w.cell? ⟨g, 0, none⟩ = some x ∧ w.cell? ⟨g, 1, none⟩ = some y ∧ w.cell? ⟨g, 2, none⟩ = some z ∧ w.cell? ⟨g', 0, none⟩ = some x' ∧ w.cell? ⟨g', 1, none⟩ = some y' ∧ w.cell? ⟨g', 2, none⟩ = some z' := ⟨h.cell 0, h.cell 1, h.cell 2, h'.cell 0, h'.cell 1, h'.cell 2⟩

/-- The comparison of two values. -/
def cmpV (k1 i1 : Int) (s1 : ByteArray) (k2 i2 : Int) (s2 : ByteArray) : Int := firstNZ [cmpI k1 k2, cmpI i1 i2, cmpS s1 s2]

set_option maxHeartbeats 1000000 in
theorem vcompare_any (k1 i1 : Int) (s1 : ByteArray) (k2 i2 : Int) (s2 : ByteArray) (w : World) :
    Calls Tryd.prog 65 #[.agg #[.int .i64 k1, .int .i64 i1, .string s1], .agg #[.int .i64 k2, .int .i64 i2, .string s2]] w fun e w' => e = .returned (.int .i64 (cmpV k1 i1 s1 k2 i2 s2)) ∧ Below w.heap.size w w' := by
  obtain ⟨x, hx⟩ : ∃ x, x = cmpI k1 k2 := ⟨_, rfl⟩
  obtain ⟨y, hy⟩ : ∃ y, y = cmpI i1 i2 := ⟨_, rfl⟩
  obtain ⟨z, hz⟩ : ∃ z, z = cmpS s1 s2 := ⟨_, rfl⟩
  have c1 := fun w => cmp_int k1 k2 w
  have c2 := fun w => cmp_int64 i1 i2 w
  have c3 := fun w => cmp_string s1 s2 w
  rw [← hx] at c1
  rw [← hy] at c2
  rw [← hz] at c3
  have HF : Hid (cmpV k1 i1 s1 k2 i2 s2 = firstNZ [x, y, z]) := by unfold Hid cmpV; rw [hx, hy, hz]
  have C1 := hid c1; have C2 := hid c2; have C3 := hid c3
  clear c1 c2 c3 hx hy hz
  have B0 := (Blk.new w 39 #[.int .i64 k1, .int .i64 i1, .string s1]).alloc (.cells #[.int .i64 k2, .int .i64 i2, .string s2] 39)
  have B1 : Blk ((w.alloc (.cells #[.int .i64 k1, .int .i64 i1, .string s1] 39)).alloc (.cells #[.int .i64 k2, .int .i64 i2, .string s2] 39)) (w.heap.size + 1) 39 #[.int .i64 k2, .int .i64 i2, .string s2] := by
    have := Blk.new (w.alloc (.cells #[.int .i64 k1, .int .i64 i1, .string s1] 39)) 39 #[.int .i64 k2, .int .i64 i2, .string s2]
    simpa using this
  have RO : Rd (((w.alloc (.cells #[.int .i64 k1, .int .i64 i1, .string s1] 39)).alloc (.cells #[.int .i64 k2, .int .i64 i2, .string s2] 39)).alloc (.cells #[.int .i64 x, .int .i64 y, .int .i64 z] 3)) (w.heap.size + 1 + 1 + 1) 1 (some ⟨w.heap.size + 1 + 1, 0, none⟩) 3 ([x, y, z].map (Value.int .i64)) := by
    have := Rd.lit ((w.alloc (.cells #[.int .i64 k1, .int .i64 i1, .string s1] 39)).alloc (.cells #[.int .i64 k2, .int .i64 i2, .string s2] 39)) #[.int .i64 x, .int .i64 y, .int .i64 z] 3 (size := 1) (n := 3) (xs := [x, y, z].map (Value.int .i64)) rfl rfl
    simpa using this
  go_enter Tryd.func65, Tryd.ntmps65
  go_wp2_with fail
  go_region_held3 (fun w' => w'.cell? ⟨w.heap.size, 0, none⟩ = some (.int .i64 k1) ∧ w'.cell? ⟨w.heap.size, 1, none⟩ = some (.int .i64 i1) ∧ w'.cell? ⟨w.heap.size, 2, none⟩ = some (.string s1) ∧ w'.cell? ⟨w.heap.size + 1, 0, none⟩ = some (.int .i64 k2) ∧ w'.cell? ⟨w.heap.size + 1, 1, none⟩ = some (.int .i64 i2) ∧ w'.cell? ⟨w.heap.size + 1, 2, none⟩ = some (.string s2))
    (first | exact six B0 B1 | exact six (B0.alloc _) (B1.alloc _))
    (first
      | (go_at_call 73; ((with_reducible refine (C1.out _).mono ?_); rintro e w3 ⟨rfl, rfl⟩))
      | (go_at_call 74; ((with_reducible refine (C2.out _).mono ?_); rintro e w3 ⟨rfl, rfl⟩))
      | (go_at_call 75; ((with_reducible refine (C3.out _).mono ?_); rintro e w3 ⟨rfl, rfl⟩))
      | (go_at_call 72; ((with_reducible refine (or_int _ 3 3 [x, y, z] _ _ (Rd.drew RO) (by omega)).mono ?_); rintro e w4 ⟨rfl, rfl⟩)))
  go_wp2_with fail
  go_ret
  exact ⟨by rw [HF.out]; rfl, (ext3 _ _ _ _).drew⟩
end Go.Proofs.YtdgdllicmccnfaaDoor

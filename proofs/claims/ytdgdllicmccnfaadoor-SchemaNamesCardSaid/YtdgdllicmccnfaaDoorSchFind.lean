/- The contracts of Find and KeyColumn, of package schema and of its reference. -/
import Derived.Test.YtdgdllicmccnfaaDoorData
import Derived.Test.YtdgdllicmccnfaaDoorSchPlain
import Derived.WalkSpells
namespace Go.Proofs.YtdgdllicmccnfaaDoor
open Go.RowKit
set_option linter.unusedVariables false
set_option linter.unusedSimpArgs false

theorem RdC.of_sl {w : World} {A : Option Addr} {n : Nat} {l : List Col} (h : SlR 4 A n (colCells l) w) : RdC w w.heap.size A n l := h
theorem get_col {l : List Col} {n k : Nat} (h : l.length = n) (hk : k < n) : ∃ c, l[k]? = some c := ⟨l[k]'(by omega), List.getElem?_eq_getElem _⟩

set_option maxHeartbeats 400000 in
theorem keyc_any (nm : ByteArray) (ty : Int) (nn key : Bool) (w : World) :
    Calls Tryd.prog 39 #[.agg #[.string nm, .int .i64 ty, .bool nn, .bool key]] w fun e w' => e = .returned (.bool key) ∧ Below w.heap.size w w' := by
  go_enter Tryd.func39, Tryd.ntmps39
  go_wp2
  go_ret
  exact ⟨rfl, ext1 _ _⟩
set_option maxHeartbeats 400000 in
theorem findc_any (nm : ByteArray) (ty : Int) (nn key : Bool) (g : Nat) (s : ByteArray) (w : World) (hg : w.cell? ⟨g, 0, none⟩ = some (.string s)) (hlt : g < w.heap.size) :
    Calls Tryd.prog 40 #[.agg #[.string nm, .int .i64 ty, .bool nn, .bool key], .pointer (some ⟨g, 0, none⟩)] w fun e w' => e = .returned (.bool (nm.toList == s.toList)) ∧ Below w.heap.size w w' := by
  go_enter Tryd.func40, Tryd.ntmps40
  go_wp2
  go_ret
  exact ⟨rfl, ext1 _ _⟩

set_option maxHeartbeats 2000000 in
theorem idx_key (M : Nat → Prop) (w : World) (hM : ∀ b, M b → b < w.heap.size) (A : Option Addr) (n c : Nat) (l : List Col) (hD : Ro w M (SlR 4 A n (colCells l))) (hn : n ≤ 9223372036854775807) :
    Calls Tryd.prog 38 #[.slice A n c, .func (.func 39) #[] #[]] w fun e w' => e = .returned (.int .i64 (findB Col.key l)) ∧ Below w.heap.size w w' := by
  have HL := hid (RdC.of_sl hD.now).len
  have K0 := ((Hold.start M w hM).add (hD.less (by simp [Mut])))
  go_enter Tryd.func38, Tryd.ntmps38
  go_wp2_with fail
  go_loopw [8] (fun i wr => ∃ k : Nat, k ≤ n ∧ i = .int .i64 k ∧ findB Col.key l = findFrom Col.key k (l.drop k) ∧ Hold M none w wr [.ro (SlR 4 A n (colCells l))]) (fun i _ => n - (intOf i).toNat)
  case atStart => exact ⟨0, by omega, rfl, rfl, K0⟩
  case round =>
    obtain ⟨k, hk, rfl, hf, H⟩ := hrel
    have HF := hid hf; clear hf
    by_cases hlt : k < n
    · obtain ⟨⟨nm, ty, nn, key⟩, hc⟩ := get_col HL.out hlt
      obtain ⟨b, o, rfl, hb, c0, c1, c2, c3⟩ := (RdC.of_sl (H.ro 0 rfl).now).at_ hc
      have HC := hid hc; clear hc
      simp only at c0 c1 c2 c3
      cases key
      all_goals
        go_wp2_with fail
        refine (keyc_any nm ty nn _ _).mono ?_
        rintro e w1 ⟨rfl, b1⟩
        have K1 := Hold.call H b1
        skip
        go_wp2_with fail
      · go_roundw
        case rel => exact ⟨k + 1, by omega, by go_num, find_miss HF.out HC.out rfl, K1⟩
        case measure => simp [intOf]; omega
      · go_ret
        exact ⟨by rw [find_hit HF.out HC.out rfl] <;> rfl, K1.below⟩
    · go_wp2
      go_ret
      exact ⟨by rw [find_end HF.out (by rw [HL.out]; omega)] <;> rfl, H.below⟩

set_option maxHeartbeats 2000000 in
theorem idx_find (M : Nat → Prop) (w : World) (hM : ∀ b, M b → b < w.heap.size) (A : Option Addr) (n c : Nat) (l : List Col) (hD : Ro w M (SlR 4 A n (colCells l))) (hn : n ≤ 9223372036854775807) (g : Nat) (s : ByteArray) (hS : Ro w M (fun w => w.heap[g]? = some (.cells #[.string s] 9 (0, 0)))) :
    Calls Tryd.prog 38 #[.slice A n c, .func (.func 40) #[] #[.pointer (some ⟨g, 0, none⟩)]] w fun e w' => e = .returned (.int .i64 (findB (named s) l)) ∧ Below w.heap.size w w' := by
  have HL := hid (RdC.of_sl hD.now).len
  have K0 := ((Hold.start M w hM).add (hD.less (by simp [Mut]))).add (S := fun w => w.heap[g]? = some (.cells #[.string s] 9 (0, 0))) (hS.less (by simp [Mut, Hp.foot]))
  go_enter Tryd.func38, Tryd.ntmps38
  go_wp2_with fail
  go_loopw [8] (fun i wr => ∃ k : Nat, k ≤ n ∧ i = .int .i64 k ∧ findB (named s) l = findFrom (named s) k (l.drop k) ∧ Hold M none w wr [.ro (fun w => w.heap[g]? = some (.cells #[.string s] 9 (0, 0))), .ro (SlR 4 A n (colCells l))]) (fun i _ => n - (intOf i).toNat)
  case atStart => exact ⟨0, by omega, rfl, rfl, K0⟩
  case round =>
    obtain ⟨k, hk, rfl, hf, H⟩ := hrel
    have HF := hid hf; clear hf
    by_cases hlt : k < n
    · obtain ⟨⟨nm, ty, nn, key⟩, hc⟩ := get_col HL.out hlt
      obtain ⟨b, o, rfl, hb, c0, c1, c2, c3⟩ := (RdC.of_sl (H.ro 1 rfl).now).at_ hc
      have HC := hid hc; clear hc
      have hB : Blk _ g 9 #[.string s] := (H.ro 0 rfl).now
      simp only at c0 c1 c2 c3
      cases hp : (nm.toList == s.toList)
      all_goals
        go_wp2_with fail
        refine (findc_any nm ty nn key g s _ (hB.cell 0) hB.lt).mono ?_
        rintro e w1 ⟨rfl, b1⟩
        have K1 := Hold.call H b1
        rw [hp]
        go_wp2_with fail
      · go_roundw
        case rel => exact ⟨k + 1, by omega, by go_num, find_miss HF.out HC.out hp, K1⟩
        case measure => simp [intOf]; omega
      · go_ret
        exact ⟨by rw [find_hit HF.out HC.out hp] <;> rfl, K1.below⟩
    · go_wp2
      go_ret
      exact ⟨by rw [find_end HF.out (by rw [HL.out]; omega)] <;> rfl, H.below⟩

set_option maxHeartbeats 1000000 in
theorem keycol_any (M : Nat → Prop) (w : World) (hM : ∀ b, M b → b < w.heap.size) (nm : ByteArray) (A : Option Addr) (n c : Nat) (l : List Col) (hD : Ro w M (SlR 4 A n (colCells l))) (hn : n ≤ 9223372036854775807) :
    Calls Tryd.prog 13 #[.agg #[.string nm, .slice A n c]] w fun e w' => e = .returned (.int .i64 (findB Col.key l)) ∧ Below w.heap.size w w' := by
  have K0 := ((Hold.start M w hM).add (hD.less (by simp [Mut]))).alloc_cst #[.string nm, .slice A n c] 24
  go_enter Tryd.func13, Tryd.ntmps13
  go_wp2_with fail
  refine (idx_key (Mut M _) _ K0.mutLt A n c l (K0.ro 1 rfl) hn).mono ?_
  rintro e w1 ⟨rfl, b1⟩
  have K1 := Hold.call K0 b1
  go_wp2
  go_ret
  exact ⟨rfl, K1.below⟩
set_option maxHeartbeats 1000000 in
theorem find_any (M : Nat → Prop) (w : World) (hM : ∀ b, M b → b < w.heap.size) (nm : ByteArray) (A : Option Addr) (n c : Nat) (l : List Col) (s : ByteArray) (hD : Ro w M (SlR 4 A n (colCells l))) (hn : n ≤ 9223372036854775807) :
    Calls Tryd.prog 15 #[.agg #[.string nm, .slice A n c], .string s] w fun e w' => e = .returned (.int .i64 (findB (named s) l)) ∧ Below w.heap.size w w' := by
  have K0 := (((Hold.start M w hM).add (hD.less (by simp [Mut]))).alloc_cst #[.string nm, .slice A n c] 24).alloc_cst #[.string s] 9
  simp only [World.size_alloc] at K0
  go_enter Tryd.func15, Tryd.ntmps15
  go_wp2_with fail
  refine (idx_find (Mut M _) _ K0.mutLt A n c l (K0.ro 2 rfl) hn _ s (K0.get 0 rfl)).mono ?_
  rintro e w1 ⟨rfl, b1⟩
  have K1 := Hold.call K0 b1
  go_wp2
  go_ret
  exact ⟨rfl, K1.below⟩

set_option maxHeartbeats 2000000 in
theorem rkeycol_any (M : Nat → Prop) (w : World) (hM : ∀ b, M b → b < w.heap.size) (nm0 : ByteArray) (A : Option Addr) (n c : Nat) (l : List Col) (hD : Ro w M (SlR 4 A n (colCells l))) (hn : n ≤ 9223372036854775807) :
    Calls Tryd.prog 14 #[.agg #[.string nm0, .slice A n c]] w fun e w' => e = .returned (.int .i64 (findB Col.key l)) ∧ Below w.heap.size w w' := by
  have HL := hid (RdC.of_sl hD.now).len
  have K0 := ((Hold.start M w hM).add (hD.less (by simp [Mut]))).alloc_cst #[.string nm0, .slice A n c] 24
  go_enter Tryd.func14, Tryd.ntmps14
  go_wp2_with fail
  go_loopw [8] (fun i wr => ∃ k : Nat, k ≤ n ∧ i = .int .i64 k ∧ findB Col.key l = findFrom Col.key k (l.drop k) ∧ Hold M none w wr [.cst w.heap.size 24 #[.string nm0, .slice A n c], .ro (SlR 4 A n (colCells l))]) (fun i _ => n - (intOf i).toNat)
  case atStart => exact ⟨0, by omega, rfl, rfl, K0⟩
  case round =>
    obtain ⟨k, hk, rfl, hf, H⟩ := hrel
    have HF := hid hf; clear hf
    by_cases hlt : k < n
    · obtain ⟨⟨nm, ty, nn, key⟩, hc⟩ := get_col HL.out hlt
      obtain ⟨b, o, rfl, hb, c0, c1, c2, c3⟩ := (RdC.of_sl (H.ro 1 rfl).now).at_ hc
      have HC := hid hc; clear hc
      simp only at c0 c1 c2 c3
      cases key
      · have K1 := H.alloc_cst #[.string nm, .int .i64 ty, .bool nn, .bool false] 35
        go_wp2_with fail
        go_roundw
        case rel => exact ⟨k + 1, by omega, by go_num, find_miss HF.out HC.out rfl, K1.drop (List.sublist_cons_self _ _)⟩
        case measure => simp [intOf]; omega
      · have K1 := H.alloc_cst #[.string nm, .int .i64 ty, .bool nn, .bool true] 35
        go_wp2_with fail
        go_ret
        exact ⟨by rw [find_hit HF.out HC.out rfl] <;> rfl, K1.below⟩
    · go_wp2
      go_ret
      exact ⟨by rw [find_end HF.out (by rw [HL.out]; omega)] <;> rfl, H.below⟩

set_option maxHeartbeats 2000000 in
theorem rfind_any (M : Nat → Prop) (w : World) (hM : ∀ b, M b → b < w.heap.size) (nm0 : ByteArray) (A : Option Addr) (n c : Nat) (l : List Col) (s : ByteArray) (hD : Ro w M (SlR 4 A n (colCells l))) (hn : n ≤ 9223372036854775807) :
    Calls Tryd.prog 16 #[.agg #[.string nm0, .slice A n c], .string s] w fun e w' => e = .returned (.int .i64 (findB (named s) l)) ∧ Below w.heap.size w w' := by
  have HL := hid (RdC.of_sl hD.now).len
  have K0 := ((Hold.start M w hM).add (hD.less (by simp [Mut]))).alloc_cst #[.string nm0, .slice A n c] 24
  go_enter Tryd.func16, Tryd.ntmps16
  go_wp2_with fail
  go_loopw [10] (fun i wr => ∃ k : Nat, k ≤ n ∧ i = .int .i64 k ∧ findB (named s) l = findFrom (named s) k (l.drop k) ∧ Hold M none w wr [.cst w.heap.size 24 #[.string nm0, .slice A n c], .ro (SlR 4 A n (colCells l))]) (fun i _ => n - (intOf i).toNat)
  case atStart => exact ⟨0, by omega, rfl, rfl, K0⟩
  case round =>
    obtain ⟨k, hk, rfl, hf, H⟩ := hrel
    have HF := hid hf; clear hf
    by_cases hlt : k < n
    · obtain ⟨⟨nm, ty, nn, key⟩, hc⟩ := get_col HL.out hlt
      obtain ⟨b, o, rfl, hb, c0, c1, c2, c3⟩ := (RdC.of_sl (H.ro 1 rfl).now).at_ hc
      have HC := hid hc; clear hc
      simp only at c0 c1 c2 c3
      cases hp : (nm.toList == s.toList)
      · have K1 := H.alloc_cst #[.string nm, .int .i64 ty, .bool nn, .bool key] 35
        go_wp2_with fail
        go_roundw
        case rel => exact ⟨k + 1, by omega, by go_num, find_miss HF.out HC.out hp, K1.drop (List.sublist_cons_self _ _)⟩
        case measure => simp [intOf]; omega
      · have K1 := H.alloc_cst #[.string nm, .int .i64 ty, .bool nn, .bool key] 35
        go_wp2_with fail
        go_ret
        exact ⟨by rw [find_hit HF.out HC.out hp] <;> rfl, K1.below⟩
    · go_wp2
      go_ret
      exact ⟨by rw [find_end HF.out (by rw [HL.out]; omega)] <;> rfl, H.below⟩
end Go.Proofs.YtdgdllicmccnfaaDoor

/- Links: the contracts of Precedes, of package order and of its reference. -/
import Derived.Test.YtaefjgjojflppaaData
import Derived.Test.YtaefjgjojflppaaApp2
import Derived.WalkSpells
import Derived.Deep.QuietTactic
import Derived.BigQuiet
namespace Go.Proofs.Ytaefjgjojflppaa
open Go.RowKit
set_option linter.unusedVariables false
set_option linter.unusedSimpArgs false

structure Lk where
  a : ByteArray
  b : ByteArray
def Lk.cells (x : Lk) : List Value := [.string x.a, .string x.b]
def lkCells (l : List Lk) : List Value := l.flatMap Lk.cells
theorem lkCells_len (l : List Lk) : (lkCells l).length = l.length * 2 := flat_len _ 2 (fun _ => rfl) l
/-- is the link from a to b? -/
def lkB (a b : ByteArray) (x : Lk) : Bool := x.a.toList == a.toList && x.b.toList == b.toList
def precB (l : List Lk) (a b : ByteArray) : Bool := l.any (lkB a b)
/-- The slice with address A and n elements reads as the links l. -/
def LksIn (A : Option Addr) (n : Nat) (l : List Lk) : World → Prop := SlR 2 A n (lkCells l)
theorem LksIn.len {w : World} {A : Option Addr} {n : Nat} {l : List Lk} (h : LksIn A n l w) : l.length = n := by
  have := (show Rd w w.heap.size 2 A n (lkCells l) from h).1
  rw [lkCells_len] at this
  omega
theorem LksIn.at_ {w : World} {A : Option Addr} {n : Nat} {l : List Lk} (h : LksIn A n l w) {k : Nat} {x : Lk} (hx : l[k]? = some x) :
    ∃ b o, A = some ⟨b, o, none⟩ ∧ b < w.heap.size ∧ w.cell? ⟨b, o + k * 2, none⟩ = some (.string x.a) ∧ w.cell? ⟨b, o + k * 2 + 1, none⟩ = some (.string x.b) := by
  have hk : k < n := by rw [← h.len]; exact (List.getElem?_eq_some_iff.1 hx).1
  obtain ⟨b, o, e, hb, hc⟩ := (show Rd w w.heap.size 2 A n (lkCells l) from h).2 (by omega)
  exact ⟨b, o, e, hb, hc _ _ (flat_get Lk.cells 2 (fun _ => rfl) l k 0 x (by omega) hx), hc _ _ (flat_get Lk.cells 2 (fun _ => rfl) l k 1 x (by omega) hx)⟩
theorem get_of {α : Type} {l : List α} {n k : Nat} (h : l.length = n) (hk : k < n) : ∃ x, l[k]? = some x := ⟨l[k]'(by omega), List.getElem?_eq_getElem _⟩
theorem any_drop {α : Type} {p : α → Bool} {l : List α} {k : Nat} {x : α} (h : l.any p = (l.drop k).any p) (hx : l[k]? = some x) (hp : p x = false) : l.any p = (l.drop (k + 1)).any p := by
  obtain ⟨hk, rfl⟩ := List.getElem?_eq_some_iff.1 hx
  rw [h, List.drop_eq_getElem_cons hk, List.any_cons, hp, Bool.false_or]
theorem any_hit {α : Type} {p : α → Bool} {l : List α} {k : Nat} {x : α} (hx : l[k]? = some x) (hp : p x = true) : l.any p = true := by
  rw [List.any_eq_true]; exact ⟨x, List.mem_of_getElem? hx, hp⟩
theorem any_end {α : Type} {p : α → Bool} {l : List α} {k : Nat} (h : l.any p = (l.drop k).any p) (hk : l.length ≤ k) : l.any p = false := by
  rw [h, List.drop_of_length_le hk]; rfl

set_option maxHeartbeats 2000000 in
theorem rprec_any (M : Nat → Prop) (w : World) (hM : ∀ b, M b → b < w.heap.size) (A : Option Addr) (n c : Nat) (l : List Lk) (a b : ByteArray) (hD : Ro w M (LksIn A n l)) (hn : n ≤ 9223372036854775807) :
    Calls Try.prog 21 #[.slice A n c, .string a, .string b] w fun e w' => e = .returned (.bool (precB l a b)) ∧ Below w.heap.size w w' := by
  have HL := hid hD.now.len
  have K0 := (Hold.start M w hM).add (hD.less (by simp [Mut]))
  go_enter Try.func21, Try.ntmps21
  go_wp2_with fail
  go_loopw [11] (fun i wr => ∃ k : Nat, k ≤ n ∧ i = .int .i64 k ∧ l.any (lkB a b) = (l.drop k).any (lkB a b) ∧ Hold M none w wr [.ro (LksIn A n l)]) (fun i _ => n - (intOf i).toNat)
  case atStart => exact ⟨0, by omega, rfl, rfl, K0⟩
  case round =>
    obtain ⟨k, hk, rfl, hf, H⟩ := hrel
    have HF := hid hf; clear hf
    by_cases hlt : k < n
    · obtain ⟨x, hx⟩ := get_of HL.out hlt
      obtain ⟨g, o, rfl, hb, c0, c1⟩ := (H.ro 0 rfl).now.at_ hx
      have HX := hid hx; clear hx
      have K1 := H.alloc_cst #[.string x.a, .string x.b] 30
      cases h1 : (x.a.toList == a.toList)
      · have HB := hid (show lkB a b x = false by simp only [lkB, h1, Bool.false_and])
        go_wp2_with fail
        go_roundw
        case rel => exact ⟨k + 1, by omega, by go_num, any_drop HF.out HX.out HB.out, K1.drop (List.sublist_cons_self _ _)⟩
        case measure => simp [intOf]; omega
      · cases h2 : (x.b.toList == b.toList)
        · have HB := hid (show lkB a b x = false by simp only [lkB, h2, Bool.and_false])
          go_wp2_with fail
          go_roundw
          case rel => exact ⟨k + 1, by omega, by go_num, any_drop HF.out HX.out HB.out, K1.drop (List.sublist_cons_self _ _)⟩
          case measure => simp [intOf]; omega
        · have HB := hid (show lkB a b x = true by simp only [lkB, h1, h2, Bool.and_true])
          go_wp2_with fail
          go_ret
          exact ⟨by rw [show precB l a b = true from any_hit HX.out HB.out] <;> rfl, K1.below⟩
    · go_wp2_with fail
      go_ret
      exact ⟨by rw [show precB l a b = false from any_end HF.out (by rw [HL.out]; omega)] <;> rfl, H.below⟩

/-- What Index answers: not below 0 where there is one. -/
def IdxOf (l : List Lk) (a b : ByteArray) (e : Ending) : Prop := ∃ i : Int, e = .returned (.int .i64 i) ∧ decide (0 ≤ i) = precB l a b ∧ -1 ≤ i ∧ i < 9223372036854775807

set_option maxHeartbeats 2000000 in
theorem lkindex_any (M : Nat → Prop) (w : World) (hM : ∀ b, M b → b < w.heap.size) (A : Option Addr) (n c : Nat) (l : List Lk) (a b : ByteArray) (hD : Ro w M (LksIn A n l)) (hn : n ≤ 9223372036854775807) :
    Calls Try.prog 62 #[.slice A n c, .agg #[.string a, .string b]] w fun e w' => IdxOf l a b e ∧ Below w.heap.size w w' := by
  have HL := hid hD.now.len
  have K0 := ((Hold.start M w hM).add (hD.less (by simp [Mut]))).alloc_cst #[.string a, .string b] 30
  go_enter Try.func62, Try.ntmps62
  go_wp2_with fail
  go_loopw [8] (fun i wr => ∃ k : Nat, k ≤ n ∧ i = .int .i64 k ∧ l.any (lkB a b) = (l.drop k).any (lkB a b) ∧ Hold M none w wr [.cst w.heap.size 30 #[.string a, .string b], .ro (LksIn A n l)]) (fun i _ => n - (intOf i).toNat)
  case atStart => exact ⟨0, by omega, rfl, rfl, K0⟩
  case round =>
    obtain ⟨k, hk, rfl, hf, H⟩ := hrel
    have HF := hid hf; clear hf
    have F := H.facts
    simp only [World.size_alloc, World.size_drew, factsL, cellsF, Nat.reduceAdd, List.toList_toArray, and_true, true_and] at F
    by_cases hlt : k < n
    · obtain ⟨x, hx⟩ := get_of HL.out hlt
      obtain ⟨g, o, rfl, hb, c0, c1⟩ := (H.ro 1 rfl).now.at_ hx
      have HX := hid hx; clear hx
      have i0 : (0 : Int) ≤ (k : Int) := by omega
      have i1 : (k : Int) < (n : Int) := by omega
      have hcom : ∀ s t : ByteArray, (s.toList == t.toList) = (t.toList == s.toList) := fun s t => by rw [Bool.eq_iff_iff]; simp only [beq_iff_eq]; exact eq_comm
      have HC1 := hid (hcom x.a a)
      have HC2 := hid (hcom x.b b)
      clear hcom
      cases h1 : (a.toList == x.a.toList)
      · have HB : Hid (lkB a b x = false) := by unfold Hid lkB; rw [HC1.out, h1]; rfl
        go_wp2_with fail
        go_quiet (fail)
        go_wp2_with fail
        go_roundw
        case rel => exact ⟨k + 1, by omega, by go_num, any_drop HF.out HX.out HB.out, H.drewN _⟩
        case measure => simp [intOf]; omega
      · cases h2 : (b.toList == x.b.toList)
        · have HB : Hid (lkB a b x = false) := by unfold Hid lkB; rw [HC1.out, HC2.out, h1, h2]; rfl
          go_wp2_with fail
          go_quiet (fail)
          go_wp2_with fail
          go_roundw
          case rel => exact ⟨k + 1, by omega, by go_num, any_drop HF.out HX.out HB.out, H.drewN _⟩
          case measure => simp [intOf]; omega
        · have HB : Hid (lkB a b x = true) := by unfold Hid lkB; rw [HC1.out, HC2.out, h1, h2]; rfl
          go_wp2_with fail
          go_quiet (fail)
          go_wp2_with fail
          go_ret
          exact ⟨⟨(k : Int), rfl, by rw [show precB l a b = true from any_hit HX.out HB.out]; simp, by omega, by omega⟩, (H.drewN _).below⟩
    · go_wp2_with fail
      go_ret
      exact ⟨⟨-1, rfl, by rw [show precB l a b = false from any_end HF.out (by rw [HL.out]; omega)]; rfl, by omega, by omega⟩, H.below⟩

set_option maxHeartbeats 1000000 in
theorem lkcontains_any (M : Nat → Prop) (w : World) (hM : ∀ b, M b → b < w.heap.size) (A : Option Addr) (n c : Nat) (l : List Lk) (a b : ByteArray) (hD : Ro w M (LksIn A n l)) (hn : n ≤ 9223372036854775807) :
    Calls Try.prog 53 #[.slice A n c, .agg #[.string a, .string b]] w fun e w' => e = .returned (.bool (precB l a b)) ∧ Below w.heap.size w w' := by
  have K0 := ((Hold.start M w hM).add (hD.less (by simp [Mut]))).alloc_cst #[.string a, .string b] 30
  go_enter Try.func53, Try.ntmps53
  go_wp2_with fail
  refine (lkindex_any (Mut M _) _ K0.mutLt A n c l a b (K0.ro 1 rfl) hn).mono ?_
  rintro e w1 ⟨⟨i, rfl, hi, h1, h2⟩, b1⟩
  have HI := hid hi; clear hi
  go_wp2_with fail
  go_ret
  exact ⟨by rw [← HI.out] <;> rfl, (K0.call b1).below⟩
set_option maxHeartbeats 1000000 in
theorem prec_any (M : Nat → Prop) (w : World) (hM : ∀ b, M b → b < w.heap.size) (A : Option Addr) (n c : Nat) (l : List Lk) (a b : ByteArray) (hD : Ro w M (LksIn A n l)) (hn : n ≤ 9223372036854775807) :
    Calls Try.prog 35 #[.slice A n c, .string a, .string b] w fun e w' => e = .returned (.bool (precB l a b)) ∧ Below w.heap.size w w' := by
  go_enter Try.func35, Try.ntmps35
  go_wp2_with fail
  refine (lkcontains_any M _ hM A n c l a b hD hn).mono ?_
  rintro e w1 ⟨rfl, b1⟩
  go_wp2_with fail
  go_ret
  exact ⟨rfl, b1⟩
end Go.Proofs.Ytaefjgjojflppaa

/- The contract of the reference's Sum. -/
import Derived.Test.YtdgdllicmccnfaaArSum
import Derived.Deep.RegionHeld3
namespace Go.Proofs.Ytdgdllicmccnfaa
open Go.RowKit
set_option linter.unusedVariables false

theorem w128_sum {zs : List Int} (hz : Ints zs) (hn : zs.length ≤ 9223372036854775807) (k : Nat) : W128 (isum (zs.take k)) := by
  have h1 := isum_bd (zs.take k) (fun x hx => hz x (List.mem_of_mem_take hx))
  have h2 : (zs.take k).length ≤ zs.length := List.length_take_le' _ _
  exact w128_small (by omega)

theorem four_keep {W w' : World} {T : Nat} {x y : Value} (h : W.cell? ⟨T, 0, none⟩ = some x ∧ W.cell? ⟨T, 1, none⟩ = some y ∧ W.frozen? ⟨T, 0, none⟩ = false ∧ W.frozen? ⟨T, 1, none⟩ = false) (hb : Below W.heap.size W w') (hT : T < W.heap.size) :
    w'.cell? ⟨T, 0, none⟩ = some x ∧ w'.cell? ⟨T, 1, none⟩ = some y ∧ w'.frozen? ⟨T, 0, none⟩ = false ∧ w'.frozen? ⟨T, 1, none⟩ = false :=
  ⟨(hb.cell (p := ⟨T, 0, none⟩) hT).trans h.1, (hb.cell (p := ⟨T, 1, none⟩) hT).trans h.2.1, (hb.frozen (p := ⟨T, 0, none⟩) hT).trans h.2.2.1, (hb.frozen (p := ⟨T, 1, none⟩) hT).trans h.2.2.2⟩

set_option maxHeartbeats 1000000 in
theorem rsum_any (A : Option Addr) (n c : Nat) (zs : List Int) (w : World) (hr : Rd w w.heap.size 1 A n (zs.map (Value.int .i64))) (hz : Ints zs) (hn : n ≤ 9223372036854775807) :
    Calls Try.prog 12 #[.slice A n c] w fun e w' => e = .returned (.tuple #[.int .i64 (nv (isum zs)), .bool (fit (isum zs))]) ∧ Below w.heap.size w w' := by
  have hl : zs.length = n := by simpa using hr.1
  have HW : Hid (∀ k, W128 (isum (zs.take k))) := fun k => w128_sum hz (by omega) k
  have HL := hid hl; clear hl
  go_enter Try.func12, Try.ntmps12
  go_wp2_with fail
  go_loopw [9] (fun i wr => ∃ k : Nat, k ≤ n ∧ i = .int .i64 k ∧ Below w.heap.size w wr ∧ wr.cell? ⟨w.heap.size, 0, none⟩ = some (.int .i64 (hi (isum (zs.take k)))) ∧ wr.cell? ⟨w.heap.size, 1, none⟩ = some (.int .u64 (lo (isum (zs.take k)))) ∧
      wr.frozen? ⟨w.heap.size, 0, none⟩ = false ∧ wr.frozen? ⟨w.heap.size, 1, none⟩ = false ∧ w.heap.size < wr.heap.size) (fun i _ => n - (intOf i).toNat)
  case atStart =>
    refine ⟨0, by omega, rfl, (Below.refl _ _).alloc (Nat.le_refl _) _, ?_, ?_, ?_, ?_, by simp⟩
    · exact cell_of_row _ w.heap.size 0 _ _ _ (heap_alloc_new w _)
    · exact cell_of_row _ w.heap.size 1 _ _ _ (heap_alloc_new w _)
    · exact frozen_blk (heap_alloc_new w _) 0
    · exact frozen_blk (heap_alloc_new w _) 1
  case round =>
    obtain ⟨k, hk, rfl, hb, hc0, hc1, hf0, hf1, hsz⟩ := hrel
    by_cases hlt : k < n
    · obtain ⟨b, o, rfl, hbb, hc⟩ := hr.at1 hlt
      rw [ints_get _ _ _ (by rw [HL.out]; omega)] at hc
      have hcr : wr.cell? ⟨b, o + k, none⟩ = some (.int .i64 (zs.getD k 0)) := (hb.cell hbb).trans hc
      obtain ⟨x, hx⟩ : ∃ x, x = zs.getD k 0 := ⟨_, rfl⟩
      rw [← hx] at hcr
      have bx := hz.at_ k
      rw [← hx] at bx
      obtain ⟨S, hS⟩ : ∃ S, S = isum (zs.take k) := ⟨_, rfl⟩
      rw [← hS] at hc0 hc1
      have HN : Hid (isum (zs.take (k + 1)) = S + x) := by
        unfold Hid; rw [take_snoc zs k 0 (by rw [HL.out]; omega), isum_snoc, ← hS, ← hx]
      have w1 : Hid (W128 S) := by unfold Hid; rw [hS]; exact HW.out k
      have w2 : Hid (W128 x) := w128_small (by unfold I64 at bx; omega)
      have w3 : Hid (W128 (S + x)) := by unfold Hid; rw [← HN.out]; exact HW.out _
      clear hS hx hc
      have BX := hid bx; clear bx
      go_wp2_with fail
      go_region_with (first
          | (go_at_call 29; refine (of_any x _ BX.out).mono ?_; rintro e w4 ⟨rfl, b1⟩; obtain ⟨q0, q1, q2, q3⟩ := four_keep (W := World.drew _) ⟨hc0, hc1, hf0, hf1⟩ b1 hsz; have hs4 := Nat.lt_of_lt_of_le hsz b1.size)
          | (go_at_call 28; refine (plus_any S x _ w1.out w2.out w3.out).mono ?_; rintro e w5 ⟨rfl, b2⟩; obtain ⟨r0, r1, r2, r3⟩ := four_keep ⟨q0, q1, q2, q3⟩ b2 hs4; have hs5 := Nat.lt_of_lt_of_le hs4 b2.size))
      all_goals
        have hb5 : Below w.heap.size w w5 := bnext (bnext hb.drew b1 (Nat.le_refl _)) b2 (Nat.le_refl _)
        go_wp2
        go_roundw
        case rel =>
          refine ⟨k + 1, by omega, by go_num, (hb5.setCell (p := ⟨w.heap.size, 0, none⟩) (Nat.le_refl _) _).setCell (p := ⟨w.heap.size, 1, none⟩) (Nat.le_refl _) _, ?_, ?_, ?_, ?_, ?_⟩
          · rw [HN.out]; simp [go_sem, r0]
          · rw [HN.out]; simp [go_sem, r1]
          · simp [go_sem, r2]
          · simp [go_sem, r3]
          · simp; omega
        case measure => simp [intOf]; omega
    · obtain rfl : k = n := by omega
      have hSz : Hid (isum (zs.take k) = isum zs) := by
        unfold Hid; rw [List.take_of_length_le (by rw [HL.out]; omega)]
      rw [hSz.out] at hc0 hc1
      have w1 : Hid (W128 (isum zs)) := by unfold Hid; rw [← hSz.out]; exact HW.out k
      go_wp2_with fail
      refine (narrow_any (isum zs) _ w1.out).mono ?_
      rintro e w4 ⟨rfl, b1⟩
      go_wp2
      go_ret2
      exact ⟨rfl, bnext hb b1 (Nat.le_refl _)⟩
end Go.Proofs.Ytdgdllicmccnfaa

/- SFree: the searcher of pick.Orders in memory, and the contract of its free. -/
import Derived.Test.YtaefjgjojflppaaPChoose
import Derived.Deep.LoopGhost
namespace Go.Proofs.Ytaefjgjojflppaa
open Go.RowKit
set_option linter.unusedVariables false
set_option linter.unusedSimpArgs false

/-- A square of truth values: n rows of n. -/
def MatIn (B : Option Addr) (n : Nat) (f : Nat → Nat → Bool) (w : World) : Prop :=
  ∀ k, k < n → ∃ b o rb ro c, B = some ⟨b, o, none⟩ ∧ b < w.heap.size ∧ w.cell? ⟨b, o + k, none⟩ = some (.slice (some ⟨rb, ro, none⟩) n c) ∧ rb < w.heap.size ∧ n ≤ c ∧ ∀ i, i < n → w.cell? ⟨rb, ro + i, none⟩ = some (.bool (f k i))
/-- Lists of numbers, each behind a slice. -/
def OutsIn (ovs : List Value) (outs : List (List Int)) (w : World) : Prop :=
  ovs.length = outs.length ∧ ∀ (k : Nat) (v : Value) (xs : List Int), ovs[k]? = some v → outs[k]? = some xs → ∃ (A : Option Addr) (n c : Nat), v = .slice A n c ∧ n ≤ c ∧ c ≤ 9223372036854775807 ∧ IsIn A n xs w
/-- The searcher as items of memory. -/
abbrev SL (g u n : Nat) (most : Int) (Bv : Option Addr) (bc : Nat) (f : Nat → Nat → Bool) (us : List Bool) (Nw : Option Addr) (q nc : Nat) (nw : List Int) (O : Option Addr) (m oc : Nat) (ovs : List Value) (outs : List (List Int)) : List Hp :=
  [.blk g 69 #[.slice Bv n bc, .int .i64 most, .slice (some ⟨u, 0, none⟩) n n, .slice Nw q nc, .slice O m oc], .own 4 1 (.slice (some ⟨u, 0, none⟩) n n) n (bCells us), .own 3 1 (.slice Nw q nc) q (iCells nw), .own 33 1 (.slice O m oc) m ovs, .ro (MatIn Bv n f), .ro (OutsIn ovs outs)]
/-- what blocks i among the first m -/
def blkU (f : Nat → Nat → Bool) (us : List Bool) (i m : Nat) : Bool := (List.range m).any fun k => k != i && (!us.getD k false && f k i)
def freeU (f : Nat → Nat → Bool) (us : List Bool) (n i : Nat) : Bool := !us.getD i false && !blkU f us i n
theorem blkU_succ (f : Nat → Nat → Bool) (us : List Bool) (i m : Nat) : blkU f us i (m + 1) = (blkU f us i m || (m != i && (!us.getD m false && f m i))) := by
  simp [blkU, List.range_succ]
theorem blkU_hit {f : Nat → Nat → Bool} {us : List Bool} {i m n : Nat} (hm : m < n) (h : (m != i && (!us.getD m false && f m i)) = true) : blkU f us i n = true := by
  unfold blkU; rw [List.any_eq_true]; exact ⟨m, by simpa using hm, h⟩

set_option maxHeartbeats 4000000 in
set_option maxRecDepth 100000 in
theorem sfree_any (M : Nat → Prop) (w0 w : World) (g u n : Nat) (most : Int) (Bv : Option Addr) (bc : Nat) (f : Nat → Nat → Bool) (us : List Bool) (Nw : Option Addr) (q nc : Nat) (nw : List Int) (O : Option Addr) (m oc : Nat) (ovs : List Value) (outs : List (List Int)) (K : Hold M none w0 w (SL g u n most Bv bc f us Nw q nc nw O m oc ovs outs)) (i : Nat) (hi : i < n) (hn : n ≤ 1000000) :
    Calls Try.prog 55 #[.pointer (some ⟨g, 0, none⟩), .int .i64 i] w fun e w' => e = .returned (.bool (freeU f us n i)) ∧ w = w' := by
  have hlu : us.length = n := by have := (K.get 1 rfl).1; simpa [bCells] using this
  have F := K.facts
  simp only [SL, factsL, cellsF, Nat.reduceAdd, List.toList_toArray, and_true, true_and] at F
  have HM := hid (K.ro 4 rfl).now
  have hcu : ∀ k, k < n → w.cell? ⟨u, k, none⟩ = some (.bool (us.getD k false)) := fun k hk => by
    have := (K.get 1 rfl).cellAt k (by omega)
    rw [this, bCells_get]
    obtain ⟨b, hb⟩ := get_of hlu hk
    simp [List.getD, hb]
  have HC := hid hcu; clear hcu hlu K
  have ci := HC.out i hi
  have ii0 : (0 : Int) ≤ (i : Int) := by omega
  have ii1 : (i : Int) < (n : Int) := by omega
  cases hui : us.getD i false
  · rw [hui] at ci
    have HUI := hid hui; clear hui
    go_enter Try.func55, Try.ntmps55
    go_wp2_with fail
    go_loop [18] (fun j => ∃ k : Nat, k ≤ n ∧ j = .int .i64 k ∧ Hid (blkU f us i k = false)) (fun j => n - (intOf j).toNat)
    case atStart => exact ⟨0, by omega, rfl, hid rfl⟩
    case round =>
      obtain ⟨k, hk, rfl, HB⟩ := hrel
      by_cases hlt : k < n
      · have hd : decide ((k : Int) < (n : Int)) = true := by simp; omega
        have i0 : (0 : Int) ≤ (k : Int) := by omega
        have i1 : (k : Int) < (n : Int) := by omega
        have ck := HC.out k hlt
        obtain ⟨b, o, rb, ro, c, rfl, hb, cr, hrb, hnc, hrow⟩ := HM.out k hlt
        have cb := hrow i hi
        clear hrow
        by_cases hki : k = i
        · have hne : ((k : Int) != (i : Int)) = false := by rw [bne_eq_false_iff_eq]; omega
          have HN : Hid (blkU f us i (k + 1) = false) := by unfold Hid; rw [blkU_succ, HB.out, hki]; simp
          clear hki
          go_wp2_with fail
          go_round
          case rel => exact ⟨k + 1, by omega, by go_num, HN⟩
          case measure => simp [intOf]; omega
        · have hne : ((k : Int) != (i : Int)) = true := by rw [bne_iff_ne]; omega
          have hpk2 : (k != i) = true := by rw [bne_iff_ne]; exact hki
          cases huk : us.getD k false
          · rw [huk] at ck
            cases hf : f k i
            · rw [hf] at cb
              have HN : Hid (blkU f us i (k + 1) = false) := by unfold Hid; rw [blkU_succ, HB.out, hf]; simp
              go_wp2_with fail
              go_round
              case rel => exact ⟨k + 1, by omega, by go_num, HN⟩
              case measure => simp [intOf]; omega
            · rw [hf] at cb
              have HN : Hid (blkU f us i n = true) := hid (blkU_hit hlt (by rw [hpk2, huk, hf]; rfl))
              go_wp2_with fail
              go_ret
              exact ⟨by rw [show freeU f us n i = false by unfold freeU; rw [HN.out]; simp] <;> rfl, rfl⟩
          · rw [huk] at ck
            have HN : Hid (blkU f us i (k + 1) = false) := by unfold Hid; rw [blkU_succ, HB.out, huk]; simp
            go_wp2_with fail
            go_round
            case rel => exact ⟨k + 1, by omega, by go_num, HN⟩
            case measure => simp [intOf]; omega
      · obtain rfl : k = n := by omega
        go_wp2_with fail
        go_ret
        exact ⟨by rw [show freeU f us k i = true by unfold freeU; rw [HUI.out, HB.out]; rfl] <;> rfl, rfl⟩
  · rw [hui] at ci
    have HUI := hid hui; clear hui
    go_enter Try.func55, Try.ntmps55
    go_wp2_with fail
    go_ret
    exact ⟨by rw [show freeU f us n i = false by unfold freeU; rw [HUI.out]; rfl] <;> rfl, rfl⟩
end Go.Proofs.Ytaefjgjojflppaa

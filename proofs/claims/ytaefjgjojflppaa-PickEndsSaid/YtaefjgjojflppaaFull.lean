/- Full: the contracts of full and free, of pick's reference. -/
import Derived.Test.YtaefjgjojflppaaElig
namespace Go.Proofs.Ytaefjgjojflppaa
open Go.RowKit
set_option linter.unusedVariables false
set_option linter.unusedSimpArgs false

/-- Booleans as cells. -/
def bCells (l : List Bool) : List Value := l.map .bool
theorem bCells_len (l : List Bool) : (bCells l).length = l.length := by simp [bCells]
theorem bCells_get (l : List Bool) (k : Nat) : (bCells l)[k]? = (l[k]?).map .bool := by simp [bCells]
theorem bCells_set (l : List Bool) (k : Nat) (b : Bool) : (bCells l).set k (.bool b) = bCells (l.set k b) := by simp [bCells, List.map_set]
/-- true k times, then false -/
def upB (n k : Nat) : List Bool := List.replicate k true ++ List.replicate (n - k) false
theorem upB_len {n k : Nat} (h : k ≤ n) : (upB n k).length = n := by simp [upB]; omega
theorem upB_set {n k : Nat} (h : k < n) : (upB n k).set k true = upB n (k + 1) := by
  obtain ⟨d, hd⟩ : ∃ d, n - k = d + 1 := ⟨n - k - 1, by omega⟩
  have hd2 : n - (k + 1) = d := by omega
  unfold upB
  rw [hd, hd2, List.set_append_right _ _ (by simp), List.length_replicate, Nat.sub_self, List.replicate_succ, List.set_cons_zero, List.replicate_succ', List.append_assoc]
  rfl
theorem upB_full (n : Nat) : upB n n = List.replicate n true := by simp [upB]
theorem upB_zero (n : Nat) : (madeCells (Value.bool false).cells (n * 1)).toList = bCells (upB n 0) := by
  rw [Nat.mul_one]
  unfold madeCells bCells upB
  apply List.ext_getElem
  · simp
  · intro i h1 h2
    simp [Value.cells, Nat.mod_one]
theorem Try.infoBool : (Try.prog.info? 4).map (fun i => (i.zero, i.size, i.bytes)) = some (some (.bool false), 1, 1) := by kernel_rfl

set_option maxHeartbeats 4000000 in
theorem rfull_any (w : World) (n : Nat) (hn : n ≤ 4398046511104) :
    Calls Try.prog 39 #[.int .i64 n] w fun e w' => e = .returned (.slice (some ⟨w.heap.size, 0, none⟩) n n) ∧ w'.ownsRow w.heap.size 4 1 (.slice (some ⟨w.heap.size, 0, none⟩) n n) n (bCells (List.replicate n true)) ∧ w.grownBy w' none := by
  have K0 := (Hold.start (fun _ => False) w (fun _ h => h.elim)).nil 4 1
  obtain ⟨i0, hi1, hi2, hi3, hi4⟩ := info_parts Try.infoBool
  go_enter Try.func39, Try.ntmps39
  go_wp2_with (at_make; refine wpList_make_full w rfl (.tmp 5) (.tmp 5) 66 rfl w.heap.size 4 i0 (.bool false) 1 Try.underlying66 hi1 hi2 hi3 .i64 .i64 n n n rfl rfl rfl rfl (by rw [hi4]; omega) (by unfold maxLen; omega) (Nat.le_refl _) ?_; intro w1 ho1 hg1)
  rw [upB_zero] at ho1
  have K1 := Hold.append K0 0 rfl ho1 hg1 (.inr (Nat.le_refl _)) (ho1.lt _ rfl).2
  simp only [List.set_cons_zero] at K1
  obtain ⟨G, HG⟩ : ∃ G : Nat, Hid (G = w.heap.size) := ⟨_, rfl⟩
  clear ho1 hg1 hi1 hi2 hi3 hi4
  go_loopw [9] (fun i wr => ∃ k : Nat, k ≤ n ∧ i = .int .i64 k ∧ Hold (fun _ => False) none w wr [.own 4 1 (.slice (some ⟨w.heap.size, 0, none⟩) n n) n (bCells (upB n k))]) (fun i _ => n - (intOf i).toNat)
  case atStart => exact ⟨0, by omega, rfl, K1⟩
  case round =>
    obtain ⟨k, hk, rfl, H⟩ := hrel
    by_cases hlt : k < n
    · have hd : decide ((k : Int) < (n : Int)) = true := by simp; omega
      obtain ⟨b, hb⟩ := get_of (upB_len hk) hlt
      have hc : wr.cell? ⟨w.heap.size, k, none⟩ = some (.bool b) := ((H.get 0 rfl).cellAt k (by omega)).trans (by rw [bCells_get, hb]; rfl)
      have hf : wr.frozen? ⟨w.heap.size, k, none⟩ = false := (H.get 0 rfl).frozenAt k
      have HS := H.put_ 0 rfl k (.bool true)
      simp only [List.set_cons_zero, bCells_set, upB_set hlt] at HS
      clear hb
      go_wp2_with fail
      go_roundw
      case rel => exact ⟨k + 1, by omega, by go_num, HS⟩
      case measure => simp [intOf]; omega
    · obtain rfl : k = n := by omega
      go_wp2_with fail
      go_ret
      exact ⟨rfl, by rw [← upB_full]; exact H.get 0 rfl, H.grow⟩
end Go.Proofs.Ytaefjgjojflppaa

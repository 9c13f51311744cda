/- The table of names, and the contract of the tape's draw of a name. -/
import Derived.Test.YtdgdllicmccnfaaDoorData
import Derived.Test.YtdgdllicmccnfaaDoorNames
import Derived.Test.YtdgdllicmccnfaaDoorTape2
namespace Go.Proofs.YtdgdllicmccnfaaDoor
open Go.RowKit
set_option linter.unusedVariables false
set_option linter.unusedSimpArgs false

def nms : List ByteArray := [⟨#[105, 100]⟩, ⟨#[110]⟩, ⟨#[109]⟩, ⟨#[98]⟩, ⟨#[115]⟩, ⟨#[120]⟩, ⟨#[97, 49, 95]⟩, ⟨#[97, 98, 99, 100, 101, 102, 103, 104, 105, 106, 107, 108]⟩]
def nm_ (j : Nat) : ByteArray := nms.getD j ⟨#[]⟩
def Nms (w : World) : Prop := ∀ j, j < 8 → w.cell? ⟨0, j, none⟩ = some (.string (nm_ j))
theorem Nms.keep {w w' : World} (h : Nms w) (hk : w'.heap[0]? = w.heap[0]?) : Nms w' := fun j hj => (World.cell?_of_block (w := w) (a := ⟨0, j, none⟩) hk).trans (h j hj)
theorem Nms.lt {w : World} (h : Nms w) : 0 < w.heap.size := World.block_lt_of_cell? w ⟨0, 0, none⟩ (h 0 (by omega))
theorem Nms.below {w w' : World} {B : Nat} (h : Nms w) (hb : Below B w w') (hB : 0 < B) : Nms w' := h.keep (hb.block _ hB)
theorem Nms.ro {w : World} {M : Nat → Prop} (h : Nms w) (hM : ¬ M 0) : Ro w M Nms := fun w2 _ h2 => h.keep (h2 _ h.lt hM)
theorem nm_ok : ∀ j, j < 8 → nameB (nm_ j) = true ∧ (nm_ j).size ≤ 12 := by decide +kernel
theorem nm_ne : ∀ i, i < 8 → ∀ j, j < 8 → i ≠ j → ((nm_ i).toList == (nm_ j).toList) = false := by decide +kernel

def DrawnN (w : World) (T : Nat) (e : Ending) (w' : World) : Prop :=
  ∃ j, j < 8 ∧ e = .returned (.string (nm_ j)) ∧ Tp w' T ∧ w.grownBy w' (some T)

set_option maxHeartbeats 400000 in
theorem name_any (T : Nat) (w : World) (ht : Tp w T) (hw : Nms w) (hT : 0 < T) :
    Calls Tryd.prog 33 #[.pointer (some ⟨T, 0, none⟩)] w fun e w' => DrawnN w T e w' := by
  go_enter Tryd.func33, Tryd.ntmps33
  go_wp2_with fail
  refine (next_any T 8 _ ht (by omega) (by omega)).mono ?_
  rintro e w1 ⟨r, rfl, r0, r1, t1, g1⟩
  have hw1 := hw.keep (g1.block _ hw.lt (by intro e; injection e with e; omega))
  obtain ⟨r, rfl⟩ := Int.eq_ofNat_of_zero_le r0
  have hs := hw1 r (by omega)
  clear hw1 hw
  go_wp2
  go_ret
  exact ⟨r, by omega, rfl, t1, g1⟩
end Go.Proofs.YtdgdllicmccnfaaDoor

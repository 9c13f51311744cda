/- Slices that nobody writes, as items of memory. No program in sight. -/
import Derived.Test.YtaefjgjojflppaaHold
import Derived.Test.YtaefjgjojflppaaCols
namespace Go.Proofs.Ytaefjgjojflppaa
open Go.RowKit
set_option linter.unusedVariables false

/-- The slice with address A and n elements of 'size' cells reads as xs. -/
def SlR (size : Nat) (A : Option Addr) (n : Nat) (xs : List Value) (w : World) : Prop := Rd w w.heap.size size A n xs

section
variable {w w' : World} {M : Nat → Prop} {B size n : Nat} {A : Option Addr} {xs : List Value}
theorem Rd.ro (h : Rd w B size A n xs) (hB : B ≤ w.heap.size) (hM : ∀ b, b < B → ¬ M b) : Ro w M (SlR size A n xs) := fun w2 h1 h2 =>
  (h.keep fun p hp => World.cell?_of_block (w := w) (h2 p.block (by omega) (hM _ hp))).more (by omega)
theorem ro_block {g : Nat} {t : TypeId} {cs : Array Value} (h : Ro w M (fun w => w.heap[g]? = some (.cells cs t (0, 0)))) (hl : cs.toList.length = n * size) : Ro w M (SlR size (some ⟨g, 0, none⟩) n cs.toList) :=
  h.imp fun w2 h2 => ⟨hl, fun _ => ⟨g, 0, rfl, Blk.lt (t := t) (cs := cs) h2, fun j u hu => by
    rw [cell_of_row w2 g (0 + j) cs t (0, 0) h2, Nat.zero_add]; simpa using hu⟩⟩
theorem ro_nil : Ro w M (SlR size none 0 []) := fun _ _ _ => Rd.none_
/-- More is known: an item that writes nothing. -/
theorem Hold.addItem {row : Option Nat} {w0 : World} {L : List Hp} (h : Hold M row w0 w L) {k' : Hp} (hk' : k'.foot = none) (hs : k'.sat w0.heap.size w (Mut M (k' :: L))) : Hold M row w0 w (k' :: L) := by
  have e : ∀ b, Mut M (k' :: L) b → Mut M L b := fun b hb => by
    rcases mut_cons.1 hb with hf | hm
    · rw [hk'] at hf; cases hf
    · exact hm
  refine ⟨h.grow, h.low, fun k hk => ?_, fun k hk b hf => ?_, ⟨(fun b hf => by rw [hk'] at hf; cases hf), h.sep⟩⟩
  · rcases List.mem_cons.1 hk with rfl | hk
    · exact hs
    · exact Hp.sat_step (k := k) (h.sat k hk) (Nat.le_refl _) (fun _ _ _ => rfl) (fun b _ hb => e b hb) (fun _ _ => rfl) (fun _ _ _ _ => rfl)
  · rcases List.mem_cons.1 hk with rfl | hk
    · rw [hk'] at hf; cases hf
    · exact h.fresh k hk b hf
theorem mut_none {k' : Hp} (hk' : k'.foot = none) {L : List Hp} : ∀ b, Mut M (k' :: L) b → Mut M L b := fun b hb => by
  rcases mut_cons.1 hb with hf | hm
  · rw [hk'] at hf; cases hf
  · exact hm
theorem Hold.addCst {row : Option Nat} {w0 : World} {L : List Hp} (h : Hold M row w0 w L) {g : Nat} {t : TypeId} {cs : Array Value} (hr : Ro w (Mut M L) (fun w => w.heap[g]? = some (.cells cs t (0, 0)))) : Hold M row w0 w (.cst g t cs :: L) :=
  h.addItem rfl (hr.less (mut_none rfl))
/-- An own row, for good. -/
theorem Hold.sealRow {row : Option Nat} {w0 : World} {L : List Hp} (h : Hold M row w0 w L) (i : Nat) {e : TypeId} {A : Option Addr} {c : Nat} (hi : L[i]? = some (.own e size (.slice A n c) n xs)) :
    Hold M row w0 w (L.set i (.ro (SlR size A n xs))) :=
  h.seal i hi (fun T e => nomatch e) fun w2 h1 h2 => by
    have h3 : w2.ownsRow w0.heap.size e size (.slice A n c) n xs := by
      refine ⟨h1.1, ?_⟩
      rcases h1.2 with hn | ⟨g, cap, cur, hv, hb, hgg, rest⟩
      · exact .inl hn
      · injection hv with hv1 hv2 hv3
        subst hv1 hv3
        exact .inr ⟨g, c, cur, rfl, hb, (h2 g rfl).trans hgg, rest⟩
    exact Rd.of_own h3
end
end Go.Proofs.Ytaefjgjojflppaa

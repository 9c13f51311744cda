/- A block that is known whole (a local struct in memory), carried over calls that make memory. No program in sight. -/
import Derived.Test.YtaefjgjojflppaaMem
namespace Go.Proofs.Ytaefjgjojflppaa
open Go.RowKit
set_option linter.unusedVariables false

def Blk (w : World) (g : Nat) (t : TypeId) (cs : Array Value) : Prop := w.heap[g]? = some (.cells cs t (0, 0))

section
variable {w w' w1 : World} {g : Nat} {t : TypeId} {cs : Array Value}
theorem Blk.lt (h : Blk w g t cs) : g < w.heap.size := by
  rcases Nat.lt_or_ge g w.heap.size with hlt | hge
  · exact hlt
  · unfold Blk at h; rw [Array.getElem?_eq_none hge] at h; cases h
theorem Blk.cell (h : Blk w g t cs) (i : Nat) : w.cell? ⟨g, i, none⟩ = cs[i]? := cell_of_row w g i cs t (0, 0) h
theorem Blk.frozen (h : Blk w g t cs) (i : Nat) : w.frozen? ⟨g, i, none⟩ = false := frozen_blk h i
theorem Blk.new (w : World) (t : TypeId) (cs : Array Value) : Blk (w.alloc (.cells cs t)) w.heap.size t cs := heap_alloc_new w _
theorem Blk.alloc (h : Blk w g t cs) (o : Obj) : Blk (w.alloc o) g t cs := (Below.heap_alloc w o g h.lt).trans h
theorem Blk.below {B : Nat} (h : Blk w g t cs) (hb : Below B w w') (hg : g < B) : Blk w' g t cs := (hb.block g hg).trans h
theorem Blk.over (h : Blk w g t cs) (hb : Below w.heap.size w w') : Blk w' g t cs := h.below hb h.lt
theorem Blk.set_ (h : Blk w g t cs) (i : Nat) (u : Value) : Blk (w.setCell ⟨g, i, none⟩ u) g t (cs.setIfInBounds i u) := blk_set h i u
theorem Blk.far (h : Blk w g t cs) {p : Addr} (hp : g ≠ p.block) (u : Value) : Blk (w.setCell p u) g t cs := (Below.heap_setCell w p u g hp).trans h
theorem Blk.drew (h : Blk w g t cs) : Blk w.drew g t cs := h
theorem Blk.drewN (h : Blk w g t cs) (n : Nat) : Blk (w.drewN n) g t cs := h
theorem Blk.grown {row : Option Nat} (h : Blk w g t cs) (hb : w.grownBy w' row) (hg : some g ≠ row) : Blk w' g t cs := (hb.block g h.lt hg).trans h
/-- three cells -/
theorem Blk.c3 {x y z : Value} (h : Blk w g t #[x, y, z]) : w.cell? ⟨g, 0, none⟩ = some x ∧ w.cell? ⟨g, 1, none⟩ = some y ∧ w.cell? ⟨g, 2, none⟩ = some z ∧ g < w.heap.size := ⟨h.cell 0, h.cell 1, h.cell 2, h.lt⟩
end
theorem ext1 (w : World) (o : Obj) : Below w.heap.size w (w.alloc o) := (Below.refl _ _).alloc (Nat.le_refl _) _
theorem ext2 (w : World) (o o' : Obj) : Below w.heap.size w ((w.alloc o).alloc o') := (ext1 w o).alloc (by simp) _
theorem ext3 (w : World) (o o' o'' : Obj) : Below w.heap.size w (((w.alloc o).alloc o').alloc o'') := (ext2 w o o').alloc (by simp; omega) _
theorem ext4 (w : World) (o o' o'' o3 : Obj) : Below w.heap.size w ((((w.alloc o).alloc o').alloc o'').alloc o3) := (ext3 w o o' o'').alloc (by simp; omega) _
/-- behind a call that was made with one new block laid -/
theorem Blk.over1 {w w1 : World} {g : Nat} {t : TypeId} {cs : Array Value} {o : Obj} (h : Blk w g t cs) (hb : Below (w.alloc o).heap.size (w.alloc o) w1) : Blk w1 g t cs := (h.alloc o).over hb
theorem Blk.over3 {w w1 : World} {g : Nat} {t : TypeId} {cs : Array Value} {o o' o'' : Obj} (h : Blk w g t cs) (hb : Below (((w.alloc o).alloc o').alloc o'').heap.size (((w.alloc o).alloc o').alloc o'') w1) : Blk w1 g t cs := (((h.alloc o).alloc o').alloc o'').over hb
theorem Blk.new1 {w w1 : World} {t : TypeId} {cs : Array Value} (hb : Below (w.alloc (.cells cs t)).heap.size (w.alloc (.cells cs t)) w1) : Blk w1 w.heap.size t cs := (Blk.new w t cs).over hb
theorem Blk.new3a {w w1 : World} {t t' t'' : TypeId} {cs cs' cs'' : Array Value} (hb : Below (((w.alloc (.cells cs t)).alloc (.cells cs' t')).alloc (.cells cs'' t'')).heap.size (((w.alloc (.cells cs t)).alloc (.cells cs' t')).alloc (.cells cs'' t'')) w1) :
    Blk w1 w.heap.size t cs ∧ Blk w1 (w.heap.size + 1) t' cs' ∧ Blk w1 (w.heap.size + 1 + 1) t'' cs'' :=
  ⟨(((Blk.new w t cs).alloc _).alloc _).over hb, by have := ((Blk.new (w.alloc (.cells cs t)) t' cs').alloc (.cells cs'' t'')).over hb; simpa using this,
   by have := (Blk.new ((w.alloc (.cells cs t)).alloc (.cells cs' t')) t'' cs'').over hb; simpa using this⟩
end Go.Proofs.Ytaefjgjojflppaa

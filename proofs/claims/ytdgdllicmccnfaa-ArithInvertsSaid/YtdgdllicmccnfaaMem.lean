/- Words for memory: a slice that reads as a list of cells; worlds that keep what lay below a block. No program in sight. -/
import Derived.Below
import Derived.Laws.OwnMore
import Derived.Deep.AppendLies
import Derived.Deep.Draws
import Derived.WalkKit
namespace Go.Proofs.Ytdgdllicmccnfaa
open Go.RowKit
set_option linter.unusedVariables false

/-- The slice with address A, n elements of 'size' cells each, reads as the cells xs, all of them in blocks below B. -/
def Rd (w : World) (B size : Nat) (A : Option Addr) (n : Nat) (xs : List Value) : Prop :=
  xs.length = n * size ∧ (0 < n → ∃ b o, A = some ⟨b, o, none⟩ ∧ b < B ∧ ∀ j u, xs[j]? = some u → w.cell? ⟨b, o + j, none⟩ = some u)

section
variable {w w' : World} {B B' size n : Nat} {A : Option Addr} {xs : List Value}
theorem Rd.none_ : Rd w B size A 0 [] := ⟨by simp, fun h => absurd h (by omega)⟩
theorem Rd.keep (h : Rd w B size A n xs) (hk : ∀ p : Addr, p.block < B → w'.cell? p = w.cell? p) : Rd w' B size A n xs :=
  ⟨h.1, fun hn => by
    obtain ⟨b, o, e, hb, hc⟩ := h.2 hn
    exact ⟨b, o, e, hb, fun j u hu => (hk _ hb).trans (hc j u hu)⟩⟩
theorem Rd.more (h : Rd w B size A n xs) (hB : B ≤ B') : Rd w B' size A n xs :=
  ⟨h.1, fun hn => by
    obtain ⟨b, o, e, hb, hc⟩ := h.2 hn
    exact ⟨b, o, e, by omega, hc⟩⟩
theorem Rd.below (h : Rd w B size A n xs) (hb : Below B' w w') (hB : B ≤ B') : Rd w' B size A n xs := h.keep fun _ hp => hb.cell (by omega)
theorem Rd.grown (h : Rd w B size A n xs) {row : Option Nat} (hg : w.grownBy w' row) (hB : B ≤ w.heap.size) (hr : ∀ g, row = some g → B ≤ g) : Rd w' B size A n xs :=
  h.keep fun p hp => World.cell?_of_block (hg.block p.block (by omega) (fun e => by have := hr _ e.symm; omega))
theorem Rd.alloc (h : Rd w B size A n xs) (hB : B ≤ w.heap.size) (o : Obj) : Rd (w.alloc o) B size A n xs := h.keep fun p hp => World.cell?_alloc_lt w o p (by omega)
theorem Rd.drew (h : Rd w B size A n xs) : Rd w.drew B size A n xs := h
theorem Rd.drewN (h : Rd w B size A n xs) (k : Nat) : Rd (w.drewN k) B size A n xs := h
theorem Rd.setCell (h : Rd w B size A n xs) {p : Addr} (hB : B ≤ p.block) (u : Value) : Rd (w.setCell p u) B size A n xs :=
  h.keep fun q hq => World.cell?_setCell_other w p q u (fun e => by subst e; omega)
/-- One-cell elements: the k-th. -/
theorem Rd.at1 (h : Rd w B 1 A n xs) {k : Nat} (hk : k < n) : ∃ b o, A = some ⟨b, o, none⟩ ∧ b < B ∧ w.cell? ⟨b, o + k, none⟩ = some (xs.getD k undef) := by
  obtain ⟨b, o, e, hb, hc⟩ := h.2 (by omega)
  have hl : k < xs.length := by have := h.1; omega
  exact ⟨b, o, e, hb, hc k _ (by simp [List.getD, hl])⟩
theorem Rd.of_own {base : Nat} {e : TypeId} {c : Nat} (h : w.ownsRow base e size (.slice A n c) n xs) : Rd w w.heap.size size A n xs := by
  refine ⟨h.1, fun hn => ?_⟩
  obtain ⟨g, cap, hv, _, hlt⟩ := h.form hn
  have hA : A = some ⟨g, 0, none⟩ := by injection hv
  subst hA
  refine ⟨g, 0, rfl, hlt, fun j u hu => ?_⟩
  have := h.cells (g := g) rfl j u hu
  rwa [Addr.add_lit] at this
end

/-- A block that has just been laid reads as its cells. -/
theorem Rd.lit (w : World) (cs : Array Value) (E : TypeId) {size n : Nat} {xs : List Value} (h : cs.toList = xs) (hn : xs.length = n * size) : Rd (w.alloc (.cells cs E)) (w.heap.size + 1) size (some ⟨w.heap.size, 0, none⟩) n xs := by
  subst h
  refine ⟨hn, fun _ => ⟨_, _, rfl, by omega, fun j u hu => ?_⟩⟩
  have := cell_of_row (w.alloc (.cells cs E)) w.heap.size j cs E (0, 0) (heap_alloc_new w _)
  rw [Nat.zero_add, this]
  simpa using hu

/-- An own row keeps when another row is written. -/
theorem own_form {w : World} {base : Nat} {e : TypeId} {size : Nat} {v : Value} {n : Nat} {xs : List Value} (h : w.ownsRow base e size v n xs) : ∃ A c, v = .slice A n c := by
  obtain ⟨_, h | ⟨g, cap, _, h, _⟩⟩ := h
  · obtain ⟨rfl, rfl⟩ := h; exact ⟨_, _, rfl⟩
  · exact ⟨_, _, h⟩
end Go.Proofs.Ytdgdllicmccnfaa

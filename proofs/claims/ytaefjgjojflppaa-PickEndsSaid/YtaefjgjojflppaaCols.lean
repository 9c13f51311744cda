/- Lists of structs laid flat in cells: columns. No program in sight. -/
import Derived.Test.YtaefjgjojflppaaMem
namespace Go.Proofs.Ytaefjgjojflppaa
open Go.RowKit
set_option linter.unusedVariables false

theorem flat_get {α β : Type} (f : α → List β) (n : Nat) (hf : ∀ a, (f a).length = n) : ∀ (l : List α) (k j : Nat) (a : α), j < n → l[k]? = some a → (l.flatMap f)[k * n + j]? = (f a)[j]?
  | [], k, j, a, _, h => by simp at h
  | x :: l, 0, j, a, hj, h => by
    simp only [List.getElem?_cons_zero, Option.some.injEq] at h
    subst h
    simp only [List.flatMap_cons, Nat.zero_mul, Nat.zero_add]
    rw [List.getElem?_append_left (by rw [hf]; exact hj)]
  | x :: l, k + 1, j, a, hj, h => by
    simp only [List.getElem?_cons_succ] at h
    simp only [List.flatMap_cons]
    rw [List.getElem?_append_right (by rw [hf, Nat.succ_mul]; omega), hf, show (k + 1) * n + j - n = k * n + j by rw [Nat.succ_mul]; omega]
    exact flat_get f n hf l k j a hj h
theorem flat_len {α β : Type} (f : α → List β) (n : Nat) (hf : ∀ a, (f a).length = n) (l : List α) : (l.flatMap f).length = l.length * n := by
  induction l with
  | nil => simp
  | cons x l ih => simp [List.flatMap_cons, hf, ih, Nat.succ_mul]; omega
/-- Which element and which of its cells a cell of the flat list is. -/
theorem flat_inv {α β : Type} (f : α → List β) (n : Nat) (hn : 0 < n) (hf : ∀ a, (f a).length = n) (l : List α) (j : Nat) (u : β) (h : (l.flatMap f)[j]? = some u) :
    ∃ a, l[j / n]? = some a ∧ (f a)[j % n]? = some u := by
  have hl := (List.getElem?_eq_some_iff.1 h).1
  rw [flat_len f n hf] at hl
  have h1 : j / n < l.length := by rwa [Nat.div_lt_iff_lt_mul hn]
  have h2 : l[j / n]? = some (l[j / n]) := List.getElem?_eq_getElem h1
  have h3 := flat_get f n hf l (j / n) (j % n) _ (Nat.mod_lt _ hn) h2
  rw [show j / n * n + j % n = j by rw [Nat.mul_comm]; exact Nat.div_add_mod j n] at h3
  exact ⟨_, h2, by rw [← h3]; exact h⟩

/-- A column. -/
structure Col where
  name : ByteArray
  ty : Int
  nn : Bool
  key : Bool
def Col.cells (c : Col) : List Value := [.string c.name, .int .i64 c.ty, .bool c.nn, .bool c.key]
def colCells (l : List Col) : List Value := l.flatMap Col.cells
theorem colCells_len (l : List Col) : (colCells l).length = l.length * 4 := flat_len _ 4 (fun _ => rfl) l
theorem colCells_at {l : List Col} {k : Nat} {c : Col} (h : l[k]? = some c) : (colCells l)[k * 4]? = some (.string c.name) ∧ (colCells l)[k * 4 + 1]? = some (.int .i64 c.ty) ∧ (colCells l)[k * 4 + 2]? = some (.bool c.nn) ∧ (colCells l)[k * 4 + 3]? = some (.bool c.key) :=
  ⟨flat_get Col.cells 4 (fun _ => rfl) l k 0 c (by omega) h, flat_get Col.cells 4 (fun _ => rfl) l k 1 c (by omega) h, flat_get Col.cells 4 (fun _ => rfl) l k 2 c (by omega) h, flat_get Col.cells 4 (fun _ => rfl) l k 3 c (by omega) h⟩

/-- The slice with address A and n elements reads as the columns l. -/
def RdC (w : World) (B : Nat) (A : Option Addr) (n : Nat) (l : List Col) : Prop := Rd w B 4 A n (colCells l)
theorem RdC.len {w : World} {B n : Nat} {A : Option Addr} {l : List Col} (h : RdC w B A n l) : l.length = n := by
  have := h.1
  rw [colCells_len] at this
  omega
theorem RdC.at_ {w : World} {B n : Nat} {A : Option Addr} {l : List Col} (h : RdC w B A n l) {k : Nat} {c : Col} (hc : l[k]? = some c) :
    ∃ b o, A = some ⟨b, o, none⟩ ∧ b < B ∧ w.cell? ⟨b, o + k * 4, none⟩ = some (.string c.name) ∧ w.cell? ⟨b, o + k * 4 + 1, none⟩ = some (.int .i64 c.ty) ∧ w.cell? ⟨b, o + k * 4 + 2, none⟩ = some (.bool c.nn) ∧ w.cell? ⟨b, o + k * 4 + 3, none⟩ = some (.bool c.key) := by
  have hk : k < n := by rw [← h.len]; exact (List.getElem?_eq_some_iff.1 hc).1
  obtain ⟨b, o, e, hb, hcell⟩ := h.2 (by omega)
  obtain ⟨h0, h1, h2, h3⟩ := colCells_at hc
  exact ⟨b, o, e, hb, hcell _ _ h0, hcell _ _ h1, hcell _ _ h2, hcell _ _ h3⟩
end Go.Proofs.Ytaefjgjojflppaa

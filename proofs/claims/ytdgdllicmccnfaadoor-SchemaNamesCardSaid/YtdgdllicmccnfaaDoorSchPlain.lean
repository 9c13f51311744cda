/- What finding a column and the validity of a schema are, in plain words. No program in sight. -/
import Derived.Test.YtdgdllicmccnfaaDoorCols
namespace Go.Proofs.YtdgdllicmccnfaaDoor
open Go.RowKit
set_option linter.unusedVariables false

theorem drop_cons {α : Type} {l : List α} {k : Nat} {c : α} (h : l[k]? = some c) : l.drop k = c :: l.drop (k + 1) := by
  obtain ⟨hk, rfl⟩ := List.getElem?_eq_some_iff.1 h
  exact List.drop_eq_getElem_cons hk

def findFrom {α : Type} (p : α → Bool) (k : Nat) : List α → Int
  | [] => -1
  | c :: r => if p c then (k : Int) else findFrom p (k + 1) r
def findB {α : Type} (p : α → Bool) (l : List α) : Int := findFrom p 0 l
section
variable {α : Type} {p : α → Bool} {l : List α} {k : Nat} {c : α}
theorem find_hit (h : findB p l = findFrom p k (l.drop k)) (hc : l[k]? = some c) (hp : p c = true) : findB p l = k := by
  rw [h, drop_cons hc, findFrom, if_pos hp]
theorem find_miss (h : findB p l = findFrom p k (l.drop k)) (hc : l[k]? = some c) (hp : p c = false) : findB p l = findFrom p (k + 1) (l.drop (k + 1)) := by
  rw [h, drop_cons hc, findFrom, if_neg (by simp [hp])]
theorem find_end (h : findB p l = findFrom p k (l.drop k)) (hk : l.length ≤ k) : findB p l = -1 := by
  rw [h, List.drop_of_length_le hk, findFrom]
theorem findFrom_range (p : α → Bool) : ∀ (l : List α) (k : Nat), findFrom p k l = -1 ∨ ((k : Int) ≤ findFrom p k l ∧ findFrom p k l < k + l.length)
  | [], k => .inl rfl
  | c :: r, k => by
    simp only [findFrom]
    split
    · right; simp; omega
    · rcases findFrom_range p r (k + 1) with h | ⟨h1, h2⟩
      · exact .inl h
      · right
        have h1' : (k : Int) + 1 ≤ findFrom p (k + 1) r := by simpa using h1
        refine ⟨by omega, ?_⟩
        simp only [List.length_cons]
        have h2' : findFrom p (k + 1) r < (k : Int) + 1 + r.length := by simpa using h2
        omega
theorem findFrom_le (p : α → Bool) (c : α) (hp : p c = true) : ∀ (l : List α) (k i : Nat), l[i]? = some c → (k : Int) ≤ findFrom p k l ∧ findFrom p k l ≤ k + i
  | [], k, i, h => by simp at h
  | x :: r, k, 0, h => by
    simp only [List.getElem?_cons_zero, Option.some.injEq] at h
    subst h
    rw [findFrom, if_pos hp]; omega
  | x :: r, k, i + 1, h => by
    simp only [List.getElem?_cons_succ] at h
    rw [findFrom]
    split
    · omega
    · have := findFrom_le p c hp r (k + 1) i h
      omega
theorem find_le (hp : p c = true) {i : Nat} (h : l[i]? = some c) : 0 ≤ findB p l ∧ findB p l ≤ i := by
  have := findFrom_le p c hp l 0 i h
  simpa [findB] using this
theorem find_range (p : α → Bool) (l : List α) : -1 ≤ findB p l ∧ findB p l < max l.length 1 := by
  have := findFrom_range p l 0
  unfold findB
  omega
end

def named (s : ByteArray) (c : Col) : Bool := c.name.toList == s.toList
/-- A list in which each element passes a test of its place. -/
def okFrom {α : Type} (t : Nat → α → Bool) (k : Nat) : List α → Bool
  | [] => true
  | c :: r => t k c && okFrom t (k + 1) r
section
variable {α : Type} {t : Nat → α → Bool} {l : List α} {k : Nat} {c : α}
theorem ok_bad (h : okFrom t 0 l = okFrom t k (l.drop k)) (hc : l[k]? = some c) (hp : t k c = false) : okFrom t 0 l = false := by
  rw [h, drop_cons hc, okFrom, hp, Bool.false_and]
theorem ok_good (h : okFrom t 0 l = okFrom t k (l.drop k)) (hc : l[k]? = some c) (hp : t k c = true) : okFrom t 0 l = okFrom t (k + 1) (l.drop (k + 1)) := by
  rw [h, drop_cons hc, okFrom, hp, Bool.true_and]
theorem ok_end (h : okFrom t 0 l = okFrom t k (l.drop k)) (hk : l.length ≤ k) : okFrom t 0 l = true := by
  rw [h, List.drop_of_length_le hk, okFrom]
end
theorem take_snoc' {α : Type} {l : List α} {k : Nat} {c : α} (h : l[k]? = some c) : l.take (k + 1) = l.take k ++ [c] := by
  obtain ⟨hk, rfl⟩ := List.getElem?_eq_some_iff.1 h
  exact List.take_succ_eq_append_getElem hk
theorem filter_snoc {α : Type} {l : List α} {k : Nat} {c : α} (p : α → Bool) (h : l[k]? = some c) : ((l.take (k + 1)).filter p).length = ((l.take k).filter p).length + (if p c then 1 else 0) := by
  rw [take_snoc' h, List.filter_append, List.length_append]
  congr 1
  cases hp : p c <;> simp [List.filter, hp]
end Go.Proofs.YtdgdllicmccnfaaDoor

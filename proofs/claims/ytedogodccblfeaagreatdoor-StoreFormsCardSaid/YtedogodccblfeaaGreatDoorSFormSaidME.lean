/- OrdRow: the order of rows is a linear order. No program in sight. -/
import Derived.Test.YtedogodccblfeaaGreatDoorSFormSaidMC
import Derived.Test.YtedogodccblfeaaGreatDoorSFormSaidMB
import Derived.Test.YtedogodccblfeaaGreatDoorSFormSaidMD
import Derived.Test.YtedogodccblfeaaGreatDoorSFormSaidMA
import Derived.Deep.RegionLaw
import Derived.Shelf.SlGeneric
import Derived.Shelf.SlSortCmp.NoneTotal
import Derived.Ground.SlsfProg
import Derived.Test.YtedogodccblfeaaGreatDoorProg
import Derived.Shelf.SlSortCmp.QuietGrown
import Derived.Sort.Statements
import Derived.Shelf.SlSortCmp.Insertion
namespace Go.Proofs.YtedogodccblfeaaGreatDoor
open Go.RowKit
set_option linter.unusedVariables false
set_option linter.unusedSimpArgs false

/-- A difference: the table's name, the rows that came, those that left, the updates. -/
structure Dl where
  nm : ByteArray
  ins : List Row
  del : List Row
  upd : List Upd
deriving DecidableEq
def zeroD : Dl := ⟨⟨#[]⟩, [], [], []⟩
/-- the rows of l that rs does not have -/
def offR (rs l : List Row) : List Row := l.filter fun r => (getR rs r.1).isNone
/-- the rows of l that rs has with other values -/
def turnR (rs l : List Row) : List Upd := l.filterMap fun r => match getR rs r.1 with
  | some o => if o = r.2 then none else some (r.1, o, r.2)
  | none => none
def betB (a b : Tb) : Bool := tabB a.nm a.cs a.nx a.rs && tabB b.nm b.cs b.nx b.rs && decide (a.nm = b.nm ∧ a.cs = b.cs) && decide (a.nx ≤ b.nx) && b.rs.all fun r => (getR a.rs r.1).isSome || decide (a.nx ≤ r.1)
def betweenC (a b : Tb) : Bool × Dl := if betB a b then (true, ⟨a.nm, offR a.rs b.rs, offR b.rs a.rs, turnR a.rs b.rs⟩) else (false, zeroD)

theorem offR_hit {rs l : List Row} {j : Nat} {r : Row} (hr : l[j]? = some r) (h : getR rs r.1 = none) : offR rs (l.take (j + 1)) = offR rs (l.take j) ++ [r] := by
  unfold offR
  rw [List.take_add_one, hr, Option.toList_some, List.filter_append]
  simp [List.filter_cons, h]
theorem offR_miss {rs l : List Row} {j : Nat} {r : Row} {v : List Vl} (hr : l[j]? = some r) (h : getR rs r.1 = some v) : offR rs (l.take (j + 1)) = offR rs (l.take j) := by
  unfold offR
  rw [List.take_add_one, hr, Option.toList_some, List.filter_append]
  simp [List.filter_cons, h]
theorem turnR_none {rs l : List Row} {j : Nat} {r : Row} (hr : l[j]? = some r) (h : getR rs r.1 = none) : turnR rs (l.take (j + 1)) = turnR rs (l.take j) := by
  unfold turnR
  rw [List.take_add_one, hr, Option.toList_some, List.filterMap_append]
  simp [h]
theorem turnR_same {rs l : List Row} {j : Nat} {r : Row} (hr : l[j]? = some r) (h : getR rs r.1 = some r.2) : turnR rs (l.take (j + 1)) = turnR rs (l.take j) := by
  unfold turnR
  rw [List.take_add_one, hr, Option.toList_some, List.filterMap_append]
  simp [h]
theorem turnR_turn {rs l : List Row} {j : Nat} {r : Row} {o : List Vl} (hr : l[j]? = some r) (h : getR rs r.1 = some o) (hne : o ≠ r.2) : turnR rs (l.take (j + 1)) = turnR rs (l.take j) ++ [(r.1, o, r.2)] := by
  unfold turnR
  rw [List.take_add_one, hr, Option.toList_some, List.filterMap_append]
  simp [h, hne]
theorem getR_of_mem : ∀ {rs : List Row} {r : Row}, (rs.map (·.1)).Pairwise (· < ·) → r ∈ rs → getR rs r.1 = some r.2
  | x :: rs, r, ha, hr => by
    rw [List.map_cons, List.pairwise_cons] at ha
    rcases List.mem_cons.1 hr with rfl | hr
    · simp [getR]
    · have h1 := ha.1 r.1 (List.mem_map_of_mem hr)
      have h2 := getR_of_mem ha.2 hr
      unfold getR at h2 ⊢
      rw [List.find?_cons, show (x.1 == r.1) = false by rw [beq_eq_false_iff_ne]; omega]
      exact h2
theorem getR_out {rs : List Row} {id : Int} {v : List Vl} (h : getR rs id = some v) : (id, v) ∈ rs := by
  unfold getR at h
  obtain ⟨x, hx, rfl⟩ := Option.map_eq_some_iff.1 h
  have h1 := List.mem_of_find?_eq_some hx
  have h2 := List.find?_some hx
  simp only [beq_iff_eq] at h2
  subst h2
  exact h1
/-- the merge's state: the rows of a ahead of p lie below all rows of b from j on, the others above all rows of b ahead of j -/
structure Mg (a b : List Row) (j p : Nat) : Prop where
  aasc : (a.map (·.1)).Pairwise (· < ·)
  basc : (b.map (·.1)).Pairwise (· < ·)
  low : ∀ x ∈ a.take p, ∀ y ∈ b.drop j, x.1 < y.1
  up : ∀ x ∈ a.drop p, ∀ y ∈ b.take j, y.1 < x.1
theorem asc_at {l : List Row} (h : (l.map (·.1)).Pairwise (· < ·)) {i j : Nat} {x y : Row} (hx : l[i]? = some x) (hy : l[j]? = some y) (hij : i < j) : x.1 < y.1 := by
  rw [List.pairwise_iff_getElem] at h
  obtain ⟨hi, rfl⟩ := List.getElem?_eq_some_iff.1 hx
  obtain ⟨hj, rfl⟩ := List.getElem?_eq_some_iff.1 hy
  have := h i j (by simpa using hi) (by simpa using hj) hij
  simpa using this
theorem mem_drop_at {α : Type} {l : List α} {k : Nat} {x : α} (h : x ∈ l.drop k) : ∃ i, k ≤ i ∧ l[i]? = some x := by
  obtain ⟨i, hi⟩ := List.getElem?_of_mem h
  rw [List.getElem?_drop] at hi
  exact ⟨k + i, by omega, hi⟩
theorem mem_take_at {α : Type} {l : List α} {k : Nat} {x : α} (h : x ∈ l.take k) : ∃ i, i < k ∧ l[i]? = some x := by
  obtain ⟨i, hi⟩ := List.getElem?_of_mem h
  rw [List.getElem?_take] at hi
  split at hi
  · exact ⟨i, by assumption, hi⟩
  · cases hi
theorem mem_of_drop_at {α : Type} {l : List α} {k i : Nat} {x : α} (hk : k ≤ i) (h : l[i]? = some x) : x ∈ l.drop k := List.mem_of_getElem? (i := i - k) (by rw [List.getElem?_drop, show k + (i - k) = i by omega]; exact h)
theorem mem_of_take_at {α : Type} {l : List α} {k i : Nat} {x : α} (hk : i < k) (h : l[i]? = some x) : x ∈ l.take k := List.mem_of_getElem? (i := i) (by rw [List.getElem?_take, if_pos hk]; exact h)
theorem Mg.zero {a b : List Row} (ha : (a.map (·.1)).Pairwise (· < ·)) (hb : (b.map (·.1)).Pairwise (· < ·)) : Mg a b 0 0 := ⟨ha, hb, fun x hx => by simp at hx, fun x _ y hy => by simp at hy⟩
/-- a row of a that b lacks -/
theorem Mg.left {a b : List Row} {j p : Nat} (h : Mg a b j p) {x r : Row} (hx : a[p]? = some x) (hr : b[j]? = some r) (hlt : x.1 < r.1) : Mg a b j (p + 1) ∧ getR b x.1 = none := by
  refine ⟨⟨h.aasc, h.basc, fun z hz y hy => ?_, fun z hz y hy => ?_⟩, getR_none fun y hy e => ?_⟩
  · obtain ⟨i, hi, hzi⟩ := mem_take_at hz
    rcases Nat.lt_or_ge i p with hip | hip
    · exact h.low z (mem_of_take_at hip hzi) y hy
    · obtain rfl : i = p := by omega
      rw [hx] at hzi; injection hzi with hzi; subst hzi
      obtain ⟨k, hk, hyk⟩ := mem_drop_at hy
      rcases Nat.eq_or_lt_of_le hk with e | e
      · subst e; rw [hr] at hyk; injection hyk with hyk; subst hyk; exact hlt
      · have := asc_at h.basc hr hyk e; omega
  · obtain ⟨i, hi, hzi⟩ := mem_drop_at hz
    exact h.up z (mem_of_drop_at (by omega) hzi) y hy
  · obtain ⟨k, hk⟩ := List.getElem?_of_mem hy
    rcases Nat.lt_or_ge k j with hkj | hkj
    · have := h.up x (mem_of_drop_at (Nat.le_refl _) hx) y (mem_of_take_at hkj hk); omega
    · rcases Nat.eq_or_lt_of_le hkj with e2 | e2
      · subst e2; rw [hr] at hk; injection hk with hk; subst hk; omega
      · have := asc_at h.basc hr hk e2; omega
/-- a row of both -/
theorem Mg.both {a b : List Row} {j p : Nat} (h : Mg a b j p) {x r : Row} (hx : a[p]? = some x) (hr : b[j]? = some r) (he : x.1 = r.1) : Mg a b (j + 1) (p + 1) ∧ getR b x.1 = some r.2 ∧ getR a r.1 = some x.2 := by
  refine ⟨⟨h.aasc, h.basc, fun z hz y hy => ?_, fun z hz y hy => ?_⟩, ?_, ?_⟩
  · obtain ⟨i, hi, hzi⟩ := mem_take_at hz
    obtain ⟨k, hk, hyk⟩ := mem_drop_at hy
    have h1 := asc_at h.basc hr hyk (by omega)
    rcases Nat.lt_or_ge i p with hip | hip
    · have := asc_at h.aasc hzi hx hip; omega
    · obtain rfl : i = p := by omega
      rw [hx] at hzi; injection hzi with hzi; subst hzi; omega
  · obtain ⟨i, hi, hzi⟩ := mem_drop_at hz
    obtain ⟨k, hk, hyk⟩ := mem_take_at hy
    have h1 := asc_at h.aasc hx hzi (by omega)
    rcases Nat.lt_or_ge k j with hkj | hkj
    · have := asc_at h.basc hyk hr hkj; omega
    · obtain rfl : k = j := by omega
      rw [hr] at hyk; injection hyk with hyk; subst hyk; omega
  · rw [he]; exact getR_of_mem h.basc (List.mem_of_getElem? hr)
  · rw [← he]; exact getR_of_mem h.aasc (List.mem_of_getElem? hx)
/-- a row of b that a lacks -/
theorem Mg.right {a b : List Row} {j p : Nat} (h : Mg a b j p) {r : Row} (hr : b[j]? = some r) (hp : ∀ x, a[p]? = some x → r.1 < x.1) : Mg a b (j + 1) p ∧ getR a r.1 = none := by
  have hup : ∀ i z, p ≤ i → a[i]? = some z → r.1 < z.1 := fun i z hi hz => by
    rcases Nat.eq_or_lt_of_le hi with e | e
    · subst e; exact hp z hz
    · have hl : p < a.length := by have := (List.getElem?_eq_some_iff.1 hz).1; omega
      have h1 := hp _ (List.getElem?_eq_getElem hl)
      have h2 := asc_at h.aasc (List.getElem?_eq_getElem hl) hz e
      omega
  refine ⟨⟨h.aasc, h.basc, fun z hz y hy => ?_, fun z hz y hy => ?_⟩, getR_none fun y hy e => ?_⟩
  · obtain ⟨k, hk, hyk⟩ := mem_drop_at hy
    exact h.low z hz y (mem_of_drop_at (by omega) hyk)
  · obtain ⟨i, hi, hzi⟩ := mem_drop_at hz
    obtain ⟨k, hk, hyk⟩ := mem_take_at hy
    have h1 := hup i z hi hzi
    rcases Nat.lt_or_ge k j with hkj | hkj
    · have := asc_at h.basc hyk hr hkj; omega
    · obtain rfl : k = j := by omega
      rw [hr] at hyk; injection hyk with hyk; subst hyk; omega
  · obtain ⟨i, hi⟩ := List.getElem?_of_mem hy
    rcases Nat.lt_or_ge i p with hip | hip
    · have := h.low y (mem_of_take_at hip hi) r (mem_of_drop_at (Nat.le_refl _) hr); omega
    · have := hup i y hip hi; omega
/-- what is left of a, b lacks -/
theorem Mg.last {a b : List Row} {j p : Nat} (h : Mg a b j p) (hj : b.length ≤ j) {i : Nat} {x : Row} (hi : p ≤ i) (hx : a[i]? = some x) : getR b x.1 = none := getR_none fun y hy e => by
  obtain ⟨k, hk⟩ := List.getElem?_of_mem hy
  have := (List.getElem?_eq_some_iff.1 hk).1
  have := h.up x (mem_of_drop_at hi hx) y (mem_of_take_at (by omega) hk)
  omega
/-- the state of the merge: j rows of b and p rows of a are done -/
structure BSt (a b : Tb) (j p : Nat) (li ld : List Rw) (lu : List Pr) : Prop where
  va : tabB a.nm a.cs a.nx a.rs = true
  vb : tabB b.nm b.cs b.nx b.rs = true
  eq : a.nm = b.nm ∧ a.cs = b.cs
  nx : a.nx ≤ b.nx
  mg : Mg a.rs b.rs j p
  ins : li.map Rw.row = offR a.rs (b.rs.take j)
  del : ld.map Rw.row = offR b.rs (a.rs.take p)
  upd : lu.map Pr.upd = turnR a.rs (b.rs.take j)
  new : ∀ r ∈ b.rs.take j, (getR a.rs r.1).isSome = true ∨ a.nx ≤ r.1
  ok1 : ∀ r ∈ li, r.ok
  ok2 : ∀ r ∈ ld, r.ok
  ok3 : ∀ p ∈ lu, p.ok
theorem tabB_asc {t : Tb} (h : tabB t.nm t.cs t.nx t.rs = true) : (t.rs.map (·.1)).Pairwise (· < ·) := (okR_asc (tabB_ok h).2.2.2.2.1).1
theorem BSt.zero {a b : Tb} (va : tabB a.nm a.cs a.nx a.rs = true) (vb : tabB b.nm b.cs b.nx b.rs = true) (eq : a.nm = b.nm ∧ a.cs = b.cs) (nx : a.nx ≤ b.nx) : BSt a b 0 0 [] [] [] :=
  ⟨va, vb, eq, nx, Mg.zero (tabB_asc va) (tabB_asc vb), rfl, rfl, rfl, fun r hr => by simp at hr, fun r hr => (nomatch hr), fun r hr => (nomatch hr), fun r hr => (nomatch hr)⟩
theorem okSnoc {α : Type} {P : α → Prop} {l : List α} {x : α} (h : ∀ r ∈ l, P r) (k : P x) : ∀ r ∈ l ++ [x], P r := fun r hr => by
  rcases List.mem_append.1 hr with hr | hr
  · exact h r hr
  · simp at hr; subst hr; exact k
theorem all_take {P : Row → Prop} {l : List Row} {j : Nat} {r : Row} (h : ∀ x ∈ l.take j, P x) (hr : l[j]? = some r) (k : P r) : ∀ x ∈ l.take (j + 1), P x := by
  rw [List.take_add_one, hr, Option.toList_some]
  exact okSnoc h k
section
variable {a b : Tb} {j p : Nat} {li ld : List Rw} {lu : List Pr}
theorem BSt.left (h : BSt a b j p li ld lu) {x r : Row} (hx : a.rs[p]? = some x) (hr : b.rs[j]? = some r) (hlt : x.1 < r.1) {y : Rw} (hy : y.row = x) (hk : y.ok) : BSt a b j (p + 1) li (ld ++ [y]) lu := by
  obtain ⟨h1, h2⟩ := h.mg.left hx hr hlt
  exact ⟨h.va, h.vb, h.eq, h.nx, h1, h.ins, by rw [List.map_append, h.del, offR_hit hx h2, ← hy]; rfl, h.upd, h.new, h.ok1, okSnoc h.ok2 hk, h.ok3⟩
theorem BSt.same (h : BSt a b j p li ld lu) {x r : Row} (hx : a.rs[p]? = some x) (hr : b.rs[j]? = some r) (he : x.1 = r.1) (hv : x.2 = r.2) : BSt a b (j + 1) (p + 1) li ld lu := by
  obtain ⟨h1, h2, h3⟩ := h.mg.both hx hr he
  exact ⟨h.va, h.vb, h.eq, h.nx, h1, by rw [h.ins, offR_miss hr h3], by rw [h.del, offR_miss hx h2], by rw [h.upd, turnR_same hr (by rw [h3, hv])], all_take h.new hr (.inl (by rw [h3]; rfl)), h.ok1, h.ok2, h.ok3⟩
theorem BSt.turn (h : BSt a b j p li ld lu) {x r : Row} (hx : a.rs[p]? = some x) (hr : b.rs[j]? = some r) (he : x.1 = r.1) (hv : x.2 ≠ r.2) {q : Pr} (hq : q.upd = (r.1, x.2, r.2)) (hk : q.ok) : BSt a b (j + 1) (p + 1) li ld (lu ++ [q]) := by
  obtain ⟨h1, h2, h3⟩ := h.mg.both hx hr he
  exact ⟨h.va, h.vb, h.eq, h.nx, h1, by rw [h.ins, offR_miss hr h3], by rw [h.del, offR_miss hx h2], by rw [List.map_append, h.upd, turnR_turn hr h3 hv, ← hq]; rfl, all_take h.new hr (.inl (by rw [h3]; rfl)), h.ok1, h.ok2, okSnoc h.ok3 hk⟩
theorem BSt.right (h : BSt a b j p li ld lu) {r : Row} (hr : b.rs[j]? = some r) (hp : ∀ x, a.rs[p]? = some x → r.1 < x.1) (hn : a.nx ≤ r.1) {y : Rw} (hy : y.row = r) (hk : y.ok) : BSt a b (j + 1) p (li ++ [y]) ld lu := by
  obtain ⟨h1, h2⟩ := h.mg.right hr hp
  exact ⟨h.va, h.vb, h.eq, h.nx, h1, by rw [List.map_append, h.ins, offR_hit hr h2, ← hy]; rfl, h.del, by rw [h.upd, turnR_none hr h2], all_take h.new hr (.inr hn), okSnoc h.ok1 hk, h.ok2, h.ok3⟩
theorem BSt.bad (h : BSt a b j p li ld lu) {r : Row} (hr : b.rs[j]? = some r) (hp : ∀ x, a.rs[p]? = some x → r.1 < x.1) (hn : r.1 < a.nx) : betweenC a b = (false, zeroD) := by
  obtain ⟨h1, h2⟩ := h.mg.right hr hp
  have : betB a b = false := by
    unfold betB
    have h3 : (b.rs.all fun r => (getR a.rs r.1).isSome || decide (a.nx ≤ r.1)) = false := by
      rw [List.all_eq_false]
      exact ⟨r, List.mem_of_getElem? hr, by rw [h2]; simp; omega⟩
    rw [h3, Bool.and_false]
  unfold betweenC
  rw [this]; rfl
theorem BSt.tail (h : BSt a b j p li ld lu) (hj : b.rs.length ≤ j) {x : Row} (hx : a.rs[p]? = some x) {y : Rw} (hy : y.row = x) (hk : y.ok) : BSt a b j (p + 1) li (ld ++ [y]) lu := by
  have h2 := h.mg.last hj (Nat.le_refl _) hx
  refine ⟨h.va, h.vb, h.eq, h.nx, ⟨h.mg.aasc, h.mg.basc, fun z _ y hy => ?_, fun z hz y hy => ?_⟩, h.ins, by rw [List.map_append, h.del, offR_hit hx h2, ← hy]; rfl, h.upd, h.new, h.ok1, okSnoc h.ok2 hk, h.ok3⟩
  · rw [List.drop_of_length_le hj] at hy; cases hy
  · obtain ⟨i, hi, hzi⟩ := mem_drop_at hz
    exact h.mg.up z (mem_of_drop_at (by omega) hzi) y hy
theorem BSt.fin (h : BSt a b j p li ld lu) (hj : b.rs.length ≤ j) (hp : a.rs.length ≤ p) : betweenC a b = (true, ⟨a.nm, li.map Rw.row, ld.map Rw.row, lu.map Pr.upd⟩) := by
  have h1 := h.ins
  have h2 := h.del
  have h3 := h.upd
  have h4 := h.new
  rw [List.take_of_length_le hj] at h1 h3 h4
  rw [List.take_of_length_le hp] at h2
  have : betB a b = true := by
    unfold betB
    rw [h.va, h.vb, decide_eq_true h.eq, decide_eq_true h.nx]
    simp only [Bool.and_self, Bool.true_and, List.all_eq_true, Bool.or_eq_true, decide_eq_true_eq]
    exact h4
  unfold betweenC
  rw [this, if_pos rfl, h1, h2, h3]
end
/-- the state of the reference's loops: j rows of b, then p rows of a are done -/
structure RSt (a b : Tb) (j p : Nat) (li ld : List Rw) (lu : List Pr) : Prop where
  va : tabB a.nm a.cs a.nx a.rs = true
  vb : tabB b.nm b.cs b.nx b.rs = true
  eq : a.nm = b.nm ∧ a.cs = b.cs
  nx : a.nx ≤ b.nx
  ins : li.map Rw.row = offR a.rs (b.rs.take j)
  del : ld.map Rw.row = offR b.rs (a.rs.take p)
  upd : lu.map Pr.upd = turnR a.rs (b.rs.take j)
  new : ∀ r ∈ b.rs.take j, (getR a.rs r.1).isSome = true ∨ a.nx ≤ r.1
  ok1 : ∀ r ∈ li, r.ok
  ok2 : ∀ r ∈ ld, r.ok
  ok3 : ∀ p ∈ lu, p.ok
theorem RSt.zero {a b : Tb} (va : tabB a.nm a.cs a.nx a.rs = true) (vb : tabB b.nm b.cs b.nx b.rs = true) (eq : a.nm = b.nm ∧ a.cs = b.cs) (nx : a.nx ≤ b.nx) : RSt a b 0 0 [] [] [] :=
  ⟨va, vb, eq, nx, rfl, rfl, rfl, fun r hr => by simp at hr, fun r hr => (nomatch hr), fun r hr => (nomatch hr), fun r hr => (nomatch hr)⟩
section
variable {a b : Tb} {j p : Nat} {li ld : List Rw} {lu : List Pr}
theorem RSt.same (h : RSt a b j p li ld lu) {r : Row} {o : List Vl} (hr : b.rs[j]? = some r) (h2 : getR a.rs r.1 = some o) (ho : o = r.2) : RSt a b (j + 1) p li ld lu := by
  subst ho
  exact ⟨h.va, h.vb, h.eq, h.nx, by rw [h.ins, offR_miss hr h2], h.del, by rw [h.upd, turnR_same hr h2], all_take h.new hr (.inl (by rw [h2]; rfl)), h.ok1, h.ok2, h.ok3⟩
theorem RSt.turn (h : RSt a b j p li ld lu) {r : Row} {o : List Vl} (hr : b.rs[j]? = some r) (h2 : getR a.rs r.1 = some o) (ho : o ≠ r.2) {q : Pr} (hq : q.upd = (r.1, o, r.2)) (hk : q.ok) : RSt a b (j + 1) p li ld (lu ++ [q]) :=
  ⟨h.va, h.vb, h.eq, h.nx, by rw [h.ins, offR_miss hr h2], h.del, by rw [List.map_append, h.upd, turnR_turn hr h2 ho, ← hq]; rfl, all_take h.new hr (.inl (by rw [h2]; rfl)), h.ok1, h.ok2, okSnoc h.ok3 hk⟩
theorem RSt.bad (h : RSt a b j p li ld lu) {r : Row} (hr : b.rs[j]? = some r) (h2 : getR a.rs r.1 = none) (hn : r.1 < a.nx) : betweenC a b = (false, zeroD) := by
  have : betB a b = false := by
    unfold betB
    have h3 : (b.rs.all fun r => (getR a.rs r.1).isSome || decide (a.nx ≤ r.1)) = false := by
      rw [List.all_eq_false]
      exact ⟨r, List.mem_of_getElem? hr, by rw [h2]; simp; omega⟩
    rw [h3, Bool.and_false]
  unfold betweenC
  rw [this]; rfl
theorem RSt.left (h : RSt a b j p li ld lu) {x : Row} (hx : a.rs[p]? = some x) (h2 : getR b.rs x.1 = none) {y : Rw} (hy : y.row = x) (hk : y.ok) : RSt a b j (p + 1) li (ld ++ [y]) lu :=
  ⟨h.va, h.vb, h.eq, h.nx, h.ins, by rw [List.map_append, h.del, offR_hit hx h2, ← hy]; rfl, h.upd, h.new, h.ok1, okSnoc h.ok2 hk, h.ok3⟩
theorem RSt.keep (h : RSt a b j p li ld lu) {x : Row} {v : List Vl} (hx : a.rs[p]? = some x) (h2 : getR b.rs x.1 = some v) : RSt a b j (p + 1) li ld lu :=
  ⟨h.va, h.vb, h.eq, h.nx, h.ins, by rw [h.del, offR_miss hx h2], h.upd, h.new, h.ok1, h.ok2, h.ok3⟩
theorem RSt.fin (h : RSt a b j p li ld lu) (hj : b.rs.length ≤ j) (hp : a.rs.length ≤ p) : betweenC a b = (true, ⟨a.nm, li.map Rw.row, ld.map Rw.row, lu.map Pr.upd⟩) := by
  have h1 := h.ins
  have h2 := h.del
  have h3 := h.upd
  have h4 := h.new
  rw [List.take_of_length_le hj] at h1 h3 h4
  rw [List.take_of_length_le hp] at h2
  have : betB a b = true := by
    unfold betB
    rw [h.va, h.vb, decide_eq_true h.eq, decide_eq_true h.nx]
    simp only [Bool.and_self, Bool.true_and, List.all_eq_true, Bool.or_eq_true, decide_eq_true_eq]
    exact h4
  unfold betweenC
  rw [this, if_pos rfl, h1, h2, h3]
end
theorem betC_a {a b : Tb} (h : tabB a.nm a.cs a.nx a.rs = false) : betweenC a b = (false, zeroD) := by unfold betweenC betB; rw [h]; rfl
theorem betC_b {a b : Tb} (h : tabB b.nm b.cs b.nx b.rs = false) : betweenC a b = (false, zeroD) := by unfold betweenC betB; rw [h]; simp
theorem betC_s {a b : Tb} (h : decide (a.nm = b.nm ∧ a.cs = b.cs) = false) : betweenC a b = (false, zeroD) := by unfold betweenC betB; rw [h]; simp
theorem betC_n {a b : Tb} (h : b.nx < a.nx) : betweenC a b = (false, zeroD) := by
  have : decide (a.nx ≤ b.nx) = false := by simp; omega
  unfold betweenC betB; rw [this]; simp
/-- the rest of a list of rows -/
theorem tail_rws {A : Option Addr} {n : Nat} {x : Rw} {l : List Rw} {w : World} (h : RwsIn A n (x :: l) w) : ∃ b o, A = some ⟨b, o, none⟩ ∧ RwsIn (some ⟨b, o + 2, none⟩) (n - 1) l w := by
  have hl := h.len
  simp only [List.length_cons] at hl
  obtain ⟨b, o, e, hb, hc⟩ := (show Rd w w.heap.size 2 A n (rwCells (x :: l)) from h.1).2 (by omega)
  refine ⟨b, o, e, ⟨by rw [rwCells_len]; omega, fun _ => ⟨b, o + 2, rfl, hb, fun j u hu => ?_⟩⟩, fun r hr => h.2 r (List.mem_cons_of_mem _ hr)⟩
  have h2 := hc (j + 2) u (by
    have e0 : rwCells (x :: l) = x.cells ++ rwCells l := by simp [rwCells]
    rw [e0, List.getElem?_append_right (by simp [Rw.cells])]
    simpa [Rw.cells] using hu)
  rw [← h2]
  congr 2
  omega
theorem Ro.tailRws {w : World} {M : Nat → Prop} {A : Option Addr} {n : Nat} {x : Rw} {l : List Rw} (h : Ro w M (RwsIn A n (x :: l))) : ∃ b o, A = some ⟨b, o, none⟩ ∧ Ro w M (RwsIn (some ⟨b, o + 2, none⟩) (n - 1) l) := by
  obtain ⟨b, o, e, _⟩ := tail_rws h.now
  refine ⟨b, o, e, fun w2 h1 h2 => ?_⟩
  obtain ⟨b', o', e', h3⟩ := tail_rws (h w2 h1 h2)
  rw [e] at e'
  injection e' with e'
  injection e' with e1 e2
  subst e1; subst e2
  exact h3
theorem Ro.nilRws {w : World} {M : Nat → Prop} {A : Option Addr} {n : Nat} {l : List Rw} (hn : n = 0) (hl : l = []) : Ro w M (RwsIn A n l) := fun w2 _ _ => by
  subst hn; subst hl
  exact ⟨⟨rfl, fun h => absurd h (by omega)⟩, fun r hr => nomatch hr⟩
/-- a difference in memory -/
def DlAt (w : World) (M : Nat → Prop) (v : Value) (d : Dl) : Prop :=
  ∃ (I : Option Addr) (ni ci : Nat) (D : Option Addr) (nd cd : Nat) (U : Option Addr) (nu cu : Nat) (li ld : List Rw) (lu : List Pr), v = .agg #[.string d.nm, .slice I ni ci, .slice D nd cd, .slice U nu cu] ∧
    (ni ≤ ci ∧ ci ≤ 9223372036854775807) ∧ (nd ≤ cd ∧ cd ≤ 9223372036854775807) ∧ (nu ≤ cu ∧ cu ≤ 9223372036854775807) ∧ Ro w M (RwsIn I ni li) ∧ Ro w M (RwsIn D nd ld) ∧ Ro w M (PrsIn U nu lu) ∧
    (∀ r ∈ li, r.ok) ∧ (∀ r ∈ ld, r.ok) ∧ (∀ p ∈ lu, p.ok) ∧ li.map Rw.row = d.ins ∧ ld.map Rw.row = d.del ∧ lu.map Pr.upd = d.upd
def BetRet (w : World) (M : Nat → Prop) (r : Bool × Dl) (e : Ending) (w' : World) : Prop := ∃ v, e = .returned (.tuple #[v, .bool r.1]) ∧ DlAt w' M v r.2 ∧ Below w.heap.size w w'
theorem dlAt_zero {w : World} {M : Nat → Prop} : DlAt w M (.agg #[.string ⟨#[]⟩, .slice none 0 0, .slice none 0 0, .slice none 0 0]) zeroD :=
  ⟨none, 0, 0, none, 0, 0, none, 0, 0, [], [], [], rfl, by omega, by omega, by omega, fun _ _ _ => ⟨Rd.none_, fun r hr => nomatch hr⟩, fun _ _ _ => ⟨Rd.none_, fun r hr => nomatch hr⟩, fun _ _ _ => ⟨Rd.none_, fun r hr => nomatch hr⟩, fun r hr => (nomatch hr), fun r hr => (nomatch hr), fun r hr => (nomatch hr), rfl, rfl, rfl⟩
end Go.Proofs.YtedogodccblfeaaGreatDoor

namespace Go.Proofs.YtedogodccblfeaaGreatDoor
open Go.RowKit
set_option linter.unusedVariables false
set_option linter.unusedSimpArgs false

/-- the second table is the first one some changes later -/
def LaterOk (t t' : Tb) : Prop := t'.nm = t.nm ∧ t'.cs = t.cs ∧ t.nx ≤ t'.nx ∧ ∀ r ∈ t'.rs, (getR t.rs r.1).isSome = true ∨ t.nx ≤ r.1
theorem getR_isSome {rs : List Row} {id : Int} (h : id ∈ rs.map (·.1)) : (getR rs id).isSome = true := by
  unfold getR
  rw [Option.isSome_map, List.find?_isSome]
  obtain ⟨x, hx, rfl⟩ := List.mem_map.1 h
  exact ⟨x, hx, by simp⟩
theorem LaterOk.refl (t : Tb) : LaterOk t t := ⟨rfl, rfl, Int.le_refl _, fun r hr => .inl (getR_isSome (List.mem_map_of_mem (f := fun x : Row => x.1) hr))⟩
theorem LaterOk.trans {a b c : Tb} (h : LaterOk a b) (k : LaterOk b c) : LaterOk a c := by
  obtain ⟨h1, h2, h3, h4⟩ := h
  obtain ⟨k1, k2, k3, k4⟩ := k
  refine ⟨k1.trans h1, k2.trans h2, by omega, fun r hr => ?_⟩
  rcases k4 r hr with h5 | h5
  · obtain ⟨x, hx, he⟩ := List.mem_map.1 (getR_some h5)
    rcases h4 x hx with h6 | h6
    · exact .inl (by rw [← he]; exact h6)
    · exact .inr (by rw [← he]; exact h6)
  · exact .inr (by omega)
theorem ApOk.later {nm : ByteArray} {cs : List Col} {nx : Int} {rs : List Row} {ins : List (List Vl)} {dels : List Int} {us : List Upd} {T : Tb} (h : ApOk nm cs nx rs ins dels us T) : LaterOk ⟨nm, cs, nx, rs⟩ T := by
  rw [h.tb]
  refine ⟨rfl, rfl, by show nx ≤ nx + (ins.length : Int); omega, fun r hr => ?_⟩
  rcases List.mem_append.1 hr with hr | hr
  · obtain ⟨y, hy, rfl⟩ := List.mem_map.1 hr
    have h1 : getR rs y.1 |>.isSome := getR_isSome (List.mem_map_of_mem (f := fun x : Row => x.1) (List.mem_filter.1 hy).1)
    exact .inl h1
  · right
    unfold insR at hr
    obtain ⟨p, hp, rfl⟩ := List.mem_map.1 hr
    show nx ≤ nx + _
    omega
/-- what holds two numbers one behind the other is apart from a block that holds the zero table -/
theorem Ro.apartPair {w : World} {Q : Nat → Prop} {size n : Nat} {A : Option Addr} {xs : List Value} (h : Ro w Q (SlR size A n xs)) {ga : Nat} {t : TypeId} (hg : w.heap[ga]? = some (.cells zeroTc t (0, 0))) (hx : n = 0 ∨ ∃ x y : Int, xs[0]? = some (.int .i64 x) ∧ xs[1]? = some (.int .i64 y)) : Ro w (fun b => b = ga ∨ Q b) (SlR size A n xs) := by
  rcases hx with rfl | ⟨x0, y0, hx0, hy0⟩
  · exact fun w2 _ _ => ⟨(show Rd w w.heap.size size A 0 xs from h.now).1, fun h0 => absurd h0 (by omega)⟩
  · intro w2 h1 h2
    have hgl : ga < w.heap.size := Blk.lt (t := t) (cs := zeroTc) hg
    have hgs : (w2.heap.setIfInBounds ga (.cells zeroTc t (0, 0)))[ga]? = some (.cells zeroTc t (0, 0)) := by
      rw [Array.getElem?_setIfInBounds, if_pos rfl, if_pos (by omega)]
    have hne : ∀ b, b ≠ ga → (w2.heap.setIfInBounds ga (.cells zeroTc t (0, 0)))[b]? = w2.heap[b]? := fun b hb => by
      rw [Array.getElem?_setIfInBounds, if_neg (fun e => hb e.symm)]
    have h3 : Rd { w2 with heap := w2.heap.setIfInBounds ga (.cells zeroTc t (0, 0)) } _ size A n xs := h { w2 with heap := w2.heap.setIfInBounds ga (.cells zeroTc t (0, 0)) } (by simpa using h1) (fun b hb hn => by
      by_cases e : b = ga
      · subst e; exact hgs.trans hg.symm
      · exact (hne b e).trans (h2 b hb (fun hm => hm.elim e hn)))
    refine ⟨h3.1, fun hn => ?_⟩
    obtain ⟨b, o, e, hb, hc⟩ := h3.2 hn
    have hbg : b ≠ ga := by
      rintro rfl
      have h4 := hc 0 _ hx0
      have h5 := hc 1 _ hy0
      rw [cell_of_row _ _ _ _ _ _ hgs] at h4 h5
      rcases o with _ | _ | _ | _ | o <;> simp [zeroTc] at h4 h5
    refine ⟨b, o, e, by simpa using hb, fun j u hu => ?_⟩
    rw [← hc j u hu]
    exact (World.cell?_of_block (w := w2) (w' := { w2 with heap := w2.heap.setIfInBounds ga (.cells zeroTc t (0, 0)) }) (a := ⟨b, o + j, none⟩) (hne b hbg)).symm
theorem vls_apart {w : World} {Q : Nat → Prop} {A : Option Addr} {n : Nat} {vs : List Vl} (h : Ro w Q (VlsIn A n vs)) {ga : Nat} {t : TypeId} (hg : w.heap[ga]? = some (.cells zeroTc t (0, 0))) : Ro w (fun b => b = ga ∨ Q b) (VlsIn A n vs) := by
  have hl := VlsIn.len h.now
  exact (show Ro w Q (SlR 3 A n (vlCells vs)) from h).apartPair hg (by
    cases vs with
    | nil => left; simpa using hl.symm
    | cons v vs => exact .inr ⟨v.k, v.i, rfl, rfl⟩)
theorem rws_apart {w : World} {Q : Nat → Prop} {B : Option Addr} {m : Nat} {l : List Rw} (h : Ro w Q (RwsIn B m l)) {ga : Nat} {t : TypeId} (hg : w.heap[ga]? = some (.cells zeroTc t (0, 0))) (hx : ∀ r ∈ l, r.id ≠ 0) : Ro w (fun b => b = ga ∨ Q b) (RwsIn B m l) := by
  have hl := h.now.len
  have h1 : Ro w Q (SlR 2 B m (rwCells l)) := h.imp fun w2 h2 => h2.1
  have k1 := h1.apartBlk hg (by
    cases l with
    | nil => left; simpa using hl.symm
    | cons r l => exact .inr ⟨.int .i64 r.id, rfl, int_apart (hx r (by simp))⟩)
  refine k1.and fun w2 g1 g2 r hr => ?_
  have h2 : Ro w Q (VlsIn r.A r.n r.vs) := h.imp fun w2 h2 => h2.2 r hr
  exact vls_apart h2 hg w2 g1 g2
end Go.Proofs.YtedogodccblfeaaGreatDoor

namespace Go.Proofs.YtedogodccblfeaaGreatDoor
open Go.RowKit
set_option linter.unusedVariables false
set_option linter.unusedSimpArgs false
set_option linter.unusedSectionVars false

theorem asc_ext : ∀ {l l' : List Row}, (l.map (·.1)).Pairwise (· < ·) → (l'.map (·.1)).Pairwise (· < ·) → (∀ x, x ∈ l ↔ x ∈ l') → l = l'
  | [], [], _, _, _ => rfl
  | [], y :: l', _, _, h => nomatch (h y).2 (List.mem_cons_self ..)
  | x :: l, [], _, _, h => nomatch (h x).1 (List.mem_cons_self ..)
  | x :: l, y :: l', h1, h2, h => by
    rw [List.map_cons, List.pairwise_cons] at h1 h2
    have hxy : x = y := by
      rcases List.mem_cons.1 ((h x).1 (List.mem_cons_self ..)) with e | e
      · exact e
      · rcases List.mem_cons.1 ((h y).2 (List.mem_cons_self ..)) with e2 | e2
        · exact e2.symm
        · have a1 := h2.1 x.1 (List.mem_map_of_mem e)
          have a2 := h1.1 y.1 (List.mem_map_of_mem e2)
          omega
    subst hxy
    rw [asc_ext h1.2 h2.2 fun z => ?_]
    constructor
    · intro hz
      rcases List.mem_cons.1 ((h z).1 (List.mem_cons_of_mem _ hz)) with e | e
      · subst e
        have := h1.1 z.1 (List.mem_map_of_mem hz)
        omega
      · exact e
    · intro hz
      rcases List.mem_cons.1 ((h z).2 (List.mem_cons_of_mem _ hz)) with e | e
      · subst e
        have := h2.1 z.1 (List.mem_map_of_mem hz)
        omega
      · exact e
theorem map_filter_asc {l : List Row} {p : Row → Bool} (h : (l.map (·.1)).Pairwise (· < ·)) : ((l.filter p).map (·.1)).Pairwise (· < ·) := h.sublist (List.filter_sublist.map _)
theorem turnR_asc {rs l : List Row} (h : (l.map (·.1)).Pairwise (· < ·)) : ((turnR rs l).map (·.1)).Pairwise (· < ·) := by
  induction l with
  | nil => exact List.Pairwise.nil
  | cons x l ih =>
    rw [List.map_cons, List.pairwise_cons] at h
    unfold turnR
    rw [List.filterMap_cons]
    have ih2 := ih h.2
    split
    · exact ih2
    · rename_i u hu
      rw [List.map_cons, List.pairwise_cons]
      refine ⟨fun id hid => ?_, ih2⟩
      obtain ⟨v, hv, rfl⟩ := List.mem_map.1 hid
      obtain ⟨r, hr, h2⟩ := List.mem_filterMap.1 hv
      have e1 : u.1 = x.1 := by
        split at hu
        · split at hu
          · cases hu
          · injection hu with hu; rw [← hu]
        · cases hu
      have e2 : v.1 = r.1 := by
        split at h2
        · split at h2
          · cases h2
          · injection h2 with h2; rw [← h2]
        · cases h2
      rw [e1, e2]
      exact h.1 r.1 (List.mem_map_of_mem hr)
theorem turnR_cons (rs : List Row) (y : Row) (l : List Row) : turnR rs (y :: l) = (match getR rs y.1 with | some o => if o = y.2 then none else some (y.1, o, y.2) | none => none).toList ++ turnR rs l := by
  unfold turnR
  rw [List.filterMap_cons]
  cases getR rs y.1 with
  | none => rfl
  | some o => by_cases ho : o = y.2 <;> simp [ho]
theorem turnR_ids {rs l : List Row} {u : Upd} (h : u ∈ turnR rs l) : ∃ r ∈ l, u.1 = r.1 := by
  obtain ⟨r, hr, h2⟩ := List.mem_filterMap.1 h
  refine ⟨r, hr, ?_⟩
  split at h2
  · split at h2
    · cases h2
    · injection h2 with h2; rw [← h2]
  · cases h2
def betD (a b : Tb) : Dl := ⟨a.nm, offR a.rs b.rs, offR b.rs a.rs, turnR a.rs b.rs⟩
theorem offR_none {rs l : List Row} {r : Row} (h : r ∈ offR rs l) : getR rs r.1 = none := by
  have := (List.mem_filter.1 h).2
  simpa using this
section
variable {a b : Tb} (ha : tabB a.nm a.cs a.nx a.rs = true) (hb : tabB b.nm b.cs b.nx b.rs = true) (hl : LaterOk a b)
include ha hb hl
end
end Go.Proofs.YtedogodccblfeaaGreatDoor

namespace Go.Proofs.YtedogodccblfeaaGreatDoor
open Go.RowKit
set_option linter.unusedVariables false
set_option linter.unusedSimpArgs false

/-- An entry: the table's name, its next number of before, the numbers that came, the rows that left, the rows of before that turned. -/
structure Ud where
  nm : ByteArray
  nx : Int
  ins : List Int
  del : List Row
  upd : List Row
deriving DecidableEq
def udOf (nx : Int) (d : Dl) : Ud := ⟨d.nm, nx, d.ins.map (·.1), d.del, d.upd.map fun u => (u.1, u.2.1)⟩
def recD (a b : Tb) : Ud := udOf a.nx (betD a b)
def leftU (u : Ud) (rs : List Row) : List Row := (rs.filter fun r => !u.ins.contains r.1).map fun r => (r.1, (getR u.upd r.1).getD r.2)
theorem getR_turn {rs : List Row} : ∀ {l : List Row}, (l.map (·.1)).Pairwise (· < ·) → ∀ {x : Row}, x ∈ l → getR ((turnR rs l).map fun u => (u.1, u.2.1)) x.1 = (match getR rs x.1 with | some o => if o = x.2 then none else some o | none => none)
  | y :: l, h, x, hx => by
    rw [List.map_cons, List.pairwise_cons] at h
    rw [turnR_cons, List.map_append]
    rcases List.mem_cons.1 hx with rfl | hx
    · have hn : getR ((turnR rs l).map fun u => (u.1, u.2.1)) x.1 = none := getR_none fun z hz e => by
        obtain ⟨u, hu, rfl⟩ := List.mem_map.1 hz
        obtain ⟨r, hr, e2⟩ := turnR_ids hu
        have := h.1 r.1 (List.mem_map_of_mem hr)
        have e : u.1 = x.1 := e
        omega
      cases hg : getR rs x.1 with
      | none => simpa using hn
      | some o =>
        by_cases ho : o = x.2
        · simp only [ho, if_true, Option.toList_none, List.map_nil, List.nil_append]; exact hn
        · simp only [ho, if_false, Option.toList_some, List.map_cons, List.map_nil, List.cons_append, List.nil_append]
          simp [getR]
    · have hne : y.1 ≠ x.1 := by have := h.1 x.1 (List.mem_map_of_mem hx); omega
      have ih := getR_turn h.2 hx (rs := rs)
      cases hg : getR rs y.1 with
      | none => simpa using ih
      | some o =>
        by_cases ho : o = y.2
        · simp only [ho, if_true, Option.toList_none, List.map_nil, List.nil_append]; exact ih
        · simp only [ho, if_false, Option.toList_some, List.map_cons, List.map_nil, List.cons_append, List.nil_append]
          rw [← ih]
          unfold getR
          rw [List.find?_cons, show (((y.1, o) : Row).1 == x.1) = false by simpa using hne]
theorem getR_isNone {rs : List Row} {id : Int} (h : getR rs id = none) : id ∉ rs.map (·.1) := fun hm => by
  obtain ⟨r, hr, rfl⟩ := List.mem_map.1 hm
  unfold getR at h
  rw [Option.map_eq_none_iff, List.find?_eq_none] at h
  have := h r hr
  simp at this
theorem turnR_mem {rs l : List Row} {u : Upd} (h : u ∈ turnR rs l) : getR rs u.1 = some u.2.1 ∧ u.1 ∈ l.map (·.1) := by
  obtain ⟨r, hr, h2⟩ := List.mem_filterMap.1 h
  split at h2
  · rename_i o ho
    split at h2
    · cases h2
    · injection h2 with h2
      subst h2
      exact ⟨ho, List.mem_map_of_mem (f := fun x : Row => x.1) hr⟩
  · cases h2
theorem asc_nodup {l : List Row} (h : (l.map (·.1)).Pairwise (· < ·)) : (l.map (·.1)).Nodup := h.imp fun h => by omega
section
variable {a b : Tb} (ha : (a.rs.map (·.1)).Pairwise (· < ·)) (hb : (b.rs.map (·.1)).Pairwise (· < ·))
include ha hb
/-- the entry's numbers stand once -/
theorem rec_nodup : ((recD a b).ins ++ (recD a b).upd.map (·.1) ++ (recD a b).del.map (·.1)).Nodup := by
  have h1 : ((offR a.rs b.rs).map (·.1)).Nodup := asc_nodup (map_filter_asc hb)
  have h2 : ((offR b.rs a.rs).map (·.1)).Nodup := asc_nodup (map_filter_asc ha)
  have h3 : ((turnR a.rs b.rs).map (·.1)).Nodup := (turnR_asc hb).imp fun h => by omega
  have e3 : ((recD a b).upd.map (·.1)) = (turnR a.rs b.rs).map (·.1) := by simp [recD, udOf, betD, List.map_map, Function.comp_def]
  rw [e3]
  show ((offR a.rs b.rs).map (·.1) ++ (turnR a.rs b.rs).map (·.1) ++ (offR b.rs a.rs).map (·.1)).Nodup
  rw [List.nodup_append, List.nodup_append]
  refine ⟨⟨h1, h3, fun x hx y hy e => ?_⟩, h2, fun x hx y hy e => ?_⟩
  · subst e
    obtain ⟨r, hr, rfl⟩ := List.mem_map.1 hx
    obtain ⟨u, hu, e⟩ := List.mem_map.1 hy
    have k1 := offR_none hr
    have k2 := (turnR_mem hu).1
    rw [e, k1] at k2
    cases k2
  · subst e
    obtain ⟨r, hr, rfl⟩ := List.mem_map.1 hy
    have k1 := getR_isNone (offR_none hr)
    rcases List.mem_append.1 hx with hx | hx
    · obtain ⟨s, hs, e⟩ := List.mem_map.1 hx
      exact k1 (e ▸ List.mem_map_of_mem (f := fun x : Row => x.1) (List.mem_filter.1 hs).1)
    · obtain ⟨u, hu, e⟩ := List.mem_map.1 hx
      exact k1 (e ▸ (turnR_mem hu).2)
omit ha hb in
theorem rec_in : ∀ id ∈ (recD a b).ins ++ (recD a b).upd.map (·.1), id ∈ b.rs.map (·.1) := fun id h => by
  rcases List.mem_append.1 h with h | h
  · obtain ⟨r, hr, rfl⟩ := List.mem_map.1 h
    exact List.mem_map_of_mem (f := fun x : Row => x.1) (List.mem_filter.1 hr).1
  · obtain ⟨u, hu, rfl⟩ := List.mem_map.1 h
    obtain ⟨v, hv, rfl⟩ := List.mem_map.1 hu
    exact (turnR_mem hv).2
omit ha hb in
theorem rec_out : ∀ id ∈ (recD a b).del.map (·.1), id ∉ b.rs.map (·.1) := fun id h => by
  obtain ⟨r, hr, rfl⟩ := List.mem_map.1 h
  exact getR_isNone (offR_none hr)
theorem rec_left_mem (x : Row) : x ∈ leftU (recD a b) b.rs ++ (recD a b).del ↔ x ∈ a.rs := by
  rw [List.mem_append]
  constructor
  · rintro (h | h)
    · obtain ⟨r, hr, rfl⟩ := List.mem_map.1 h
      obtain ⟨hr1, hr2⟩ := List.mem_filter.1 hr
      have hu : getR (recD a b).upd r.1 = _ := getR_turn hb hr1 (rs := a.rs)
      cases hg : getR a.rs r.1 with
      | none =>
        have : r.1 ∈ (recD a b).ins := List.mem_map_of_mem (f := fun x : Row => x.1) (List.mem_filter.2 ⟨hr1, by rw [hg]; rfl⟩)
        simp [this] at hr2
      | some o =>
        rw [hg] at hu
        dsimp only at hu
        have hm := getR_out hg
        rw [hu]
        by_cases ho : o = r.2
        · subst ho; simpa using hm
        · simpa [ho] using hm
    · exact (List.mem_filter.1 h).1
  · intro hx
    cases hg : getR b.rs x.1 with
    | none => exact .inr (List.mem_filter.2 ⟨hx, by rw [hg]; rfl⟩)
    | some v =>
      left
      have hm := getR_out hg
      have ga := getR_of_mem ha hx
      have hu : getR (recD a b).upd (x.1, v).1 = _ := getR_turn hb hm (rs := a.rs)
      dsimp only at hu
      rw [ga] at hu
      dsimp only at hu
      refine List.mem_map.2 ⟨(x.1, v), List.mem_filter.2 ⟨hm, ?_⟩, ?_⟩
      · have : x.1 ∉ (recD a b).ins := fun h => by
          obtain ⟨r, hr, e⟩ := List.mem_map.1 h
          have := offR_none hr
          rw [e, ga] at this
          cases this
        simp [this]
      · dsimp only
        rw [hu]
        by_cases ho : x.2 = v
        · rw [if_pos ho]; subst ho; rfl
        · rw [if_neg ho]; rfl
theorem rec_left_nodup : ((leftU (recD a b) b.rs ++ (recD a b).del).map (·.1)).Nodup := by
  rw [List.map_append, List.nodup_append]
  have e : (leftU (recD a b) b.rs).map (·.1) = (b.rs.filter fun r => !(recD a b).ins.contains r.1).map (·.1) := by simp [leftU, List.map_map, Function.comp_def]
  refine ⟨by rw [e]; exact asc_nodup (map_filter_asc hb), asc_nodup (map_filter_asc ha), fun x hx y hy he => ?_⟩
  subst he
  rw [e] at hx
  obtain ⟨r, hr, rfl⟩ := List.mem_map.1 hx
  exact rec_out (a := a) (b := b) r.1 hy (List.mem_map_of_mem (f := fun x : Row => x.1) (List.mem_filter.1 hr).1)
theorem rec_left_len : (leftU (recD a b) b.rs ++ (recD a b).del).length = a.rs.length := by
  have h1 := rec_left_nodup ha hb
  have h2 := asc_nodup ha
  have hp : ((leftU (recD a b) b.rs ++ (recD a b).del).map (·.1)).Perm (a.rs.map (·.1)) := (List.perm_ext_iff_of_nodup h1 h2).2 fun id => by
    constructor
    · intro h
      obtain ⟨r, hr, rfl⟩ := List.mem_map.1 h
      exact List.mem_map_of_mem ((rec_left_mem ha hb r).1 hr)
    · intro h
      obtain ⟨r, hr, rfl⟩ := List.mem_map.1 h
      exact List.mem_map_of_mem ((rec_left_mem ha hb r).2 hr)
  simpa using hp.length_eq
/-- sorted by the numbers, the rows are those of before -/
theorem rec_back {S : List Row} (hp : S.Perm (leftU (recD a b) b.rs ++ (recD a b).del)) (hs : (S.map (·.1)).Pairwise (· ≤ ·)) : S = a.rs := by
  have hn : (S.map (·.1)).Nodup := (hp.map (·.1)).nodup_iff.2 (rec_left_nodup ha hb)
  refine asc_ext ?_ ha fun x => (hp.mem_iff).trans (rec_left_mem ha hb x)
  exact (List.pairwise_and_iff.2 ⟨hs, hn⟩).imp fun h => by omega
end
end Go.Proofs.YtedogodccblfeaaGreatDoor

namespace Go.Proofs.YtedogodccblfeaaGreatDoor
open Go.RowKit
set_option linter.unusedVariables false
set_option linter.unusedSimpArgs false

structure Ue where
  nm : ByteArray
  nx : Int
  I : Option Addr
  ni : Nat
  ci : Nat
  D : Option Addr
  nd : Nat
  cd : Nat
  U : Option Addr
  nu : Nat
  cu : Nat
  li : List Int
  ld : List Rw
  lu : List Rw
def Ue.cells (x : Ue) : List Value := [.string x.nm, .int .i64 x.nx, .slice x.I x.ni x.ci, .slice x.D x.nd x.cd, .slice x.U x.nu x.cu]
def Ue.val (x : Ue) : Value := .agg #[.string x.nm, .int .i64 x.nx, .slice x.I x.ni x.ci, .slice x.D x.nd x.cd, .slice x.U x.nu x.cu]
def Ue.ud (x : Ue) : Ud := ⟨x.nm, x.nx, x.li, x.ld.map Rw.row, x.lu.map Rw.row⟩
def UeIn (x : Ue) (w : World) : Prop := IsIn x.I x.ni x.li w ∧ RwsIn x.D x.nd x.ld w ∧ RwsIn x.U x.nu x.lu w
/-- an entry within limits: lists of at most N, rows of at most K values -/
structure Ue.good (x : Ue) (N K : Nat) : Prop where
  i : x.ni ≤ N
  d : x.nd ≤ N
  u : x.nu ≤ N
  ci : x.ni ≤ x.ci ∧ x.ci ≤ 9223372036854775807
  cd : x.nd ≤ x.cd ∧ x.cd ≤ 9223372036854775807
  cu : x.nu ≤ x.cu ∧ x.cu ≤ 9223372036854775807
  li : ∀ n ∈ x.li, I64 n
  ld : ∀ r ∈ x.ld, r.ok ∧ r.n ≤ K
  lu : ∀ r ∈ x.lu, r.ok ∧ r.n ≤ K
def ueCells (l : List Ue) : List Value := l.flatMap Ue.cells
theorem ueCells_len (l : List Ue) : (ueCells l).length = l.length * 5 := flat_len _ 5 (fun _ => rfl) l
def UesIn (A : Option Addr) (n : Nat) (l : List Ue) (w : World) : Prop := SlR 5 A n (ueCells l) w ∧ ∀ x ∈ l, UeIn x w
theorem UesIn.len {w : World} {A : Option Addr} {n : Nat} {l : List Ue} (h : UesIn A n l w) : l.length = n := by
  have := (show Rd w w.heap.size 5 A n (ueCells l) from h.1).1
  rw [ueCells_len] at this
  omega
theorem UesIn.at_ {w : World} {A : Option Addr} {n : Nat} {l : List Ue} (h : UesIn A n l w) {k : Nat} {x : Ue} (hx : l[k]? = some x) :
    ∃ b o, A = some ⟨b, o, none⟩ ∧ b < w.heap.size ∧ w.cell? ⟨b, o + k * 5, none⟩ = some (.string x.nm) ∧ w.cell? ⟨b, o + k * 5 + 1, none⟩ = some (.int .i64 x.nx) ∧ w.cell? ⟨b, o + k * 5 + 2, none⟩ = some (.slice x.I x.ni x.ci) ∧ w.cell? ⟨b, o + k * 5 + 3, none⟩ = some (.slice x.D x.nd x.cd) ∧ w.cell? ⟨b, o + k * 5 + 4, none⟩ = some (.slice x.U x.nu x.cu) ∧ UeIn x w := by
  have hk : k < n := by rw [← h.len]; exact (List.getElem?_eq_some_iff.1 hx).1
  obtain ⟨b, o, e, hb, hc⟩ := (show Rd w w.heap.size 5 A n (ueCells l) from h.1).2 (by omega)
  exact ⟨b, o, e, hb, hc _ _ (flat_get Ue.cells 5 (fun _ => rfl) l k 0 x (by omega) hx), hc _ _ (flat_get Ue.cells 5 (fun _ => rfl) l k 1 x (by omega) hx), hc _ _ (flat_get Ue.cells 5 (fun _ => rfl) l k 2 x (by omega) hx), hc _ _ (flat_get Ue.cells 5 (fun _ => rfl) l k 3 x (by omega) hx), hc _ _ (flat_get Ue.cells 5 (fun _ => rfl) l k 4 x (by omega) hx), h.2 x (List.mem_of_getElem? hx)⟩
theorem ueCells_snoc (l : List Ue) (x : Ue) : ueCells (l ++ [x]) = ueCells l ++ x.cells := by simp [ueCells]
theorem teCells_snoc (l : List Te) (x : Te) : teCells (l ++ [x]) = teCells l ++ x.cells := by simp [teCells]
def TeVals (l : List Te) (w : World) : Prop := ∀ x ∈ l, TeIn x w
def UeVals (l : List Ue) (w : World) : Prop := ∀ x ∈ l, UeIn x w
theorem teVals_snoc {M : Nat → Prop} {w : World} {rs : List Te} {r : Te} (h : Ro w M (TeVals rs)) (k : Ro w M (TeIn r)) : Ro w M (TeVals (rs ++ [r])) := fun w2 h1 h2 x hx => by
  rcases List.mem_append.1 hx with hx | hx
  · exact h w2 h1 h2 x hx
  · simp at hx; subst hx; exact k w2 h1 h2
theorem ueVals_snoc {M : Nat → Prop} {w : World} {rs : List Ue} {r : Ue} (h : Ro w M (UeVals rs)) (k : Ro w M (UeIn r)) : Ro w M (UeVals (rs ++ [r])) := fun w2 h1 h2 x hx => by
  rcases List.mem_append.1 hx with hx | hx
  · exact h w2 h1 h2 x hx
  · simp at hx; subst hx; exact k w2 h1 h2
theorem teVals_nil (w : World) (M : Nat → Prop) : Ro w M (TeVals []) := fun _ _ _ r hr => nomatch hr
theorem ueVals_nil (w : World) (M : Nat → Prop) : Ro w M (UeVals []) := fun _ _ _ r hr => nomatch hr
/-- an entry handed back -/
def UeRet (w : World) (M : Nat → Prop) (N K : Nat) (u : Ud) (e : Ending) (w' : World) : Prop := ∃ x : Ue, e = .returned x.val ∧ x.ud = u ∧ x.good N K ∧ Ro w' M (UeIn x) ∧ Below w.heap.size w w'
/-- a log handed back -/
def UesRet (w : World) (M : Nat → Prop) (N K : Nat) (us : List Ud) (e : Ending) (w' : World) : Prop := ∃ (A : Option Addr) (n c : Nat) (l : List Ue), e = .returned (.slice A n c) ∧ n ≤ c ∧ c ≤ 9223372036854775807 ∧ l.map Ue.ud = us ∧ (∀ x ∈ l, x.good N K) ∧ Ro w' M (UesIn A n l) ∧ Below w.heap.size w w'
/-- a table handed back -/
def TeRet (w : World) (M : Nat → Prop) (t : Tb) (e : Ending) (w' : World) : Prop := ∃ x : Te, e = .returned x.val ∧ x.tb = t ∧ x.ok ∧ Ro w' M (TeIn x) ∧ Below w.heap.size w w'
/-- a store handed back -/
def TesRet (w : World) (M : Nat → Prop) (ts : List Tb) (e : Ending) (w' : World) : Prop := ∃ (A : Option Addr) (n c : Nat) (l : List Te), e = .returned (.slice A n c) ∧ n ≤ c ∧ c ≤ 9223372036854775807 ∧ l.map Te.tb = ts ∧ (∀ x ∈ l, x.ok) ∧ Ro w' M (TesIn A n l) ∧ Below w.heap.size w w'
/-- rows handed back -/
def RwsRet (w : World) (M : Nat → Prop) (K : Nat) (rs : List Row) (e : Ending) (w' : World) : Prop := ∃ (A : Option Addr) (n c : Nat) (l : List Rw), e = .returned (.slice A n c) ∧ n ≤ c ∧ c ≤ 9223372036854775807 ∧ l.map Rw.row = rs ∧ (∀ r ∈ l, r.ok ∧ r.n ≤ K) ∧ Ro w' M (RwsIn A n l) ∧ Below w.heap.size w w'
end Go.Proofs.YtedogodccblfeaaGreatDoor

namespace Go.Proofs.YtedogodccblfeaaGreatDoor
open Go.RowKit
set_option linter.unusedVariables false
set_option linter.unusedSimpArgs false

theorem rowsCopy_step {l outs : List Rw} {j K : Nat} {x : Rw} {A : Option Addr} {n c : Nat} (h : outs.map Rw.row = (l.take j).map Rw.row ∧ ∀ r ∈ outs, r.ok ∧ r.n ≤ K) (hx : l[j]? = some x) (hk : x.ok ∧ x.n ≤ K) (h1 : n ≤ c) (h2 : c ≤ 9223372036854775807) (h3 : n ≤ K) :
    (outs ++ [(⟨x.id, A, n, c, x.vs⟩ : Rw)]).map Rw.row = (l.take (j + 1)).map Rw.row ∧ ∀ r ∈ outs ++ [(⟨x.id, A, n, c, x.vs⟩ : Rw)], r.ok ∧ r.n ≤ K := by
  constructor
  · rw [List.map_append, h.1, List.take_add_one, hx, List.map_append]; rfl
  · intro r hr
    rcases List.mem_append.1 hr with hr | hr
    · exact h.2 r hr
    · simp at hr; subst hr; exact ⟨⟨hk.1.id, h1, h2, hk.1.vs⟩, h3⟩
set_option maxHeartbeats 4000000 in
set_option maxRecDepth 100000 in
theorem srows_any (M : Nat → Prop) (w : World) (hM : ∀ b, M b → b < w.heap.size) (A : Option Addr) (n c K : Nat) (l : List Rw) (hE : Ro w M (RwsIn A n l)) (hn : n ≤ 1000000) (hK : K ≤ 4398046511104) (hrn : ∀ r ∈ l, r.ok ∧ r.n ≤ K) :
    Calls Tryz.prog 193 #[.slice A n c] w fun e w' => RwsRet w M K (l.map Rw.row) e w' := by
  have HRL := hid hE.now.len
  have HRN := hid hrn
  have HKK := hid hK
  clear hrn hK
  have KD := (((Hold.start M w hM).add (hE.less (by simp [Mut]))).add (ro_vals_nil _ _)).nil 119 2
  clear hE
  go_enter Tryz.func193, Tryz.ntmps193
  go_wp2_with fail
  go_loopw [3, 8] (fun ov iv wr => ∃ (j cap : Nat) (O : Option Addr) (outs : List Rw), j ≤ n ∧ iv = .int .i64 j ∧ ov = .slice O j cap ∧ Hid (outs.map Rw.row = (l.take j).map Rw.row ∧ ∀ r ∈ outs, r.ok ∧ r.n ≤ K) ∧ Hold M none w wr [.own 119 2 (.slice O j cap) j (rwCells outs), .ro (ValsIn outs), .ro (RwsIn A n l)]) (fun _ iv _ => n - (intOf iv).toNat)
  case atStart => exact ⟨0, 0, none, [], by omega, rfl, rfl, hid ⟨rfl, fun r hr => nomatch hr⟩, KD⟩
  case round =>
    clear KD
    obtain ⟨j, cap, O, outs, hj, rfl, rfl, HW, H⟩ := hrel
    by_cases hlt : j < n
    · have hd : decide ((j : Int) < (n : Int)) = true := by simp; omega
      have j0 : (0 : Int) ≤ (j : Int) := by omega
      have j1 : (j : Int) < (n : Int) := by omega
      obtain ⟨x, hx⟩ := get_of HRL.out hlt
      obtain ⟨b, o, rfl, hb, c0, c1, hxv⟩ := (H.ro 2 rfl).now.at_ hx
      have HXO := hid (HRN.out x (List.mem_of_getElem? hx))
      have hxn : x.n ≤ 4398046511104 := Nat.le_trans HXO.out.2 HKK.out
      have HXL := hid (show x.vs.length = x.n from hxv.len)
      have HXG := hid hx
      have hxr : Ro wr _ (VlsIn x.A x.n x.vs) := (H.ro 2 rfl).imp fun w2 h2 => h2.2 x (List.mem_of_getElem? hx)
      clear hx hxv
      have K1 := (H.add hxr).alloc_cst #[.int .i64 x.id, .slice x.A x.n x.c] 119
      clear H hxr
      obtain ⟨gr, hgr⟩ : ∃ gr, gr = wr.heap.size := ⟨_, rfl⟩
      rw [← hgr] at K1
      have F1 := K1.facts
      simp only [World.size_alloc, World.size_drew, factsL, cellsF, Nat.reduceAdd, List.toList_toArray, List.set_cons_zero, List.set_cons_succ, List.setIfInBounds_toArray, and_true, true_and] at F1
      go_wp2_with fail
      rw [← hgr]
      have HGR := hid hgr
      clear hgr c0 c1 F1
      obtain ⟨KL, hKL, KN⟩ := K1.name
      have HF : Hid (∀ wv, Hold M none w wv KL → wv.cell? ⟨gr, 0, none⟩ = some (.int .i64 x.id) ∧ wv.cell? ⟨gr, 1, none⟩ = some (.slice x.A x.n x.c) ∧ gr < wv.heap.size) := hid fun wv HC => by
        rw [hKL] at HC
        have y0 := HC.cst_ 0 rfl
        exact ⟨cell_of_row _ _ 0 _ _ _ y0, cell_of_row _ _ 1 _ _ _ y0, Blk.lt y0⟩
      have HRX : Hid (∀ wv, Hold M none w wv KL → Ro wv (Mut M KL) (VlsIn x.A x.n x.vs)) := hid fun wv HC => by
        rw [hKL] at HC ⊢
        exact HC.ro 1 rfl
      have HKL := hid hKL
      clear hKL K1
      go_wp2_with fail
      refine wp_region_any (by kernel_rfl) ?_
      refine wpAny_hold 8 23 (KL) (spL [(17, VlsSlot (Mut M KL) x.vs), (18, RowSlot (Mut M KL) x.id x.vs), (19, RBoxSlot (Mut M KL) x.id x.vs)]) (by kernel_rfl) (by kernel_rfl) (by kernel_rfl) rfl ?_ (KN.drew) ?_
      · exact stays_cons vlsSlot_mono (stays_cons rowSlot_mono (stays_cons rboxSlot_mono (stays_nil _)))
      simp only [List.take_succ_cons, List.take_zero, List.drop_succ_cons, List.drop_zero, Act.put, List.getElem_toArray, List.getElem_cons_zero, List.getElem_cons_succ, List.setIfInBounds_toArray, List.set_cons_succ, List.set_cons_zero]
      refine dw_val rfl rfl rfl ?_; apply Exists.intro; refine ⟨fun wv HC => ?_, ?_⟩
      ·  go_simp <;> rfl
      simp only [Act.put, List.setIfInBounds_toArray, List.set_cons_succ, List.set_cons_zero]
      refine dw_val rfl rfl rfl ?_; apply Exists.intro; refine ⟨fun wv HC => ?_, ?_⟩
      ·  go_simp <;> rfl
      simp only [Act.put, List.setIfInBounds_toArray, List.set_cons_succ, List.set_cons_zero]
      refine dw_val rfl rfl rfl ?_; apply Exists.intro; refine ⟨fun wv HC => ?_, ?_⟩
      · obtain ⟨f0, f1, f2⟩ := HF.out _ HC; go_simp <;> rfl
      simp only [Act.put, List.setIfInBounds_toArray, List.set_cons_succ, List.set_cons_zero]
      refine dw_val rfl rfl rfl ?_; apply Exists.intro; refine ⟨fun wv HC => ?_, ?_⟩
      ·  go_simp <;> rfl
      simp only [Act.put, List.setIfInBounds_toArray, List.set_cons_succ, List.set_cons_zero]
      refine dw_val rfl rfl rfl ?_; apply Exists.intro; refine ⟨fun wv HC => ?_, ?_⟩
      · obtain ⟨f0, f1, f2⟩ := HF.out _ HC; go_simp <;> rfl
      simp only [Act.put, List.setIfInBounds_toArray, List.set_cons_succ, List.set_cons_zero]
      refine dw_callR 17 (VlsSlot (Mut M KL) x.vs) (f := 149) (args := #[.slice x.A x.n x.c]) rfl rfl rfl rfl (fun wv => ?_) (fun wv HC hrm hD => ?_) ?_
      · go_simp <;> rfl
      · refine (cloneVls_any _ wv HC.mutLt x.A x.n x.c x.vs (HRX.out _ HC) hxn).mono ?_
        rintro e w5 ⟨A5, n5, c5, rfl, h50, h51, h52, h53, b5⟩
        exact ⟨_, rfl, ⟨A5, n5, c5, rfl, h50, h51, h52, h53⟩, HC.call b5, RM.below b5⟩
      rintro x_ wx HCx ⟨A5, n5, c5, rfl, h50, h51, h52, h53⟩
      simp only [Act.put, List.setIfInBounds_toArray, List.set_cons_succ, List.set_cons_zero]
      have H50 := hid h50
      clear HCx h53 h50
      refine dw_valC 18 (RowSlot (Mut M KL) x.id x.vs) rfl rfl rfl rfl (.agg #[.int .i64 x.id, .slice A5 n5 c5]) (fun wv HC => ?_) (fun wv HC hD => ?_) ?_
      · go_simp <;> rfl
      · have hsl : VlsSlot (Mut M KL) x.vs (.slice A5 n5 c5) wv := deps_at hD 5 rfl (by kernel_rfl) rfl rfl
        obtain ⟨A6, n6, c6, e6, h1, h2, h3, h4⟩ := hsl
        exact ⟨A6, n6, c6, by rw [e6], h1, h2, h3, h4⟩
      simp only [Act.put, List.setIfInBounds_toArray, List.set_cons_succ, List.set_cons_zero]
      refine dw_new #[.int .i64 x.id, .slice A5 n5 c5] 119 19 (RBoxSlot (Mut M KL) x.id x.vs) (fun g => .slice (some ⟨g, 0, none⟩) 1 1) rfl rfl rfl rfl (fun wv => ?_) (fun wv HC _hrm hD hro => ?_) ?_
      · go_simp <;> rfl
      · have hsl : RowSlot (Mut M KL) x.id x.vs (.agg #[.int .i64 x.id, .slice A5 n5 c5]) wv := deps_at hD 6 rfl (by kernel_rfl) rfl rfl
        obtain ⟨A6, n6, c6, e6, h1, h2, h3, h4⟩ := hsl
        obtain ⟨rfl, rfl, rfl⟩ : A5 = A6 ∧ n5 = n6 ∧ c5 = c6 := by
          injection e6 with e6
          simp at e6
          exact e6
        exact ⟨_, A5, n5, c5, rfl, h1, h2, h3, h4.step (by simp) (fun b hb _ => Below.heap_alloc wv _ b hb) (fun _ _ h => h), ro_block (hro _ HC.mutLt) rfl⟩
      rintro g2 wg HCg hsl
      simp only [Act.put, List.setIfInBounds_toArray, List.set_cons_succ, List.set_cons_zero]
      clear hsl HCg
      refine rel_nil ?_
      rintro wx2 HX
      rintro _hrm HGW
      have hb2 : RBoxSlot (Mut M KL) x.id x.vs (.slice (some ⟨g2, 0, none⟩) 1 1) wx2 := (GW_on (d := 19) rfl).1 (HGW 7 _ rfl (by omega))
      clear HGW _hrm
      obtain ⟨g3, A6, n6, c6, e6, k0_, k1_, k2_, k3_, k4_⟩ := hb2
      obtain rfl : g2 = g3 := by injection e6 with e6; injection e6 with e6; injection e6
      clear e6
      rw [HKL.out] at HX k3_
      have k5 := hid k4_.now
      have HK0 := hid k0_
      clear k4_ k0_ HF HRX KN
      have HRS := hid (show rwCells outs ++ [.int .i64 x.id, .slice A6 n6 c6] = rwCells (outs ++ [⟨x.id, A6, n6, c6, x.vs⟩]) from rwCells_snoc1 _ _ _ _ _ _)
      have KA := HX.add k3_
      clear HX k3_
      have FKA := KA.facts
      simp only [World.size_alloc, World.size_drew, factsL, cellsF, Nat.reduceAdd, List.toList_toArray, List.set_cons_zero, List.set_cons_succ, List.setIfInBounds_toArray, and_true, true_and] at FKA
      go_wp2_with (at_builtin; go_must (refine wpList_appAllH KA 3 rfl Tryz.elRw k5.out rfl (.tmp 12) (.tmp 19) rfl rfl rfl (by intro z hz; simp at hz; rcases hz with rfl | rfl <;> rfl) (by omega) (by omega) ?_); intro C' cap' w6 hc6 hm6 KB; rw [HRS.out] at KB; simp only [List.set_cons_zero, List.set_cons_succ] at KB; (have F3 := KB.facts); simp only [World.size_alloc, World.size_drew, factsL, cellsF, Nat.reduceAdd, List.toList_toArray, List.set_cons_zero, List.set_cons_succ, List.setIfInBounds_toArray, and_true, true_and] at F3)
      have KE := (KB.swapRo 4 rfl (vals_snoc (r := ⟨x.id, A6, n6, c6, x.vs⟩) (KB.ro 4 rfl) (KB.ro 0 rfl))).drop (List.Sublist.cons _ (List.Sublist.cons _ (List.sublist_cons_self _ _)))
      have HW2 := hid (rowsCopy_step (A := A6) HW.out HXG.out HXO.out k1_ k2_ (by rw [HK0.out, HXL.out]; exact HXO.out.2))
      go_roundw
      case rel => exact ⟨j + 1, cap', C', _, by omega, by go_num, by first | rfl | trivial, HW2, KE⟩
      case measure => simp [intOf]; omega
    · obtain rfl : n = j := by omega
      have hd : decide ((n : Int) < (n : Int)) = false := by simp
      have hcap := own_caps (H.get 0 rfl)
      have KS := H.sealRow 0 rfl
      simp only [List.set_cons_zero] at KS
      have r1 := (KS.roOut 0 rfl).and (KS.roOut 1 rfl)
      have HW2 := hid (show outs.map Rw.row = l.map Rw.row by have h := HW.out.1; rwa [List.take_of_length_le (by rw [HRL.out]; exact Nat.le_refl _)] at h)
      go_wp2_with fail
      go_ret
      exact ⟨O, n, cap, outs, rfl, hcap.1, hcap.2.1, HW2.out, HW.out.2, r1, KS.below⟩
set_option maxHeartbeats 4000000 in
set_option maxRecDepth 100000 in
theorem scopied_any (M : Nat → Prop) (w : World) (hM : ∀ b, M b → b < w.heap.size) (nm : ByteArray) (A : Option Addr) (n c : Nat) (cs : List Col) (nx : Int) (B : Option Addr) (m d K : Nat) (l : List Rw) (hC : Ro w M (ColsIn A n cs)) (hE : Ro w M (RwsIn B m l)) (hn : n ≤ 4398046511104) (hm : m ≤ 1000000) (hK : K ≤ 4398046511104) (hrn : ∀ r ∈ l, r.ok ∧ r.n ≤ K) :
    Calls Tryz.prog 93 #[.agg #[.string nm, .slice A n c, .int .i64 nx, .slice B m d]] w fun e w' => TeRet w M ⟨nm, cs, nx, l.map Rw.row⟩ e w' := by
  have HRL := hid hE.now.len
  have HRN := hid hrn
  have HKK := hid hK
  clear hrn hK
  have K0 := ((((Hold.start M w hM).add (hE.less (by simp [Mut]))).add (hC.less (by simp [Mut, Hp.foot]))).alloc #[.string nm, .slice A n c, .int .i64 nx, .slice B m d] 58).alloc #[.string ⟨#[]⟩, .slice none 0 0, .int .i64 0, .slice none 0 0] 58
  rw [World.size_alloc] at K0
  clear hC hE
  have F0 := K0.facts
  simp only [World.size_alloc, World.size_drew, factsL, cellsF, Nat.reduceAdd, List.toList_toArray, List.set_cons_zero, List.set_cons_succ, List.setIfInBounds_toArray, and_true, true_and] at F0
  go_enter Tryz.func93, Tryz.ntmps93
  go_wp2_with fail
  refine (cloneCols_any _ _ K0.mutLt A n c cs (K0.ro 2 rfl) (by omega)).mono ?_
  rintro e w5 ⟨C9, n9, cap9, rfl, hn9, hc9, hm9, r9, b9⟩
  have KB := (K0.call b9).add r9
  clear K0 F0 r9 b9 hn9
  have FB := KB.facts
  simp only [World.size_alloc, World.size_drew, factsL, cellsF, Nat.reduceAdd, List.toList_toArray, List.set_cons_zero, List.set_cons_succ, List.setIfInBounds_toArray, and_true, true_and] at FB
  have KC := KB.store 2 rfl 1 (.slice C9 n9 cap9)
  simp only [List.set_cons_zero, List.set_cons_succ, List.setIfInBounds_toArray] at KC
  have KD := (KC.add (ro_vals_nil _ _)).nil 119 2
  have FD := KD.facts
  simp only [World.size_alloc, World.size_drew, factsL, cellsF, Nat.reduceAdd, List.toList_toArray, List.set_cons_zero, List.set_cons_succ, List.setIfInBounds_toArray, and_true, true_and] at FD
  clear KB KC
  go_wp2_with fail
  generalize World.setCell _ _ _ = w10 at KD ⊢
  clear FB FD
  obtain ⟨g1, hg1⟩ : ∃ g1, g1 = w.heap.size := ⟨_, rfl⟩
  obtain ⟨g2, hg2⟩ : ∃ g2, g2 = g1 + 1 := ⟨_, rfl⟩
  rw [← hg1, ← hg2] at KD ⊢
  have HG1 := hid hg1
  clear hg1 hg2
  go_loopw [3, 15] (fun ov iv wr => ∃ (j cap : Nat) (O : Option Addr) (outs : List Rw), j ≤ m ∧ iv = .int .i64 j ∧ ov = .slice O j cap ∧ Hid (outs.map Rw.row = (l.take j).map Rw.row ∧ ∀ r ∈ outs, r.ok ∧ r.n ≤ K) ∧ Hold M none w wr [.own 119 2 (.slice O j cap) j (rwCells outs), .ro (ValsIn outs), .ro (ColsIn C9 n9 cs), .blk g2 58 #[.string ⟨#[]⟩, .slice none 0 0, .int .i64 0, .slice none 0 0], .blk g1 58 #[.string nm, .slice C9 n9 cap9, .int .i64 nx, .slice B m d], .ro (ColsIn A n cs), .ro (RwsIn B m l)]) (fun _ iv _ => m - (intOf iv).toNat)
  case atStart => exact ⟨0, 0, none, [], by omega, rfl, rfl, hid ⟨rfl, fun r hr => nomatch hr⟩, KD⟩
  case round =>
    clear KD
    obtain ⟨j, cap, O, outs, hj, rfl, rfl, HW, H⟩ := hrel
    by_cases hlt : j < m
    · have hd : decide ((j : Int) < (m : Int)) = true := by simp; omega
      have j0 : (0 : Int) ≤ (j : Int) := by omega
      have j1 : (j : Int) < (m : Int) := by omega
      obtain ⟨x, hx⟩ := get_of HRL.out hlt
      obtain ⟨b, o, rfl, hb, c0, c1, hxv⟩ := (H.ro 6 rfl).now.at_ hx
      have HXO := hid (HRN.out x (List.mem_of_getElem? hx))
      have hxn : x.n ≤ 4398046511104 := Nat.le_trans HXO.out.2 HKK.out
      have HXL := hid (show x.vs.length = x.n from hxv.len)
      have HXG := hid hx
      have hxr : Ro wr _ (VlsIn x.A x.n x.vs) := (H.ro 6 rfl).imp fun w2 h2 => h2.2 x (List.mem_of_getElem? hx)
      clear hx hxv
      have K1 := (H.add hxr).alloc_cst #[.int .i64 x.id, .slice x.A x.n x.c] 119
      clear H hxr
      obtain ⟨gr, hgr⟩ : ∃ gr, gr = wr.heap.size := ⟨_, rfl⟩
      rw [← hgr] at K1
      have F1 := K1.facts
      simp only [World.size_alloc, World.size_drew, factsL, cellsF, Nat.reduceAdd, List.toList_toArray, List.set_cons_zero, List.set_cons_succ, List.setIfInBounds_toArray, and_true, true_and] at F1
      go_wp2_with fail
      rw [← hgr]
      have HGR := hid hgr
      clear hgr c0 c1 F1
      obtain ⟨KL, hKL, KN⟩ := K1.name
      have HF : Hid (∀ wv, Hold M none w wv KL → wv.cell? ⟨gr, 0, none⟩ = some (.int .i64 x.id) ∧ wv.cell? ⟨gr, 1, none⟩ = some (.slice x.A x.n x.c) ∧ gr < wv.heap.size) := hid fun wv HC => by
        rw [hKL] at HC
        have y0 := HC.cst_ 0 rfl
        exact ⟨cell_of_row _ _ 0 _ _ _ y0, cell_of_row _ _ 1 _ _ _ y0, Blk.lt y0⟩
      have HRX : Hid (∀ wv, Hold M none w wv KL → Ro wv (Mut M KL) (VlsIn x.A x.n x.vs)) := hid fun wv HC => by
        rw [hKL] at HC ⊢
        exact HC.ro 1 rfl
      have HKL := hid hKL
      clear hKL K1
      go_wp2_with fail
      refine wp_region_any (by kernel_rfl) ?_
      refine wpAny_hold 8 32 (KL) (spL [(24, VlsSlot (Mut M KL) x.vs), (25, RowSlot (Mut M KL) x.id x.vs), (26, RBoxSlot (Mut M KL) x.id x.vs)]) (by kernel_rfl) (by kernel_rfl) (by kernel_rfl) rfl ?_ (KN.drew) ?_
      · exact stays_cons vlsSlot_mono (stays_cons rowSlot_mono (stays_cons rboxSlot_mono (stays_nil _)))
      simp only [List.take_succ_cons, List.take_zero, List.drop_succ_cons, List.drop_zero, Act.put, List.getElem_toArray, List.getElem_cons_zero, List.getElem_cons_succ, List.setIfInBounds_toArray, List.set_cons_succ, List.set_cons_zero]
      refine dw_val rfl rfl rfl ?_; apply Exists.intro; refine ⟨fun wv HC => ?_, ?_⟩
      ·  go_simp <;> rfl
      simp only [Act.put, List.setIfInBounds_toArray, List.set_cons_succ, List.set_cons_zero]
      refine dw_val rfl rfl rfl ?_; apply Exists.intro; refine ⟨fun wv HC => ?_, ?_⟩
      ·  go_simp <;> rfl
      simp only [Act.put, List.setIfInBounds_toArray, List.set_cons_succ, List.set_cons_zero]
      refine dw_val rfl rfl rfl ?_; apply Exists.intro; refine ⟨fun wv HC => ?_, ?_⟩
      · obtain ⟨f0, f1, f2⟩ := HF.out _ HC; go_simp <;> rfl
      simp only [Act.put, List.setIfInBounds_toArray, List.set_cons_succ, List.set_cons_zero]
      refine dw_val rfl rfl rfl ?_; apply Exists.intro; refine ⟨fun wv HC => ?_, ?_⟩
      ·  go_simp <;> rfl
      simp only [Act.put, List.setIfInBounds_toArray, List.set_cons_succ, List.set_cons_zero]
      refine dw_val rfl rfl rfl ?_; apply Exists.intro; refine ⟨fun wv HC => ?_, ?_⟩
      · obtain ⟨f0, f1, f2⟩ := HF.out _ HC; go_simp <;> rfl
      simp only [Act.put, List.setIfInBounds_toArray, List.set_cons_succ, List.set_cons_zero]
      refine dw_callR 24 (VlsSlot (Mut M KL) x.vs) (f := 149) (args := #[.slice x.A x.n x.c]) rfl rfl rfl rfl (fun wv => ?_) (fun wv HC hrm hD => ?_) ?_
      · go_simp <;> rfl
      · refine (cloneVls_any _ wv HC.mutLt x.A x.n x.c x.vs (HRX.out _ HC) hxn).mono ?_
        rintro e w5 ⟨A5, n5, c5, rfl, h50, h51, h52, h53, b5⟩
        exact ⟨_, rfl, ⟨A5, n5, c5, rfl, h50, h51, h52, h53⟩, HC.call b5, RM.below b5⟩
      rintro x_ wx HCx ⟨A5, n5, c5, rfl, h50, h51, h52, h53⟩
      simp only [Act.put, List.setIfInBounds_toArray, List.set_cons_succ, List.set_cons_zero]
      have H50 := hid h50
      clear HCx h53 h50
      refine dw_valC 25 (RowSlot (Mut M KL) x.id x.vs) rfl rfl rfl rfl (.agg #[.int .i64 x.id, .slice A5 n5 c5]) (fun wv HC => ?_) (fun wv HC hD => ?_) ?_
      · go_simp <;> rfl
      · have hsl : VlsSlot (Mut M KL) x.vs (.slice A5 n5 c5) wv := deps_at hD 5 rfl (by kernel_rfl) rfl rfl
        obtain ⟨A6, n6, c6, e6, h1, h2, h3, h4⟩ := hsl
        exact ⟨A6, n6, c6, by rw [e6], h1, h2, h3, h4⟩
      simp only [Act.put, List.setIfInBounds_toArray, List.set_cons_succ, List.set_cons_zero]
      refine dw_new #[.int .i64 x.id, .slice A5 n5 c5] 119 26 (RBoxSlot (Mut M KL) x.id x.vs) (fun g => .slice (some ⟨g, 0, none⟩) 1 1) rfl rfl rfl rfl (fun wv => ?_) (fun wv HC _hrm hD hro => ?_) ?_
      · go_simp <;> rfl
      · have hsl : RowSlot (Mut M KL) x.id x.vs (.agg #[.int .i64 x.id, .slice A5 n5 c5]) wv := deps_at hD 6 rfl (by kernel_rfl) rfl rfl
        obtain ⟨A6, n6, c6, e6, h1, h2, h3, h4⟩ := hsl
        obtain ⟨rfl, rfl, rfl⟩ : A5 = A6 ∧ n5 = n6 ∧ c5 = c6 := by
          injection e6 with e6
          simp at e6
          exact e6
        exact ⟨_, A5, n5, c5, rfl, h1, h2, h3, h4.step (by simp) (fun b hb _ => Below.heap_alloc wv _ b hb) (fun _ _ h => h), ro_block (hro _ HC.mutLt) rfl⟩
      rintro g2 wg HCg hsl
      simp only [Act.put, List.setIfInBounds_toArray, List.set_cons_succ, List.set_cons_zero]
      clear hsl HCg
      refine rel_nil ?_
      rintro wx2 HX
      rintro _hrm HGW
      have hb2 : RBoxSlot (Mut M KL) x.id x.vs (.slice (some ⟨g2, 0, none⟩) 1 1) wx2 := (GW_on (d := 26) rfl).1 (HGW 7 _ rfl (by omega))
      clear HGW _hrm
      obtain ⟨g3, A6, n6, c6, e6, k0_, k1_, k2_, k3_, k4_⟩ := hb2
      obtain rfl : g2 = g3 := by injection e6 with e6; injection e6 with e6; injection e6
      clear e6
      rw [HKL.out] at HX k3_
      have k5 := hid k4_.now
      have HK0 := hid k0_
      clear k4_ k0_ HF HRX KN
      have HRS := hid (show rwCells outs ++ [.int .i64 x.id, .slice A6 n6 c6] = rwCells (outs ++ [⟨x.id, A6, n6, c6, x.vs⟩]) from rwCells_snoc1 _ _ _ _ _ _)
      have KA := HX.add k3_
      clear HX k3_
      have FKA := KA.facts
      simp only [World.size_alloc, World.size_drew, factsL, cellsF, Nat.reduceAdd, List.toList_toArray, List.set_cons_zero, List.set_cons_succ, List.setIfInBounds_toArray, and_true, true_and] at FKA
      go_wp2_with (at_builtin; go_must (refine wpList_appAllH KA 3 rfl Tryz.elRw k5.out rfl (.tmp 19) (.tmp 26) rfl rfl rfl (by intro z hz; simp at hz; rcases hz with rfl | rfl <;> rfl) (by omega) (by omega) ?_); intro C' cap' w6 hc6 hm6 KB; rw [HRS.out] at KB; simp only [List.set_cons_zero, List.set_cons_succ] at KB; (have F3 := KB.facts); simp only [World.size_alloc, World.size_drew, factsL, cellsF, Nat.reduceAdd, List.toList_toArray, List.set_cons_zero, List.set_cons_succ, List.setIfInBounds_toArray, and_true, true_and] at F3)
      have KE := (KB.swapRo 4 rfl (vals_snoc (r := ⟨x.id, A6, n6, c6, x.vs⟩) (KB.ro 4 rfl) (KB.ro 0 rfl))).drop (List.Sublist.cons _ (List.Sublist.cons _ (List.sublist_cons_self _ _)))
      have HW2 := hid (rowsCopy_step (A := A6) HW.out HXG.out HXO.out k1_ k2_ (by rw [HK0.out, HXL.out]; exact HXO.out.2))
      go_roundw
      case rel => exact ⟨j + 1, cap', C', _, by omega, by go_num, by first | rfl | trivial, HW2, KE⟩
      case measure => simp [intOf]; omega
    · obtain rfl : m = j := by omega
      have hd : decide ((m : Int) < (m : Int)) = false := by simp
      have F := H.facts
      simp only [World.size_alloc, World.size_drew, factsL, cellsF, Nat.reduceAdd, List.toList_toArray, List.set_cons_zero, List.set_cons_succ, List.setIfInBounds_toArray, and_true, true_and] at F
      have N := H.nes
      simp only [World.size_alloc, nesL, neF, List.set_cons_zero, List.set_cons_succ, and_true, true_and] at N
      have hcap := own_caps (H.get 0 rfl)
      have KS := H.sealRow 0 rfl
      simp only [List.set_cons_zero] at KS
      have KN := ((((KS.store 4 rfl 3 (.slice O m cap)).store 3 rfl 0 (.string nm)).store 3 rfl 1 (.slice C9 n9 cap9)).store 3 rfl 2 (.int .i64 nx)).store 3 rfl 3 (.slice O m cap)
      have r0 := KN.roOut 2 rfl
      have r1 := (KN.roOut 0 rfl).and (KN.roOut 1 rfl)
      have HW2 := hid (show outs.map Rw.row = l.map Rw.row by have h := HW.out.1; rwa [List.take_of_length_le (by rw [HRL.out]; exact Nat.le_refl _)] at h)
      go_wp2_with fail
      exact bodyPost_ret (v := .agg #[.string nm, .slice C9 n9 cap9, .int .i64 nx, .slice O m cap]) (by simp [results, Tryz.results93, go_sem, F, N]) rfl ⟨⟨nm, C9, n9, cap9, cs, nx, O, m, cap, outs⟩, rfl, by simp only [Te.tb, HW2.out], ⟨hc9, hm9, hcap.1, hcap.2.1, fun r hr => (HW.out.2 r hr).1⟩, r0.and r1, KN.below⟩
set_option maxHeartbeats 4000000 in
set_option maxRecDepth 100000 in
theorem rtcopyT_any (M : Nat → Prop) (w : World) (hM : ∀ b, M b → b < w.heap.size) (nm : ByteArray) (A : Option Addr) (n c : Nat) (cs : List Col) (nx : Int) (B : Option Addr) (m d K : Nat) (l : List Rw) (hC : Ro w M (ColsIn A n cs)) (hE : Ro w M (RwsIn B m l)) (hn : n ≤ 4398046511104) (hm : m ≤ 1000000) (hK : K ≤ 4398046511104) (hrn : ∀ r ∈ l, r.ok ∧ r.n ≤ K) :
    Calls Tryz.prog 74 #[.agg #[.string nm, .slice A n c, .int .i64 nx, .slice B m d]] w fun e w' => TeRet w M ⟨nm, cs, nx, l.map Rw.row⟩ e w' := by
  have HRL := hid hE.now.len
  have HRN := hid hrn
  have HKK := hid hK
  clear hrn hK
  have K0 := ((((Hold.start M w hM).add (hE.less (by simp [Mut]))).add (hC.less (by simp [Mut, Hp.foot]))).alloc #[.string nm, .slice A n c, .int .i64 nx, .slice B m d] 58).alloc #[.string ⟨#[]⟩, .slice none 0 0, .int .i64 0, .slice none 0 0] 58
  rw [World.size_alloc] at K0
  clear hC hE
  have F0 := K0.facts
  simp only [World.size_alloc, World.size_drew, factsL, cellsF, Nat.reduceAdd, List.toList_toArray, List.set_cons_zero, List.set_cons_succ, List.setIfInBounds_toArray, and_true, true_and] at F0
  have KN := K0.nil 147 4
  have k5 := hid ((K0.ro 2 rfl).now)
  go_enter Tryz.func74, Tryz.ntmps74
  go_wp2_with (at_builtin; go_must (refine wpList_appAllH KN 0 rfl Tryz.elCol k5.out rfl (.const (.slice none 0 0)) (.tmp 8) rfl rfl rfl (one_cols _) (by omega) (by omega) ?_); intro C9 cap9 w9 hc9 hm9 KB; (try simp only [Nat.zero_add] at hc9 ⊢); simp only [Nat.zero_add, List.nil_append, List.set_cons_zero, List.set_cons_succ] at KB; (have FB := KB.facts); simp only [World.size_alloc, World.size_drew, factsL, cellsF, Nat.reduceAdd, List.toList_toArray, List.set_cons_zero, List.set_cons_succ, List.setIfInBounds_toArray, and_true, true_and] at FB)
  have KC := (KB.sealRow 0 rfl).store 2 rfl 1 (.slice C9 n cap9)
  simp only [List.set_cons_zero, List.set_cons_succ, List.setIfInBounds_toArray] at KC
  have KD := (KC.add (ro_vals_nil _ _)).nil 119 2
  have FD := KD.facts
  simp only [World.size_alloc, World.size_drew, factsL, cellsF, Nat.reduceAdd, List.toList_toArray, List.set_cons_zero, List.set_cons_succ, List.setIfInBounds_toArray, and_true, true_and] at FD
  clear K0 KN F0 k5 KB KC
  go_wp2_with fail
  generalize World.setCell _ _ _ = w10 at KD ⊢
  clear FB FD
  obtain ⟨g1, hg1⟩ : ∃ g1, g1 = w.heap.size := ⟨_, rfl⟩
  obtain ⟨g2, hg2⟩ : ∃ g2, g2 = g1 + 1 := ⟨_, rfl⟩
  rw [← hg1, ← hg2] at KD ⊢
  have HG1 := hid hg1
  clear hg1 hg2
  go_loopw [3, 15] (fun ov iv wr => ∃ (j cap : Nat) (O : Option Addr) (outs : List Rw), j ≤ m ∧ iv = .int .i64 j ∧ ov = .slice O j cap ∧ Hid (outs.map Rw.row = (l.take j).map Rw.row ∧ ∀ r ∈ outs, r.ok ∧ r.n ≤ K) ∧ Hold M none w wr [.own 119 2 (.slice O j cap) j (rwCells outs), .ro (ValsIn outs), .ro (ColsIn C9 n cs), .blk g2 58 #[.string ⟨#[]⟩, .slice none 0 0, .int .i64 0, .slice none 0 0], .blk g1 58 #[.string nm, .slice C9 n cap9, .int .i64 nx, .slice B m d], .ro (ColsIn A n cs), .ro (RwsIn B m l)]) (fun _ iv _ => m - (intOf iv).toNat)
  case atStart => exact ⟨0, 0, none, [], by omega, rfl, rfl, hid ⟨rfl, fun r hr => nomatch hr⟩, KD⟩
  case round =>
    clear KD
    obtain ⟨j, cap, O, outs, hj, rfl, rfl, HW, H⟩ := hrel
    by_cases hlt : j < m
    · have hd : decide ((j : Int) < (m : Int)) = true := by simp; omega
      have j0 : (0 : Int) ≤ (j : Int) := by omega
      have j1 : (j : Int) < (m : Int) := by omega
      obtain ⟨x, hx⟩ := get_of HRL.out hlt
      obtain ⟨b, o, rfl, hb, c0, c1, hxv⟩ := (H.ro 6 rfl).now.at_ hx
      have HXO := hid (HRN.out x (List.mem_of_getElem? hx))
      have hxn : x.n ≤ 4398046511104 := Nat.le_trans HXO.out.2 HKK.out
      have HXL := hid (show x.vs.length = x.n from hxv.len)
      have HXG := hid hx
      have hxr : Ro wr _ (VlsIn x.A x.n x.vs) := (H.ro 6 rfl).imp fun w2 h2 => h2.2 x (List.mem_of_getElem? hx)
      clear hx hxv
      have K1 := (H.add hxr).alloc_cst #[.int .i64 x.id, .slice x.A x.n x.c] 119
      clear H hxr
      obtain ⟨gr, hgr⟩ : ∃ gr, gr = wr.heap.size := ⟨_, rfl⟩
      rw [← hgr] at K1
      have F1 := K1.facts
      simp only [World.size_alloc, World.size_drew, factsL, cellsF, Nat.reduceAdd, List.toList_toArray, List.set_cons_zero, List.set_cons_succ, List.setIfInBounds_toArray, and_true, true_and] at F1
      go_wp2_with fail
      rw [← hgr]
      have HGR := hid hgr
      clear hgr c0 c1 F1
      obtain ⟨KL, hKL, KN⟩ := K1.name
      have HF : Hid (∀ wv, Hold M none w wv KL → wv.cell? ⟨gr, 0, none⟩ = some (.int .i64 x.id) ∧ wv.cell? ⟨gr, 1, none⟩ = some (.slice x.A x.n x.c) ∧ gr < wv.heap.size) := hid fun wv HC => by
        rw [hKL] at HC
        have y0 := HC.cst_ 0 rfl
        exact ⟨cell_of_row _ _ 0 _ _ _ y0, cell_of_row _ _ 1 _ _ _ y0, Blk.lt y0⟩
      have HRX : Hid (∀ wv, Hold M none w wv KL → Ro wv (Mut M KL) (VlsIn x.A x.n x.vs)) := hid fun wv HC => by
        rw [hKL] at HC ⊢
        exact HC.ro 1 rfl
      have HKL := hid hKL
      clear hKL K1
      go_wp2_with fail
      refine wp_region_any (by kernel_rfl) ?_
      refine wpAny_hold 8 32 (KL) (spL [(24, VlsSlot (Mut M KL) x.vs), (25, RowSlot (Mut M KL) x.id x.vs), (26, RBoxSlot (Mut M KL) x.id x.vs)]) (by kernel_rfl) (by kernel_rfl) (by kernel_rfl) rfl ?_ (KN.drew) ?_
      · exact stays_cons vlsSlot_mono (stays_cons rowSlot_mono (stays_cons rboxSlot_mono (stays_nil _)))
      simp only [List.take_succ_cons, List.take_zero, List.drop_succ_cons, List.drop_zero, Act.put, List.getElem_toArray, List.getElem_cons_zero, List.getElem_cons_succ, List.setIfInBounds_toArray, List.set_cons_succ, List.set_cons_zero]
      refine dw_val rfl rfl rfl ?_; apply Exists.intro; refine ⟨fun wv HC => ?_, ?_⟩
      ·  go_simp <;> rfl
      simp only [Act.put, List.setIfInBounds_toArray, List.set_cons_succ, List.set_cons_zero]
      refine dw_val rfl rfl rfl ?_; apply Exists.intro; refine ⟨fun wv HC => ?_, ?_⟩
      ·  go_simp <;> rfl
      simp only [Act.put, List.setIfInBounds_toArray, List.set_cons_succ, List.set_cons_zero]
      refine dw_val rfl rfl rfl ?_; apply Exists.intro; refine ⟨fun wv HC => ?_, ?_⟩
      · obtain ⟨f0, f1, f2⟩ := HF.out _ HC; go_simp <;> rfl
      simp only [Act.put, List.setIfInBounds_toArray, List.set_cons_succ, List.set_cons_zero]
      refine dw_val rfl rfl rfl ?_; apply Exists.intro; refine ⟨fun wv HC => ?_, ?_⟩
      ·  go_simp <;> rfl
      simp only [Act.put, List.setIfInBounds_toArray, List.set_cons_succ, List.set_cons_zero]
      refine dw_val rfl rfl rfl ?_; apply Exists.intro; refine ⟨fun wv HC => ?_, ?_⟩
      · obtain ⟨f0, f1, f2⟩ := HF.out _ HC; go_simp <;> rfl
      simp only [Act.put, List.setIfInBounds_toArray, List.set_cons_succ, List.set_cons_zero]
      refine dw_callR 24 (VlsSlot (Mut M KL) x.vs) (f := 56) (args := #[.slice x.A x.n x.c]) rfl rfl rfl rfl (fun wv => ?_) (fun wv HC hrm hD => ?_) ?_
      · go_simp <;> rfl
      · refine (copyVls_any _ wv HC.mutLt x.A x.n x.c x.vs (HRX.out _ HC) hxn).mono ?_
        rintro e w5 ⟨A5, n5, c5, rfl, h50, h51, h52, h53, b5⟩
        exact ⟨_, rfl, ⟨A5, n5, c5, rfl, h50, h51, h52, h53⟩, HC.call b5, RM.below b5⟩
      rintro x_ wx HCx ⟨A5, n5, c5, rfl, h50, h51, h52, h53⟩
      simp only [Act.put, List.setIfInBounds_toArray, List.set_cons_succ, List.set_cons_zero]
      have H50 := hid h50
      clear HCx h53 h50
      refine dw_valC 25 (RowSlot (Mut M KL) x.id x.vs) rfl rfl rfl rfl (.agg #[.int .i64 x.id, .slice A5 n5 c5]) (fun wv HC => ?_) (fun wv HC hD => ?_) ?_
      · go_simp <;> rfl
      · have hsl : VlsSlot (Mut M KL) x.vs (.slice A5 n5 c5) wv := deps_at hD 5 rfl (by kernel_rfl) rfl rfl
        obtain ⟨A6, n6, c6, e6, h1, h2, h3, h4⟩ := hsl
        exact ⟨A6, n6, c6, by rw [e6], h1, h2, h3, h4⟩
      simp only [Act.put, List.setIfInBounds_toArray, List.set_cons_succ, List.set_cons_zero]
      refine dw_new #[.int .i64 x.id, .slice A5 n5 c5] 119 26 (RBoxSlot (Mut M KL) x.id x.vs) (fun g => .slice (some ⟨g, 0, none⟩) 1 1) rfl rfl rfl rfl (fun wv => ?_) (fun wv HC _hrm hD hro => ?_) ?_
      · go_simp <;> rfl
      · have hsl : RowSlot (Mut M KL) x.id x.vs (.agg #[.int .i64 x.id, .slice A5 n5 c5]) wv := deps_at hD 6 rfl (by kernel_rfl) rfl rfl
        obtain ⟨A6, n6, c6, e6, h1, h2, h3, h4⟩ := hsl
        obtain ⟨rfl, rfl, rfl⟩ : A5 = A6 ∧ n5 = n6 ∧ c5 = c6 := by
          injection e6 with e6
          simp at e6
          exact e6
        exact ⟨_, A5, n5, c5, rfl, h1, h2, h3, h4.step (by simp) (fun b hb _ => Below.heap_alloc wv _ b hb) (fun _ _ h => h), ro_block (hro _ HC.mutLt) rfl⟩
      rintro g2 wg HCg hsl
      simp only [Act.put, List.setIfInBounds_toArray, List.set_cons_succ, List.set_cons_zero]
      clear hsl HCg
      refine rel_nil ?_
      rintro wx2 HX
      rintro _hrm HGW
      have hb2 : RBoxSlot (Mut M KL) x.id x.vs (.slice (some ⟨g2, 0, none⟩) 1 1) wx2 := (GW_on (d := 26) rfl).1 (HGW 7 _ rfl (by omega))
      clear HGW _hrm
      obtain ⟨g3, A6, n6, c6, e6, k0_, k1_, k2_, k3_, k4_⟩ := hb2
      obtain rfl : g2 = g3 := by injection e6 with e6; injection e6 with e6; injection e6
      clear e6
      rw [HKL.out] at HX k3_
      have k5 := hid k4_.now
      have HK0 := hid k0_
      clear k4_ k0_ HF HRX KN
      have HRS := hid (show rwCells outs ++ [.int .i64 x.id, .slice A6 n6 c6] = rwCells (outs ++ [⟨x.id, A6, n6, c6, x.vs⟩]) from rwCells_snoc1 _ _ _ _ _ _)
      have KA := HX.add k3_
      clear HX k3_
      have FKA := KA.facts
      simp only [World.size_alloc, World.size_drew, factsL, cellsF, Nat.reduceAdd, List.toList_toArray, List.set_cons_zero, List.set_cons_succ, List.setIfInBounds_toArray, and_true, true_and] at FKA
      go_wp2_with (at_builtin; go_must (refine wpList_appAllH KA 3 rfl Tryz.elRw k5.out rfl (.tmp 19) (.tmp 26) rfl rfl rfl (by intro z hz; simp at hz; rcases hz with rfl | rfl <;> rfl) (by omega) (by omega) ?_); intro C' cap' w6 hc6 hm6 KB; rw [HRS.out] at KB; simp only [List.set_cons_zero, List.set_cons_succ] at KB; (have F3 := KB.facts); simp only [World.size_alloc, World.size_drew, factsL, cellsF, Nat.reduceAdd, List.toList_toArray, List.set_cons_zero, List.set_cons_succ, List.setIfInBounds_toArray, and_true, true_and] at F3)
      have KE := (KB.swapRo 4 rfl (vals_snoc (r := ⟨x.id, A6, n6, c6, x.vs⟩) (KB.ro 4 rfl) (KB.ro 0 rfl))).drop (List.Sublist.cons _ (List.Sublist.cons _ (List.sublist_cons_self _ _)))
      have HW2 := hid (rowsCopy_step (A := A6) HW.out HXG.out HXO.out k1_ k2_ (by rw [HK0.out, HXL.out]; exact HXO.out.2))
      go_roundw
      case rel => exact ⟨j + 1, cap', C', _, by omega, by go_num, by first | rfl | trivial, HW2, KE⟩
      case measure => simp [intOf]; omega
    · obtain rfl : m = j := by omega
      have hd : decide ((m : Int) < (m : Int)) = false := by simp
      have F := H.facts
      simp only [World.size_alloc, World.size_drew, factsL, cellsF, Nat.reduceAdd, List.toList_toArray, List.set_cons_zero, List.set_cons_succ, List.setIfInBounds_toArray, and_true, true_and] at F
      have N := H.nes
      simp only [World.size_alloc, nesL, neF, List.set_cons_zero, List.set_cons_succ, and_true, true_and] at N
      have hcap := own_caps (H.get 0 rfl)
      have KS := H.sealRow 0 rfl
      simp only [List.set_cons_zero] at KS
      have KN := ((((KS.store 4 rfl 3 (.slice O m cap)).store 3 rfl 0 (.string nm)).store 3 rfl 1 (.slice C9 n cap9)).store 3 rfl 2 (.int .i64 nx)).store 3 rfl 3 (.slice O m cap)
      have r0 := KN.roOut 2 rfl
      have r1 := (KN.roOut 0 rfl).and (KN.roOut 1 rfl)
      have HW2 := hid (show outs.map Rw.row = l.map Rw.row by have h := HW.out.1; rwa [List.take_of_length_le (by rw [HRL.out]; exact Nat.le_refl _)] at h)
      go_wp2_with fail
      exact bodyPost_ret (v := .agg #[.string nm, .slice C9 n cap9, .int .i64 nx, .slice O m cap]) (by simp [results, Tryz.results74, go_sem, F, N]) rfl ⟨⟨nm, C9, n, cap9, cs, nx, O, m, cap, outs⟩, rfl, by simp only [Te.tb, HW2.out], ⟨hc9, hm9, hcap.1, hcap.2.1, fun r hr => (HW.out.2 r hr).1⟩, r0.and r1, KN.below⟩
end Go.Proofs.YtedogodccblfeaaGreatDoor

namespace Go.Proofs.YtedogodccblfeaaGreatDoor
open Go.RowKit
set_option linter.unusedVariables false
set_option linter.unusedSimpArgs false

theorem Tryz.elIntC : ElemT Tryz.prog 22 3 1 8 (.int .i64 0) := ⟨Tryz.underlying22, by kernel_rfl, rfl, by omega⟩
def OwnIs (w : World) (l : List Int) (e : Ending) (w' : World) : Prop :=
  ∃ (A : Option Addr) (n c : Nat), e = .returned (.slice A n c) ∧ n = l.length ∧ w'.ownsRow w.heap.size 3 1 (.slice A n c) n (iCells l) ∧ Below w.heap.size w w'
theorem one_is (l : List Int) : ∀ u ∈ iCells l, u.oneCell' = true := fun u hu => by
  obtain ⟨x, _, rfl⟩ := List.mem_map.1 hu
  rfl
set_option maxHeartbeats 4000000 in
set_option maxRecDepth 100000 in
theorem scloneI_any (w : World) (A : Option Addr) (n c : Nat) (l : List Int) (hD : IsIn A n l w) (hn : n ≤ 1000000000000) :
    Calls Tryz.prog 187 #[.slice A n c] w fun e w' => OwnIs w l e w' := by
  have hl := hid hD.len
  have hq : ∀ (w : World) (a : Option Addr) (n c : Nat), (binOp .eql 22 (.slice a n c) (.slice none 0 0)).run Tryz.prog w = .ok (.bool a.isNone) w := fun w a n c => Go.Lib.run_eql_slice_nil w _ _ a n c 0 0 Tryz.underlying22
  rcases A with _ | a
  · have h0 : n = 0 := by
      rcases Nat.eq_zero_or_pos n with h | h
      · exact h
      · obtain ⟨_, _, e, _⟩ := (show Rd w w.heap.size 1 none n (iCells l) from hD).2 h; cases e
    subst h0
    obtain rfl : l = [] := List.length_eq_zero_iff.1 hl.out
    go_enter Tryz.func187, Tryz.ntmps187
    go_wp2_with fail
    go_ret
    exact ⟨none, 0, 0, rfl, rfl, World.ownsRow_nil _ _ _ _, Below.refl _ _⟩
  · have K0 := (Hold.start None_ w (fun b hb => hb.elim)).add (show Ro w _ (IsIn (some a) n l) from Rd.ro hD (Nat.le_refl _) (by simp [Mut, None_]))
    have K1 := K0.alloc_own #[] 3 1 0 (by unfold maxLen; omega) rfl
    have hr := hid (show IsIn (some a) n l _ from (K1.ro 1 rfl).now)
    have h1 := hid (one_is l)
    go_enter Tryz.func187, Tryz.ntmps187
    go_wp2_with (at_builtin; go_must (refine wpList_appAllH K1 0 rfl Tryz.elIntC hr.out rfl (.tmp 5) (.tmp 6) rfl rfl rfl h1.out (by omega) (by omega) ?_); intro C' cap' w2 hc1 hm1 K2)
    go_ret
    have hb := K2.below
    have ho := K2.get 0 rfl
    simp only [Nat.zero_add, List.nil_append] at ho
    exact ⟨C', n, cap', by first | rfl | simp, hl.out.symm, ho, hb⟩
end Go.Proofs.YtedogodccblfeaaGreatDoor

namespace Go.Proofs.YtedogodccblfeaaGreatDoor
open Go.RowKit
set_option linter.unusedVariables false
set_option linter.unusedSimpArgs false

theorem Tryz.elTe : ElemT Tryz.prog 29 58 4 72 (.agg #[.string ⟨#[]⟩, .slice none 0 0, .int .i64 0, .slice none 0 0]) := ⟨Tryz.underlying29, by kernel_rfl, rfl, by omega⟩
theorem Tryz.elUe : ElemT Tryz.prog 63 129 5 96 (.agg #[.string ⟨#[]⟩, .int .i64 0, .slice none 0 0, .slice none 0 0, .slice none 0 0]) := ⟨Tryz.underlying63, by kernel_rfl, rfl, by omega⟩
def TeLim (x : Te) : Prop := x.n ≤ 4398046511104 ∧ x.m ≤ 1000000 ∧ ∀ r ∈ x.l, r.ok ∧ r.n ≤ 4398046511104
def TeStep (outs l : List Te) (j : Nat) : Prop := outs.map Te.tb = (l.take j).map Te.tb ∧ ∀ y ∈ outs, y.ok
def UeStep (N K : Nat) (outs l : List Ue) (j : Nat) : Prop := outs.map Ue.ud = (l.take j).map Ue.ud ∧ ∀ y ∈ outs, y.good N K
/-- a log handed back in a row of the call's own -/
def UesOwn (w : World) (M : Nat → Prop) (N K : Nat) (us : List Ud) (e : Ending) (w' : World) : Prop := ∃ (A : Option Addr) (n c : Nat) (l : List Ue), e = .returned (.slice A n c) ∧ l.map Ue.ud = us ∧ (∀ x ∈ l, x.good N K) ∧ w'.ownsRow w.heap.size 129 5 (.slice A n c) n (ueCells l) ∧ Ro w' (Mut M [.own 129 5 (.slice A n c) n (ueCells l)]) (UeVals l) ∧ Below w.heap.size w w'
theorem mut_one {M : Nat → Prop} {k : Hp} {L : List Hp} {b : Nat} (h : Mut M [k] b) : Mut M (k :: L) b := by
  rcases h with h | ⟨k2, hk, hf⟩
  · exact .inl h
  · simp only [List.mem_singleton] at hk; subst hk; exact .inr ⟨_, List.mem_cons_self, hf⟩
theorem UesOwn.ret {w : World} {M : Nat → Prop} (hM : ∀ b, M b → b < w.heap.size) {N K : Nat} {us : List Ud} {e : Ending} {w' : World} (h : UesOwn w M N K us e w') : UesRet w M N K us e w' := by
  obtain ⟨A, n, c, l, h1, h2, h3, h4, h5, h6⟩ := h
  have hc := own_caps h4
  exact ⟨A, n, c, l, h1, hc.1, hc.2.1, h2, h3, (show Ro w' M (SlR 5 A n (ueCells l)) from fun w2 a b => Rd.of_own (own_RM hM ⟨a, b⟩ h4)).and (h5.less fun b hb => .inl hb), h6⟩
/-- rows in a slot -/
def RwsSl (M : Nat → Prop) (K : Nat) (rs : List Row) (u : Value) (w : World) : Prop := ∃ (A : Option Addr) (n c : Nat) (l : List Rw), u = .slice A n c ∧ n ≤ c ∧ c ≤ 9223372036854775807 ∧ l.map Rw.row = rs ∧ (∀ r ∈ l, r.ok ∧ r.n ≤ K) ∧ Ro w M (RwsIn A n l)
theorem rwsSl_mono {M : Nat → Prop} {K : Nat} {rs : List Row} (u : Value) (w w' : World) (hr : RM M w w') (h : RwsSl M K rs u w) : RwsSl M K rs u w' := by
  obtain ⟨A, n, c, l, h1, h2, h3, h4, h5, h6⟩ := h
  exact ⟨A, n, c, l, h1, h2, h3, h4, h5, hr.ro h6⟩
set_option maxHeartbeats 4000000 in
set_option maxRecDepth 100000 in
theorem copies_any (M : Nat → Prop) (w : World) (hM : ∀ b, M b → b < w.heap.size) (A : Option Addr) (n c : Nat) (l : List Te) (hok : ∀ x ∈ l, TeLim x) (hD : Ro w M (TesIn A n l)) (hn : n ≤ 1000000) :
    Calls Tryz.prog 65 #[.slice A n c] w fun e w' => TesRet w M (l.map Te.tb) e w' := by
  have HL := hid hD.now.len
  have HOK := hid hok
  clear hok
  have K0 := (((Hold.start M w hM).add (hD.less (by simp [Mut]))).add (teVals_nil _ _)).nil 58 4
  clear hD
  go_enter Tryz.func65, Tryz.ntmps65
  go_wp2_with fail
  go_loopw [3, 8] (fun ov iv wr => ∃ (j cap : Nat) (O : Option Addr) (outs : List Te), j ≤ n ∧ iv = .int .i64 j ∧ ov = .slice O j cap ∧ Hid (TeStep outs l j) ∧ Hold M none w wr [.own 58 4 (.slice O j cap) j (teCells outs), .ro (TeVals outs), .ro (TesIn A n l)]) (fun _ iv _ => n - (intOf iv).toNat)
  case atStart => exact ⟨0, 0, none, [], by omega, rfl, rfl, hid ⟨rfl, fun r hr => nomatch hr⟩, K0⟩
  case round =>
    clear K0
    obtain ⟨j, cap, O, outs, hj, rfl, rfl, HW, H⟩ := hrel
    by_cases hlt : j < n
    · have hd : decide ((j : Int) < (n : Int)) = true := by simp; omega
      have j0 : (0 : Int) ≤ (j : Int) := by omega
      have j1 : (j : Int) < (n : Int) := by omega
      obtain ⟨x, hx⟩ := get_of HL.out hlt
      obtain ⟨g, o, rfl, hb, c0, c1, c2, c3, -⟩ := (H.ro 2 rfl).now.at_ hx
      have HXO := hid (HOK.out x (List.mem_of_getElem? hx))
      have HXM := hid (List.mem_of_getElem? hx)
      have HXG := hid hx
      clear hx
      have K1 := H.alloc_cst #[.string x.nm, .slice x.A x.n x.c, .int .i64 x.nx, .slice x.B x.m x.d] 58
      have FA := K1.facts
      simp only [World.size_alloc, World.size_drew, factsL, cellsF, Nat.reduceAdd, List.toList_toArray, List.set_cons_zero, List.set_cons_succ, List.setIfInBounds_toArray, and_true, true_and] at FA
      clear H
      go_wp2_with fail
      refine (scopied_any _ _ K1.mutLt x.nm x.A x.n x.c x.cs x.nx x.B x.m x.d 4398046511104 x.l ((K1.ro 3 rfl).imp fun w2 h2 => (h2.2 x HXM.out).1) ((K1.ro 3 rfl).imp fun w2 h2 => (h2.2 x HXM.out).2) HXO.out.1 HXO.out.2.1 (by omega) HXO.out.2.2).mono ?_
      rintro e w5 ⟨y, rfl, hy, hyo, ry, b5⟩
      have hv : y.val = .agg #[.string y.nm, .slice y.A y.n y.c, .int .i64 y.nx, .slice y.B y.m y.d] := rfl
      rw [hv]
      clear hv
      have K2 := (K1.call b5).add ry
      have HS2 := hid (show TeStep (outs ++ [y]) l (j + 1) from ⟨by rw [List.map_append, HW.out.1, List.take_add_one, HXG.out, List.map_append]; exact congrArg _ (congrArg (fun z => [z]) hy), fun z hz => by
        rcases List.mem_append.1 hz with hz | hz
        · exact HW.out.2 z hz
        · simp at hz; subst hz; exact hyo⟩)
      clear b5 ry K1 FA hy hyo
      go_wp2_with (at_builtin; go_must (refine wpList_appH K2 2 rfl Tryz.elTe #[.string y.nm, .slice y.A y.n y.c, .int .i64 y.nx, .slice y.B y.m y.d] rfl (.tmp 12) (.tmp 15) rfl rfl _ (by first | rfl | simp) rfl rfl (by intro u hu; simp at hu; rcases hu with rfl | rfl | rfl | rfl <;> rfl) (by omega) (by omega) ?_); intro g9 cap9 w9 hc9 hm9 KB; simp only [List.set_cons_zero, List.set_cons_succ] at KB)
      have e9 : teCells outs ++ (#[.string y.nm, .slice y.A y.n y.c, .int .i64 y.nx, .slice y.B y.m y.d]).toList = teCells (outs ++ [y]) := (teCells_snoc outs y).symm
      rw [e9] at KB
      have KC := (KB.swapRo 3 rfl (teVals_snoc (r := y) (KB.ro 3 rfl) (KB.ro 0 rfl))).drop (List.Sublist.cons _ (List.sublist_cons_self _ _))
      go_roundw
      case rel => exact ⟨j + 1, cap9, _, _, by omega, by go_num, by first | rfl | trivial, HS2, KC⟩
      case measure => simp [intOf]; omega
    · obtain rfl : n = j := by omega
      have hd : decide ((n : Int) < (n : Int)) = false := by simp
      have hcap := own_caps (H.get 0 rfl)
      have KS := H.sealRow 0 rfl
      simp only [List.set_cons_zero] at KS
      have r1 := (KS.roOut 0 rfl).and (KS.roOut 1 rfl)
      have HW2 := hid (show outs.map Te.tb = l.map Te.tb by have h := HW.out.1; rwa [List.take_of_length_le (by rw [HL.out]; exact Nat.le_refl _)] at h)
      go_wp2_with fail
      go_ret
      exact ⟨O, n, cap, outs, rfl, hcap.1, hcap.2.1, HW2.out, HW.out.2, r1, KS.below⟩
set_option maxHeartbeats 4000000 in
set_option maxRecDepth 100000 in
theorem sundo_any (M : Nat → Prop) (w : World) (hM : ∀ b, M b → b < w.heap.size) (x : Ue) (N K : Nat) (hg : x.good N K) (hN : N ≤ 1000000) (hK : K ≤ 4398046511104) (hU : Ro w M (UeIn x)) :
    Calls Tryz.prog 137 #[.agg #[.string x.nm, .int .i64 x.nx, .slice x.I x.ni x.ci, .slice x.D x.nd x.cd, .slice x.U x.nu x.cu]] w fun e w' => UeRet w M N K x.ud e w' := by
  have HG := hid hg
  have HKN := hid (And.intro hN hK)
  have hni := Nat.le_trans hg.i hN
  clear hg hN hK
  have K0 := (((Hold.start M w hM).add (hU.less (by simp [Mut]))).alloc #[.string x.nm, .int .i64 x.nx, .slice x.I x.ni x.ci, .slice x.D x.nd x.cd, .slice x.U x.nu x.cu] 129).alloc #[.string ⟨#[]⟩, .int .i64 0, .slice none 0 0, .slice none 0 0, .slice none 0 0] 129
  rw [World.size_alloc] at K0
  clear hU
  have F0 := K0.facts
  simp only [World.size_alloc, World.size_drew, factsL, cellsF, Nat.reduceAdd, List.toList_toArray, List.set_cons_zero, List.set_cons_succ, List.setIfInBounds_toArray, and_true, true_and] at F0
  have HI := hid (show IsIn x.I x.ni x.li _ from (K0.ro 2 rfl).now.1)
  go_enter Tryz.func137, Tryz.ntmps137
  go_wp2_with fail
  refine (scloneI_any _ x.I x.ni x.ci x.li HI.out (by omega)).mono ?_
  rintro e w5 ⟨C9, n9, c9, rfl, hn9, ho9, hb9⟩
  have hcap := own_caps ho9
  have KB := K0.callOwn hb9 ho9
  have HN9 := hid (show n9 = x.ni by rw [hn9]; exact HI.out.len)
  clear K0 F0 HI hb9 ho9 hn9
  have KS := KB.sealRow 0 rfl
  simp only [List.set_cons_zero] at KS
  have FB := KS.facts
  simp only [World.size_alloc, World.size_drew, factsL, cellsF, Nat.reduceAdd, List.toList_toArray, List.set_cons_zero, List.set_cons_succ, List.setIfInBounds_toArray, and_true, true_and] at FB
  have KC := KS.store 2 rfl 2 (.slice C9 n9 c9)
  simp only [List.set_cons_zero, List.set_cons_succ, List.setIfInBounds_toArray] at KC
  have FD := KC.facts
  simp only [World.size_alloc, World.size_drew, factsL, cellsF, Nat.reduceAdd, List.toList_toArray, List.set_cons_zero, List.set_cons_succ, List.setIfInBounds_toArray, and_true, true_and] at FD
  clear KB KS
  go_wp2_with fail
  generalize World.setCell _ _ _ = w10 at KC ⊢
  clear FB FD
  obtain ⟨g1, hg1⟩ : ∃ g1, g1 = w.heap.size := ⟨_, rfl⟩
  obtain ⟨g2, hg2⟩ : ∃ g2, g2 = g1 + 1 := ⟨_, rfl⟩
  rw [← hg1, ← hg2] at KC ⊢
  have HG1 := hid hg1
  clear hg1 hg2
  have KD : Hold M none w w10 [.ro (IsIn C9 n9 x.li), .blk g2 129 #[.string ⟨#[]⟩, .int .i64 0, .slice none 0 0, .slice none 0 0, .slice none 0 0], .blk g1 129 #[.string x.nm, .int .i64 x.nx, .slice C9 n9 c9, .slice x.D x.nd x.cd, .slice x.U x.nu x.cu], .ro (UeIn x)] := KC
  clear KC
  refine wp_region_any (by kernel_rfl) ?_
  refine wpAny_hold 7 16 ([.ro (IsIn C9 n9 x.li), .blk g2 129 #[.string ⟨#[]⟩, .int .i64 0, .slice none 0 0, .slice none 0 0, .slice none 0 0], .blk g1 129 #[.string x.nm, .int .i64 x.nx, .slice C9 n9 c9, .slice x.D x.nd x.cd, .slice x.U x.nu x.cu], .ro (UeIn x)]) (spL [(9, RwsSl (Mut M [.ro (IsIn C9 n9 x.li), .blk g2 129 #[.string ⟨#[]⟩, .int .i64 0, .slice none 0 0, .slice none 0 0, .slice none 0 0], .blk g1 129 #[.string x.nm, .int .i64 x.nx, .slice C9 n9 c9, .slice x.D x.nd x.cd, .slice x.U x.nu x.cu], .ro (UeIn x)]) K (x.ld.map Rw.row)), (12, RwsSl (Mut M [.ro (IsIn C9 n9 x.li), .blk g2 129 #[.string ⟨#[]⟩, .int .i64 0, .slice none 0 0, .slice none 0 0, .slice none 0 0], .blk g1 129 #[.string x.nm, .int .i64 x.nx, .slice C9 n9 c9, .slice x.D x.nd x.cd, .slice x.U x.nu x.cu], .ro (UeIn x)]) K (x.lu.map Rw.row))]) (by kernel_rfl) (by kernel_rfl) (by kernel_rfl) rfl ?_ (KD.drew) ?_
  · exact stays_cons rwsSl_mono (stays_cons rwsSl_mono (stays_nil _))
  simp only [List.take_succ_cons, List.take_zero, List.drop_succ_cons, List.drop_zero, Act.put, List.getElem_toArray, List.getElem_cons_zero, List.getElem_cons_succ, List.setIfInBounds_toArray, List.set_cons_succ, List.set_cons_zero]
  repeat (first | (refine dw_skip rfl rfl rfl ?_; simp only [Act.put, List.setIfInBounds_toArray, List.set_cons_succ, List.set_cons_zero]) | (refine dw_val rfl rfl rfl ?_; apply Exists.intro; refine ⟨fun wv HC => ?_, ?_⟩; (focus (have f3 := cell_of_row _ _ 3 _ _ _ (HC.blk_ 2 rfl); have f4 := cell_of_row _ _ 4 _ _ _ (HC.blk_ 2 rfl); have fl := Blk.lt (HC.blk_ 2 rfl); go_simp <;> rfl; done)); simp only [Act.put, List.setIfInBounds_toArray, List.set_cons_succ, List.set_cons_zero]))
  refine dw_callR 9 (RwsSl (Mut M [.ro (IsIn C9 n9 x.li), .blk g2 129 #[.string ⟨#[]⟩, .int .i64 0, .slice none 0 0, .slice none 0 0, .slice none 0 0], .blk g1 129 #[.string x.nm, .int .i64 x.nx, .slice C9 n9 c9, .slice x.D x.nd x.cd, .slice x.U x.nu x.cu], .ro (UeIn x)]) K (x.ld.map Rw.row)) (f := 193) (args := #[.slice x.D x.nd x.cd]) rfl rfl rfl rfl (fun wv => ?_) (fun wv HC hrm hD => ?_) ?_
  · go_simp <;> rfl
  · refine (srows_any _ wv HC.mutLt x.D x.nd x.cd K x.ld ((HC.ro 3 rfl).imp fun w2 h2 => h2.2.1) (Nat.le_trans HG.out.d HKN.out.1) HKN.out.2 HG.out.ld).mono ?_
    rintro e w5 ⟨A5, n5, c5, l5, rfl, h1, h2, h3, h4, r5, b5⟩
    exact ⟨_, rfl, ⟨A5, n5, c5, l5, rfl, h1, h2, h3, h4, r5⟩, HC.call b5, RM.below b5⟩
  rintro u_ wx HCx ⟨A5, n5, c5, l5, rfl, -, -, -, -, -⟩
  clear HCx
  simp only [Act.put, List.setIfInBounds_toArray, List.set_cons_succ, List.set_cons_zero]
  repeat (first | (refine dw_skip rfl rfl rfl ?_; simp only [Act.put, List.setIfInBounds_toArray, List.set_cons_succ, List.set_cons_zero]) | (refine dw_val rfl rfl rfl ?_; apply Exists.intro; refine ⟨fun wv HC => ?_, ?_⟩; (focus (have f3 := cell_of_row _ _ 3 _ _ _ (HC.blk_ 2 rfl); have f4 := cell_of_row _ _ 4 _ _ _ (HC.blk_ 2 rfl); have fl := Blk.lt (HC.blk_ 2 rfl); go_simp <;> rfl; done)); simp only [Act.put, List.setIfInBounds_toArray, List.set_cons_succ, List.set_cons_zero]))
  refine dw_callR 12 (RwsSl (Mut M [.ro (IsIn C9 n9 x.li), .blk g2 129 #[.string ⟨#[]⟩, .int .i64 0, .slice none 0 0, .slice none 0 0, .slice none 0 0], .blk g1 129 #[.string x.nm, .int .i64 x.nx, .slice C9 n9 c9, .slice x.D x.nd x.cd, .slice x.U x.nu x.cu], .ro (UeIn x)]) K (x.lu.map Rw.row)) (f := 193) (args := #[.slice x.U x.nu x.cu]) rfl rfl rfl rfl (fun wv => ?_) (fun wv HC hrm hD => ?_) ?_
  · go_simp <;> rfl
  · refine (srows_any _ wv HC.mutLt x.U x.nu x.cu K x.lu ((HC.ro 3 rfl).imp fun w2 h2 => h2.2.2) (Nat.le_trans HG.out.u HKN.out.1) HKN.out.2 HG.out.lu).mono ?_
    rintro e w5 ⟨A5, n5, c5, l5, rfl, h1, h2, h3, h4, r5, b5⟩
    exact ⟨_, rfl, ⟨A5, n5, c5, l5, rfl, h1, h2, h3, h4, r5⟩, HC.call b5, RM.below b5⟩
  rintro u_ wx HCx ⟨A6, n6, c6, l6, rfl, -, -, -, -, -⟩
  clear HCx
  simp only [Act.put, List.setIfInBounds_toArray, List.set_cons_succ, List.set_cons_zero]
  repeat (first | (refine dw_skip rfl rfl rfl ?_; simp only [Act.put, List.setIfInBounds_toArray, List.set_cons_succ, List.set_cons_zero]) | (refine dw_val rfl rfl rfl ?_; apply Exists.intro; refine ⟨fun wv HC => ?_, ?_⟩; (focus (have f3 := cell_of_row _ _ 3 _ _ _ (HC.blk_ 2 rfl); have f4 := cell_of_row _ _ 4 _ _ _ (HC.blk_ 2 rfl); have fl := Blk.lt (HC.blk_ 2 rfl); go_simp <;> rfl; done)); simp only [Act.put, List.setIfInBounds_toArray, List.set_cons_succ, List.set_cons_zero]))
  refine rel_nil ?_
  rintro wx2 HX
  rintro _hrm HGW
  have hu1 : RwsSl (Mut M [.ro (IsIn C9 n9 x.li), .blk g2 129 #[.string ⟨#[]⟩, .int .i64 0, .slice none 0 0, .slice none 0 0, .slice none 0 0], .blk g1 129 #[.string x.nm, .int .i64 x.nx, .slice C9 n9 c9, .slice x.D x.nd x.cd, .slice x.U x.nu x.cu], .ro (UeIn x)]) K (x.ld.map Rw.row) (.slice A5 n5 c5) wx2 := (GW_on (d := 9) rfl).1 (HGW 2 _ rfl (by omega))
  have hu2 : RwsSl (Mut M [.ro (IsIn C9 n9 x.li), .blk g2 129 #[.string ⟨#[]⟩, .int .i64 0, .slice none 0 0, .slice none 0 0, .slice none 0 0], .blk g1 129 #[.string x.nm, .int .i64 x.nx, .slice C9 n9 c9, .slice x.D x.nd x.cd, .slice x.U x.nu x.cu], .ro (UeIn x)]) K (x.lu.map Rw.row) (.slice A6 n6 c6) wx2 := (GW_on (d := 12) rfl).1 (HGW 5 _ rfl (by omega))
  clear HGW _hrm KD
  obtain ⟨A7, n7, c7, l7, e7, p1, p2, p3, p4, r7⟩ := hu1
  obtain ⟨A8, n8, c8, l8, e8, q1, q2, q3, q4, r8⟩ := hu2
  obtain ⟨rfl, rfl, rfl⟩ : A5 = A7 ∧ n5 = n7 ∧ c5 = c7 := by injection e7 with a b c; exact ⟨a, b, c⟩
  obtain ⟨rfl, rfl, rfl⟩ : A6 = A8 ∧ n6 = n8 ∧ c6 = c8 := by injection e8 with a b c; exact ⟨a, b, c⟩
  clear e7 e8
  have HB5 := hid (show n5 ≤ N by have h := r7.now.len; have h2 := congrArg List.length p3; rw [List.length_map, List.length_map] at h2; have h3 := HG.out.d; have h4 : x.ld.length = x.nd := (HX.ro 3 rfl).now.2.1.len; omega)
  have HB6 := hid (show n6 ≤ N by have h := r8.now.len; have h2 := congrArg List.length q3; rw [List.length_map, List.length_map] at h2; have h3 := HG.out.u; have h4 : x.lu.length = x.nu := (HX.ro 3 rfl).now.2.2.len; omega)
  have K3 := (HX.add r7).add (r8.less (by simp [Mut, Hp.foot]))
  clear HX r7 r8
  have F := K3.facts
  simp only [World.size_alloc, World.size_drew, factsL, cellsF, Nat.reduceAdd, List.toList_toArray, List.set_cons_zero, List.set_cons_succ, List.setIfInBounds_toArray, and_true, true_and] at F
  have NE := K3.nes
  simp only [World.size_alloc, nesL, neF, List.set_cons_zero, List.set_cons_succ, and_true, true_and] at NE
  have KN := ((((((K3.store 4 rfl 3 (.slice A5 n5 c5)).store 4 rfl 4 (.slice A6 n6 c6)).store 3 rfl 0 (.string x.nm)).store 3 rfl 1 (.int .i64 x.nx)).store 3 rfl 2 (.slice C9 n9 c9)).store 3 rfl 3 (.slice A5 n5 c5)).store 3 rfl 4 (.slice A6 n6 c6)
  have r0 := (KN.roOut 2 rfl).and ((KN.roOut 1 rfl).and (KN.roOut 0 rfl))
  go_wp2_with fail
  exact bodyPost_ret (v := .agg #[.string x.nm, .int .i64 x.nx, .slice C9 n9 c9, .slice A5 n5 c5, .slice A6 n6 c6]) (by simp [results, Tryz.results137, go_sem, F, NE]) rfl
    ⟨⟨x.nm, x.nx, C9, n9, c9, A5, n5, c5, A6, n6, c6, x.li, l7, l8⟩, rfl, by simp only [Ue.ud, p3, q3], ⟨by rw [HN9.out]; exact HG.out.i, HB5.out, HB6.out, ⟨hcap.1, hcap.2.1⟩, ⟨p1, p2⟩, ⟨q1, q2⟩, HG.out.li, p4, q4⟩, r0, KN.below⟩
set_option maxHeartbeats 4000000 in
set_option maxRecDepth 100000 in
theorem scopylog_any (M : Nat → Prop) (w : World) (hM : ∀ b, M b → b < w.heap.size) (A : Option Addr) (n c : Nat) (N K : Nat) (hN : N ≤ 1000000) (hK : K ≤ 4398046511104) (l : List Ue) (hok : ∀ x ∈ l, x.good N K) (hD : Ro w M (UesIn A n l)) (hn : n ≤ 1000000) :
    Calls Tryz.prog 67 #[.slice A n c] w fun e w' => UesOwn w M N K (l.map Ue.ud) e w' := by
  have HL := hid hD.now.len
  have HOK := hid hok
  clear hok
  have K0 := (((Hold.start M w hM).add (hD.less (by simp [Mut]))).add (ueVals_nil _ _)).nil 129 5
  clear hD
  go_enter Tryz.func67, Tryz.ntmps67
  go_wp2_with fail
  go_loopw [3, 8] (fun ov iv wr => ∃ (j cap : Nat) (O : Option Addr) (outs : List Ue), j ≤ n ∧ iv = .int .i64 j ∧ ov = .slice O j cap ∧ Hid (UeStep N K outs l j) ∧ Hold M none w wr [.own 129 5 (.slice O j cap) j (ueCells outs), .ro (UeVals outs), .ro (UesIn A n l)]) (fun _ iv _ => n - (intOf iv).toNat)
  case atStart => exact ⟨0, 0, none, [], by omega, rfl, rfl, hid ⟨rfl, fun r hr => nomatch hr⟩, K0⟩
  case round =>
    clear K0
    obtain ⟨j, cap, O, outs, hj, rfl, rfl, HW, H⟩ := hrel
    by_cases hlt : j < n
    · have hd : decide ((j : Int) < (n : Int)) = true := by simp; omega
      have j0 : (0 : Int) ≤ (j : Int) := by omega
      have j1 : (j : Int) < (n : Int) := by omega
      obtain ⟨x, hx⟩ := get_of HL.out hlt
      obtain ⟨g, o, rfl, hb, c0, c1, c2, c3, c4, -⟩ := (H.ro 2 rfl).now.at_ hx
      have HXO := hid (HOK.out x (List.mem_of_getElem? hx))
      have HXM := hid (List.mem_of_getElem? hx)
      have HXG := hid hx
      clear hx
      have K1 := H.alloc_cst #[.string x.nm, .int .i64 x.nx, .slice x.I x.ni x.ci, .slice x.D x.nd x.cd, .slice x.U x.nu x.cu] 129
      have FA := K1.facts
      simp only [World.size_alloc, World.size_drew, factsL, cellsF, Nat.reduceAdd, List.toList_toArray, List.set_cons_zero, List.set_cons_succ, List.setIfInBounds_toArray, and_true, true_and] at FA
      clear H
      go_wp2_with fail
      refine (sundo_any _ _ K1.mutLt x N K HXO.out hN hK ((K1.ro 3 rfl).imp fun w2 h2 => h2.2 x HXM.out)).mono ?_
      rintro e w5 ⟨y, rfl, hy, hyo, ry, b5⟩
      have hv : y.val = .agg #[.string y.nm, .int .i64 y.nx, .slice y.I y.ni y.ci, .slice y.D y.nd y.cd, .slice y.U y.nu y.cu] := rfl
      rw [hv]
      clear hv
      have K2 := (K1.call b5).add ry
      have HS2 := hid (show UeStep N K (outs ++ [y]) l (j + 1) from ⟨by rw [List.map_append, HW.out.1, List.take_add_one, HXG.out, List.map_append]; exact congrArg _ (congrArg (fun z => [z]) hy), fun z hz => by
        rcases List.mem_append.1 hz with hz | hz
        · exact HW.out.2 z hz
        · simp at hz; subst hz; exact hyo⟩)
      clear b5 ry K1 FA hy hyo
      go_wp2_with (at_builtin; go_must (refine wpList_appH K2 2 rfl Tryz.elUe #[.string y.nm, .int .i64 y.nx, .slice y.I y.ni y.ci, .slice y.D y.nd y.cd, .slice y.U y.nu y.cu] rfl (.tmp 12) (.tmp 15) rfl rfl _ (by first | rfl | simp) rfl rfl (by intro u hu; simp at hu; rcases hu with rfl | rfl | rfl | rfl | rfl <;> rfl) (by omega) (by omega) ?_); intro g9 cap9 w9 hc9 hm9 KB; simp only [List.set_cons_zero, List.set_cons_succ] at KB)
      have e9 : ueCells outs ++ (#[.string y.nm, .int .i64 y.nx, .slice y.I y.ni y.ci, .slice y.D y.nd y.cd, .slice y.U y.nu y.cu]).toList = ueCells (outs ++ [y]) := (ueCells_snoc outs y).symm
      rw [e9] at KB
      have KC := (KB.swapRo 3 rfl (ueVals_snoc (r := y) (KB.ro 3 rfl) (KB.ro 0 rfl))).drop (List.Sublist.cons _ (List.sublist_cons_self _ _))
      go_roundw
      case rel => exact ⟨j + 1, cap9, _, _, by omega, by go_num, by first | rfl | trivial, HS2, KC⟩
      case measure => simp [intOf]; omega
    · obtain rfl : n = j := by omega
      have hd : decide ((n : Int) < (n : Int)) = false := by simp
      have hcap := own_caps (H.get 0 rfl)
      have HW2 := hid (show outs.map Ue.ud = l.map Ue.ud by have h := HW.out.1; rwa [List.take_of_length_le (by rw [HL.out]; exact Nat.le_refl _)] at h)
      have HO := hid (H.get 0 rfl)
      have HR := hid ((H.ro 1 rfl).less (fun b hb => mut_one hb))
      have HB := hid H.below
      clear H hcap
      go_wp2_with fail
      go_ret
      exact ⟨O, n, cap, outs, rfl, HW2.out, HW.out.2, HO.out, HR.out, HB.out⟩
end Go.Proofs.YtedogodccblfeaaGreatDoor

namespace Go.Proofs.YtedogodccblfeaaGreatDoor
open Go.RowKit
set_option linter.unusedVariables false
set_option linter.unusedSimpArgs false

/-- a store handed back in a row of the call's own -/
def TesOwn (w : World) (M : Nat → Prop) (ts : List Tb) (e : Ending) (w' : World) : Prop := ∃ (A : Option Addr) (n c : Nat) (l : List Te), e = .returned (.slice A n c) ∧ l.map Te.tb = ts ∧ (∀ x ∈ l, x.ok) ∧ w'.ownsRow w.heap.size 58 4 (.slice A n c) n (teCells l) ∧ Ro w' (Mut M [.own 58 4 (.slice A n c) n (teCells l)]) (TeVals l) ∧ Below w.heap.size w w'
theorem set_app_right {α : Type} (a b : List α) (i : Nat) (v : α) : (a ++ b).set (a.length + i) v = a ++ b.set i v := by
  rw [List.set_append_right _ _ (by omega)]; congr 2; omega
theorem teCells_set : ∀ {l : List Te} {k : Nat} {x : Te} (y : Te), l[k]? = some x → ((((teCells l).set (k * 4) (.string y.nm)).set (k * 4 + 1) (.slice y.A y.n y.c)).set (k * 4 + 2) (.int .i64 y.nx)).set (k * 4 + 3) (.slice y.B y.m y.d) = teCells (l.set k y)
  | [], k, x, y, h => by simp at h
  | z :: l, 0, x, y, h => by simp [teCells, Te.cells]
  | z :: l, k + 1, x, y, h => by
    have ih := teCells_set (l := l) (k := k) (x := x) y (by simpa using h)
    have e : teCells (z :: l) = z.cells ++ teCells l := by simp [teCells]
    have hl : z.cells.length = 4 := rfl
    have c : ∀ (b : List Value) (j : Nat) (v : Value), (z.cells ++ b).set ((k + 1) * 4 + j) v = z.cells ++ b.set (k * 4 + j) v := fun b j v => by
      rw [show (k + 1) * 4 + j = z.cells.length + (k * 4 + j) by rw [hl]; omega]; exact set_app_right _ _ _ _
    have c0 : ∀ (b : List Value) (v : Value), (z.cells ++ b).set ((k + 1) * 4) v = z.cells ++ b.set (k * 4) v := fun b v => c b 0 v
    rw [e, c0, c, c, c, ih]
    simp [teCells]
theorem teVals_set {M : Nat → Prop} {w : World} {l : List Te} {k : Nat} {y : Te} (h : Ro w M (TeVals l)) (hy : Ro w M (TeIn y)) : Ro w M (TeVals (l.set k y)) := fun w2 h1 h2 x hx => by
  rcases List.mem_or_eq_of_mem_set hx with hx | rfl
  · exact h w2 h1 h2 x hx
  · exact hy w2 h1 h2
set_option maxHeartbeats 4000000 in
set_option maxRecDepth 100000 in
theorem copiesO_any (M : Nat → Prop) (w : World) (hM : ∀ b, M b → b < w.heap.size) (A : Option Addr) (n c : Nat) (l : List Te) (hok : ∀ x ∈ l, TeLim x) (hD : Ro w M (TesIn A n l)) (hn : n ≤ 1000000) :
    Calls Tryz.prog 65 #[.slice A n c] w fun e w' => TesOwn w M (l.map Te.tb) e w' := by
  have HL := hid hD.now.len
  have HOK := hid hok
  clear hok
  have K0 := (((Hold.start M w hM).add (hD.less (by simp [Mut]))).add (teVals_nil _ _)).nil 58 4
  clear hD
  go_enter Tryz.func65, Tryz.ntmps65
  go_wp2_with fail
  go_loopw [3, 8] (fun ov iv wr => ∃ (j cap : Nat) (O : Option Addr) (outs : List Te), j ≤ n ∧ iv = .int .i64 j ∧ ov = .slice O j cap ∧ Hid (TeStep outs l j) ∧ Hold M none w wr [.own 58 4 (.slice O j cap) j (teCells outs), .ro (TeVals outs), .ro (TesIn A n l)]) (fun _ iv _ => n - (intOf iv).toNat)
  case atStart => exact ⟨0, 0, none, [], by omega, rfl, rfl, hid ⟨rfl, fun r hr => nomatch hr⟩, K0⟩
  case round =>
    clear K0
    obtain ⟨j, cap, O, outs, hj, rfl, rfl, HW, H⟩ := hrel
    by_cases hlt : j < n
    · have hd : decide ((j : Int) < (n : Int)) = true := by simp; omega
      have j0 : (0 : Int) ≤ (j : Int) := by omega
      have j1 : (j : Int) < (n : Int) := by omega
      obtain ⟨x, hx⟩ := get_of HL.out hlt
      obtain ⟨g, o, rfl, hb, c0, c1, c2, c3, -⟩ := (H.ro 2 rfl).now.at_ hx
      have HXO := hid (HOK.out x (List.mem_of_getElem? hx))
      have HXM := hid (List.mem_of_getElem? hx)
      have HXG := hid hx
      clear hx
      have K1 := H.alloc_cst #[.string x.nm, .slice x.A x.n x.c, .int .i64 x.nx, .slice x.B x.m x.d] 58
      have FA := K1.facts
      simp only [World.size_alloc, World.size_drew, factsL, cellsF, Nat.reduceAdd, List.toList_toArray, List.set_cons_zero, List.set_cons_succ, List.setIfInBounds_toArray, and_true, true_and] at FA
      clear H
      go_wp2_with fail
      refine (scopied_any _ _ K1.mutLt x.nm x.A x.n x.c x.cs x.nx x.B x.m x.d 4398046511104 x.l ((K1.ro 3 rfl).imp fun w2 h2 => (h2.2 x HXM.out).1) ((K1.ro 3 rfl).imp fun w2 h2 => (h2.2 x HXM.out).2) HXO.out.1 HXO.out.2.1 (by omega) HXO.out.2.2).mono ?_
      rintro e w5 ⟨y, rfl, hy, hyo, ry, b5⟩
      have hv : y.val = .agg #[.string y.nm, .slice y.A y.n y.c, .int .i64 y.nx, .slice y.B y.m y.d] := rfl
      rw [hv]
      clear hv
      have K2 := (K1.call b5).add ry
      have HS2 := hid (show TeStep (outs ++ [y]) l (j + 1) from ⟨by rw [List.map_append, HW.out.1, List.take_add_one, HXG.out, List.map_append]; exact congrArg _ (congrArg (fun z => [z]) hy), fun z hz => by
        rcases List.mem_append.1 hz with hz | hz
        · exact HW.out.2 z hz
        · simp at hz; subst hz; exact hyo⟩)
      clear b5 ry K1 FA hy hyo
      go_wp2_with (at_builtin; go_must (refine wpList_appH K2 2 rfl Tryz.elTe #[.string y.nm, .slice y.A y.n y.c, .int .i64 y.nx, .slice y.B y.m y.d] rfl (.tmp 12) (.tmp 15) rfl rfl _ (by first | rfl | simp) rfl rfl (by intro u hu; simp at hu; rcases hu with rfl | rfl | rfl | rfl <;> rfl) (by omega) (by omega) ?_); intro g9 cap9 w9 hc9 hm9 KB; simp only [List.set_cons_zero, List.set_cons_succ] at KB)
      have e9 : teCells outs ++ (#[.string y.nm, .slice y.A y.n y.c, .int .i64 y.nx, .slice y.B y.m y.d]).toList = teCells (outs ++ [y]) := (teCells_snoc outs y).symm
      rw [e9] at KB
      have KC := (KB.swapRo 3 rfl (teVals_snoc (r := y) (KB.ro 3 rfl) (KB.ro 0 rfl))).drop (List.Sublist.cons _ (List.sublist_cons_self _ _))
      go_roundw
      case rel => exact ⟨j + 1, cap9, _, _, by omega, by go_num, by first | rfl | trivial, HS2, KC⟩
      case measure => simp [intOf]; omega
    · obtain rfl : n = j := by omega
      have hd : decide ((n : Int) < (n : Int)) = false := by simp
      have hcap := own_caps (H.get 0 rfl)
      have HW2 := hid (show outs.map Te.tb = l.map Te.tb by have h := HW.out.1; rwa [List.take_of_length_le (by rw [HL.out]; exact Nat.le_refl _)] at h)
      have HO := hid (H.get 0 rfl)
      have HR := hid ((H.ro 1 rfl).less (fun b hb => mut_one hb))
      have HB := hid H.below
      clear H hcap
      go_wp2_with fail
      go_ret
      exact ⟨O, n, cap, outs, rfl, HW2.out, HW.out.2, HO.out, HR.out, HB.out⟩
end Go.Proofs.YtedogodccblfeaaGreatDoor

namespace Go.Proofs.YtedogodccblfeaaGreatDoor
open Go.RowKit
set_option linter.unusedVariables false
set_option linter.unusedSimpArgs false

theorem one_te (x : Te) : ∀ u ∈ x.cells, u.oneCell' = true := fun u hx => by
  simp only [Te.cells, List.mem_cons, List.not_mem_nil, or_false] at hx
  rcases hx with rfl | rfl | rfl | rfl <;> rfl
set_option maxHeartbeats 8000000 in
set_option maxRecDepth 100000 in
theorem insTe_any {M : Nat → Prop} {row : Option Nat} {w0 w : World} {L : List Hp} (A : Option Addr) (n cap : Nat) (l : List Te) (hv : Nat) (y : Te) (k : Nat) (K : Hold M row w0 w (.own 58 4 (.slice A n cap) n (teCells l) :: .cst hv 58 #[.string y.nm, .slice y.A y.n y.c, .int .i64 y.nx, .slice y.B y.m y.d] :: L)) (hk : k ≤ n) (hn : n ≤ 1000) :
    Calls Tryz.prog 94 #[.slice A n cap, .int .i64 k, .slice (some ⟨hv, 0, none⟩) 1 1] w fun e w' => ∃ g' cap' : Nat, n + 1 ≤ cap' ∧ e = .returned (.slice (some ⟨g', 0, none⟩) (n + 1) cap') ∧ Hold M row w0 w' (.own 58 4 (.slice (some ⟨g', 0, none⟩) (n + 1) cap') (n + 1) (teCells (l.take k ++ y :: l.drop k)) :: .cst hv 58 #[.string y.nm, .slice y.A y.n y.c, .int .i64 y.nx, .slice y.B y.m y.d] :: L) := by
  have hl : l.length = n := by have := (K.get 0 rfl).1; rw [teCells_len] at this; omega
  have HL := hid hl
  clear hl
  obtain ⟨hc1, hc2, -⟩ := own_caps (K.get 0 rfl)
  have j0 : (0 : Int) ≤ (k : Int) := by omega
  have j1 : (k : Int) ≤ (n : Int) := by omega
  have j2 : (n : Int) ≤ (cap : Int) := by omega
  have j3 : (k : Int) ≤ (cap : Int) := by omega
  have HYC : Hid (∀ j v, y.cells[j]? = some v → (#[.string y.nm, .slice y.A y.n y.c, .int .i64 y.nx, .slice y.B y.m y.d] : Array Value)[j]? = some v) := hid fun j v h => by
    rw [show (#[.string y.nm, .slice y.A y.n y.c, .int .i64 y.nx, .slice y.B y.m y.d] : Array Value) = y.cells.toArray from rfl, List.getElem?_toArray]; exact h
  by_cases hkn : k = n
  · subst hkn
    have hd : ((k : Int) == (k : Int)) = true := by simp
    have hr := hid (show SlR 4 (some ⟨hv, 0, none⟩) 1 y.cells w from (ro_block (M := Mut M _) (K.get 1 rfl) rfl : Ro w _ (SlR 4 (some ⟨hv, 0, none⟩) 1 y.cells)).now)
    have hcat : teCells l ++ y.cells = teCells (l.take k ++ y :: l.drop k) := by
      rw [List.take_of_length_le (by rw [HL.out]; exact Nat.le_refl _), List.drop_of_length_le (by rw [HL.out]; exact Nat.le_refl _), teCells_snoc]
    have HCAT := hid hcat
    clear hcat
    by_cases hck : cap = k
    all_goals
      go_enter Tryz.func94, Tryz.ntmps94
      go_wp2_with (at_builtin; go_must (refine wpList_appAllH K 0 rfl Tryz.elTe hr.out rfl (.tmp 23) (.tmp 24) rfl rfl rfl (one_te y) (by omega) (by omega) ?_); intro C' cap' w2 hc1 hm1 K2; rw [HCAT.out] at K2; simp only [List.set_cons_zero] at K2)
      (try simp only [Exit.inBlock, Exit.then])
      obtain ⟨g', rfl⟩ : ∃ g', C' = some ⟨g', 0, none⟩ := by
        rcases own_addr (K2.get 0 rfl) with ⟨-, h0, -⟩ | ⟨g, h, -⟩
        · omega
        · exact ⟨g, h⟩
      have hcc := (own_caps (K2.get 0 rfl)).1
      refine bodyPost_ret (v := .slice (some ⟨g', 0, none⟩) (k + 1) cap') (by simp [results, Tryz.results94, go_sem]) rfl ?_
      exact ⟨g', cap', hcc, rfl, K2⟩
  · have hkl : k < n := by omega
    have hd : ((k : Int) == (n : Int)) = false := by rw [beq_eq_false_iff_ne]; omega
    obtain ⟨g, rfl⟩ : ∃ g, A = some ⟨g, 0, none⟩ := by
      rcases own_addr (K.get 0 rfl) with ⟨-, h0, -⟩ | ⟨g, h, -⟩
      · omega
      · exact ⟨g, h⟩
    have hck : ¬ cap = k := by omega
    have hck1 : ¬ cap = k + 1 ∨ cap = n := by omega
    by_cases hcap : cap < n + 1
    · have hd2 : decide ((n : Int) + 1 > (cap : Int)) = true := by simp; omega
      have hd3 : (cap : Int) < (n : Int) + 1 := by omega
      have hz : (n : Int) + 1 - (k : Int) = ((n + 1 - k : Nat) : Int) := by omega
      have hsp : teCells l = teCells (l.take k) ++ teCells (l.drop k) := by unfold teCells; rw [← List.flatMap_append, List.take_append_drop]
      have hlk : (teCells (l.take k)).length = k * 4 := by rw [teCells_len, List.length_take, HL.out, Nat.min_eq_left hk]
      have hlc : (teCells (l.drop k)).length = (n - k) * 4 := by rw [teCells_len, List.length_drop, HL.out]
      have HSP := hid hsp
      have HLK := hid hlk
      have HLC := hid hlc
      have hold : Hid (∀ j v, (teCells (l.take k))[j]? = some v → w.cell? ((⟨g, 0, none⟩ : Addr).add j) = some v) := hid fun j v h => by
        have hj := (List.getElem?_eq_some_iff.1 h).1
        rw [HLK.out] at hj
        rw [Addr.add_lit, Nat.zero_add, (K.get 0 rfl).cellAt j (by omega), HSP.out, List.getElem?_append_left (by rw [HLK.out]; exact hj)]
        exact h
      clear hsp hlk hlc
      have HK1 := hid (show k + (n + 1 - k) = n + 1 by omega)
      have HMN := hid (show Nat.min 1 (n + 1 - k) = 1 from Nat.min_eq_left (by omega))
      have j4 : (k : Int) ≤ (n : Int) + 1 := by omega
      have j5 : (k : Int) + 1 ≤ (n : Int) + 1 := by omega
      go_enter Tryz.func94, Tryz.ntmps94
      go_wp2_with (at_builtin; go_must (refine wpList_appZerosH K Tryz.elTe Tryz.underlying3 rfl (.tmp 34) (.tmp 39) rfl ⟨g, 0, none⟩ k cap (n + 1 - k) _ rfl .i64 rfl rfl (teCells (l.take k)) HLK.out hold.out (by omega) (by omega) (by omega) (by omega) ?_); go_must (intro g2 G ys w2 hG1 hG2 hG3 K2; rw [HK1.out] at hG1 ⊢; (have hGk : ¬ G = k := by omega); (have hGk1 : ¬ G = k + 1 := by omega); (have hs2 := hid (show ∀ j v, y.cells[j]? = some v → w2.cell? ((⟨hv, 0, none⟩ : Addr).add j) = some v from fun j v h => by rw [Addr.add_lit, Nat.zero_add, cell_of_row _ _ j _ _ _ (K2.cst_ 2 rfl)]; exact HYC.out j v h)); (have hf2 := hid (show k * 4 + y.cells.length ≤ (teCells (l.take k) ++ ys).length by rw [hG3]; show k * 4 + 4 ≤ _; omega)); go_wp2_with (refine wpList_copyS K2 0 rfl Tryz.elTe rfl (.tmp 43) (.tmp 44) rfl (k * 4) (n + 1 - k) (G - k) 1 1 ⟨hv, 0, none⟩ rfl rfl y.cells (by rw [HMN.out]; rfl) hs2.out hf2.out (one_te y) ?_; intro w3 K3; simp only [List.set_cons_zero] at K3)))
      simp only [Act.put, List.setIfInBounds_toArray, List.set_cons_succ, List.set_cons_zero]
      obtain ⟨KL, hKL, KN⟩ := K3.name
      have HKL := hid hKL
      clear hKL K2 K3 hold hs2
      have hwr : IntKind.i64.wrap ((k : Int) + 1) = ((k + 1 : Nat) : Int) := by rw [IntKind.wrap_i64]; omega
      have j6 : (0 : Int) ≤ (k : Int) + 1 := by omega
      have j7 : (k : Int) ≤ (n : Int) := by omega
      refine wp_region_any (by kernel_rfl) ?_
      refine wpAny_hold 8 95 (KL) (spL []) (by kernel_rfl) (by kernel_rfl) (by kernel_rfl) rfl ?_ (KN.drew) ?_
      · exact stays_nil _
      simp only [List.take_succ_cons, List.take_zero, List.drop_succ_cons, List.drop_zero, Act.put, List.getElem_toArray, List.getElem_cons_zero, List.getElem_cons_succ, List.setIfInBounds_toArray, List.set_cons_succ, List.set_cons_zero]
      repeat (first | (refine dw_skip rfl rfl rfl ?_; simp only [Act.put, List.setIfInBounds_toArray, List.set_cons_succ, List.set_cons_zero]) | (refine dw_val rfl rfl rfl ?_; apply Exists.intro; refine ⟨fun wv HC => ?_, ?_⟩; (focus ( go_simp <;> rfl; done)); simp only [Act.put, List.setIfInBounds_toArray, List.set_cons_succ, List.set_cons_zero]))
      refine rel_nil ?_
      rintro w4 HY
      rintro _hrm HGW
      clear HGW _hrm KN
      rw [HKL.out] at HY
      clear HKL
      clear KL
      have hm2 : Nat.min (n - k) (n - k) = n - k := Nat.min_eq_left (Nat.le_refl _)
      refine wpList_copyS HY 0 rfl Tryz.elTe rfl (.tmp 50) (.tmp 53) rfl ((k + 1) * 4) (n - k) (G - (k + 1)) (n - k) (cap - k) ⟨g, k * 4, none⟩ rfl rfl (teCells (l.drop k)) (by rw [hm2]; exact HLC.out) (fun j v h => ?_) (by rw [length_splice _ _ _ hf2.out, hG3, HLC.out]; omega) (one_tes _) ?_
      · have hj := (List.getElem?_eq_some_iff.1 h).1
        rw [HLC.out] at hj
        rw [Addr.add_lit, (HY.get 1 rfl).cellAt (k * 4 + j) (by omega), HSP.out, List.getElem?_append_right (by rw [HLK.out]; omega), HLK.out, Nat.add_sub_cancel_left]
        exact h
      intro w5 K5
      simp only [List.set_cons_zero] at K5
      have e9 := splice_grow (teCells (l.take k)) y.cells (teCells (l.drop k)) ys
      have hyl : y.cells.length = 4 := rfl
      rw [HLK.out, hyl, show k * 4 + 4 = (k + 1) * 4 by omega] at e9
      rw [e9] at K5
      have K6 := K5.cutRow 0 rfl (show n + 1 ≤ G from hG1)
      rw [take_three _ _ _ _ (by rw [HLK.out, hyl, HLC.out]; omega)] at K6
      have ecat : teCells (l.take k) ++ (y.cells ++ teCells (l.drop k)) = teCells (l.take k ++ y :: l.drop k) := by simp [teCells]
      rw [ecat] at K6
      have K7 := K6.drop (.cons_cons _ (List.sublist_cons_self _ _))
      have HK7 := hid K7
      have HG1 := hid hG1
      clear K5 K6 K7 e9 HY
      go_wp2_with fail
      (try simp only [Exit.inBlock, Exit.then])
      refine bodyPost_ret (v := .slice (some ⟨g2, 0, none⟩) (n + 1) G) (by simp [results, Tryz.results94, go_sem]) rfl ?_
      exact ⟨g2, G, HG1.out, rfl, HK7.out⟩
    · have hd2 : decide ((n : Int) + 1 > (cap : Int)) = false := by simp; omega
      have hd3 : ¬ (cap : Int) < (n : Int) + 1 := by omega
      have hd4 : (n : Int) + 1 ≤ (cap : Int) := by omega
      have hck2 : ¬ cap = k + 1 := by omega
      have hsp : teCells l = teCells (l.take k) ++ teCells (l.drop k) := by unfold teCells; rw [← List.flatMap_append, List.take_append_drop]
      have hlk : (teCells (l.take k)).length = k * 4 := by rw [teCells_len, List.length_take, HL.out, Nat.min_eq_left hk]
      have hlc : (teCells (l.drop k)).length = (n - k) * 4 := by rw [teCells_len, List.length_drop, HL.out]
      have HSP := hid hsp
      have HLK := hid hlk
      have HLC := hid hlc
      clear hsp hlk hlc
      obtain ⟨ys, hysl, K1⟩ := K.fullRow 0 rfl
      simp only [List.set_cons_zero] at K1
      have hbv := K1.cst_ 1 rfl
      have hbg := own_full (K1.get 0 rfl)
      have hne : hv ≠ g := fun e => by
        have h1 : w.heap[hv]? = _ := hbv
        rw [e, hbg] at h1
        injection h1 with h1
        injection h1 with h1
        have h2 := congrArg Array.size h1
        simp only [List.size_toArray] at h2
        rw [hysl] at h2
        have h3 : cap * 4 = 4 := h2
        omega
      have hov : ∀ lb cb, (callFunc 155 #[.slice (some ⟨hv, 0, none⟩) 1 1, .slice (some ⟨g, (k + 1) * 4, none⟩) lb cb]).run Tryz.prog w = .ok (.value (.bool false)) w := fun lb cb => by
        have hsz : ∀ w, (Go.sizeOf 58).run Tryz.prog w = .ok 4 w := fun w => by
          obtain ⟨i0, hi1, hi2, hi3, hi4⟩ := info_parts Tryz.elTe.hi
          simp [sizeOf, typeInfo, hi1, hi3]
        rw [run_callFunc_extern Tryz.func155 (by kernel_rfl) (by kernel_rfl) (by kernel_rfl) (e := Extern.SlicesOverlaps.overlaps #[29, 29] #[4]) (by kernel_rfl),
          Lib.run_overlaps_apart w 29 4 58 Tryz.underlying29 4 hsz ⟨hv, 0, none⟩ ⟨g, (k + 1) * 4, none⟩ 1 1 lb cb hne 58 58 4 (cap * 4) (by
            have h1 : w.heap[hv]? = _ := hbv
            unfold World.shape?
            rw [h1]; rfl) (by
            unfold World.shape?
            rw [hbg]
            simp only [List.size_toArray, hysl]) (by omega) (frozen_blk hbv 0) (frozen_blk hbv 4)]
        rfl
      clear hbv hbg K
      go_enter Tryz.func94, Tryz.ntmps94
      go_wp2_with fail
      have hwr : IntKind.i64.wrap ((k : Int) + 1) = ((k + 1 : Nat) : Int) := by rw [IntKind.wrap_i64]; omega
      have j5 : (k : Int) + 1 ≤ (n : Int) + 1 := by omega
      have j6 : (0 : Int) ≤ (k : Int) + 1 := by omega
      have j7 : (k : Int) ≤ (n : Int) + 1 := by omega
      obtain ⟨KL, hKL, KN⟩ := K1.name
      have HKL := hid hKL
      clear hKL K1 hov
      refine wp_region_any (by kernel_rfl) ?_
      refine wpAny_hold 8 95 (KL) (spL []) (by kernel_rfl) (by kernel_rfl) (by kernel_rfl) rfl ?_ (KN.drew) ?_
      · exact stays_nil _
      simp only [List.take_succ_cons, List.take_zero, List.drop_succ_cons, List.drop_zero, Act.put, List.getElem_toArray, List.getElem_cons_zero, List.getElem_cons_succ, List.setIfInBounds_toArray, List.set_cons_succ, List.set_cons_zero]
      repeat (first | (refine dw_skip rfl rfl rfl ?_; simp only [Act.put, List.setIfInBounds_toArray, List.set_cons_succ, List.set_cons_zero]) | (refine dw_val rfl rfl rfl ?_; apply Exists.intro; refine ⟨fun wv HC => ?_, ?_⟩; (focus ( go_simp <;> rfl; done)); simp only [Act.put, List.setIfInBounds_toArray, List.set_cons_succ, List.set_cons_zero]))
      refine rel_nil ?_
      rintro w4 HY
      rintro _hrm HGW
      clear HGW _hrm KN
      rw [HKL.out] at HY
      clear HKL
      clear KL
      have hm2 : Nat.min (n + 1 - k) (n - k) = n - k := Nat.min_eq_right (by omega)
      have hyl : y.cells.length = 4 := rfl
      have HF1 := hid (show (k + 1) * 4 + (teCells (l.drop k)).length ≤ (teCells l ++ ys).length by rw [hysl, HLC.out]; omega)
      refine wpList_copyS HY 0 rfl Tryz.elTe rfl (.tmp 73) (.tmp 76) rfl ((k + 1) * 4) (n - k) (cap - (k + 1)) (n + 1 - k) (cap - k) ⟨g, k * 4, none⟩ rfl rfl (teCells (l.drop k)) (by rw [hm2]; exact HLC.out) (fun j v h => ?_) HF1.out (one_tes _) ?_
      · have hj := (List.getElem?_eq_some_iff.1 h).1
        rw [HLC.out] at hj
        rw [Addr.add_lit, (HY.get 0 rfl).cellAt (k * 4 + j) (by omega), HSP.out, List.getElem?_append_left (by rw [List.length_append, HLK.out, HLC.out]; omega), List.getElem?_append_right (by rw [HLK.out]; omega), HLK.out, Nat.add_sub_cancel_left]
        exact h
      intro w5 K5
      simp only [List.set_cons_zero] at K5
      have hs5 := hid (show ∀ j v, y.cells[j]? = some v → w5.cell? ((⟨hv, 0, none⟩ : Addr).add j) = some v from fun j v h => by rw [Addr.add_lit, Nat.zero_add, cell_of_row _ _ j _ _ _ (K5.cst_ 1 rfl)]; exact HYC.out j v h)
      have HF2 := hid (show k * 4 + y.cells.length ≤ (splice (teCells l ++ ys) ((k + 1) * 4) (teCells (l.drop k))).length by rw [length_splice _ _ _ HF1.out, hysl, hyl]; omega)
      have HMN := hid (show Nat.min 1 (n + 1 - k) = 1 from Nat.min_eq_left (by omega))
      have hfin : Hid (∀ w6, Hold M row w0 w6 (.own 58 4 (.slice (some ⟨g, 0, none⟩) cap cap) cap (splice (splice (teCells l ++ ys) ((k + 1) * 4) (teCells (l.drop k))) (k * 4) y.cells) :: .cst hv 58 #[.string y.nm, .slice y.A y.n y.c, .int .i64 y.nx, .slice y.B y.m y.d] :: L) → Hold M row w0 w6 (.own 58 4 (.slice (some ⟨g, 0, none⟩) (n + 1) cap) (n + 1) (teCells (l.take k ++ y :: l.drop k)) :: .cst hv 58 #[.string y.nm, .slice y.A y.n y.c, .int .i64 y.nx, .slice y.B y.m y.d] :: L)) := hid fun w6 K6 => by
        obtain ⟨r, e9⟩ := splice_in (teCells (l.take k)) y.cells (teCells (l.drop k)) ys (by rw [hyl, List.length_append, HLC.out]; omega)
        rw [HLK.out, hyl, show k * 4 + 4 = (k + 1) * 4 by omega, ← HSP.out] at e9
        rw [e9] at K6
        have K7 := K6.cutRow 0 rfl (show n + 1 ≤ cap by omega)
        rw [take_three _ _ _ _ (by rw [HLK.out, hyl, HLC.out]; omega)] at K7
        have ecat : teCells (l.take k) ++ (y.cells ++ teCells (l.drop k)) = teCells (l.take k ++ y :: l.drop k) := by simp [teCells]
        rw [ecat] at K7
        exact K7
      have HGC := hid (show n + 1 ≤ cap by omega)
      clear HY hysl hyl
      go_wp2_with (refine wpList_copyS K5 0 rfl Tryz.elTe rfl (.tmp 80) (.tmp 81) rfl (k * 4) (n + 1 - k) (cap - k) 1 1 ⟨hv, 0, none⟩ rfl rfl y.cells (by rw [HMN.out]; rfl) hs5.out HF2.out (one_te y) ?_; intro w6 K6; simp only [List.set_cons_zero] at K6)
      have K7 := hfin.out _ K6
      (try simp only [Exit.inBlock, Exit.then])
      refine bodyPost_ret (v := .slice (some ⟨g, 0, none⟩) (n + 1) cap) (by simp [results, Tryz.results94, go_sem]) rfl ?_
      exact ⟨g, cap, HGC.out, rfl, K7⟩
end Go.Proofs.YtedogodccblfeaaGreatDoor

namespace Go.Proofs.YtedogodccblfeaaGreatDoor
open Go.RowKit
set_option linter.unusedVariables false
set_option linter.unusedSimpArgs false

theorem tesIn_nil (w : World) (M : Nat → Prop) : Ro w M (TesIn none 0 []) := fun _ _ _ => ⟨⟨rfl, fun h => absurd h (Nat.lt_irrefl 0)⟩, fun x hx => (nomatch hx)⟩
/-- a store handed back, or none -/
def PutRet (w : World) (M : Nat → Prop) (E : Bool × List Tb) (e : Ending) (w' : World) : Prop := ∃ (A : Option Addr) (n c : Nat) (l : List Te), e = .returned (.tuple #[.slice A n c, .bool E.1]) ∧ n ≤ c ∧ c ≤ 9223372036854775807 ∧ l.map Te.tb = E.2 ∧ (∀ x ∈ l, x.ok ∧ TbM x.tb) ∧ Ro w' M (TesIn A n l) ∧ Below w.heap.size w w'
set_option maxHeartbeats 16000000 in
set_option maxRecDepth 100000 in
theorem sput_any (M : Nat → Prop) (w : World) (hM : ∀ b, M b → b < w.heap.size) (A : Option Addr) (n c : Nat) (l : List Te) (x : Te) (hl : Ro w M (TesIn A n l)) (hx : Ro w M (TeIn x)) (hok : ∀ z ∈ l, z.ok ∧ TeLim z ∧ TbM z.tb) (hox : x.ok ∧ TeLim x ∧ TbM x.tb) (hn : n ≤ 900) :
    Calls Tryz.prog 38 #[.slice A n c, .agg #[.string x.nm, .slice x.A x.n x.c, .int .i64 x.nx, .slice x.B x.m x.d]] w fun e w' => PutRet w M (putC (l.map Te.tb) x.tb) e w' := by
  have HOK := hid hok
  have HOX := hid hox
  have HL := hid hl.now.len
  obtain ⟨E, hE⟩ : ∃ E, E = putC (l.map Te.tb) x.tb := ⟨_, rfl⟩
  rw [← hE]
  have HE := hid hE
  have K0 := ((Hold.start M w hM).add (hx.less (by simp [Mut]))).add (hl.less (by simp [Mut, Hp.foot])) |>.alloc_cst #[.string x.nm, .slice x.A x.n x.c, .int .i64 x.nx, .slice x.B x.m x.d] 58
  have F0 := K0.facts
  simp only [World.size_alloc, World.size_drew, factsL, cellsF, Nat.reduceAdd, List.toList_toArray, List.set_cons_zero, List.set_cons_succ, List.setIfInBounds_toArray, and_true, true_and] at F0
  clear hl hx hok hox hE
  go_enter Tryz.func38, Tryz.ntmps38
  go_wp2_with fail
  refine (copiesO_any _ _ K0.mutLt A n c l (fun z hz => (HOK.out z hz).2.1) (K0.ro 1 rfl) (by omega)).mono ?_
  rintro e w2 ⟨A9, n9, c9, l9, rfl, hl9, hk9, ho9, hr9, b2⟩
  have hn9 : n9 = n := by
    have a := ho9.1; rw [teCells_len] at a
    have b := congrArg List.length hl9; rw [List.length_map, List.length_map, HL.out] at b
    omega
  obtain rfl : n = n9 := hn9.symm
  have HL9 := hid (show l9.length = n by have a := ho9.1; rw [teCells_len] at a; omega)
  have H9 := hid (And.intro hl9 (show ∀ z ∈ l9, z.ok ∧ TbM z.tb from fun z hz => ⟨hk9 z hz, by
    have h1 : z.tb ∈ l.map Te.tb := by rw [← hl9]; exact List.mem_map_of_mem hz
    obtain ⟨u, hu, e⟩ := List.mem_map.1 h1
    rw [← e]
    exact (HOK.out u hu).2.2⟩))
  have K2 := (K0.callOwn b2 ho9).add (hr9.less (by intro b hb; rcases mut_cons.1 hb with h | h; exact .inr ⟨_, List.mem_singleton_self _, h⟩; exact .inl (h.imp id fun h => h)))
  clear K0 F0 b2 ho9 hr9 hl9 hk9 hn9
  have F2 := K2.facts
  simp only [World.size_alloc, World.size_drew, factsL, cellsF, Nat.reduceAdd, List.toList_toArray, List.set_cons_zero, List.set_cons_succ, List.setIfInBounds_toArray, and_true, true_and] at F2
  go_wp2_with fail
  refine (bsfunc_any None_ _ (fun b hb => hb.elim) A9 n c9 l9 x.nm (show Ro w2 None_ (TesIn A9 n l9) from fun w2 a b => ⟨Rd.of_own (own_RM (M := None_) (fun b hb => hb.elim) ⟨a, b⟩ (K2.get 1 rfl)), ((K2.ro 0 rfl).less (fun b hb => hb.elim)) w2 a b⟩) (by omega)).mono ?_
  rintro e w3 ⟨i, hi, rfl, hb3, b3⟩
  have K3 := K2.call b3
  have HBS := hid hb3
  clear K2 F2 b3 hb3
  have F3 := K3.facts
  simp only [World.size_alloc, World.size_drew, factsL, cellsF, Nat.reduceAdd, List.toList_toArray, List.set_cons_zero, List.set_cons_succ, List.setIfInBounds_toArray, and_true, true_and] at F3
  have i0 : (0 : Int) ≤ (i : Int) := by omega
  have i1 : (i : Int) ≤ (n : Int) := by omega
  cases hh : hitB (l9.map Te.tb) x.nm i with
  | true =>
    obtain ⟨z, hz⟩ : ∃ z, l9[i]? = some z := by
      cases h : l9[i]? with
      | some z => exact ⟨z, rfl⟩
      | none => rw [hitB_none (by rw [List.getElem?_map, h]; rfl)] at hh; cases hh
    have HZ := hid hz
    have hin : i < n := by have := (List.getElem?_eq_some_iff.1 hz).1; have := HL9.out; omega
    have i2 : (i : Int) < (n : Int) := by omega
    have HSET := hid (show NmAsc (l.map Te.tb) → insT false x.tb (l.map Te.tb) = (l9.map Te.tb).set i x.tb from fun ha => by
      rw [← H9.out.1] at ha ⊢
      rw [insT_at (by rw [List.length_map, HL9.out]; exact hi) ha (HBS.out ha), show x.tb.nm = x.nm from rfl, hh, if_pos rfl])
    obtain ⟨g, rfl⟩ : ∃ g, A9 = some ⟨g, 0, none⟩ := by
      rcases own_addr (K3.get 1 rfl) with ⟨-, h0, -⟩ | ⟨g, h, -⟩
      · omega
      · exact ⟨g, h⟩
    clear hz hh
    go_wp2_with fail
    refine (scopied_any _ _ K3.mutLt x.nm x.A x.n x.c x.cs x.nx x.B x.m x.d 4398046511104 x.l ((K3.ro 4 rfl).imp fun w2 h2 => h2.1) ((K3.ro 4 rfl).imp fun w2 h2 => h2.2) HOX.out.2.1.1 HOX.out.2.1.2.1 (by omega) HOX.out.2.1.2.2).mono ?_
    rintro e w4 ⟨y, rfl, hy, hyo, ry, b4⟩
    have hyv : y.val = .agg #[.string y.nm, .slice y.A y.n y.c, .int .i64 y.nx, .slice y.B y.m y.d] := rfl
    rw [hyv]
    clear hyv
    have hy : y.tb = x.tb := hy
    have HY := hid (And.intro hy hyo)
    have K4 := (K3.call b4).add ry
    clear K3 F3 b4 ry hy hyo
    have ho := K4.get 2 rfl
    have pq0 : _ = some (Value.string z.nm) := (ho.cellAt (i * 4) (by omega)).trans (flat_get Te.cells 4 (fun _ => rfl) l9 i 0 z (by omega) HZ.out)
    have pq1 : _ = some (Value.slice z.A z.n z.c) := (ho.cellAt (i * 4 + 1) (by omega)).trans (flat_get Te.cells 4 (fun _ => rfl) l9 i 1 z (by omega) HZ.out)
    have pq2 : _ = some (Value.int .i64 z.nx) := (ho.cellAt (i * 4 + 2) (by omega)).trans (flat_get Te.cells 4 (fun _ => rfl) l9 i 2 z (by omega) HZ.out)
    have pq3 : _ = some (Value.slice z.B z.m z.d) := (ho.cellAt (i * 4 + 3) (by omega)).trans (flat_get Te.cells 4 (fun _ => rfl) l9 i 3 z (by omega) HZ.out)
    have pz0 := ho.frozenAt (i * 4)
    have pz1 := ho.frozenAt (i * 4 + 1)
    have pz2 := ho.frozenAt (i * 4 + 2)
    have pz3 := ho.frozenAt (i * 4 + 3)
    have pgl := (ho.lt g rfl).2
    clear ho
    have pKA1 := K4.put_ 2 rfl (i * 4) (.string y.nm)
    have pKA2 := pKA1.put_ 2 rfl (i * 4 + 1) (.slice y.A y.n y.c)
    have pKA3 := pKA2.put_ 2 rfl (i * 4 + 2) (.int .i64 y.nx)
    have K5 := pKA3.put_ 2 rfl (i * 4 + 3) (.slice y.B y.m y.d)
    simp only [List.set_cons_zero, List.set_cons_succ, List.setIfInBounds_toArray] at pKA1
    simp only [List.set_cons_zero, List.set_cons_succ, List.setIfInBounds_toArray] at pKA2
    simp only [List.set_cons_zero, List.set_cons_succ, List.setIfInBounds_toArray] at pKA3
    simp only [List.set_cons_zero, List.set_cons_succ, List.setIfInBounds_toArray] at K5
    have pe1 : _ = some (Value.slice z.A z.n z.c) := ((pKA1.get 2 rfl).cellAt (i * 4 + 1) (by omega)).trans ((List.getElem?_set_ne (by omega)).trans (flat_get Te.cells 4 (fun _ => rfl) l9 i 1 z (by omega) HZ.out))
    have pe2 : _ = some (Value.int .i64 z.nx) := ((pKA2.get 2 rfl).cellAt (i * 4 + 2) (by omega)).trans ((List.getElem?_set_ne (by omega)).trans ((List.getElem?_set_ne (by omega)).trans (flat_get Te.cells 4 (fun _ => rfl) l9 i 2 z (by omega) HZ.out)))
    have pe3 : _ = some (Value.slice z.B z.m z.d) := ((pKA3.get 2 rfl).cellAt (i * 4 + 3) (by omega)).trans ((List.getElem?_set_ne (by omega)).trans ((List.getElem?_set_ne (by omega)).trans ((List.getElem?_set_ne (by omega)).trans (flat_get Te.cells 4 (fun _ => rfl) l9 i 3 z (by omega) HZ.out))))
    have py1 := (pKA1.get 2 rfl).frozenAt (i * 4 + 1)
    have py2 := (pKA2.get 2 rfl).frozenAt (i * 4 + 2)
    have py3 := (pKA3.get 2 rfl).frozenAt (i * 4 + 3)
    clear pKA1 pKA2 pKA3
    rw [teCells_set y HZ.out] at K5
    have K6 := (K5.add (teVals_set (k := i) (K5.ro 1 rfl) (K5.ro 0 rfl)))
    have hcap := own_caps (K6.get 3 rfl)
    have K7 := K6.sealRow 3 rfl
    simp only [List.set_cons_zero, List.set_cons_succ, List.setIfInBounds_toArray] at K7
    have K8 := (K7.add ((K7.ro 3 rfl).and (K7.ro 0 rfl) : Ro _ _ (TesIn (some ⟨g, 0, none⟩) n (l9.set i y)))).drop (L' := [_, .ro (TesIn A n l), .ro (TeIn x)]) (.cons_cons _ (.cons _ (.cons _ (.cons _ (.cons _ (.cons _ (.cons_cons _ (.cons_cons _ (List.Sublist.refl _)))))))))
    have HK8 := hid K8
    have HCP := hid (And.intro hcap.1 hcap.2.1)
    clear K5 K6 K7 K8 hcap
    obtain ⟨outs, hout⟩ : ∃ outs, outs = l9.set i y := ⟨_, rfl⟩
    have HIN := hid (show NmAsc (l.map Te.tb) → outs.map Te.tb = insT false x.tb (l.map Te.tb) from fun ha => by rw [HSET.out ha, hout, List.map_set, HY.out.1])
    have HOUT := hid (show ∀ z ∈ outs, z.ok ∧ TbM z.tb from fun z hz => by
      rw [hout] at hz
      rcases List.mem_or_eq_of_mem_set hz with hz | rfl
      · exact H9.out.2 z hz
      · exact ⟨HY.out.2, by rw [HY.out.1]; exact HOX.out.2.2⟩)
    rw [← hout] at HK8
    clear hout
    go_wp2_with fail
    iterate 4 (try simp only [Result.andThen_ok, pe1, py1, pe2, py2, pe3, py3, Bool.false_eq_true, if_false])
    go_wp2_with fail
    clear pq0 pq1 pq2 pq3 pz0 pz1 pz2 pz3 pgl pe1 py1 pe2 py2 pe3 py3
    have K9 := HK8.out
    clear HK8
    refine (stvalid_any _ _ K9.mutLt A n c l (K9.ro 1 rfl) (fun z hz => ⟨(HOK.out z hz).1, (HOK.out z hz).2.2⟩) (by omega)).mono ?_
    cases hv1 : storB (l.map Te.tb) with
    | false =>
      have hz : E = (false, []) := by rw [HE.out]; exact putC_a hv1
      subst hz
      rintro e w8 ⟨rfl, b8⟩
      have HB := hid (K9.call b8).below
      clear K9 b8 hv1 HE
      go_wp2_with fail
      (try simp only [Exit.inBlock, Exit.then])
      refine bodyPost_ret (results_tmp2 rfl _ _ _) rfl ?_
      exact ⟨none, 0, 0, [], rfl, by omega, by omega, rfl, fun x hx => (nomatch hx), tesIn_nil _ _, HB.out⟩
    | true =>
      rintro e w8 ⟨rfl, b8⟩
      have K20 := K9.call b8
      have HEQ := hid (HIN.out (storB_asc hv1))
      have HV1 := hid hv1
      clear K9 b8 hv1
      go_wp2_with fail
      refine (stvalid_any _ _ K20.mutLt (some ⟨g, 0, none⟩) n c9 outs (K20.ro 0 rfl) (fun z hz => HOUT.out z hz) (by omega)).mono ?_
      cases hv2 : storB ((outs).map Te.tb) with
      | false =>
        have hz : E = (false, []) := by rw [HE.out]; exact putC_b (by rw [← HEQ.out]; exact hv2)
        subst hz
        rintro e w9 ⟨rfl, b9⟩
        have HB := hid (K20.call b9).below
        clear K20 b9 hv2 HE
        go_wp2_with fail
        (try simp only [Exit.inBlock, Exit.then])
        refine bodyPost_ret (results_tmp2 rfl _ _ _) rfl ?_
        exact ⟨none, 0, 0, [], rfl, by omega, by omega, rfl, fun x hx => (nomatch hx), tesIn_nil _ _, HB.out⟩
      | true =>
        have hz : E = (true, (outs).map Te.tb) := by rw [HE.out, putC_ok HV1.out (by rw [← HEQ.out]; exact hv2), ← HEQ.out]
        subst hz
        rintro e w9 ⟨rfl, b9⟩
        have K21 := K20.call b9
        have rT := K21.roOut 0 rfl
        have HB := hid K21.below
        clear K20 b9 hv2 HE K21
        go_wp2_with fail
        (try simp only [Exit.inBlock, Exit.then])
        refine bodyPost_ret (results_tmp2 rfl _ _ _) rfl ?_
        exact ⟨(some ⟨g, 0, none⟩), n, c9, outs, rfl, HCP.out.1, HCP.out.2, rfl, fun z hz => HOUT.out z hz, rT, HB.out⟩
  | false =>
    have HSET := hid (show NmAsc (l.map Te.tb) → insT false x.tb (l.map Te.tb) = (l9.map Te.tb).take i ++ x.tb :: (l9.map Te.tb).drop i from fun ha => by
      rw [← H9.out.1] at ha ⊢
      rw [insT_at (by rw [List.length_map, HL9.out]; exact hi) ha (HBS.out ha), show x.tb.nm = x.nm from rfl, hh, if_neg (by simp)])
    clear hh
    go_wp2_with fail
    refine (scopied_any _ _ K3.mutLt x.nm x.A x.n x.c x.cs x.nx x.B x.m x.d 4398046511104 x.l ((K3.ro 4 rfl).imp fun w2 h2 => h2.1) ((K3.ro 4 rfl).imp fun w2 h2 => h2.2) HOX.out.2.1.1 HOX.out.2.1.2.1 (by omega) HOX.out.2.1.2.2).mono ?_
    rintro e w4 ⟨y, rfl, hy, hyo, ry, b4⟩
    have hyv : y.val = .agg #[.string y.nm, .slice y.A y.n y.c, .int .i64 y.nx, .slice y.B y.m y.d] := rfl
    rw [hyv]
    clear hyv
    have hy : y.tb = x.tb := hy
    have HY := hid (And.intro hy hyo)
    have K4 := ((K3.call b4).add ry).alloc_cst #[.string y.nm, .slice y.A y.n y.c, .int .i64 y.nx, .slice y.B y.m y.d] 58
    have K5 := K4.perm (List.perm_middle (l₁ := [_, _, _]))
    simp only [List.cons_append, List.nil_append] at K5
    clear K3 K4 F3 b4 ry hy hyo
    go_wp2_with fail
    refine (insTe_any A9 n c9 l9 _ y i K5 hi (by omega)).mono ?_
    rintro e w5 ⟨g', cap', hcap, rfl, K6⟩
    have hcap2 := own_caps (K6.get 0 rfl)
    have K7 := K6.sealRow 0 rfl
    simp only [List.set_cons_zero, List.set_cons_succ, List.setIfInBounds_toArray] at K7
    obtain ⟨outs, hout⟩ : ∃ outs, outs = l9.take i ++ y :: l9.drop i := ⟨_, rfl⟩
    have hmem : ∀ z ∈ outs, z ∈ l9 ∨ z = y := fun z hz => by
      rw [hout] at hz
      rcases List.mem_append.1 hz with hz | hz
      · exact .inl (List.mem_of_mem_take hz)
      · rcases List.mem_cons.1 hz with rfl | hz
        · exact .inr rfl
        · exact .inl (List.mem_of_mem_drop hz)
    rw [← hout] at K7
    have K8 := (K7.add ((K7.ro 0 rfl).and (((K7.ro 3 rfl).and (K7.ro 2 rfl)).imp fun w2 h2 => (show ∀ z ∈ outs, TeIn z w2 from fun z hz => (hmem z hz).elim (h2.1 z) (fun e => e ▸ h2.2))) : Ro _ _ (TesIn (some ⟨g', 0, none⟩) (n + 1) outs))).drop (L' := [_, .ro (TesIn A n l), .ro (TeIn x)]) (.cons_cons _ (.cons _ (.cons _ (.cons _ (.cons _ (.cons _ (.cons_cons _ (.cons_cons _ (List.Sublist.refl _)))))))))
    have HCP := hid (And.intro hcap2.1 hcap2.2.1)
    have HIN := hid (show NmAsc (l.map Te.tb) → outs.map Te.tb = insT false x.tb (l.map Te.tb) from fun ha => by rw [HSET.out ha, hout, List.map_append, List.map_cons, List.map_take, List.map_drop, HY.out.1])
    have HOUT := hid (show ∀ z ∈ outs, z.ok ∧ TbM z.tb from fun z hz => by
      rcases hmem z hz with hz | rfl
      · exact H9.out.2 z hz
      · exact ⟨HY.out.2, by rw [HY.out.1]; exact HOX.out.2.2⟩)
    clear K5 K6 K7 hcap hcap2 hout hmem
    go_wp2_with fail
    refine (stvalid_any _ _ K8.mutLt A n c l (K8.ro 1 rfl) (fun z hz => ⟨(HOK.out z hz).1, (HOK.out z hz).2.2⟩) (by omega)).mono ?_
    cases hv1 : storB (l.map Te.tb) with
    | false =>
      have hz : E = (false, []) := by rw [HE.out]; exact putC_a hv1
      subst hz
      rintro e w8 ⟨rfl, b8⟩
      have HB := hid (K8.call b8).below
      clear K8 b8 hv1 HE
      go_wp2_with fail
      (try simp only [Exit.inBlock, Exit.then])
      refine bodyPost_ret (results_tmp2 rfl _ _ _) rfl ?_
      exact ⟨none, 0, 0, [], rfl, by omega, by omega, rfl, fun x hx => (nomatch hx), tesIn_nil _ _, HB.out⟩
    | true =>
      rintro e w8 ⟨rfl, b8⟩
      have K20 := K8.call b8
      have HEQ := hid (HIN.out (storB_asc hv1))
      have HV1 := hid hv1
      clear K8 b8 hv1
      go_wp2_with fail
      refine (stvalid_any _ _ K20.mutLt (some ⟨g', 0, none⟩) (n + 1) cap' outs (K20.ro 0 rfl) (fun z hz => HOUT.out z hz) (by omega)).mono ?_
      cases hv2 : storB ((outs).map Te.tb) with
      | false =>
        have hz : E = (false, []) := by rw [HE.out]; exact putC_b (by rw [← HEQ.out]; exact hv2)
        subst hz
        rintro e w9 ⟨rfl, b9⟩
        have HB := hid (K20.call b9).below
        clear K20 b9 hv2 HE
        go_wp2_with fail
        (try simp only [Exit.inBlock, Exit.then])
        refine bodyPost_ret (results_tmp2 rfl _ _ _) rfl ?_
        exact ⟨none, 0, 0, [], rfl, by omega, by omega, rfl, fun x hx => (nomatch hx), tesIn_nil _ _, HB.out⟩
      | true =>
        have hz : E = (true, (outs).map Te.tb) := by rw [HE.out, putC_ok HV1.out (by rw [← HEQ.out]; exact hv2), ← HEQ.out]
        subst hz
        rintro e w9 ⟨rfl, b9⟩
        have K21 := K20.call b9
        have rT := K21.roOut 0 rfl
        have HB := hid K21.below
        clear K20 b9 hv2 HE K21
        go_wp2_with fail
        (try simp only [Exit.inBlock, Exit.then])
        refine bodyPost_ret (results_tmp2 rfl _ _ _) rfl ?_
        exact ⟨(some ⟨g', 0, none⟩), (n + 1), cap', outs, rfl, HCP.out.1, HCP.out.2, rfl, fun z hz => HOUT.out z hz, rT, HB.out⟩
end Go.Proofs.YtedogodccblfeaaGreatDoor

namespace Go.Proofs.YtedogodccblfeaaGreatDoor
open Go.RowKit
set_option linter.unusedVariables false
set_option linter.unusedSimpArgs false

set_option maxHeartbeats 16000000 in
set_option maxRecDepth 100000 in
theorem srput_any (M : Nat → Prop) (w : World) (hM : ∀ b, M b → b < w.heap.size) (A : Option Addr) (n c : Nat) (l : List Te) (x : Te) (hl : Ro w M (TesIn A n l)) (hx : Ro w M (TeIn x)) (hok : ∀ z ∈ l, z.ok ∧ TeLim z ∧ TbM z.tb) (hox : x.ok ∧ TeLim x ∧ TbM x.tb) (hn : n ≤ 900) :
    Calls Tryz.prog 39 #[.slice A n c, .agg #[.string x.nm, .slice x.A x.n x.c, .int .i64 x.nx, .slice x.B x.m x.d]] w fun e w' => PutRet w M (putC (l.map Te.tb) x.tb) e w' := by
  have HOK := hid hok
  have HOX := hid hox
  have HL := hid hl.now.len
  obtain ⟨E, hE⟩ : ∃ E, E = putC (l.map Te.tb) x.tb := ⟨_, rfl⟩
  rw [← hE]
  have HE := hid hE
  have K0 := ((Hold.start M w hM).add (hx.less (by simp [Mut]))).add (hl.less (by simp [Mut, Hp.foot])) |>.alloc_cst #[.string x.nm, .slice x.A x.n x.c, .int .i64 x.nx, .slice x.B x.m x.d] 58
  obtain ⟨gx, hgx⟩ : ∃ g, g = w.heap.size := ⟨_, rfl⟩
  rw [← hgx] at K0
  have F0 := K0.facts
  simp only [World.size_alloc, World.size_drew, factsL, cellsF, Nat.reduceAdd, List.toList_toArray, List.set_cons_zero, List.set_cons_succ, List.setIfInBounds_toArray, and_true, true_and] at F0
  clear hl hx hok hox hE
  go_enter Tryz.func39, Tryz.ntmps39
  go_wp2_with fail
  rw [← hgx]
  have HGX := hid hgx
  clear hgx
  refine (rstvalid_any _ _ K0.mutLt A n c l (K0.ro 1 rfl) (fun z hz => ⟨(HOK.out z hz).1, (HOK.out z hz).2.2⟩) (by omega)).mono ?_
  cases hv1 : storB (l.map Te.tb) with
  | false =>
    have hz : E = (false, []) := by rw [HE.out]; exact putC_a hv1
    subst hz
    rintro e w8 ⟨rfl, b8⟩
    have HB := hid (K0.call b8).below
    clear K0 F0 b8 hv1 HE
    go_wp2_with fail
    (try simp only [Exit.inBlock, Exit.then])
    refine bodyPost_ret (results_tmp2 rfl _ _ _) rfl ?_
    exact ⟨none, 0, 0, [], rfl, by omega, by omega, rfl, fun x hx => (nomatch hx), tesIn_nil _ _, HB.out⟩
  | true =>
    rintro e w8 ⟨rfl, b8⟩
    have K1 := ((K0.call b8).add (teVals_nil _ _)).nil 58 4
    have HV1 := hid hv1
    clear K0 F0 b8 hv1
    go_wp2_with fail
    go_loopw [6, 7, 15] (fun ov dv jv wr => ∃ (j q cap : Nat) (O : Option Addr) (outs : List Te) (done : Bool), j ≤ n ∧ q ≤ 2 * j ∧ jv = .int .i64 j ∧ ov = .slice O q cap ∧ dv = .bool done ∧ Hid (insT false x.tb (l.map Te.tb) = outs.map Te.tb ++ insT done x.tb ((l.map Te.tb).drop j) ∧ ∀ z ∈ outs, z.ok ∧ TbM z.tb) ∧ Hold M none w wr [.own 58 4 (.slice O q cap) q (teCells outs), .ro (TeVals outs), .cst gx 58 #[.string x.nm, .slice x.A x.n x.c, .int .i64 x.nx, .slice x.B x.m x.d], .ro (TesIn A n l), .ro (TeIn x)]) (fun _ _ jv _ => n - (intOf jv).toNat)
    case atStart => exact ⟨0, 0, 0, none, [], false, by omega, by omega, rfl, rfl, rfl, hid ⟨rfl, fun z hz => (nomatch hz)⟩, K1⟩
    case round =>
      clear K1
      obtain ⟨j, q, cap, O, outs, done, hj, hq, rfl, rfl, rfl, HS, H⟩ := hrel
      by_cases hlt : j < n
      · have hd : decide ((j : Int) < (n : Int)) = true := by simp; omega
        have i0 : (0 : Int) ≤ (j : Int) := by omega
        have i1 : (j : Int) < (n : Int) := by omega
        obtain ⟨z, hz⟩ := get_of HL.out hlt
        obtain ⟨gl, ol, rfl, hb, c0, c1, c2, c3, -⟩ := (H.ro 3 rfl).now.at_ hz
        have HZ := hid hz
        have HZO := hid (HOK.out z (List.mem_of_getElem? hz))
        have HDR := hid (show (l.map Te.tb).drop j = z.tb :: (l.map Te.tb).drop (j + 1) by
          rw [List.drop_eq_getElem_cons (by rw [List.length_map, HL.out]; exact hlt)]
          congr 1
          have := te_at hz
          rw [List.getElem?_eq_getElem (by rw [List.length_map, HL.out]; exact hlt)] at this
          exact Option.some.inj this)
        have K2 := H.alloc_cst #[.string z.nm, .slice z.A z.n z.c, .int .i64 z.nx, .slice z.B z.m z.d] 58
        obtain ⟨gz, hgz⟩ : ∃ g, g = wr.heap.size := ⟨_, rfl⟩
        rw [← hgz] at K2
        have F2 := K2.facts
        simp only [World.size_alloc, World.size_drew, factsL, cellsF, Nat.reduceAdd, List.toList_toArray, List.set_cons_zero, List.set_cons_succ, List.setIfInBounds_toArray, and_true, true_and] at F2
        clear hz H
        cases hlz : Op.bytesLess z.nm.toList x.nm.toList with
        | true =>
          have hne : (x.nm.toList == z.nm.toList) = false := ltS_ne hlz
          have hxz : Op.bytesLess x.nm.toList z.nm.toList = false := (less_asymm _ _ hlz).1
          have HST := hid (show insT done x.tb (z.tb :: (l.map Te.tb).drop (j + 1)) = z.tb :: insT done x.tb ((l.map Te.tb).drop (j + 1)) by
            rw [insT, show ltS z.tb.nm x.tb.nm = true from hlz, show (x.tb.nm.toList == z.tb.nm.toList) = false from hne]; simp)
          cases done
          all_goals
            go_wp2_with fail
            rw [← hgz]
            have HGZ := hid hgz
            clear hgz F2
            refine (rtcopyT_any _ _ K2.mutLt z.nm z.A z.n z.c z.cs z.nx z.B z.m z.d 4398046511104 z.l ((K2.ro 4 rfl).imp fun w2 h2 => (h2.2 z (List.mem_of_getElem? HZ.out)).1) ((K2.ro 4 rfl).imp fun w2 h2 => (h2.2 z (List.mem_of_getElem? HZ.out)).2) HZO.out.2.1.1 HZO.out.2.1.2.1 (by omega) HZO.out.2.1.2.2).mono ?_
            rintro e w_y ⟨y, rfl, hy, hyo, ry, b4⟩
            have hyv : y.val = .agg #[.string y.nm, .slice y.A y.n y.c, .int .i64 y.nx, .slice y.B y.m y.d] := rfl
            rw [hyv]
            clear hyv
            have hy : y.tb = z.tb := hy
            have HYy := hid (And.intro hy hyo)
            have K5 := (K2.call b4).add ry
            have F5 := K5.facts
            simp only [World.size_alloc, World.size_drew, factsL, cellsF, Nat.reduceAdd, List.toList_toArray, List.set_cons_zero, List.set_cons_succ, List.setIfInBounds_toArray, and_true, true_and] at F5
            clear b4 ry hy hyo K2
            have e9 : teCells outs ++ (#[.string y.nm, .slice y.A y.n y.c, .int .i64 y.nx, .slice y.B y.m y.d]).toList = teCells (outs ++ [y]) := (teCells_snoc _ _).symm
            have HEy := hid e9
            clear e9
            go_wp2_with (at_builtin; go_must (refine wpList_appH K5 2 rfl Tryz.elTe #[.string y.nm, .slice y.A y.n y.c, .int .i64 y.nx, .slice y.B y.m y.d] rfl (.tmp 42) (.tmp 45) rfl rfl _ (by first | rfl | simp) rfl rfl (by intro u hu; simp at hu; rcases hu with rfl | rfl | rfl | rfl <;> rfl) (by omega) (by omega) ?_); go_must (intro g9 cap9 w_9 hc9 hm9 KB; rw [HEy.out] at KB; simp only [List.set_cons_zero, List.set_cons_succ, List.setIfInBounds_toArray] at KB; (have KC0 := KB.swapRo 3 rfl (teVals_snoc (KB.ro 3 rfl) (KB.ro 0 rfl))); simp only [List.set_cons_zero, List.set_cons_succ, List.setIfInBounds_toArray] at KC0; (have KC := KC0.drop (.cons _ (.cons _ (List.Sublist.refl _)))); clear KB KC0))
            go_roundw
            case rel => exact ⟨j + 1, q + 1, cap9, _, outs ++ [y], _, by omega, by omega, by first | rfl | go_num, by first | rfl | go_num, rfl, hid ⟨by rw [HS.out.1, HDR.out, HST.out] <;> simp [HYy.out.1], fun u hu => (List.mem_append.1 hu).elim (HS.out.2 u) (fun h => by simp at h; subst h; exact ⟨HYy.out.2, by rw [HYy.out.1]; exact HZO.out.2.2⟩)⟩, KC⟩
            case measure => simp [intOf] <;> omega
        | false =>
          cases heq : (x.nm.toList == z.nm.toList) with
          | true =>
            have hxz : Op.bytesLess x.nm.toList z.nm.toList = false := by
              have h : x.nm.toList = z.nm.toList := by simpa using heq
              rw [h]; exact ltS_irrefl z.nm
            cases done with
            | true =>
              have HST := hid (show insT true x.tb (z.tb :: (l.map Te.tb).drop (j + 1)) = insT true x.tb ((l.map Te.tb).drop (j + 1)) by
                rw [insT, show (x.tb.nm.toList == z.tb.nm.toList) = true from heq]; simp)
              have KC := K2.drop (List.sublist_cons_self _ _)
              go_wp2_with fail
              go_roundw
              case rel => exact ⟨j + 1, q, cap, O, outs, true, by omega, by omega, by first | rfl | go_num, by first | rfl | go_num, rfl, hid ⟨by rw [HS.out.1, HDR.out, HST.out] <;> simp, HS.out.2⟩, KC⟩
              case measure => simp [intOf] <;> omega
            | false =>
              have HST := hid (show insT false x.tb (z.tb :: (l.map Te.tb).drop (j + 1)) = x.tb :: insT true x.tb ((l.map Te.tb).drop (j + 1)) by
                rw [insT, show ltS z.tb.nm x.tb.nm = false from hlz, show (x.tb.nm.toList == z.tb.nm.toList) = true from heq]; simp)
              go_wp2_with fail
              rw [← hgz]
              have HGZ := hid hgz
              clear hgz F2
              refine (rtcopyT_any _ _ K2.mutLt x.nm x.A x.n x.c x.cs x.nx x.B x.m x.d 4398046511104 x.l ((K2.ro 5 rfl).imp fun w2 h2 => h2.1) ((K2.ro 5 rfl).imp fun w2 h2 => h2.2) HOX.out.2.1.1 HOX.out.2.1.2.1 (by omega) HOX.out.2.1.2.2).mono ?_
              rintro e w_y ⟨y, rfl, hy, hyo, ry, b4⟩
              have hyv : y.val = .agg #[.string y.nm, .slice y.A y.n y.c, .int .i64 y.nx, .slice y.B y.m y.d] := rfl
              rw [hyv]
              clear hyv
              have hy : y.tb = x.tb := hy
              have HYy := hid (And.intro hy hyo)
              have K5 := (K2.call b4).add ry
              have F5 := K5.facts
              simp only [World.size_alloc, World.size_drew, factsL, cellsF, Nat.reduceAdd, List.toList_toArray, List.set_cons_zero, List.set_cons_succ, List.setIfInBounds_toArray, and_true, true_and] at F5
              clear b4 ry hy hyo K2
              have e9 : teCells outs ++ (#[.string y.nm, .slice y.A y.n y.c, .int .i64 y.nx, .slice y.B y.m y.d]).toList = teCells (outs ++ [y]) := (teCells_snoc _ _).symm
              have HEy := hid e9
              clear e9
              go_wp2_with (at_builtin; go_must (refine wpList_appH K5 2 rfl Tryz.elTe #[.string y.nm, .slice y.A y.n y.c, .int .i64 y.nx, .slice y.B y.m y.d] rfl (.tmp 30) (.tmp 33) rfl rfl _ (by first | rfl | simp) rfl rfl (by intro u hu; simp at hu; rcases hu with rfl | rfl | rfl | rfl <;> rfl) (by omega) (by omega) ?_); go_must (intro g9 cap9 w_9 hc9 hm9 KB; rw [HEy.out] at KB; simp only [List.set_cons_zero, List.set_cons_succ, List.setIfInBounds_toArray] at KB; (have KC0 := KB.swapRo 3 rfl (teVals_snoc (KB.ro 3 rfl) (KB.ro 0 rfl))); simp only [List.set_cons_zero, List.set_cons_succ, List.setIfInBounds_toArray] at KC0; (have KC := KC0.drop (.cons _ (List.Sublist.refl _))); clear KB KC0; (have FC := KC.facts); simp only [World.size_alloc, World.size_drew, factsL, cellsF, Nat.reduceAdd, List.toList_toArray, List.set_cons_zero, List.set_cons_succ, List.setIfInBounds_toArray, and_true, true_and] at FC))
              (try replace KC := KC.drop (List.sublist_cons_self _ _))
              go_roundw
              case rel => exact ⟨j + 1, q + 1, cap9, _, outs ++ [y], true, by omega, by omega, by first | rfl | go_num, by first | rfl | go_num, rfl, hid ⟨by rw [HS.out.1, HDR.out, HST.out] <;> simp [HYy.out.1], fun u hu => (List.mem_append.1 hu).elim (HS.out.2 u) (fun h => by simp at h; subst h; exact ⟨HYy.out.2, by rw [HYy.out.1]; exact HOX.out.2.2⟩)⟩, KC⟩
              case measure => simp [intOf] <;> omega
          | false =>
            have hxz : Op.bytesLess x.nm.toList z.nm.toList = true := by
              cases h : Op.bytesLess x.nm.toList z.nm.toList with
              | true => rfl
              | false => rw [less_tri _ _ h hlz] at heq; simp at heq
            cases done with
            | true =>
              have HST := hid (show insT true x.tb (z.tb :: (l.map Te.tb).drop (j + 1)) = z.tb :: insT true x.tb ((l.map Te.tb).drop (j + 1)) by
                rw [insT, show (x.tb.nm.toList == z.tb.nm.toList) = false from heq]; simp)
              go_wp2_with fail
              rw [← hgz]
              have HGZ := hid hgz
              clear hgz F2
              refine (rtcopyT_any _ _ K2.mutLt z.nm z.A z.n z.c z.cs z.nx z.B z.m z.d 4398046511104 z.l ((K2.ro 4 rfl).imp fun w2 h2 => (h2.2 z (List.mem_of_getElem? HZ.out)).1) ((K2.ro 4 rfl).imp fun w2 h2 => (h2.2 z (List.mem_of_getElem? HZ.out)).2) HZO.out.2.1.1 HZO.out.2.1.2.1 (by omega) HZO.out.2.1.2.2).mono ?_
              rintro e w_y ⟨y, rfl, hy, hyo, ry, b4⟩
              have hyv : y.val = .agg #[.string y.nm, .slice y.A y.n y.c, .int .i64 y.nx, .slice y.B y.m y.d] := rfl
              rw [hyv]
              clear hyv
              have hy : y.tb = z.tb := hy
              have HYy := hid (And.intro hy hyo)
              have K5 := (K2.call b4).add ry
              have F5 := K5.facts
              simp only [World.size_alloc, World.size_drew, factsL, cellsF, Nat.reduceAdd, List.toList_toArray, List.set_cons_zero, List.set_cons_succ, List.setIfInBounds_toArray, and_true, true_and] at F5
              clear b4 ry hy hyo K2
              have e9 : teCells outs ++ (#[.string y.nm, .slice y.A y.n y.c, .int .i64 y.nx, .slice y.B y.m y.d]).toList = teCells (outs ++ [y]) := (teCells_snoc _ _).symm
              have HEy := hid e9
              clear e9
              go_wp2_with (at_builtin; go_must (refine wpList_appH K5 2 rfl Tryz.elTe #[.string y.nm, .slice y.A y.n y.c, .int .i64 y.nx, .slice y.B y.m y.d] rfl (.tmp 42) (.tmp 45) rfl rfl _ (by first | rfl | simp) rfl rfl (by intro u hu; simp at hu; rcases hu with rfl | rfl | rfl | rfl <;> rfl) (by omega) (by omega) ?_); go_must (intro g9 cap9 w_9 hc9 hm9 KB; rw [HEy.out] at KB; simp only [List.set_cons_zero, List.set_cons_succ, List.setIfInBounds_toArray] at KB; (have KC0 := KB.swapRo 3 rfl (teVals_snoc (KB.ro 3 rfl) (KB.ro 0 rfl))); simp only [List.set_cons_zero, List.set_cons_succ, List.setIfInBounds_toArray] at KC0; (have KC := KC0.drop (.cons _ (.cons _ (List.Sublist.refl _)))); clear KB KC0))
              go_roundw
              case rel => exact ⟨j + 1, q + 1, cap9, _, outs ++ [y], true, by omega, by omega, by first | rfl | go_num, by first | rfl | go_num, rfl, hid ⟨by rw [HS.out.1, HDR.out, HST.out] <;> simp [HYy.out.1], fun u hu => (List.mem_append.1 hu).elim (HS.out.2 u) (fun h => by simp at h; subst h; exact ⟨HYy.out.2, by rw [HYy.out.1]; exact HZO.out.2.2⟩)⟩, KC⟩
              case measure => simp [intOf] <;> omega
            | false =>
              have HST := hid (show insT false x.tb (z.tb :: (l.map Te.tb).drop (j + 1)) = x.tb :: z.tb :: insT true x.tb ((l.map Te.tb).drop (j + 1)) by
                rw [insT, show ltS z.tb.nm x.tb.nm = false from hlz, show (x.tb.nm.toList == z.tb.nm.toList) = false from heq]; simp)
              go_wp2_with fail
              rw [← hgz]
              have HGZ := hid hgz
              clear hgz F2
              refine (rtcopyT_any _ _ K2.mutLt x.nm x.A x.n x.c x.cs x.nx x.B x.m x.d 4398046511104 x.l ((K2.ro 5 rfl).imp fun w2 h2 => h2.1) ((K2.ro 5 rfl).imp fun w2 h2 => h2.2) HOX.out.2.1.1 HOX.out.2.1.2.1 (by omega) HOX.out.2.1.2.2).mono ?_
              rintro e w_y ⟨y, rfl, hy, hyo, ry, b4⟩
              have hyv : y.val = .agg #[.string y.nm, .slice y.A y.n y.c, .int .i64 y.nx, .slice y.B y.m y.d] := rfl
              rw [hyv]
              clear hyv
              have hy : y.tb = x.tb := hy
              have HYy := hid (And.intro hy hyo)
              have K5 := (K2.call b4).add ry
              have F5 := K5.facts
              simp only [World.size_alloc, World.size_drew, factsL, cellsF, Nat.reduceAdd, List.toList_toArray, List.set_cons_zero, List.set_cons_succ, List.setIfInBounds_toArray, and_true, true_and] at F5
              clear b4 ry hy hyo K2
              have e9 : teCells outs ++ (#[.string y.nm, .slice y.A y.n y.c, .int .i64 y.nx, .slice y.B y.m y.d]).toList = teCells (outs ++ [y]) := (teCells_snoc _ _).symm
              have HEy := hid e9
              clear e9
              go_wp2_with (at_builtin; go_must (refine wpList_appH K5 2 rfl Tryz.elTe #[.string y.nm, .slice y.A y.n y.c, .int .i64 y.nx, .slice y.B y.m y.d] rfl (.tmp 30) (.tmp 33) rfl rfl _ (by first | rfl | simp) rfl rfl (by intro u hu; simp at hu; rcases hu with rfl | rfl | rfl | rfl <;> rfl) (by omega) (by omega) ?_); go_must (intro g9 cap9 w_9 hc9 hm9 KB; rw [HEy.out] at KB; simp only [List.set_cons_zero, List.set_cons_succ, List.setIfInBounds_toArray] at KB; (have KC0 := KB.swapRo 3 rfl (teVals_snoc (KB.ro 3 rfl) (KB.ro 0 rfl))); simp only [List.set_cons_zero, List.set_cons_succ, List.setIfInBounds_toArray] at KC0; (have KC := KC0.drop (.cons _ (List.Sublist.refl _))); clear KB KC0; (have FC := KC.facts); simp only [World.size_alloc, World.size_drew, factsL, cellsF, Nat.reduceAdd, List.toList_toArray, List.set_cons_zero, List.set_cons_succ, List.setIfInBounds_toArray, and_true, true_and] at FC))
              refine (rtcopyT_any _ _ KC.mutLt z.nm z.A z.n z.c z.cs z.nx z.B z.m z.d 4398046511104 z.l ((KC.ro 4 rfl).imp fun w2 h2 => (h2.2 z (List.mem_of_getElem? HZ.out)).1) ((KC.ro 4 rfl).imp fun w2 h2 => (h2.2 z (List.mem_of_getElem? HZ.out)).2) HZO.out.2.1.1 HZO.out.2.1.2.1 (by omega) HZO.out.2.1.2.2).mono ?_
              rintro e w_y2 ⟨y2, rfl, hy, hyo, ry, b4⟩
              have hyv : y2.val = .agg #[.string y2.nm, .slice y2.A y2.n y2.c, .int .i64 y2.nx, .slice y2.B y2.m y2.d] := rfl
              rw [hyv]
              clear hyv
              have hy : y2.tb = z.tb := hy
              have HYy2 := hid (And.intro hy hyo)
              have K5 := (KC.call b4).add ry
              have F5 := K5.facts
              simp only [World.size_alloc, World.size_drew, factsL, cellsF, Nat.reduceAdd, List.toList_toArray, List.set_cons_zero, List.set_cons_succ, List.setIfInBounds_toArray, and_true, true_and] at F5
              clear b4 ry hy hyo KC
              have e9 : teCells (outs ++ [y]) ++ (#[.string y2.nm, .slice y2.A y2.n y2.c, .int .i64 y2.nx, .slice y2.B y2.m y2.d]).toList = teCells ((outs ++ [y]) ++ [y2]) := (teCells_snoc _ _).symm
              have HEy2 := hid e9
              clear e9
              go_wp2_with (at_builtin; go_must (refine wpList_appH K5 2 rfl Tryz.elTe #[.string y2.nm, .slice y2.A y2.n y2.c, .int .i64 y2.nx, .slice y2.B y2.m y2.d] rfl (.tmp 42) (.tmp 45) rfl rfl _ (by first | rfl | simp) rfl rfl (by intro u hu; simp at hu; rcases hu with rfl | rfl | rfl | rfl <;> rfl) (by omega) (by omega) ?_); go_must (intro g8 cap8 w_9 hc9 hm9 KB; rw [HEy2.out] at KB; simp only [List.set_cons_zero, List.set_cons_succ, List.setIfInBounds_toArray] at KB; (have KC0 := KB.swapRo 3 rfl (teVals_snoc (KB.ro 3 rfl) (KB.ro 0 rfl))); simp only [List.set_cons_zero, List.set_cons_succ, List.setIfInBounds_toArray] at KC0; (have KC := KC0.drop (.cons _ (.cons _ (List.Sublist.refl _)))); clear KB KC0))
              go_roundw
              case rel => exact ⟨j + 1, q + 1 + 1, cap8, _, outs ++ [y] ++ [y2], true, by omega, by omega, by first | rfl | go_num, by first | rfl | go_num, rfl, hid ⟨by rw [HS.out.1, HDR.out, HST.out] <;> simp [HYy.out.1, HYy2.out.1], fun u hu => (List.mem_append.1 hu).elim (fun hu => (List.mem_append.1 hu).elim (HS.out.2 u) (fun h => by simp at h; subst h; exact ⟨HYy.out.2, by rw [HYy.out.1]; exact HOX.out.2.2⟩)) (fun h => by simp at h; subst h; exact ⟨HYy2.out.2, by rw [HYy2.out.1]; exact HZO.out.2.2⟩)⟩, KC⟩
              case measure => simp [intOf] <;> omega
      · obtain rfl : j = n := by omega
        have hd : decide ((j : Int) < (j : Int)) = false := by simp
        have HDN := hid (show (l.map Te.tb).drop j = [] from List.drop_of_length_le (by rw [List.length_map, HL.out]; exact Nat.le_refl _))
        have F2 := H.facts
        simp only [World.size_alloc, World.size_drew, factsL, cellsF, Nat.reduceAdd, List.toList_toArray, List.set_cons_zero, List.set_cons_succ, List.setIfInBounds_toArray, and_true, true_and] at F2
        cases done with
        | true =>
          have HIN := hid (show insT false x.tb (l.map Te.tb) = outs.map Te.tb by rw [HS.out.1, HDN.out, insT]; simp)
          have HOUT := hid HS.out.2
          have hcap := own_caps (H.get 0 rfl)
          have KS := H.sealRow 0 rfl
          simp only [List.set_cons_zero, List.set_cons_succ, List.setIfInBounds_toArray] at KS
          have K8 := (KS.add ((KS.ro 0 rfl).and (KS.ro 1 rfl) : Ro _ _ (TesIn O q outs))).drop (L' := [_]) (.cons_cons _ (List.nil_sublist _))
          have HCP := hid (And.intro hcap.1 hcap.2.1)
          clear H KS hcap HS
          go_wp2_with fail
          refine (rstvalid_any _ _ K8.mutLt O q cap outs (K8.ro 0 rfl) (fun z hz => HOUT.out z hz) (by omega)).mono ?_
          cases hv2 : storB ((outs).map Te.tb) with
          | false =>
            have hz : E = (false, []) := by rw [HE.out]; exact putC_b (by rw [HIN.out]; exact hv2)
            subst hz
            rintro e w9 ⟨rfl, b9⟩
            have HB := hid (K8.call b9).below
            clear K8 b9 hv2 HE
            go_wp2_with fail
            (try simp only [Exit.inBlock, Exit.then])
            refine bodyPost_ret (results_tmp2 rfl _ _ _) rfl ?_
            exact ⟨none, 0, 0, [], rfl, by omega, by omega, rfl, fun x hx => (nomatch hx), tesIn_nil _ _, HB.out⟩
          | true =>
            have hz : E = (true, (outs).map Te.tb) := by rw [HE.out, putC_ok HV1.out (by rw [HIN.out]; exact hv2), HIN.out]
            subst hz
            rintro e w9 ⟨rfl, b9⟩
            have K21 := K8.call b9
            have rT := K21.roOut 0 rfl
            have HB := hid K21.below
            clear K8 b9 hv2 HE K21
            go_wp2_with fail
            (try simp only [Exit.inBlock, Exit.then])
            refine bodyPost_ret (results_tmp2 rfl _ _ _) rfl ?_
            exact ⟨O, q, cap, outs, rfl, HCP.out.1, HCP.out.2, rfl, fun z hz => HOUT.out z hz, rT, HB.out⟩
        | false =>
          have HIN0 := hid (show insT false x.tb (l.map Te.tb) = outs.map Te.tb ++ [x.tb] by rw [HS.out.1, HDN.out, insT]; simp)
          go_wp2_with fail
          refine (rtcopyT_any _ _ H.mutLt x.nm x.A x.n x.c x.cs x.nx x.B x.m x.d 4398046511104 x.l ((H.ro 4 rfl).imp fun w2 h2 => h2.1) ((H.ro 4 rfl).imp fun w2 h2 => h2.2) HOX.out.2.1.1 HOX.out.2.1.2.1 (by omega) HOX.out.2.1.2.2).mono ?_
          rintro e w_y ⟨y, rfl, hy, hyo, ry, b4⟩
          have hyv : y.val = .agg #[.string y.nm, .slice y.A y.n y.c, .int .i64 y.nx, .slice y.B y.m y.d] := rfl
          rw [hyv]
          clear hyv
          have hy : y.tb = x.tb := hy
          have HYy := hid (And.intro hy hyo)
          have K5 := (H.call b4).add ry
          have F5 := K5.facts
          simp only [World.size_alloc, World.size_drew, factsL, cellsF, Nat.reduceAdd, List.toList_toArray, List.set_cons_zero, List.set_cons_succ, List.setIfInBounds_toArray, and_true, true_and] at F5
          clear b4 ry hy hyo H
          have e9 : teCells outs ++ (#[.string y.nm, .slice y.A y.n y.c, .int .i64 y.nx, .slice y.B y.m y.d]).toList = teCells (outs ++ [y]) := (teCells_snoc _ _).symm
          have HEy := hid e9
          clear e9
          go_wp2_with (at_builtin; go_must (refine wpList_appH K5 1 rfl Tryz.elTe #[.string y.nm, .slice y.A y.n y.c, .int .i64 y.nx, .slice y.B y.m y.d] rfl (.tmp 50) (.tmp 53) rfl rfl _ (by first | rfl | simp) rfl rfl (by intro u hu; simp at hu; rcases hu with rfl | rfl | rfl | rfl <;> rfl) (by omega) (by omega) ?_); go_must (intro g9 cap9 w_9 hc9 hm9 KB; rw [HEy.out] at KB; simp only [List.set_cons_zero, List.set_cons_succ, List.setIfInBounds_toArray] at KB; (have hcap := own_caps (KB.get 1 rfl)); (have KS := KB.sealRow 1 rfl); simp only [List.set_cons_zero, List.set_cons_succ, List.setIfInBounds_toArray] at KS; (have K8 := (KS.add ((KS.ro 1 rfl).and (teVals_snoc (KS.ro 2 rfl) (KS.ro 0 rfl)) : Ro _ _ (TesIn _ (q + 1) (outs ++ [y])))).drop (L' := [_]) (.cons_cons _ (List.nil_sublist _))); (have HCP := hid (And.intro hcap.1 hcap.2.1)); clear KB KS hcap))
          have HIN := hid (show insT false x.tb (l.map Te.tb) = (outs ++ [y]).map Te.tb by rw [HIN0.out, List.map_append, ← HYy.out.1]; rfl)
          have HOUT := hid (show ∀ z ∈ outs ++ [y], z.ok ∧ TbM z.tb from fun u hu => (List.mem_append.1 hu).elim (HS.out.2 u) (fun h => by simp at h; subst h; exact ⟨HYy.out.2, by rw [HYy.out.1]; exact HOX.out.2.2⟩))
          refine (rstvalid_any _ _ K8.mutLt (some ⟨g9, 0, none⟩) (q + 1) cap9 (outs ++ [y]) (K8.ro 0 rfl) (fun z hz => HOUT.out z hz) (by omega)).mono ?_
          cases hv2 : storB (((outs ++ [y])).map Te.tb) with
          | false =>
            have hz : E = (false, []) := by rw [HE.out]; exact putC_b (by rw [HIN.out]; exact hv2)
            subst hz
            rintro e w9 ⟨rfl, b9⟩
            have HB := hid (K8.call b9).below
            clear K8 b9 hv2 HE
            go_wp2_with fail
            (try simp only [Exit.inBlock, Exit.then])
            refine bodyPost_ret (results_tmp2 rfl _ _ _) rfl ?_
            exact ⟨none, 0, 0, [], rfl, by omega, by omega, rfl, fun x hx => (nomatch hx), tesIn_nil _ _, HB.out⟩
          | true =>
            have hz : E = (true, ((outs ++ [y])).map Te.tb) := by rw [HE.out, putC_ok HV1.out (by rw [HIN.out]; exact hv2), HIN.out]
            subst hz
            rintro e w9 ⟨rfl, b9⟩
            have K21 := K8.call b9
            have rT := K21.roOut 0 rfl
            have HB := hid K21.below
            clear K8 b9 hv2 HE K21
            go_wp2_with fail
            (try simp only [Exit.inBlock, Exit.then])
            refine bodyPost_ret (results_tmp2 rfl _ _ _) rfl ?_
            exact ⟨(some ⟨g9, 0, none⟩), (q + 1), cap9, (outs ++ [y]), rfl, HCP.out.1, HCP.out.2, rfl, fun z hz => HOUT.out z hz, rT, HB.out⟩
end Go.Proofs.YtedogodccblfeaaGreatDoor

namespace Go.Proofs
open Go.Shelf
def Tryz.sortRows_ren : Go.Shelf.Ren := ⟨fun | 6 => 201 | 15 => 227 | 14 => 226 | 28 => 244 | 29 => 245 | 20 => 236 | 21 => 237 | 22 => 238 | 23 => 239 | 24 => 240 | 25 => 241 | 26 => 242 | 27 => 243 | 46 => 250 | 47 => 251 | 48 => 252 | 49 => 253 | 50 => 254 | 57 => 257 | n => n, fun | 22 => 74 | 24 => 51 | 25 => 125 | 3 => 3 | 39 => 214 | 0 => 0 | 53 => 285 | 55 => 287 | 4 => 4 | 46 => 279 | 45 => 278 | 50 => 150 | 5 => 5 | 9 => 9 | 66 => 290 | 70 => 294 | 76 => 297 | 77 => 298 | n => n, fun | n => n⟩
theorem Tryz.sortRows : Go.Proofs.SlLaysF.n6 Tryz.prog Tryz.sortRows_ren := {
  mixed := by kernel_rfl
  f6 := ⟨Tryz.f201.name, by decide, Tryz.func201.trans (congrArg some (by kernel_rfl))⟩
  f14 := ⟨Tryz.f226.name, by decide, Tryz.func226.trans (congrArg some (by kernel_rfl))⟩
  f15 := Tryz.func227.trans (congrArg some (by kernel_rfl))
  f20 := ⟨Tryz.f236.name, by decide, Tryz.func236.trans (congrArg some (by kernel_rfl))⟩
  f21 := ⟨Tryz.f237.name, by decide, Tryz.func237.trans (congrArg some (by kernel_rfl))⟩
  f22 := ⟨Tryz.f238.name, by decide, Tryz.func238.trans (congrArg some (by kernel_rfl))⟩
  f23 := ⟨Tryz.f239.name, by decide, Tryz.func239.trans (congrArg some (by kernel_rfl))⟩
  f24 := ⟨Tryz.f240.name, by decide, Tryz.func240.trans (congrArg some (by kernel_rfl))⟩
  f25 := ⟨Tryz.f241.name, by decide, Tryz.func241.trans (congrArg some (by kernel_rfl))⟩
  f26 := ⟨Tryz.f242.name, by decide, Tryz.func242.trans (congrArg some (by kernel_rfl))⟩
  f27 := ⟨Tryz.f243.name, by decide, Tryz.func243.trans (congrArg some (by kernel_rfl))⟩
  f28 := Tryz.func244.trans (congrArg some (by kernel_rfl))
  f29 := Tryz.func245.trans (congrArg some (by kernel_rfl))
  f46 := ⟨Tryz.f250.name, by decide, Tryz.func250.trans (congrArg some (by kernel_rfl))⟩
  f47 := Tryz.func251.trans (congrArg some (by kernel_rfl))
  f48 := Tryz.func252.trans (congrArg some (by kernel_rfl))
  f49 := ⟨Tryz.f253.name, by decide, Tryz.func253.trans (congrArg some (by kernel_rfl))⟩
  f50 := ⟨Tryz.f254.name, by decide, Tryz.func254.trans (congrArg some (by kernel_rfl))⟩
  f57 := ⟨Tryz.f257.name, by decide, Tryz.func257.trans (congrArg some (by kernel_rfl))⟩
  t0 := Tryz.underlying0
  a0 := Tryz.isAgg0
  z0 := Tryz.sizeOf0
  v0 := Tryz.zeroValue0
  t3 := Tryz.underlying3
  a3 := Tryz.isAgg3
  z3 := Tryz.sizeOf3
  v3 := Tryz.zeroValue3
  t4 := Tryz.underlying4
  a4 := Tryz.isAgg4
  z4 := Tryz.sizeOf4
  v4 := Tryz.zeroValue4
  t5 := Tryz.underlying5
  a5 := Tryz.isAgg5
  z5 := Tryz.sizeOf5
  v5 := Tryz.zeroValue5
  t9 := Tryz.underlying9
  a9 := Tryz.isAgg9
  z9 := Tryz.sizeOf9
  v9 := Tryz.zeroValue9
  t22 := Tryz.underlying74
  a22 := Tryz.isAgg74
  z22 := Tryz.sizeOf74
  v22 := Tryz.zeroValue74
  a24 := Tryz.isAgg51
  z24 := Tryz.sizeOf51
  t25 := Tryz.underlying125
  a25 := Tryz.isAgg125
  z25 := Tryz.sizeOf125
  v25 := Tryz.zeroValue125
  t39 := Tryz.underlying214
  a39 := Tryz.isAgg214
  z39 := Tryz.sizeOf214
  v39 := Tryz.zeroValue214
  t45 := Tryz.underlying278
  a45 := Tryz.isAgg278
  z45 := Tryz.sizeOf278
  v45 := Tryz.zeroValue278
  t46 := Tryz.underlying279
  a46 := Tryz.isAgg279
  z46 := Tryz.sizeOf279
  v46 := Tryz.zeroValue279
  t50 := Tryz.underlying150
  a50 := Tryz.isAgg150
  z50 := Tryz.sizeOf150
  v50 := Tryz.zeroValue150
  t53 := Tryz.underlying285
  a53 := Tryz.isAgg285
  z53 := Tryz.sizeOf285
  v53 := Tryz.zeroValue285
  t55 := Tryz.underlying287
  a55 := Tryz.isAgg287
  z55 := Tryz.sizeOf287
  v55 := Tryz.zeroValue287
  t66 := Tryz.underlying290
  a66 := Tryz.isAgg290
  z66 := Tryz.sizeOf290
  v66 := Tryz.zeroValue290
  t70 := Tryz.underlying294
  a70 := Tryz.isAgg294
  z70 := Tryz.sizeOf294
  v70 := Tryz.zeroValue294
  t76 := Tryz.underlying297
  a76 := Tryz.isAgg297
  z76 := Tryz.sizeOf297
  v76 := Tryz.zeroValue297
  t77 := Tryz.underlying298
  a77 := Tryz.isAgg298
  z77 := Tryz.sizeOf298
  v77 := Tryz.zeroValue298 }
end Go.Proofs

namespace Go.Proofs.YtedogodccblfeaaGreatDoor
open Go.RowKit Go.Sort
set_option linter.unusedVariables false

/-- from w to w' nothing but draws and new blocks -/
def Gr (w w' : World) : Prop := ∃ (q : Nat) (os : Array Obj), w' = grow (w.drewN q) os
theorem Gr.refl (w : World) : Gr w w := ⟨0, #[], by rw [grow_empty]; rfl⟩
theorem Gr.trans {a b c : World} (h : Gr a b) (k : Gr b c) : Gr a c := by
  obtain ⟨q, os, rfl⟩ := h
  obtain ⟨q2, os2, rfl⟩ := k
  exact ⟨q + q2, os ++ os2, by show grow (grow ((a.drewN q).drewN q2) os) os2 = _; rw [grow_grow, World.drewN_drewN]⟩
theorem Gr.alloc (w : World) (o : Obj) : Gr w (w.alloc o) := ⟨0, #[o], by rw [alloc_eq_grow]; rfl⟩
theorem Gr.drew (w : World) : Gr w w.drew := ⟨1, #[], by rw [grow_empty]; rfl⟩
theorem Gr.drewN (w : World) (n : Nat) : Gr w (w.drewN n) := ⟨n, #[], by rw [grow_empty]⟩
theorem Gr.size {w w' : World} (h : Gr w w') : w.heap.size ≤ w'.heap.size := by
  obtain ⟨q, os, rfl⟩ := h
  rw [size_grow]
  exact Nat.le_add_right _ _
theorem Gr.block {w w' : World} (h : Gr w w') {k : Nat} (hk : k < w.heap.size) : w'.heap[k]? = w.heap[k]? := by
  obtain ⟨q, os, rfl⟩ := h
  exact heap_grow_old (w.drewN q) os hk
theorem Gr.below {w w' : World} (h : Gr w w') : Below w.heap.size w w' := by
  have h1 := h.size
  have h2 := fun k (hk : k < w.heap.size) => h.block hk
  obtain ⟨q, os, rfl⟩ := h
  exact ⟨rfl, rfl, rfl, h1, h2⟩
theorem Gr.ro {w w' : World} {M : Nat → Prop} {S : World → Prop} (h : Gr w w') (hs : Ro w M S) : Ro w' M S := hs.below h.below
end Go.Proofs.YtedogodccblfeaaGreatDoor

namespace Go.Proofs.YtedogodccblfeaaGreatDoor
open Go.RowKit Go.Sort
set_option linter.unusedVariables false
set_option linter.unusedSimpArgs false

set_option maxHeartbeats 1000000 in
theorem vcompare_gr (k1 i1 : Int) (s1 : ByteArray) (k2 i2 : Int) (s2 : ByteArray) (w : World) :
    Calls Tryz.prog 228 #[.agg #[.int .i64 k1, .int .i64 i1, .string s1], .agg #[.int .i64 k2, .int .i64 i2, .string s2]] w fun e w' => e = .returned (.int .i64 (cmpV k1 i1 s1 k2 i2 s2)) ∧ Gr w w' := by
  obtain ⟨x, hx⟩ : ∃ x, x = cmpI k1 k2 := ⟨_, rfl⟩
  obtain ⟨y, hy⟩ : ∃ y, y = cmpI i1 i2 := ⟨_, rfl⟩
  obtain ⟨z, hz⟩ : ∃ z, z = cmpS s1 s2 := ⟨_, rfl⟩
  have c1 := fun w => cmp_int k1 k2 w
  have c2 := fun w => cmp_int64 i1 i2 w
  have c3 := fun w => cmp_string s1 s2 w
  rw [← hx] at c1
  rw [← hy] at c2
  rw [← hz] at c3
  have HF : Hid (cmpV k1 i1 s1 k2 i2 s2 = firstNZ [x, y, z]) := by unfold Hid cmpV; rw [hx, hy, hz]
  have C1 := hid c1; have C2 := hid c2; have C3 := hid c3
  clear c1 c2 c3 hx hy hz
  have B0 := (Blk.new w 117 #[.int .i64 k1, .int .i64 i1, .string s1]).alloc (.cells #[.int .i64 k2, .int .i64 i2, .string s2] 117)
  have B1 : Blk ((w.alloc (.cells #[.int .i64 k1, .int .i64 i1, .string s1] 117)).alloc (.cells #[.int .i64 k2, .int .i64 i2, .string s2] 117)) (w.heap.size + 1) 117 #[.int .i64 k2, .int .i64 i2, .string s2] := by
    have := Blk.new (w.alloc (.cells #[.int .i64 k1, .int .i64 i1, .string s1] 117)) 117 #[.int .i64 k2, .int .i64 i2, .string s2]
    simpa using this
  have RO : Rd (((w.alloc (.cells #[.int .i64 k1, .int .i64 i1, .string s1] 117)).alloc (.cells #[.int .i64 k2, .int .i64 i2, .string s2] 117)).alloc (.cells #[.int .i64 x, .int .i64 y, .int .i64 z] 3)) (w.heap.size + 1 + 1 + 1) 1 (some ⟨w.heap.size + 1 + 1, 0, none⟩) 3 ([x, y, z].map (Value.int .i64)) := by
    have := Rd.lit ((w.alloc (.cells #[.int .i64 k1, .int .i64 i1, .string s1] 117)).alloc (.cells #[.int .i64 k2, .int .i64 i2, .string s2] 117)) #[.int .i64 x, .int .i64 y, .int .i64 z] 3 (size := 1) (n := 3) (xs := [x, y, z].map (Value.int .i64)) rfl rfl
    simpa using this
  go_enter Tryz.func228, Tryz.ntmps228
  go_wp2_with fail
  go_region_held3 (fun w' => w'.cell? ⟨w.heap.size, 0, none⟩ = some (.int .i64 k1) ∧ w'.cell? ⟨w.heap.size, 1, none⟩ = some (.int .i64 i1) ∧ w'.cell? ⟨w.heap.size, 2, none⟩ = some (.string s1) ∧ w'.cell? ⟨w.heap.size + 1, 0, none⟩ = some (.int .i64 k2) ∧ w'.cell? ⟨w.heap.size + 1, 1, none⟩ = some (.int .i64 i2) ∧ w'.cell? ⟨w.heap.size + 1, 2, none⟩ = some (.string s2))
    (first | exact six B0 B1 | exact six (B0.alloc _) (B1.alloc _))
    (first
      | (go_at_call 136; ((with_reducible refine (C1.out _).mono ?_); rintro e w3 ⟨rfl, rfl⟩))
      | (go_at_call 247; ((with_reducible refine (C2.out _).mono ?_); rintro e w3 ⟨rfl, rfl⟩))
      | (go_at_call 248; ((with_reducible refine (C3.out _).mono ?_); rintro e w3 ⟨rfl, rfl⟩))
      | (go_at_call 246; ((with_reducible refine (or_int _ 3 3 [x, y, z] _ _ (Rd.drew RO) (by omega)).mono ?_); rintro e w4 ⟨rfl, rfl⟩)))
  go_wp2_with fail
  go_ret
  exact ⟨by rw [HF.out]; rfl, (((Gr.alloc _ _).trans (Gr.alloc _ _)).trans (Gr.alloc _ _)).trans (Gr.drew _)⟩

/-- the order of values, of rows -/
def cmpVl (x y : Vl) : Int := cmpV x.k x.i x.s y.k y.i y.s
def rowC : List Vl → List Vl → Int
  | [], [] => 0
  | [], _ :: _ => -1
  | _ :: _, [] => 1
  | x :: xs, y :: ys => if cmpVl x y = 0 then rowC xs ys else cmpVl x y
theorem rowC_go {xs ys : List Vl} {k : Nat} {x y : Vl} (hx : xs[k]? = some x) (hy : ys[k]? = some y) (h : cmpVl x y = 0) : rowC (xs.drop k) (ys.drop k) = rowC (xs.drop (k + 1)) (ys.drop (k + 1)) := by
  rw [drop_cons hx, drop_cons hy, rowC, if_pos h]
theorem rowC_stop {xs ys : List Vl} {k : Nat} {x y : Vl} (hx : xs[k]? = some x) (hy : ys[k]? = some y) (h : cmpVl x y ≠ 0) : rowC (xs.drop k) (ys.drop k) = cmpVl x y := by
  rw [drop_cons hx, drop_cons hy, rowC, if_neg h]
theorem rowC_end {xs ys : List Vl} {k n m : Nat} (hn : xs.length = n) (hm : ys.length = m) (hk : k = min n m) : rowC (xs.drop k) (ys.drop k) = cmpI n m := by
  unfold cmpI
  rcases Nat.lt_trichotomy n m with h | h | h
  · have hk2 : k < ys.length := by omega
    rw [List.drop_of_length_le (show xs.length ≤ k by omega), List.drop_eq_getElem_cons hk2, rowC, if_pos (by omega)]
  · rw [List.drop_of_length_le (show xs.length ≤ k by omega), List.drop_of_length_le (show ys.length ≤ k by omega), rowC, if_neg (by omega), if_neg (by omega)]
  · have hk2 : k < xs.length := by omega
    rw [List.drop_of_length_le (show ys.length ≤ k by omega), List.drop_eq_getElem_cons hk2, rowC, if_neg (by omega), if_pos (by omega)]
set_option maxHeartbeats 4000000 in
set_option maxRecDepth 100000 in
theorem vcmprows_gr (w : World) (A : Option Addr) (n c : Nat) (xs : List Vl) (B : Option Addr) (m d : Nat) (ys : List Vl) (hD : Ro w None_ (VlsIn A n xs)) (hE : Ro w None_ (VlsIn B m ys)) (hn : n ≤ 9223372036854775807) (hm : m ≤ 9223372036854775807) :
    Calls Tryz.prog 202 #[.slice A n c, .slice B m d] w fun e w' => e = .returned (.int .i64 (rowC xs ys)) ∧ Gr w w' := by
  have HX := hid (show xs.length = n from hD.now.len)
  have HY := hid (show ys.length = m from hE.now.len)
  have HD := hid hD
  have HE := hid hE
  have mixed : Tryz.prog.follows .mixedOrders = true := by kernel_rfl
  clear hD hE
  obtain ⟨r, hr⟩ : ∃ r, r = rowC xs ys := ⟨_, rfl⟩
  rw [← hr]
  have HR := hid hr
  clear hr
  by_cases hnm : n ≤ m
  · have z1 : (n : Int) ≤ (m : Int) := by omega
    go_enter Tryz.func202, Tryz.ntmps202
    go_wp2_with fail
    go_loopw [12] (fun iv wr => ∃ k : Nat, k ≤ n ∧ iv = .int .i64 k ∧ Hid (r = rowC (xs.drop k) (ys.drop k)) ∧ Hid (Gr w wr)) (fun iv _ => n - (intOf iv).toNat)
    case atStart => exact ⟨0, by omega, rfl, hid (by rw [HR.out]; rfl), hid (Gr.refl w)⟩
    case round =>
      obtain ⟨k, hk, rfl, HK, HG⟩ := hrel
      by_cases hlt : k < n
      · have hd : decide ((k : Int) < (n : Int)) = true := by simp; omega
        have i0 : (0 : Int) ≤ (k : Int) := by omega
        have i1 : (k : Int) < (n : Int) := by omega
        have i2 : (k : Int) < (m : Int) := by omega
        obtain ⟨x, hx⟩ := get_of HX.out (show k < n by omega)
        obtain ⟨y, hy⟩ := get_of HY.out (show k < m by omega)
        have h1 := (HG.out.ro HD.out).now
        have h2 := (HG.out.ro HE.out).now
        obtain ⟨b, o, rfl, hb, c0, c1, c2⟩ := h1.at_ hx
        obtain ⟨b', o', rfl, hb', e0, e1, e2⟩ := h2.at_ hy
        clear h1 h2
        have g0 := fun p os => cell_grown (a := ⟨b, o + k * 3, none⟩) hb c0 p os
        have g1 := fun p os => cell_grown (a := ⟨b, o + k * 3 + 1, none⟩) hb c1 p os
        have g2 := fun p os => cell_grown (a := ⟨b, o + k * 3 + 2, none⟩) hb c2 p os
        have g3 := fun p os => cell_grown (a := ⟨b', o' + k * 3, none⟩) hb' e0 p os
        have g4 := fun p os => cell_grown (a := ⟨b', o' + k * 3 + 1, none⟩) hb' e1 p os
        have g5 := fun p os => cell_grown (a := ⟨b', o' + k * 3 + 2, none⟩) hb' e2 p os
        have HV := hid (fun W => vcompare_gr x.k x.i x.s y.k y.i y.s W)
        obtain ⟨cv, hcv⟩ : ∃ cv, cv = cmpVl x y := ⟨_, rfl⟩
        have HV2 : Hid (∀ W, Calls Tryz.prog 228 #[.agg #[.int .i64 x.k, .int .i64 x.i, .string x.s], .agg #[.int .i64 y.k, .int .i64 y.i, .string y.s]] W fun e w' => e = .returned (.int .i64 cv) ∧ ∃ q os', w' = grow (W.drewN q) os') := hid fun W => by rw [hcv]; exact HV.out W
        have HXK := hid hx
        have HYK := hid hy
        have HCV := hid hcv
        clear hx hy hcv HV c0 c1 c2 e0 e1 e2
        go_wp2_with fail
        go_quiet_grown (first | (go_at_call 228; refine Calls.grown_of (HV2.out _)))
        have HG2 := hid (HG.out.trans (show Gr wr (grow (wr.drewN nq) osq) from ⟨nq, osq, rfl⟩))
        clear g0 g1 g2 g3 g4 g5
        by_cases hz : cv = 0
        · have hb0 : (cv != 0) = false := by simp [hz]
          have HN := hid (show r = rowC (xs.drop (k + 1)) (ys.drop (k + 1)) by rw [HK.out]; exact rowC_go HXK.out HYK.out (by rw [← HCV.out, hz]))
          clear hz
          go_wp2_with fail
          go_roundw
          case rel => exact ⟨k + 1, by omega, by go_num, HN, HG2⟩
          case measure => simp [intOf]; omega
        · have hb0 : (cv != 0) = true := by simpa using hz
          have HN := hid (show r = cv by rw [HK.out, rowC_stop HXK.out HYK.out (by rw [← HCV.out]; exact hz), HCV.out])
          clear hz
          go_wp2_with fail
          go_ret
          exact ⟨by rw [HN.out] <;> rfl, HG2.out⟩
      · obtain rfl : n = k := by omega
        have hd : decide ((n : Int) < (n : Int)) = false := by simp
        have HN := hid (show r = cmpI n m by rw [HK.out]; exact rowC_end HX.out HY.out (by omega))
        go_wp2_with fail
        refine (cmp_int _ _ _).mono ?_
        rintro e w1 ⟨rfl, rfl⟩
        go_wp2_with fail
        go_ret
        exact ⟨by rw [HN.out] <;> rfl, HG.out⟩
  · have z1 : ¬ (n : Int) ≤ (m : Int) := by omega
    have z2 : (m : Int) ≤ (n : Int) := by omega
    have z3 : (m : Int) < (n : Int) := by omega
    go_enter Tryz.func202, Tryz.ntmps202
    go_wp2_with fail
    go_loopw [12] (fun iv wr => ∃ k : Nat, k ≤ m ∧ iv = .int .i64 k ∧ Hid (r = rowC (xs.drop k) (ys.drop k)) ∧ Hid (Gr w wr)) (fun iv _ => m - (intOf iv).toNat)
    case atStart => exact ⟨0, by omega, rfl, hid (by rw [HR.out]; rfl), hid (Gr.refl w)⟩
    case round =>
      obtain ⟨k, hk, rfl, HK, HG⟩ := hrel
      by_cases hlt : k < m
      · have hd : decide ((k : Int) < (m : Int)) = true := by simp; omega
        have i0 : (0 : Int) ≤ (k : Int) := by omega
        have i1 : (k : Int) < (n : Int) := by omega
        have i2 : (k : Int) < (m : Int) := by omega
        obtain ⟨x, hx⟩ := get_of HX.out (show k < n by omega)
        obtain ⟨y, hy⟩ := get_of HY.out (show k < m by omega)
        have h1 := (HG.out.ro HD.out).now
        have h2 := (HG.out.ro HE.out).now
        obtain ⟨b, o, rfl, hb, c0, c1, c2⟩ := h1.at_ hx
        obtain ⟨b', o', rfl, hb', e0, e1, e2⟩ := h2.at_ hy
        clear h1 h2
        have g0 := fun p os => cell_grown (a := ⟨b, o + k * 3, none⟩) hb c0 p os
        have g1 := fun p os => cell_grown (a := ⟨b, o + k * 3 + 1, none⟩) hb c1 p os
        have g2 := fun p os => cell_grown (a := ⟨b, o + k * 3 + 2, none⟩) hb c2 p os
        have g3 := fun p os => cell_grown (a := ⟨b', o' + k * 3, none⟩) hb' e0 p os
        have g4 := fun p os => cell_grown (a := ⟨b', o' + k * 3 + 1, none⟩) hb' e1 p os
        have g5 := fun p os => cell_grown (a := ⟨b', o' + k * 3 + 2, none⟩) hb' e2 p os
        have HV := hid (fun W => vcompare_gr x.k x.i x.s y.k y.i y.s W)
        obtain ⟨cv, hcv⟩ : ∃ cv, cv = cmpVl x y := ⟨_, rfl⟩
        have HV2 : Hid (∀ W, Calls Tryz.prog 228 #[.agg #[.int .i64 x.k, .int .i64 x.i, .string x.s], .agg #[.int .i64 y.k, .int .i64 y.i, .string y.s]] W fun e w' => e = .returned (.int .i64 cv) ∧ ∃ q os', w' = grow (W.drewN q) os') := hid fun W => by rw [hcv]; exact HV.out W
        have HXK := hid hx
        have HYK := hid hy
        have HCV := hid hcv
        clear hx hy hcv HV c0 c1 c2 e0 e1 e2
        go_wp2_with fail
        go_quiet_grown (first | (go_at_call 228; refine Calls.grown_of (HV2.out _)))
        have HG2 := hid (HG.out.trans (show Gr wr (grow (wr.drewN nq) osq) from ⟨nq, osq, rfl⟩))
        clear g0 g1 g2 g3 g4 g5
        by_cases hz : cv = 0
        · have hb0 : (cv != 0) = false := by simp [hz]
          have HN := hid (show r = rowC (xs.drop (k + 1)) (ys.drop (k + 1)) by rw [HK.out]; exact rowC_go HXK.out HYK.out (by rw [← HCV.out, hz]))
          clear hz
          go_wp2_with fail
          go_roundw
          case rel => exact ⟨k + 1, by omega, by go_num, HN, HG2⟩
          case measure => simp [intOf]; omega
        · have hb0 : (cv != 0) = true := by simpa using hz
          have HN := hid (show r = cv by rw [HK.out, rowC_stop HXK.out HYK.out (by rw [← HCV.out]; exact hz), HCV.out])
          clear hz
          go_wp2_with fail
          go_ret
          exact ⟨by rw [HN.out] <;> rfl, HG2.out⟩
      · obtain rfl : m = k := by omega
        have hd : decide ((m : Int) < (m : Int)) = false := by simp
        have HN := hid (show r = cmpI n m by rw [HK.out]; exact rowC_end HX.out HY.out (by omega))
        go_wp2_with fail
        refine (cmp_int _ _ _).mono ?_
        rintro e w1 ⟨rfl, rfl⟩
        go_wp2_with fail
        go_ret
        exact ⟨by rw [HN.out] <;> rfl, HG.out⟩
end Go.Proofs.YtedogodccblfeaaGreatDoor

namespace Go.Proofs.YtedogodccblfeaaGreatDoor
open Go.RowKit
set_option linter.unusedVariables false
set_option linter.unusedSimpArgs false

/-- a comparison that is a linear order -/
structure LinC {α : Type} (c : α → α → Int) : Prop where
  eq : ∀ x y, c x y = 0 ↔ x = y
  flip : ∀ x y, c x y < 0 ↔ 0 < c y x
  trans : ∀ x y z, c x y < 0 → c y z < 0 → c x z < 0
theorem cmpI_cases (x y : Int) : (x < y ∧ cmpI x y = -1) ∨ (x = y ∧ cmpI x y = 0) ∨ (y < x ∧ cmpI x y = 1) := by
  unfold cmpI
  rcases Int.lt_trichotomy x y with h | h | h
  · exact .inl ⟨h, if_pos h⟩
  · exact .inr (.inl ⟨h, by rw [if_neg (by omega), if_neg (by omega)]⟩)
  · exact .inr (.inr ⟨h, by rw [if_neg (by omega), if_pos h]⟩)
theorem linI : LinC cmpI where
  eq x y := by rcases cmpI_cases x y with h | h | h <;> omega
  flip x y := by rcases cmpI_cases x y with h | h | h <;> rcases cmpI_cases y x with k | k | k <;> omega
  trans x y z h k := by rcases cmpI_cases x y with a | a | a <;> rcases cmpI_cases y z with b | b | b <;> rcases cmpI_cases x z with c | c | c <;> omega
theorem linS : LinC cmpS where
  eq x y := by
    unfold cmpS
    cases h1 : Op.bytesLess x.toList y.toList
    · by_cases h2 : x = y
      · subst h2; simp
      · have h3 : (x.toList == y.toList) = false := by rw [beq_eq_false_iff_ne]; exact fun h => h2 (bytesEq h)
        simp [h3, h2]
    · have h2 := (less_asymm _ _ h1).2
      have : x ≠ y := fun e => h2 (by rw [e])
      simp [this]
  flip x y := by
    unfold cmpS
    cases h1 : Op.bytesLess x.toList y.toList
    · cases h2 : Op.bytesLess y.toList x.toList
      · have h3 := less_tri _ _ h1 h2
        simp [h3]
      · have h3 := (less_asymm _ _ h2).2
        have h4 : (x.toList == y.toList) = false := by rw [beq_eq_false_iff_ne]; exact fun h => h3 h.symm
        simp [h4]
    · have h2 := less_asymm _ _ h1
      have h4 : (y.toList == x.toList) = false := by rw [beq_eq_false_iff_ne]; exact fun h => h2.2 h.symm
      simp [h2.1, h4]
  trans x y z h k := by
    have lt : ∀ a b : ByteArray, cmpS a b < 0 ↔ Op.bytesLess a.toList b.toList = true := fun a b => by
      unfold cmpS
      cases h1 : Op.bytesLess a.toList b.toList
      · simp only [Bool.false_eq_true, if_false, iff_false]
        split <;> omega
      · simp
    rw [lt] at h k ⊢
    exact less_trans_ _ _ _ h k
/-- the first decides, else the second -/
def thenC (a b : Int) : Int := if a = 0 then b else a
theorem linThen {α β γ : Type} {c : β → β → Int} {e : γ → γ → Int} (hc : LinC c) (he : LinC e) (f : α → β) (g : α → γ) (hi : ∀ x y, f x = f y → g x = g y → x = y) : LinC fun x y : α => thenC (c (f x) (f y)) (e (g x) (g y)) where
  eq x y := by
    show thenC _ _ = 0 ↔ _
    unfold thenC
    constructor
    · intro h
      by_cases h1 : c (f x) (f y) = 0
      · rw [if_pos h1] at h
        exact hi x y ((hc.eq _ _).1 h1) ((he.eq _ _).1 h)
      · rw [if_neg h1] at h; exact absurd h h1
    · rintro rfl
      rw [if_pos ((hc.eq _ _).2 rfl)]
      exact (he.eq _ _).2 rfl
  flip x y := by
    show thenC _ _ < 0 ↔ 0 < thenC _ _
    unfold thenC
    by_cases h1 : f x = f y
    · rw [if_pos ((hc.eq _ _).2 h1), if_pos ((hc.eq _ _).2 h1.symm)]
      exact he.flip _ _
    · rw [if_neg (fun h => h1 ((hc.eq _ _).1 h)), if_neg (fun h => h1 ((hc.eq _ _).1 h).symm)]
      exact hc.flip _ _
  trans x y z h k := by
    replace h : thenC (c (f x) (f y)) (e (g x) (g y)) < 0 := h
    replace k : thenC (c (f y) (f z)) (e (g y) (g z)) < 0 := k
    show thenC (c (f x) (f z)) (e (g x) (g z)) < 0
    unfold thenC at h k ⊢
    by_cases h1 : f x = f y
    · rw [if_pos ((hc.eq _ _).2 h1)] at h
      rw [h1]
      by_cases h2 : f y = f z
      · rw [if_pos ((hc.eq _ _).2 h2)] at k ⊢
        exact he.trans _ _ _ h k
      · rw [if_neg (fun h => h2 ((hc.eq _ _).1 h))] at k ⊢
        exact k
    · rw [if_neg (fun h => h1 ((hc.eq _ _).1 h))] at h
      by_cases h2 : f y = f z
      · rw [← h2, if_neg (fun h => h1 ((hc.eq _ _).1 h))]
        exact h
      · rw [if_neg (fun h => h2 ((hc.eq _ _).1 h))] at k
        have h3 := hc.trans _ _ _ h k
        rw [if_neg (by omega)]
        exact h3
theorem linVl : LinC cmpVl := by
  have h2 := linThen (α := Vl) linI linS Vl.i Vl.s
  have h3 : LinC fun x y : Int × ByteArray => thenC (cmpI x.1 y.1) (cmpS x.2 y.2) := linThen linI linS Prod.fst Prod.snd fun x y h k => Prod.ext h k
  have h4 := linThen (α := Vl) linI h3 Vl.k (fun v => (v.i, v.s)) fun x y h k => by
    cases x; cases y
    simp only [Prod.mk.injEq] at k
    simp only at h
    rw [h, k.1, k.2]
  have : cmpVl = fun x y : Vl => thenC (cmpI x.k y.k) (thenC (cmpI x.i y.i) (cmpS x.s y.s)) := by
    funext x y
    unfold cmpVl cmpV thenC
    simp only [firstNZ]
    by_cases h1 : cmpI x.k y.k = 0 <;> by_cases h2 : cmpI x.i y.i = 0 <;> by_cases h3 : cmpS x.s y.s = 0 <;> simp [h1, h2, h3]
  rw [this]
  exact h4
theorem rowC_eq : ∀ xs ys : List Vl, rowC xs ys = 0 ↔ xs = ys
  | [], [] => by simp [rowC]
  | [], y :: ys => by simp [rowC]
  | x :: xs, [] => by simp [rowC]
  | x :: xs, y :: ys => by
    rw [rowC]
    by_cases h : cmpVl x y = 0
    · rw [if_pos h, rowC_eq xs ys, (linVl.eq _ _).1 h]; simp
    · rw [if_neg h]
      have : x ≠ y := fun e => h ((linVl.eq _ _).2 e)
      simp [h, this]
theorem rowC_flip : ∀ xs ys : List Vl, rowC xs ys < 0 ↔ 0 < rowC ys xs
  | [], [] => by simp [rowC]
  | [], y :: ys => by simp [rowC]
  | x :: xs, [] => by simp [rowC]
  | x :: xs, y :: ys => by
    rw [rowC, rowC]
    by_cases h : x = y
    · subst h
      rw [if_pos ((linVl.eq _ _).2 rfl), if_pos ((linVl.eq _ _).2 rfl)]
      exact rowC_flip xs ys
    · rw [if_neg (fun e => h ((linVl.eq _ _).1 e)), if_neg (fun e => h ((linVl.eq _ _).1 e).symm)]
      exact linVl.flip _ _
theorem rowC_trans : ∀ xs ys zs : List Vl, rowC xs ys < 0 → rowC ys zs < 0 → rowC xs zs < 0
  | [], [], zs, h, k => by simp [rowC] at h
  | [], y :: ys, [], h, k => by simp [rowC] at k
  | [], y :: ys, z :: zs, h, k => by simp [rowC]
  | x :: xs, [], zs, h, k => by simp [rowC] at h
  | x :: xs, y :: ys, [], h, k => by simp [rowC] at k
  | x :: xs, y :: ys, z :: zs, h, k => by
    rw [rowC] at h k ⊢
    by_cases h1 : x = y
    · subst h1
      rw [if_pos ((linVl.eq _ _).2 rfl)] at h
      by_cases h2 : x = z
      · subst h2
        rw [if_pos ((linVl.eq _ _).2 rfl)] at k ⊢
        exact rowC_trans xs ys zs h k
      · rw [if_neg (fun e => h2 ((linVl.eq _ _).1 e))] at k ⊢
        exact k
    · rw [if_neg (fun e => h1 ((linVl.eq _ _).1 e))] at h
      by_cases h2 : y = z
      · subst h2
        rw [if_neg (fun e => h1 ((linVl.eq _ _).1 e))]
        exact h
      · rw [if_neg (fun e => h2 ((linVl.eq _ _).1 e))] at k
        have h3 := linVl.trans _ _ _ h k
        rw [if_neg (by omega)]
        exact h3
theorem swoRow {α : Type} (f : α → List Vl) : Go.Sort.SWO (ltOf fun x y : α => rowC (f x) (f y)) where
  irrefl x := by
    have := (rowC_eq (f x) (f x)).2 rfl
    simp [ltOf, this]
  trans x y z h k := by
    simp only [ltOf, decide_eq_true_eq] at h k ⊢
    exact rowC_trans _ _ _ h k
  ntrans x y z h k := by
    simp only [ltOf, decide_eq_false_iff_not] at h k ⊢
    intro hxz
    by_cases e : f x = f y
    · rw [e] at hxz; exact k hxz
    · have h1 : rowC (f x) (f y) ≠ 0 := fun h => e ((rowC_eq _ _).1 h)
      have h2 : rowC (f y) (f x) < 0 := (rowC_flip _ _).2 (by omega)
      exact k (rowC_trans _ _ _ h2 hxz)
end Go.Proofs.YtedogodccblfeaaGreatDoor

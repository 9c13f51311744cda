/- Links: the plain laws of insert and of the closure. No program in sight. -/
import Derived.Test.YtaefjgjojflppaaRValid
import Derived.WideShapes
namespace Go.Proofs.Ytaefjgjojflppaa
open Go.RowKit
set_option linter.unusedVariables false
set_option linter.unusedSimpArgs false

theorem less_irrefl : ∀ x : List UInt8, Op.bytesLess x x = false
  | [] => rfl
  | a :: x => by simp [Op.bytesLess, less_irrefl x]
theorem less_trans : ∀ x y z : List UInt8, Op.bytesLess x y = true → Op.bytesLess y z = true → Op.bytesLess x z = true
  | _, [], _ => by simp [Op.bytesLess]
  | [], b :: y, [] => by simp [Op.bytesLess]
  | [], b :: y, c :: z => by simp [Op.bytesLess]
  | a :: x, b :: y, [] => by simp [Op.bytesLess]
  | a :: x, b :: y, c :: z => by
    have ih := less_trans x y z
    simp only [Op.bytesLess, Bool.or_eq_true, Bool.and_eq_true, decide_eq_true_eq, beq_iff_eq]
    rintro (h1 | ⟨rfl, h1⟩) (h2 | ⟨rfl, h2⟩)
    · exact .inl (UInt8.lt_trans h1 h2)
    · exact .inl h1
    · exact .inl h2
    · exact .inr ⟨rfl, ih h1 h2⟩
theorem less_tri : ∀ x y : List UInt8, x = y ∨ Op.bytesLess x y = true ∨ Op.bytesLess y x = true
  | [], [] => .inl rfl
  | [], b :: y => .inr (.inl rfl)
  | a :: x, [] => .inr (.inr rfl)
  | a :: x, b :: y => by
    simp only [Op.bytesLess, Bool.or_eq_true, Bool.and_eq_true, decide_eq_true_eq, beq_iff_eq, List.cons.injEq]
    rcases UInt8.lt_or_lt_of_ne (a := a) (b := b) |> fun h => Classical.em (a = b) with rfl | hne
    · rcases less_tri x y with rfl | h | h
      · exact .inl ⟨rfl, rfl⟩
      · exact .inr (.inl (.inr ⟨rfl, h⟩))
      · exact .inr (.inr (.inr ⟨rfl, h⟩))
    · rcases UInt8.lt_or_lt_of_ne hne with h | h
      · exact .inr (.inl (.inl h))
      · exact .inr (.inr (.inl h))
theorem ba_ext {a b : ByteArray} (h : a.toList = b.toList) : a = b := Go.WideShapes.bytes_inj (by rw [← ByteArray.toList_eq, ← ByteArray.toList_eq]; exact h)
theorem ba_beq {a b : ByteArray} : (a.toList == b.toList) = true ↔ a = b := by
  rw [beq_iff_eq]; exact ⟨ba_ext, fun h => by rw [h]⟩
theorem lk_ext {x y : Lk} (h1 : x.a = y.a) (h2 : x.b = y.b) : x = y := by
  obtain ⟨a, b⟩ := x; obtain ⟨c, d⟩ := y; simp only at h1 h2; rw [h1, h2]
theorem lkEq_iff {x y : Lk} : lkEq x y = true ↔ x = y := by
  unfold lkEq
  rw [Bool.and_eq_true, ba_beq, ba_beq]
  exact ⟨fun h => lk_ext h.1 h.2, fun h => by rw [h]; exact ⟨rfl, rfl⟩⟩
theorem lkB_iff {a b : ByteArray} {x : Lk} : lkB a b x = true ↔ x = ⟨a, b⟩ := by
  unfold lkB
  rw [Bool.and_eq_true, ba_beq, ba_beq]
  exact ⟨fun h => lk_ext h.1 h.2, fun h => by rw [h]; exact ⟨rfl, rfl⟩⟩
theorem precB_iff {l : List Lk} {a b : ByteArray} : precB l a b = true ↔ (⟨a, b⟩ : Lk) ∈ l := by
  unfold precB
  rw [List.any_eq_true]
  constructor
  · rintro ⟨x, hx, h⟩
    rw [lkB_iff] at h; rwa [← h]
  · exact fun h => ⟨_, h, lkB_iff.2 rfl⟩

theorem bef_irrefl (x : Lk) : befB x x = false := by simp [befB, less_irrefl]
theorem bef_trans {x y z : Lk} (h1 : befB x y = true) (h2 : befB y z = true) : befB x z = true := by
  simp only [befB, Bool.or_eq_true, Bool.and_eq_true, beq_iff_eq] at *
  rcases h1 with h1 | ⟨e1, h1⟩ <;> rcases h2 with h2 | ⟨e2, h2⟩
  · exact .inl (less_trans _ _ _ h1 h2)
  · exact .inl (e2 ▸ h1)
  · exact .inl (e1 ▸ h2)
  · exact .inr ⟨e1.trans e2, less_trans _ _ _ h1 h2⟩
theorem bef_tri (x y : Lk) : x = y ∨ befB x y = true ∨ befB y x = true := by
  simp only [befB, Bool.or_eq_true, Bool.and_eq_true, beq_iff_eq]
  rcases less_tri x.a.toList y.a.toList with h | h | h
  · rcases less_tri x.b.toList y.b.toList with h2 | h2 | h2
    · exact .inl (lk_ext (ba_ext h) (ba_ext h2))
    · exact .inr (.inl (.inr ⟨h, h2⟩))
    · exact .inr (.inr (.inr ⟨h.symm, h2⟩))
  · exact .inr (.inl (.inl h))
  · exact .inr (.inr (.inl h))
theorem bef_ne {x y : Lk} (h : befB x y = true) : x ≠ y := by rintro rfl; rw [bef_irrefl] at h; cases h

def LkSorted (l : List Lk) : Prop := l.Pairwise fun x y => befB x y = true
theorem LkSorted.nodup {l : List Lk} (h : LkSorted l) : l.Nodup := List.Pairwise.imp (fun h => bef_ne h) h

/-- insert, once more: what is still to be laid behind what is laid. -/
def insF (x : Lk) : Bool → List Lk → List Lk
  | d, [] => if d then [] else [x]
  | d, y :: l => (if d || befB y x then [] else [x]) ++ (if lkEq y x then [] else [y]) ++ insF x (d || !befB y x) l
theorem ins_fold (x : Lk) : ∀ (l : List Lk) (o : List Lk) (d : Bool), (let s := l.foldl (insStep x) (o, d); if s.2 then s.1 else s.1 ++ [x]) = o ++ insF x d l
  | [], o, d => by cases d <;> simp [insF]
  | y :: l, o, d => by
    have ih := ins_fold x l (insStep x (o, d) y).1 (insStep x (o, d) y).2
    refine Eq.trans ih ?_
    simp only [insStep, insF]
    cases d <;> cases befB y x <;> cases lkEq y x <;> simp
theorem insL_eq (x : Lk) (l : List Lk) : insL x l = insF x false l := by
  have h := ins_fold x l [] false
  simp only [List.nil_append] at h
  rw [← h]
  unfold insL insS
  rw [List.take_of_length_le (Nat.le_refl _)]
theorem insF_true (x : Lk) : ∀ l : List Lk, (∀ y ∈ l, y ≠ x) → insF x true l = l
  | [], _ => rfl
  | y :: l, h => by
    have hy : lkEq y x = false := by
      cases e : lkEq y x
      · rfl
      · exact absurd (lkEq_iff.1 e) (h y (List.mem_cons_self ..))
    simp [insF, hy, insF_true x l (fun z hz => h z (List.mem_cons_of_mem _ hz))]
theorem insF_cons {x y : Lk} {l : List Lk} (h : LkSorted (y :: l)) : insF x false (y :: l) = if befB y x then y :: insF x false l else if lkEq y x then y :: l else x :: y :: l := by
  obtain ⟨h1, h2⟩ := List.pairwise_cons.1 h
  cases hb : befB y x
  · have hn : ∀ z ∈ l, z ≠ x := fun z hz e => by
      subst e; rw [h1 z hz] at hb; cases hb
    cases he : lkEq y x
    · simp [insF, hb, he, insF_true x l hn]
    · obtain rfl := lkEq_iff.1 he
      simp [insF, hb, he, insF_true y l hn]
  · have he : lkEq y x = false := by
      cases e : lkEq y x
      · rfl
      · exact absurd (lkEq_iff.1 e) (bef_ne hb)
    simp [insF, hb, he]
theorem insF_mem {x z : Lk} : ∀ {l : List Lk}, LkSorted l → (z ∈ insF x false l ↔ z = x ∨ z ∈ l)
  | [], _ => by simp [insF]
  | y :: l, h => by
    have ih := insF_mem (x := x) (z := z) (List.pairwise_cons.1 h).2
    rw [insF_cons h]
    split
    · simp only [List.mem_cons, ih]
      constructor
      · rintro (h | h | h)
        · exact .inr (.inl h)
        · exact .inl h
        · exact .inr (.inr h)
      · rintro (h | h | h)
        · exact .inr (.inl h)
        · exact .inl h
        · exact .inr (.inr h)
    · split
      · rename_i _ he
        obtain rfl := lkEq_iff.1 he
        simp only [List.mem_cons]
        exact ⟨.inr, fun h => h.elim .inl id⟩
      · simp only [List.mem_cons]
theorem insF_sorted {x : Lk} : ∀ {l : List Lk}, LkSorted l → LkSorted (insF x false l)
  | [], _ => by simp [insF, LkSorted]
  | y :: l, h => by
    have ih := insF_sorted (x := x) (List.pairwise_cons.1 h).2
    rw [insF_cons h]
    obtain ⟨h1, h2⟩ := List.pairwise_cons.1 h
    split
    · rename_i hb
      refine List.pairwise_cons.2 ⟨fun z hz => ?_, ih⟩
      rcases (insF_mem h2).1 hz with rfl | hz
      · exact hb
      · exact h1 z hz
    · split
      · exact h
      · rename_i hb he
        have hxy : befB x y = true := by
          rcases bef_tri x y with rfl | h | h
          · exact absurd (lkEq_iff.2 rfl) he
          · exact h
          · exact absurd h hb
        refine List.pairwise_cons.2 ⟨fun z hz => ?_, h⟩
        rcases List.mem_cons.1 hz with rfl | hz
        · exact hxy
        · exact bef_trans hxy (h1 z hz)
theorem insL_mem {x z : Lk} {l : List Lk} (h : LkSorted l) : z ∈ insL x l ↔ z = x ∨ z ∈ l := by rw [insL_eq]; exact insF_mem h
theorem insL_sorted {x : Lk} {l : List Lk} (h : LkSorted l) : LkSorted (insL x l) := by rw [insL_eq]; exact insF_sorted h

/-- A list without repeats within another one is no longer than it. -/
theorem nodup_len {α : Type} : ∀ {l u : List α}, l.Nodup → (∀ x ∈ l, x ∈ u) → l.length ≤ u.length
  | [], u, _, _ => Nat.zero_le _
  | x :: l, u, h, hs => by
    obtain ⟨h1, h2⟩ := List.nodup_cons.1 h
    obtain ⟨p, q, rfl⟩ := List.append_of_mem (hs x (List.mem_cons_self ..))
    have := nodup_len (u := p ++ q) h2 fun z hz => by
      have hz' := hs z (List.mem_cons_of_mem _ hz)
      simp only [List.mem_append, List.mem_cons] at hz' ⊢
      rcases hz' with h | rfl | h
      · exact .inl h
      · exact absurd hz h1
      · exact .inr h
    simp only [List.length_append, List.length_cons] at this ⊢
    omega
/-- all links of some names -/
def lkAll (ns : List ByteArray) : List Lk := ns.flatMap fun a => ns.map fun b => ⟨a, b⟩
theorem lkAll_len (ns : List ByteArray) : (lkAll ns).length = ns.length * ns.length := flat_len _ _ (fun _ => by simp) ns
def NamesIn (ns : List ByteArray) (l : List Lk) : Prop := ∀ z ∈ l, z.a ∈ ns ∧ z.b ∈ ns
theorem NamesIn.len {ns : List ByteArray} {l : List Lk} (h : NamesIn ns l) (hs : LkSorted l) : l.length ≤ ns.length * ns.length := by
  rw [← lkAll_len]
  refine nodup_len hs.nodup fun x hx => ?_
  obtain ⟨h1, h2⟩ := h x hx
  exact List.mem_flatMap.2 ⟨x.a, h1, List.mem_map.2 ⟨x.b, h2, rfl⟩⟩

/-- What follows from links. -/
inductive Tr (l : List Lk) : ByteArray → ByteArray → Prop
  | one {a b : ByteArray} : (⟨a, b⟩ : Lk) ∈ l → Tr l a b
  | step {a b c : ByteArray} : Tr l a b → Tr l b c → Tr l a c
theorem Tr.mono {l l' : List Lk} (h : ∀ z ∈ l, Tr l' z.a z.b) {a b : ByteArray} (ht : Tr l a b) : Tr l' a b := by
  induction ht with
  | one hm => exact h _ hm
  | step _ _ h1 h2 => exact .step h1 h2
theorem Tr.names {ns : List ByteArray} {l : List Lk} (h : NamesIn ns l) {a b : ByteArray} (ht : Tr l a b) : a ∈ ns ∧ b ∈ ns := by
  induction ht with
  | one hm => exact h _ hm
  | step _ _ h1 h2 => exact ⟨h1.1, h2.2⟩
/-- r is sorted, and says just what follows from l -/
def ClosOf (l r : List Lk) : Prop := LkSorted r ∧ ∀ a b, (⟨a, b⟩ : Lk) ∈ r ↔ Tr l a b

/-- between l and what follows from it -/
def Mid (l o : List Lk) : Prop := LkSorted o ∧ (∀ z ∈ l, z ∈ o) ∧ ∀ z ∈ o, Tr l z.a z.b
theorem Mid.self {l : List Lk} (h : LkSorted l) : Mid l l := ⟨h, fun _ h => h, fun z h => .one h⟩
theorem Mid.ins {l o : List Lk} (h : Mid l o) {x y : Lk} (hx : x ∈ l) (hy : y ∈ l) (he : x.b = y.a) : Mid l (insL ⟨x.a, y.b⟩ o) := by
  refine ⟨insL_sorted h.1, fun z hz => (insL_mem h.1).2 (.inr (h.2.1 z hz)), fun z hz => ?_⟩
  rcases (insL_mem h.1).1 hz with rfl | hz
  · exact .step (b := x.b) (.one hx) (by rw [he]; exact .one hy)
  · exact h.2.2 z hz
theorem Mid.names {ns : List ByteArray} {l o : List Lk} (h : Mid l o) (hn : NamesIn ns l) : NamesIn ns o := fun z hz => Tr.names hn (h.2.2 z hz)
/-- the compositions of x with the first j links are there -/
def Done1 (l o : List Lk) (x : Lk) (j : Nat) : Prop := ∀ y ∈ l.take j, x.b = y.a → (⟨x.a, y.b⟩ : Lk) ∈ o
def DoneN (l o : List Lk) (i : Nat) : Prop := ∀ x ∈ l.take i, Done1 l o x l.length
theorem mem_take_succ {α : Type} {l : List α} {k : Nat} {x y : α} (hx : l[k]? = some x) (h : y ∈ l.take (k + 1)) : y = x ∨ y ∈ l.take k := by
  obtain ⟨hk, rfl⟩ := List.getElem?_eq_some_iff.1 hx
  rw [List.take_succ_eq_append_getElem hk] at h
  rcases List.mem_append.1 h with h | h
  · exact .inr h
  · exact .inl (by simpa using h)
theorem Done1.succ {l o : List Lk} {x y : Lk} {j : Nat} (h : Done1 l o x j) (hy : l[j]? = some y) (hd : x.b = y.a → (⟨x.a, y.b⟩ : Lk) ∈ o) : Done1 l o x (j + 1) := fun z hz he => by
  rcases mem_take_succ hy hz with rfl | hz
  · exact hd he
  · exact h z hz he
theorem Done1.more {l o o' : List Lk} {x : Lk} {j : Nat} (h : Done1 l o x j) (hs : ∀ z ∈ o, z ∈ o') : Done1 l o' x j := fun z hz he => hs _ (h z hz he)
theorem DoneN.more {l o o' : List Lk} {i : Nat} (h : DoneN l o i) (hs : ∀ z ∈ o, z ∈ o') : DoneN l o' i := fun x hx => (h x hx).more hs
theorem DoneN.succ {l o : List Lk} {i : Nat} {x : Lk} (h : DoneN l o i) (hx : l[i]? = some x) (h1 : Done1 l o x l.length) : DoneN l o (i + 1) := fun z hz => by
  rcases mem_take_succ hx hz with rfl | hz
  · exact h1
  · exact h z hz
/-- nothing was added: l is closed -/
theorem clos_end {l0 l o : List Lk} (h : Mid l o) (hd : DoneN l o l.length) (hlen : o.length = l.length) (hl : LkSorted l) (h0 : ∀ z ∈ l0, z ∈ l) (h1 : ∀ z ∈ l, Tr l0 z.a z.b) : ClosOf l0 o := by
  have hsub : ∀ z ∈ o, z ∈ l := fun z hz => by
    refine Classical.byContradiction fun hn => ?_
    have := nodup_len (l := z :: l) (u := o) (List.nodup_cons.2 ⟨hn, hl.nodup⟩) fun y hy => by
      rcases List.mem_cons.1 hy with rfl | hy
      · exact hz
      · exact h.2.1 y hy
    simp only [List.length_cons] at this
    omega
  refine ⟨h.1, fun a b => ⟨fun hm => h1 _ (hsub _ hm), fun ht => ?_⟩⟩
  induction ht with
  | one hm => exact h.2.1 _ (h0 _ hm)
  | @step a b c _ _ i1 i2 => exact hd _ (by rw [List.take_length]; exact hsub _ i1) _ (by rw [List.take_length]; exact hsub _ i2) rfl
theorem Mid.len {l o : List Lk} (h : Mid l o) (hl : LkSorted l) : l.length ≤ o.length := nodup_len hl.nodup h.2.1
theorem Mid.trans {l0 l o : List Lk} (h : Mid l0 l) (k : Mid l o) : Mid l0 o := ⟨k.1, fun z hz => k.2.1 z (h.2.1 z hz), fun z hz => Tr.mono h.2.2 (k.2.2 z hz)⟩
end Go.Proofs.Ytaefjgjojflppaa

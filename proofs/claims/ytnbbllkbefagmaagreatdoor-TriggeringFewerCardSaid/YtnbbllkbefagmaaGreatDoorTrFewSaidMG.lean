/- TrPl2: effects of triggers in memory, and what they cause. No program in sight. -/
import Derived.Test.YtnbbllkbefagmaaGreatDoorTrFewSaidMF
import Derived.WideShapes
import Derived.Test.YtnbbllkbefagmaaGreatDoorTrFewSaidMA
import Derived.Test.YtnbbllkbefagmaaGreatDoorTrFewSaidMC
import Derived.Test.YtnbbllkbefagmaaGreatDoorTrFewSaidME
import Derived.Test.YtnbbllkbefagmaaGreatDoorTrFewSaidMB
import Derived.Deep.DeepCutAuto
import Derived.Test.YtnbbllkbefagmaaGreatDoorTrFewSaidMD
namespace Go.Proofs.YtnbbllkbefagmaaGreatDoor
open Go.RowKit
set_option linter.unusedVariables false
set_option linter.unusedSimpArgs false

theorem less_irrefl : ∀ x : List UInt8, Op.bytesLess x x = false
 | [] => rfl
 | a :: x => by simp [Op.bytesLess, less_irrefl x]
theorem less_trans : ∀ x y z : List UInt8, Op.bytesLess x y = true → Op.bytesLess y z = true → Op.bytesLess x z = true
 | _, [], _ => by simp [Op.bytesLess]
 | [], b :: y, [] => by simp [Op.bytesLess]
 | [], b :: y, c :: z => by simp [Op.bytesLess]
 | a :: x, b :: y, [] => by simp [Op.bytesLess]
 | a :: x, b :: y, c :: z => by
  have ih := less_trans x y z
  simp only [Op.bytesLess, Bool.or_eq_true, Bool.and_eq_true, decide_eq_true_eq, beq_iff_eq]
  rintro (h1 | ⟨rfl, h1⟩) (h2 | ⟨rfl, h2⟩)
  ·exact .inl (UInt8.lt_trans h1 h2)
  ·exact .inl h1
  ·exact .inl h2
  ·exact .inr ⟨rfl, ih h1 h2⟩
theorem lless_tri : ∀ x y : List UInt8, x = y ∨ Op.bytesLess x y = true ∨ Op.bytesLess y x = true
 | [], [] => .inl rfl
 | [], b :: y => .inr (.inl rfl)
 | a :: x, [] => .inr (.inr rfl)
 | a :: x, b :: y => by
  simp only [Op.bytesLess, Bool.or_eq_true, Bool.and_eq_true, decide_eq_true_eq, beq_iff_eq, List.cons.injEq]
  rcases UInt8.lt_or_lt_of_ne (a := a) (b := b) |> fun h => Classical.em (a = b) with rfl | hne
  ·rcases lless_tri x y with rfl | h | h
   ·exact .inl ⟨rfl, rfl⟩
   ·exact .inr (.inl (.inr ⟨rfl, h⟩))
   ·exact .inr (.inr (.inr ⟨rfl, h⟩))
  ·rcases UInt8.lt_or_lt_of_ne hne with h | h
   ·exact .inr (.inl (.inl h))
   ·exact .inr (.inr (.inl h))
theorem ba_ext {a b : ByteArray} (h : a.toList = b.toList) : a = b := Go.WideShapes.bytes_inj (by rw [← ByteArray.toList_eq, ← ByteArray.toList_eq]; exact h)
theorem ba_beq {a b : ByteArray} : (a.toList == b.toList) = true ↔ a = b := by
 rw [beq_iff_eq]; exact ⟨ba_ext, fun h => by rw [h]⟩
theorem lk_ext {x y : Lk} (h1 : x.a = y.a) (h2 : x.b = y.b) : x = y := by
 obtain ⟨a, b⟩ := x; obtain ⟨c, d⟩ := y; simp only at h1 h2; rw [h1, h2]
theorem lkEq_iff {x y : Lk} : lkEq x y = true ↔ x = y := by
 unfold lkEq
 rw [Bool.and_eq_true, ba_beq, ba_beq]
 exact ⟨fun h => lk_ext h.1 h.2, fun h => by rw [h]; exact ⟨rfl, rfl⟩⟩
theorem bef_irrefl (x : Lk) : befB x x = false := by simp [befB, less_irrefl]
theorem bef_trans {x y z : Lk} (h1 : befB x y = true) (h2 : befB y z = true) : befB x z = true := by
 simp only [befB, Bool.or_eq_true, Bool.and_eq_true, beq_iff_eq] at *
 rcases h1 with h1 | ⟨e1, h1⟩ <;> rcases h2 with h2 | ⟨e2, h2⟩
 ·exact .inl (less_trans _ _ _ h1 h2)
 ·exact .inl (e2 ▸ h1)
 ·exact .inl (e1 ▸ h2)
 ·exact .inr ⟨e1.trans e2, less_trans _ _ _ h1 h2⟩
theorem bef_tri (x y : Lk) : x = y ∨ befB x y = true ∨ befB y x = true := by
 simp only [befB, Bool.or_eq_true, Bool.and_eq_true, beq_iff_eq]
 rcases lless_tri x.a.toList y.a.toList with h | h | h
 ·rcases lless_tri x.b.toList y.b.toList with h2 | h2 | h2
  ·exact .inl (lk_ext (ba_ext h) (ba_ext h2))
  ·exact .inr (.inl (.inr ⟨h, h2⟩))
  ·exact .inr (.inr (.inr ⟨h.symm, h2⟩))
 ·exact .inr (.inl (.inl h))
 ·exact .inr (.inr (.inl h))
theorem bef_ne {x y : Lk} (h : befB x y = true) : x ≠ y := by rintro rfl; rw [bef_irrefl] at h; cases h

def LkSorted (l : List Lk) : Prop := l.Pairwise fun x y => befB x y = true
theorem LkSorted.nodup {l : List Lk} (h : LkSorted l) : l.Nodup := List.Pairwise.imp (fun h => bef_ne h) h

/-- insert, once more: what is still to be laid behind what is laid. -/
def insF (x : Lk) : Bool → List Lk → List Lk
 | d, [] => if d then [] else [x]
 | d, y :: l => (if d || befB y x then [] else [x]) ++ (if lkEq y x then [] else [y]) ++ insF x (d || !befB y x) l
theorem ins_fold (x : Lk) : ∀ (l : List Lk) (o : List Lk) (d : Bool), (let s := l.foldl (insStep x) (o, d); if s.2 then s.1 else s.1 ++ [x]) = o ++ insF x d l
 | [], o, d => by cases d <;> simp [insF]
 | y :: l, o, d => by
  have ih := ins_fold x l (insStep x (o, d) y).1 (insStep x (o, d) y).2
  refine Eq.trans ih ?_
  simp only [insStep, insF]
  cases d <;> cases befB y x <;> cases lkEq y x <;> simp
theorem insL_eq (x : Lk) (l : List Lk) : insL x l = insF x false l := by
 have h := ins_fold x l [] false
 simp only [List.nil_append] at h
 rw [← h]
 unfold insL insS
 rw [List.take_of_length_le (Nat.le_refl _)]
theorem insF_true (x : Lk) : ∀ l : List Lk, (∀ y ∈ l, y ≠ x) → insF x true l = l
 | [], _ => rfl
 | y :: l, h => by
  have hy : lkEq y x = false := by
   cases e : lkEq y x
   ·rfl
   ·exact absurd (lkEq_iff.1 e) (h y (List.mem_cons_self ..))
  simp [insF, hy, insF_true x l (fun z hz => h z (List.mem_cons_of_mem _ hz))]
theorem insF_cons {x y : Lk} {l : List Lk} (h : LkSorted (y :: l)) : insF x false (y :: l) = if befB y x then y :: insF x false l else if lkEq y x then y :: l else x :: y :: l := by
 obtain ⟨h1, h2⟩ := List.pairwise_cons.1 h
 cases hb : befB y x
 ·have hn : ∀ z ∈ l, z ≠ x := fun z hz e => by
   subst e; rw [h1 z hz] at hb; cases hb
  cases he : lkEq y x
  ·simp [insF, hb, he, insF_true x l hn]
  ·obtain rfl := lkEq_iff.1 he
   simp [insF, hb, he, insF_true y l hn]
 ·have he : lkEq y x = false := by
   cases e : lkEq y x
   ·rfl
   ·exact absurd (lkEq_iff.1 e) (bef_ne hb)
  simp [insF, hb, he]
theorem insF_mem {x z : Lk} : ∀ {l : List Lk}, LkSorted l → (z ∈ insF x false l ↔ z = x ∨ z ∈ l)
 | [], _ => by simp [insF]
 | y :: l, h => by
  have ih := insF_mem (x := x) (z := z) (List.pairwise_cons.1 h).2
  rw [insF_cons h]
  split
  ·simp only [List.mem_cons, ih]
   constructor
   ·rintro (h | h | h)
    ·exact .inr (.inl h)
    ·exact .inl h
    ·exact .inr (.inr h)
   ·rintro (h | h | h)
    ·exact .inr (.inl h)
    ·exact .inl h
    ·exact .inr (.inr h)
  ·split
   ·rename_i _ he
    obtain rfl := lkEq_iff.1 he
    simp only [List.mem_cons]
    exact ⟨.inr, fun h => h.elim .inl id⟩
   ·simp only [List.mem_cons]
theorem insF_sorted {x : Lk} : ∀ {l : List Lk}, LkSorted l → LkSorted (insF x false l)
 | [], _ => by simp [insF, LkSorted]
 | y :: l, h => by
  have ih := insF_sorted (x := x) (List.pairwise_cons.1 h).2
  rw [insF_cons h]
  obtain ⟨h1, h2⟩ := List.pairwise_cons.1 h
  split
  ·rename_i hb
   refine List.pairwise_cons.2 ⟨fun z hz => ?_, ih⟩
   rcases (insF_mem h2).1 hz with rfl | hz
   ·exact hb
   ·exact h1 z hz
  ·split
   ·exact h
   ·rename_i hb he
    have hxy : befB x y = true := by
     rcases bef_tri x y with rfl | h | h
     ·exact absurd (lkEq_iff.2 rfl) he
     ·exact h
     ·exact absurd h hb
    refine List.pairwise_cons.2 ⟨fun z hz => ?_, h⟩
    rcases List.mem_cons.1 hz with rfl | hz
    ·exact hxy
    ·exact bef_trans hxy (h1 z hz)
theorem insL_mem {x z : Lk} {l : List Lk} (h : LkSorted l) : z ∈ insL x l ↔ z = x ∨ z ∈ l := by rw [insL_eq]; exact insF_mem h
theorem insL_sorted {x : Lk} {l : List Lk} (h : LkSorted l) : LkSorted (insL x l) := by rw [insL_eq]; exact insF_sorted h

/-- A list without repeats within another one is no longer than it. -/
theorem nodup_len {α : Type} : ∀ {l u : List α}, l.Nodup → (∀ x ∈ l, x ∈ u) → l.length ≤ u.length
 | [], u, _, _ => Nat.zero_le _
 | x :: l, u, h, hs => by
  obtain ⟨h1, h2⟩ := List.nodup_cons.1 h
  obtain ⟨p, q, rfl⟩ := List.append_of_mem (hs x (List.mem_cons_self ..))
  have := nodup_len (u := p ++ q) h2 fun z hz => by
   have hz' := hs z (List.mem_cons_of_mem _ hz)
   simp only [List.mem_append, List.mem_cons] at hz' ⊢
   rcases hz' with h | rfl | h
   ·exact .inl h
   ·exact absurd hz h1
   ·exact .inr h
  simp only [List.length_append, List.length_cons] at this ⊢
  omega
/-- all links of some names -/
def lkAll (ns : List ByteArray) : List Lk := ns.flatMap fun a => ns.map fun b => ⟨a, b⟩
theorem lkAll_len (ns : List ByteArray) : (lkAll ns).length = ns.length * ns.length := flat_len _ _ (fun _ => by simp) ns
def NamesIn (ns : List ByteArray) (l : List Lk) : Prop := ∀ z ∈ l, z.a ∈ ns ∧ z.b ∈ ns
theorem NamesIn.len {ns : List ByteArray} {l : List Lk} (h : NamesIn ns l) (hs : LkSorted l) : l.length ≤ ns.length * ns.length := by
 rw [← lkAll_len]
 refine nodup_len hs.nodup fun x hx => ?_
 obtain ⟨h1, h2⟩ := h x hx
 exact List.mem_flatMap.2 ⟨x.a, h1, List.mem_map.2 ⟨x.b, h2, rfl⟩⟩

/-- What follows from links. -/
inductive Tr (l : List Lk) : ByteArray → ByteArray → Prop
 | one {a b : ByteArray} : (⟨a, b⟩ : Lk) ∈ l → Tr l a b
 | step {a b c : ByteArray} : Tr l a b → Tr l b c → Tr l a c
theorem Tr.mono {l l' : List Lk} (h : ∀ z ∈ l, Tr l' z.a z.b) {a b : ByteArray} (ht : Tr l a b) : Tr l' a b := by
 induction ht with
 | one hm => exact h _ hm
 | step _ _ h1 h2 => exact .step h1 h2
theorem Tr.names {ns : List ByteArray} {l : List Lk} (h : NamesIn ns l) {a b : ByteArray} (ht : Tr l a b) : a ∈ ns ∧ b ∈ ns := by
 induction ht with
 | one hm => exact h _ hm
 | step _ _ h1 h2 => exact ⟨h1.1, h2.2⟩
/-- r is sorted, and says just what follows from l -/
def ClosOf (l r : List Lk) : Prop := LkSorted r ∧ ∀ a b, (⟨a, b⟩ : Lk) ∈ r ↔ Tr l a b

/-- between l and what follows from it -/
def Mid (l o : List Lk) : Prop := LkSorted o ∧ (∀ z ∈ l, z ∈ o) ∧ ∀ z ∈ o, Tr l z.a z.b
theorem Mid.self {l : List Lk} (h : LkSorted l) : Mid l l := ⟨h, fun _ h => h, fun z h => .one h⟩
theorem Mid.ins {l o : List Lk} (h : Mid l o) {x y : Lk} (hx : x ∈ l) (hy : y ∈ l) (he : x.b = y.a) : Mid l (insL ⟨x.a, y.b⟩ o) := by
 refine ⟨insL_sorted h.1, fun z hz => (insL_mem h.1).2 (.inr (h.2.1 z hz)), fun z hz => ?_⟩
 rcases (insL_mem h.1).1 hz with rfl | hz
 ·exact .step (b := x.b) (.one hx) (by rw [he]; exact .one hy)
 ·exact h.2.2 z hz
theorem Mid.names {ns : List ByteArray} {l o : List Lk} (h : Mid l o) (hn : NamesIn ns l) : NamesIn ns o := fun z hz => Tr.names hn (h.2.2 z hz)
/-- the compositions of x with the first j links are there -/
def Done1 (l o : List Lk) (x : Lk) (j : Nat) : Prop := ∀ y ∈ l.take j, x.b = y.a → (⟨x.a, y.b⟩ : Lk) ∈ o
def DoneN (l o : List Lk) (i : Nat) : Prop := ∀ x ∈ l.take i, Done1 l o x l.length
theorem mem_take_succ {α : Type} {l : List α} {k : Nat} {x y : α} (hx : l[k]? = some x) (h : y ∈ l.take (k + 1)) : y = x ∨ y ∈ l.take k := by
 obtain ⟨hk, rfl⟩ := List.getElem?_eq_some_iff.1 hx
 rw [List.take_succ_eq_append_getElem hk] at h
 rcases List.mem_append.1 h with h | h
 ·exact .inr h
 ·exact .inl (by simpa using h)
theorem Done1.succ {l o : List Lk} {x y : Lk} {j : Nat} (h : Done1 l o x j) (hy : l[j]? = some y) (hd : x.b = y.a → (⟨x.a, y.b⟩ : Lk) ∈ o) : Done1 l o x (j + 1) := fun z hz he => by
 rcases mem_take_succ hy hz with rfl | hz
 ·exact hd he
 ·exact h z hz he
theorem Done1.more {l o o' : List Lk} {x : Lk} {j : Nat} (h : Done1 l o x j) (hs : ∀ z ∈ o, z ∈ o') : Done1 l o' x j := fun z hz he => hs _ (h z hz he)
theorem DoneN.more {l o o' : List Lk} {i : Nat} (h : DoneN l o i) (hs : ∀ z ∈ o, z ∈ o') : DoneN l o' i := fun x hx => (h x hx).more hs
theorem DoneN.succ {l o : List Lk} {i : Nat} {x : Lk} (h : DoneN l o i) (hx : l[i]? = some x) (h1 : Done1 l o x l.length) : DoneN l o (i + 1) := fun z hz => by
 rcases mem_take_succ hx hz with rfl | hz
 ·exact h1
 ·exact h z hz
/-- nothing was added: l is closed -/
theorem clos_end {l0 l o : List Lk} (h : Mid l o) (hd : DoneN l o l.length) (hlen : o.length = l.length) (hl : LkSorted l) (h0 : ∀ z ∈ l0, z ∈ l) (h1 : ∀ z ∈ l, Tr l0 z.a z.b) : ClosOf l0 o := by
 have hsub : ∀ z ∈ o, z ∈ l := fun z hz => by
  refine Classical.byContradiction fun hn => ?_
  have := nodup_len (l := z :: l) (u := o) (List.nodup_cons.2 ⟨hn, hl.nodup⟩) fun y hy => by
   rcases List.mem_cons.1 hy with rfl | hy
   ·exact hz
   ·exact h.2.1 y hy
  simp only [List.length_cons] at this
  omega
 refine ⟨h.1, fun a b => ⟨fun hm => h1 _ (hsub _ hm), fun ht => ?_⟩⟩
 induction ht with
 | one hm => exact h.2.1 _ (h0 _ hm)
 | @step a b c _ _ i1 i2 => exact hd _ (by rw [List.take_length]; exact hsub _ i1) _ (by rw [List.take_length]; exact hsub _ i2) rfl
theorem Mid.len {l o : List Lk} (h : Mid l o) (hl : LkSorted l) : l.length ≤ o.length := nodup_len hl.nodup h.2.1
theorem Mid.trans {l0 l o : List Lk} (h : Mid l0 l) (k : Mid l o) : Mid l0 o := ⟨k.1, fun z hz => k.2.1 z (h.2.1 z hz), fun z hz => Tr.mono h.2.2 (k.2.2 z hz)⟩
end Go.Proofs.YtnbbllkbefagmaaGreatDoor

namespace Go.Proofs.YtnbbllkbefagmaaGreatDoor
open Go.RowKit
set_option linter.unusedVariables false
set_option linter.unusedSimpArgs false

def ClosRet (w : World) (M : Nat → Prop) (l : List Lk) (e : Ending) (w' : World) : Prop := ∃ r, ClosOf l r ∧ LksRet w M r e w'

set_option maxHeartbeats 4000000 in
set_option maxRecDepth 100000 in
theorem closure_any (M : Nat → Prop) (w : World) (hM : ∀ b, M b → b < w.heap.size) (A : Option Addr) (n c : Nat) (l0 : List Lk) (ns : List ByteArray) (hD : Ro w M (LksIn A n l0)) (hs : LkSorted l0) (hns : NamesIn ns l0) (hB : ns.length * ns.length ≤ 1000000) (hc : n ≤ c) (hcm : c ≤ 9223372036854775807) :
  Calls Tryz.prog 108 #[.slice A n c] w fun e w' => ClosRet w M l0 e w' := by
 have HB := hid hB
 obtain ⟨B, hBB⟩ : ∃ B, ns.length * ns.length = B := ⟨_, rfl⟩
 rw [hBB] at hB
 have HBB := hid hBB
 have K0 := (Hold.start M w hM).add (hD.less (by simp [Mut]))
 have HM0 := hid (Mid.self hs)
 have HNS := hid hns
 have HS0 := hid hs
 clear hBB hns hs
 go_enter Tryz.func108, Tryz.ntmps108
 go_wp2_with fail
 go_loopg [0] B (fun gh v wr => ∃ (A : Option Addr) (n c : Nat) (l : List Lk), v = .slice A n c ∧ B ≤ n + gh ∧ n ≤ c ∧ c ≤ 9223372036854775807 ∧ Hid (Mid l0 l) ∧ Hold M none w wr [.ro (LksIn A n l)])
 case atStart => exact ⟨A, n, c, l0, rfl, by omega, hc, hcm, HM0, K0⟩
 case round =>
  clear K0 hD hc hcm
  clear A n c
  obtain ⟨A, n, c, l, rfl, hgh, hc, hcm, HMl, H⟩ := hrel
  have hnl := (H.ro 0 rfl).now.len
  have hnB : n ≤ B := by rw [← hnl, ← HBB.out]; exact NamesIn.len (Mid.names HMl.out HNS.out) HMl.out.1
  have HL := hid hnl; clear hnl
  have KS := H.add (H.ro 0 rfl)
  go_wp2_with fail
  go_loopw [3, 11] (fun v i wq => ∃ (A' : Option Addr) (n' c' k : Nat) (o : List Lk), v = .slice A' n' c' ∧ k ≤ n ∧ i = .int .i64 k ∧ n' ≤ c' ∧ c' ≤ 9223372036854775807 ∧ Hid (Mid l o) ∧ Hid (DoneN l o k) ∧ Hold M none w wq [.ro (LksIn A' n' o), .ro (LksIn A n l)]) (fun _ i _ => n - (intOf i).toNat)
  case atStart => exact ⟨A, n, c, 0, l, rfl, by omega, rfl, hc, hcm, hid (Mid.self HMl.out.1), hid (fun x hx => by simp at hx), KS⟩
  case round =>
   clear KS H
   obtain ⟨A', n', c', k, o, rfl, hk, rfl, hc', hcm', HMo, HDN, H⟩ := hrel
   have hn'l := (H.ro 0 rfl).now.len
   have hn'B : n' ≤ B := by rw [← hn'l, ← HBB.out]; exact NamesIn.len (Mid.names (HMl.out.trans HMo.out) HNS.out) HMo.out.1
   have HL' := hid hn'l; clear hn'l
   have hnn : n ≤ n' := by have := HMo.out.len HMl.out.1; rw [HL.out, HL'.out] at this; exact this
   obtain ⟨wo, rfl⟩ : ∃ wo : World, wo = wr := ⟨_, rfl⟩
   by_cases hlt : k < n
   ·have hd : decide ((k : Int) < (n : Int)) = true := by simp; omega
    obtain ⟨x, hx⟩ := get_of HL.out hlt
    obtain ⟨g, oo, rfl, hb, c0, c1⟩ := (H.ro 1 rfl).now.at_ hx
    have HX := hid hx; clear hx
    have K1 := H.alloc_cst #[.string x.a, .string x.b] 190
    have K2 := (K1.add (K1.ro 1 rfl)).drop (L' := [.ro (LksIn A' n' o), .cst wo.heap.size 190 #[.string x.a, .string x.b], .ro (LksIn (some ⟨g, oo, none⟩) n l)]) (List.Sublist.cons_cons _ (List.Sublist.cons_cons _ (List.sublist_cons_self _ _)))
    clear K1
    go_wp2_with fail
    go_loopw [3, 17] (fun v j wq => ∃ (A' : Option Addr) (n' c' p : Nat) (o : List Lk), v = .slice A' n' c' ∧ p ≤ n ∧ j = .int .i64 p ∧ n' ≤ c' ∧ c' ≤ 9223372036854775807 ∧ Hid (Mid l o) ∧ Hid (DoneN l o k) ∧ Hid (Done1 l o x p) ∧ Hold M none w wq [.ro (LksIn A' n' o), .cst wo.heap.size 190 #[.string x.a, .string x.b], .ro (LksIn (some ⟨g, oo, none⟩) n l)]) (fun _ j _ => n - (intOf j).toNat)
    case atStart => exact ⟨A', n', c', 0, o, rfl, by omega, rfl, hc', hcm', HMo, HDN, hid (fun y hy => by simp at hy), K2⟩
    case round =>
     clear K2 H HL' HMo HDN hc' hcm' hn'B hnn
     obtain ⟨A', n', c', p, o, rfl, hp, rfl, hc', hcm', HMo, HDN, HD1, H⟩ := hrel
     have hn'l := (H.ro 0 rfl).now.len
     have hn'B : n' ≤ B := by rw [← hn'l, ← HBB.out]; exact NamesIn.len (Mid.names (HMl.out.trans HMo.out) HNS.out) HMo.out.1
     have HL' := hid hn'l; clear hn'l
     by_cases hlt2 : p < n
     ·have hd2 : decide ((p : Int) < (n : Int)) = true := by simp; omega
      obtain ⟨y, hy⟩ := get_of HL.out hlt2
      obtain ⟨g', o', ho', hb', e0, e1⟩ := (H.ro 2 rfl).now.at_ hy
      obtain ⟨rfl, rfl⟩ : g = g' ∧ oo = o' := by injection ho' with ho'; injection ho' with a1 a2; exact ⟨a1, a2⟩
      clear ho'
      have HY := hid hy; clear hy
      have K3 := H.alloc_cst #[.string y.a, .string y.b] 190
      have F := K3.facts
      simp only [World.size_alloc, World.size_drew, factsL, cellsF, Nat.reduceAdd, List.toList_toArray, and_true, true_and] at F
      have F0 := H.facts
      simp only [World.size_alloc, World.size_drew, factsL, cellsF, Nat.reduceAdd, List.toList_toArray, and_true, true_and] at F0
      cases h4 : (x.b.toList == y.a.toList)
      ·have HE := hid (show x.b ≠ y.a from fun e => by rw [e] at h4; simp at h4)
       go_wp2_with fail
       go_roundw
       case rel => exact ⟨A', n', c', p + 1, o, rfl, by omega, by go_num, hc', hcm', HMo, HDN, hid (HD1.out.succ HY.out fun e => absurd e HE.out), K3.drop (List.sublist_cons_self _ _)⟩
       case measure => simp [intOf]; omega
      ·have HE := hid (show x.b = y.a from ba_beq.1 h4)
       go_wp2_with fail
       refine (insert_any (Mut M _) _ K3.mutLt A' n' c' o ⟨x.a, y.b⟩ (K3.ro 1 rfl) (by omega)).mono ?_
       rintro e w5 ⟨A5, n5, c5, rfl, h51, h52, h53, r5, b5⟩
       have H51 := hid h51; clear h51
       have K5 := ((K3.call b5).add r5).drop (L' := [.ro (LksIn A5 n5 (insL ⟨x.a, y.b⟩ o)), .cst wo.heap.size 190 #[.string x.a, .string x.b], .ro (LksIn (some ⟨g, oo, none⟩) n l)]) (List.Sublist.cons_cons _ (List.Sublist.cons _ (List.sublist_cons_self _ _)))
       have HM5 := hid (HMo.out.ins (List.mem_of_getElem? HX.out) (List.mem_of_getElem? HY.out) HE.out)
       have HI5 := hid (fun z (hz : z ∈ o) => (insL_mem HMo.out.1).2 (Or.inr (b := z ∈ o) (a := z = ⟨x.a, y.b⟩) hz))
       clear r5 b5 F F0
       go_wp2_with fail
       go_roundw
       case rel => exact ⟨A5, n5, c5, p + 1, _, rfl, by omega, by go_num, h52, h53, HM5, hid (HDN.out.more HI5.out), hid ((HD1.out.more HI5.out).succ HY.out fun _ => (insL_mem HMo.out.1).2 (.inl rfl)), K5⟩
       case measure => simp [intOf]; omega
     ·obtain rfl : p = n := by omega
      go_wp2_with fail
      go_roundw
      case rel => exact ⟨A', n', c', k + 1, o, rfl, by omega, by go_num, hc', hcm', HMo, hid (HDN.out.succ HX.out (by rw [HL.out]; exact HD1.out)), H.drop (List.Sublist.cons_cons _ (List.sublist_cons_self _ _))⟩
      case measure => simp [intOf]; omega
   ·obtain rfl : k = n := by omega
    by_cases he : n' = k
    ·have hq : ((n' : Int) == (k : Int)) = true := by rw [beq_iff_eq]; omega
     have HE := hid he; clear he
     go_wp2_with fail
     go_ret
     exact ⟨o, clos_end HMo.out (by rw [HL.out]; exact HDN.out) (by rw [HL.out, HL'.out, HE.out]) HMl.out.1 HMl.out.2.1 HMl.out.2.2, A', n', c', rfl, HL'.out.symm, hc', hcm', H.roOut 0 rfl, H.below⟩
    ·have hq : ((n' : Int) == (k : Int)) = false := by rw [beq_eq_false_iff_ne]; omega
     cases gk with
     | succ go =>
      go_wp2_with fail
      go_roundg go
      case measure => omega
      case rel => exact ⟨A', n', c', o, rfl, by omega, hc', hcm', hid (HMl.out.trans HMo.out), H.drop (List.Sublist.cons_cons _ (List.nil_sublist _))⟩
     | zero => omega
end Go.Proofs.YtnbbllkbefagmaaGreatDoor

namespace Go.Proofs.YtnbbllkbefagmaaGreatDoor
open Go.RowKit
set_option linter.unusedVariables false
set_option linter.unusedSimpArgs false

/-- A list of strings in memory. -/
def strsCells (l : List ByteArray) : List Value := l.map .string
def StrsIn (A : Option Addr) (n : Nat) (l : List ByteArray) : World → Prop := SlR 1 A n (strsCells l)
theorem Tryz.elSt : ElemT Tryz.prog 35 9 1 16 (.string ⟨#[]⟩) := ⟨Tryz.underlying35, by kernel_rfl, rfl, by omega⟩
theorem StrsIn.len {w : World} {A : Option Addr} {n : Nat} {l : List ByteArray} (h : StrsIn A n l w) : l.length = n := by
 have := (show Rd w w.heap.size 1 A n (strsCells l) from h).1
 simpa [strsCells] using this
theorem StrsIn.at_ {w : World} {A : Option Addr} {n : Nat} {l : List ByteArray} (h : StrsIn A n l w) {k : Nat} {x : ByteArray} (hx : l[k]? = some x) :
  ∃ b o, A = some ⟨b, o, none⟩ ∧ b < w.heap.size ∧ w.cell? ⟨b, o + k, none⟩ = some (.string x) := by
 have hk : k < n := by rw [← h.len]; exact (List.getElem?_eq_some_iff.1 hx).1
 obtain ⟨b, o, e, hb, hc⟩ := (show Rd w w.heap.size 1 A n (strsCells l) from h).2 (by omega)
 exact ⟨b, o, e, hb, hc k _ (by simp [strsCells, hx])⟩
theorem one_lks (l : List Lk) : ∀ u ∈ lkCells l, u.oneCell' = true := by
 intro u hu
 obtain ⟨x, _, hx⟩ := List.mem_flatMap.1 hu
 simp [Lk.cells] at hx
 rcases hx with rfl | rfl <;> rfl

theorem valid_at {l : List Lk} (h : validLk l = true) {i : Nat} (hi : i < l.length) : okAt l i = true := by
 unfold validLk at h
 rw [List.all_eq_true] at h
 exact h i (by simpa using hi)
theorem pair_of_step : ∀ {l : List Lk}, (∀ i, i + 1 < l.length → befB (lkAt l i) (lkAt l (i + 1)) = true) → LkSorted l
 | [], _ => List.Pairwise.nil
 | [x], _ => List.pairwise_singleton _ _
 | x :: y :: l, h => by
  have ih : LkSorted (y :: l) := pair_of_step fun i hi => by
   have := h (i + 1) (by simp at hi ⊢; omega)
   simpa [lkAt] using this
  have hxy : befB x y = true := by have := h 0 (by simp); simpa [lkAt] using this
  refine List.pairwise_cons.2 ⟨fun z hz => ?_, ih⟩
  rcases List.mem_cons.1 hz with rfl | hz
  ·exact hxy
  ·exact bef_trans hxy ((List.pairwise_cons.1 ih).1 z hz)
theorem valid_sorted {l : List Lk} (h : validLk l = true) : LkSorted l := pair_of_step fun i hi => by
 have := valid_at h hi
 unfold okAt at this
 simp only [Bool.and_eq_true, Bool.or_eq_true] at this
 rcases this.1.2 with h1 | h1
 ·simp at h1
 ·simpa using h1

def insMany (f : ByteArray → Lk) (o : List Lk) (ss : List ByteArray) : List Lk := ss.foldl (fun o s => insL (f s) o) o
theorem insMany_succ (f : ByteArray → Lk) (o : List Lk) {ss : List ByteArray} {k : Nat} {s : ByteArray} (h : ss[k]? = some s) : insMany f o (ss.take (k + 1)) = insL (f s) (insMany f o (ss.take k)) := by
 obtain ⟨hk, rfl⟩ := List.getElem?_eq_some_iff.1 h
 unfold insMany
 rw [List.take_succ_eq_append_getElem hk, List.foldl_append]
 rfl
theorem insMany_spec (f : ByteArray → Lk) : ∀ (ss : List ByteArray) (o : List Lk), LkSorted o → LkSorted (insMany f o ss) ∧ ∀ z, z ∈ insMany f o ss ↔ z ∈ o ∨ ∃ s ∈ ss, z = f s
 | [], o, h => ⟨h, fun z => by simp [insMany]⟩
 | s :: ss, o, h => by
  obtain ⟨h1, h2⟩ := insMany_spec f ss (insL (f s) o) (insL_sorted h)
  refine ⟨h1, fun z => ?_⟩
  show z ∈ insMany f (insL (f s) o) ss ↔ _
  rw [h2 z, insL_mem h]
  simp only [List.mem_cons, exists_eq_or_imp]
  constructor
  ·rintro ((h | h) | h)
   ·exact .inr (.inl h)
   ·exact .inl h
   ·exact .inr (.inr h)
  ·rintro (h | h | h)
   ·exact .inl (.inr h)
   ·exact .inl (.inl h)
   ·exact .inr h
theorem insMany_names {ns : List ByteArray} {f : ByteArray → Lk} {ss : List ByteArray} {o : List Lk} (hs : LkSorted o) (ho : NamesIn ns o) (hf : ∀ s ∈ ss, (f s).a ∈ ns ∧ (f s).b ∈ ns) : NamesIn ns (insMany f o ss) := fun z hz => by
 rcases ((insMany_spec f ss o hs).2 z).1 hz with h | ⟨s, h, rfl⟩
 ·exact ho z h
 ·exact hf s h
/-- the links from which Add starts -/
def addS (l : List Lk) (nm : ByteArray) (ps fs : List ByteArray) : List Lk := insMany (fun s => ⟨s, nm⟩) (insMany (fun s => ⟨nm, s⟩) l ps) fs

/-- What Add answers. -/
def AddRet (w : World) (M : Nat → Prop) (l : List Lk) (nm : ByteArray) (ps fs : List ByteArray) (e : Ending) (w' : World) : Prop :=
 Below w.heap.size w w' ∧ ((validLk l = false ∧ e = .returned (.tuple #[.slice none 0 0, .int .i64 17])) ∨
  (validLk l = true ∧ ∃ r, ClosOf (addS l nm ps fs) r ∧ ((validLk r = false ∧ e = .returned (.tuple #[.slice none 0 0, .int .i64 13])) ∨
   (validLk r = true ∧ ∃ (A : Option Addr) (n c : Nat), e = .returned (.tuple #[.slice A n c, .int .i64 0]) ∧ n = r.length ∧ n ≤ c ∧ c ≤ 9223372036854775807 ∧ Ro w' M (LksIn A n r)))))

set_option maxHeartbeats 4000000 in
set_option maxRecDepth 100000 in
theorem radd_any (M : Nat → Prop) (w : World) (hM : ∀ b, M b → b < w.heap.size) (A : Option Addr) (n c : Nat) (l : List Lk) (nm : ByteArray) (A1 : Option Addr) (n1 c1 : Nat) (ps : List ByteArray) (A2 : Option Addr) (n2 c2 : Nat) (fs : List ByteArray) (ns : List ByteArray)
  (hD : Ro w M (LksIn A n l)) (hP : Ro w M (StrsIn A1 n1 ps)) (hF : Ro w M (StrsIn A2 n2 fs)) (hl : NamesIn ns l) (hnm : nm ∈ ns) (hps : ∀ s ∈ ps, s ∈ ns) (hfs : ∀ s ∈ fs, s ∈ ns) (hB : ns.length * ns.length ≤ 1000000) (hn : n ≤ 1000000) (hn1 : n1 ≤ 1000000) (hn2 : n2 ≤ 1000000) :
  Calls Tryz.prog 46 #[.slice A n c, .string nm, .slice A1 n1 c1, .slice A2 n2 c2] w fun e w' => AddRet w M l nm ps fs e w' := by
 have HL := hid hD.now.len
 have HP := hid hP.now.len
 have HF := hid hF.now.len
 have K0 := ((((Hold.start M w hM).add (hF.less (by simp [Mut]))).add (hP.less (by simp [Mut, Hp.foot]))).add (hD.less (by simp [Mut, Hp.foot])))
 cases hv : validLk l
 ·have HV := hid hv; clear hv
  go_enter Tryz.func46, Tryz.ntmps46
  go_wp2_with fail
  refine (rvalidLk_any (Mut M _) _ K0.mutLt A n c l (K0.ro 0 rfl) hn).mono ?_
  rintro e w1 ⟨rfl, b1⟩
  rw [HV.out]
  have K1 := K0.call b1
  go_wp2_with fail
  go_ret2
  exact ⟨K1.below, .inl ⟨HV.out, rfl⟩⟩
 have HV := hid hv; clear hv
 have HS := hid (valid_sorted HV.out)
 have HNM := hid (And.intro hl (And.intro hnm (And.intro hps hfs)))
 clear hl hnm hps hfs
 go_enter Tryz.func46, Tryz.ntmps46
 go_wp2_with fail
 refine (rvalidLk_any (Mut M _) _ K0.mutLt A n c l (K0.ro 0 rfl) hn).mono ?_
 rintro e w1 ⟨rfl, b1⟩
 rw [HV.out]
 have K1 := (K0.call b1).nil 190 2
 have r1 := hid (K1.ro 1 rfl).now
 clear b1
 go_wp2_with (at_builtin; go_must (refine wpList_appAllH K1 0 rfl Tryz.elLink r1.out rfl (.const (.slice none 0 0)) (.tmp 18) rfl rfl rfl (one_lks _) (by omega) (by omega) ?_); intro C' cap' w2 hc1 hc2 K2)
 have K3 := K2.sealRow 0 rfl
 simp only [List.set_cons_zero, Nat.zero_add, List.nil_append] at K3 hc1
 have K3 : Hold M none w w2 [.ro (LksIn C' n l), .ro (LksIn A n l), .ro (StrsIn A1 n1 ps), .ro (StrsIn A2 n2 fs)] := K3
 have K4 := K3.drop (List.Sublist.cons_cons _ (List.sublist_cons_self _ _))
 clear K1 K2 K3 r1
 go_loopw [10, 22] (fun v i wr => ∃ (A' : Option Addr) (n' c' k : Nat) (o : List Lk), v = .slice A' n' c' ∧ k ≤ n1 ∧ i = .int .i64 k ∧ n' ≤ c' ∧ c' ≤ 9223372036854775807 ∧ Hid (o = insMany (fun s => ⟨nm, s⟩) l (ps.take k)) ∧ Hold M none w wr [.ro (LksIn A' n' o), .ro (StrsIn A1 n1 ps), .ro (StrsIn A2 n2 fs)]) (fun _ i _ => n1 - (intOf i).toNat)
 case atStart => exact ⟨_, _, _, 0, l, by first | rfl | simp, by omega, rfl, hc1, hc2, hid rfl, K4⟩
 case round =>
  clear K4 hc1 hc2
  obtain ⟨A', n', c', k, o, rfl, hk, rfl, hc', hcm', HO, H⟩ := hrel
  have hn'l := (H.ro 0 rfl).now.len
  have HSO := hid (show LkSorted o ∧ NamesIn ns o by rw [HO.out]; exact ⟨(insMany_spec _ _ l HS.out).1, insMany_names HS.out HNM.out.1 fun s hs => ⟨HNM.out.2.1, HNM.out.2.2.1 s (List.mem_of_mem_take hs)⟩⟩)
  have hn'B : n' ≤ 1000000 := by rw [← hn'l]; exact Nat.le_trans (NamesIn.len HSO.out.2 HSO.out.1) hB
  clear hn'l
  by_cases hlt : k < n1
  ·have hd : decide ((k : Int) < (n1 : Int)) = true := by simp; omega
   obtain ⟨s, hs⟩ := get_of HP.out hlt
   obtain ⟨g, oo, rfl, hb, c0⟩ := (H.ro 1 rfl).now.at_ hs
   have HX := hid (insMany_succ (fun s => (⟨nm, s⟩ : Lk)) l hs); clear hs
   go_wp2_with fail
   refine (insert_any (Mut M _) _ H.mutLt A' n' c' o ⟨nm, s⟩ (H.ro 0 rfl) hn'B).mono ?_
   rintro e w5 ⟨A5, n5, c5, rfl, h51, h52, h53, r5, b5⟩
   have H51 := hid h51; clear h51
   have K5 := ((H.call b5).add r5).drop (List.Sublist.cons_cons _ (List.sublist_cons_self _ _))
   clear r5 b5
   go_wp2_with fail
   go_roundw
   case rel => exact ⟨A5, n5, c5, k + 1, _, rfl, by omega, by go_num, h52, h53, hid (by rw [HX.out, ← HO.out]), K5⟩
   case measure => simp [intOf]; omega
  ·obtain rfl : n1 = k := by omega
   have HO1 := hid (show o = insMany (fun s => ⟨nm, s⟩) l ps by have := HO.out; rwa [List.take_of_length_le (by rw [HP.out]; omega)] at this)
   have HSO1 := HSO
   clear HO hlt
   have KN := H.drop (List.Sublist.cons_cons _ (List.sublist_cons_self _ _))
   clear H hn'B HSO
   go_wp2_with fail
   go_loopw [10, 34] (fun v i wr => ∃ (A' : Option Addr) (n' c' k : Nat) (o2 : List Lk), v = .slice A' n' c' ∧ k ≤ n2 ∧ i = .int .i64 k ∧ n' ≤ c' ∧ c' ≤ 9223372036854775807 ∧ Hid (o2 = insMany (fun s => ⟨s, nm⟩) o (fs.take k)) ∧ Hold M none w wr [.ro (LksIn A' n' o2), .ro (StrsIn A2 n2 fs)]) (fun _ i _ => n2 - (intOf i).toNat)
   case atStart => exact ⟨_, _, _, 0, o, rfl, by omega, rfl, hc', hcm', hid rfl, KN⟩
   case round =>
    clear KN hc' hcm'
    obtain ⟨A', n', c', k, o2, rfl, hk, rfl, hc', hcm', HO, H⟩ := hrel
    have hn'l := (H.ro 0 rfl).now.len
    have HSO := hid (show LkSorted o2 ∧ NamesIn ns o2 by rw [HO.out]; exact ⟨(insMany_spec _ _ o HSO1.out.1).1, insMany_names HSO1.out.1 HSO1.out.2 fun s hs => ⟨HNM.out.2.2.2 s (List.mem_of_mem_take hs), HNM.out.2.1⟩⟩)
    have hn'B : n' ≤ 1000000 := by rw [← hn'l]; exact Nat.le_trans (NamesIn.len HSO.out.2 HSO.out.1) hB
    clear hn'l
    by_cases hlt : k < n2
    ·have hd : decide ((k : Int) < (n2 : Int)) = true := by simp; omega
     obtain ⟨s, hs⟩ := get_of HF.out hlt
     obtain ⟨g, oo, rfl, hb, c0⟩ := (H.ro 1 rfl).now.at_ hs
     have HX := hid (insMany_succ (fun s => (⟨s, nm⟩ : Lk)) o hs); clear hs
     go_wp2_with fail
     refine (insert_any (Mut M _) _ H.mutLt A' n' c' o2 ⟨s, nm⟩ (H.ro 0 rfl) hn'B).mono ?_
     rintro e w5 ⟨A5, n5, c5, rfl, h51, h52, h53, r5, b5⟩
     have H51 := hid h51; clear h51
     have K5 := ((H.call b5).add r5).drop (List.Sublist.cons_cons _ (List.sublist_cons_self _ _))
     clear r5 b5
     go_wp2_with fail
     go_roundw
     case rel => exact ⟨A5, n5, c5, k + 1, _, rfl, by omega, by go_num, h52, h53, hid (by rw [HX.out, ← HO.out]), K5⟩
     case measure => simp [intOf]; omega
    ·obtain rfl : n2 = k := by omega
     have HO2 := hid (show o2 = addS l nm ps fs by have := HO.out; rw [List.take_of_length_le (by rw [HF.out]; omega), HO1.out] at this; exact this)
     clear HO hlt
     go_wp2_with fail
     refine (closure_any (Mut M _) _ H.mutLt A' n' c' o2 ns (H.ro 0 rfl) HSO.out.1 HSO.out.2 hB hc' hcm').mono ?_
     rintro e w6 ⟨r, hr, A6, n6, c6, rfl, h61, h62, h63, r6, b6⟩
     have hn6 : n6 ≤ 1000000 := by rw [h61]; exact Nat.le_trans (NamesIn.len (fun z hz => Tr.names HSO.out.2 ((hr.2 z.a z.b).1 hz)) hr.1) hB
     have HR := hid (show ClosOf (addS l nm ps fs) r by rw [← HO2.out]; exact hr)
     have H61 := hid h61
     have K6 := (H.call b6).add r6
     clear r6 b6 hr h61
     cases hvr : validLk r
     ·have HVR := hid hvr; clear hvr
      go_wp2_with fail
      refine (rvalidLk_any (Mut M _) _ K6.mutLt A6 n6 c6 r (K6.ro 0 rfl) hn6).mono ?_
      rintro e w7 ⟨rfl, b7⟩
      rw [HVR.out]
      have K7 := K6.call b7
      clear b7
      go_wp2_with fail
      go_ret2
      exact ⟨K7.below, .inr ⟨HV.out, r, HR.out, .inl ⟨HVR.out, rfl⟩⟩⟩
     ·have HVR := hid hvr; clear hvr
      go_wp2_with fail
      refine (rvalidLk_any (Mut M _) _ K6.mutLt A6 n6 c6 r (K6.ro 0 rfl) hn6).mono ?_
      rintro e w7 ⟨rfl, b7⟩
      rw [HVR.out]
      have K7 := K6.call b7
      clear b7
      go_wp2_with fail
      go_ret2
      exact ⟨K7.below, .inr ⟨HV.out, r, HR.out, .inr ⟨HVR.out, A6, n6, c6, rfl, H61.out, h62, h63, K7.roOut 0 rfl⟩⟩⟩
end Go.Proofs.YtnbbllkbefagmaaGreatDoor

namespace Go.Proofs.YtnbbllkbefagmaaGreatDoor
instance baMem (x : ByteArray) (l : List ByteArray) : Decidable (x ∈ l) :=
 decidable_of_iff (l.any (fun y => decide (y = x)) = true) (by simp [List.any_eq_true])
end Go.Proofs.YtnbbllkbefagmaaGreatDoor

namespace Go.Proofs.YtnbbllkbefagmaaGreatDoor
open Go.RowKit
set_option linter.unusedVariables false
set_option linter.unusedSimpArgs false

theorem flat_strc : ∀ l : List ByteArray, l.flatMap strc = strsCells l
 | [] => rfl
 | x :: l => by
  have ih := flat_strc l
  simp only [List.flatMap_cons, strsCells, List.map_cons, strc, List.cons_append, List.nil_append] at ih ⊢
  rw [← ih]
theorem strsIn_of {A : Option Addr} {n : Nat} {l : List ByteArray} {w : World} (h : SlR 1 A n (l.flatMap strc) w) : StrsIn A n l w := by
 rw [flat_strc] at h
 exact h
def OwnStrs (w : World) (l : List ByteArray) (e : Ending) (w' : World) : Prop :=
 ∃ (A : Option Addr) (n c : Nat), e = .returned (.slice A n c) ∧ n = l.length ∧ w'.ownsRow w.heap.size 9 1 (.slice A n c) n (strsCells l) ∧ Below w.heap.size w w'
theorem one_strs (l : List ByteArray) : ∀ u ∈ strsCells l, u.oneCell' = true := fun u hu => by
 obtain ⟨x, _, rfl⟩ := List.mem_map.1 hu
 rfl
def contS (xs : List ByteArray) (x : ByteArray) : Bool := decide (x ∈ xs)
theorem contS_hit {xs : List ByteArray} {k : Nat} {x y : ByteArray} (h : xs[k]? = some y) (e : y = x) : contS xs x = true := by
 unfold contS; rw [decide_eq_true_iff, ← e]; exact List.mem_of_getElem? h
theorem contS_step {xs : List ByteArray} {k : Nat} {x y : ByteArray} (h : xs[k]? = some y) (e : y ≠ x) (hc : contS (xs.take k) x = false) : contS (xs.take (k + 1)) x = false := by
 unfold contS at *
 rw [decide_eq_false_iff_not] at *
 rw [List.take_add_one, h, List.mem_append]
 rintro (h1 | h1)
 ·exact hc h1
 ·simp at h1; exact e h1.symm
set_option maxHeartbeats 4000000 in
theorem sindex_any (w : World) (A : Option Addr) (n c : Nat) (xs : List ByteArray) (x : ByteArray) (hD : StrsIn A n xs w) (hn : n ≤ 9223372036854775807) :
  Calls Tryz.prog 180 #[.slice A n c, .string x] w fun e w' => (∃ r : Int, e = .returned (.int .i64 r) ∧ decide (r ≥ 0) = contS xs x) ∧ w = w' := by
 have HL := hid hD.len
 go_enter Tryz.func180, Tryz.ntmps180
 go_wp2_with fail
 go_loopw [8] (fun iv wr => ∃ (k : Nat), k ≤ n ∧ iv = .int .i64 k ∧ wr = w ∧ Hid (contS (xs.take k) x = false)) (fun iv _ => n - (intOf iv).toNat)
 case atStart => exact ⟨0, by omega, rfl, rfl, hid (by simp [contS])⟩
 case round =>
  obtain ⟨k, hk, rfl, rfl, HC⟩ := hrel
  by_cases hlt : k < n
  ·have hd : decide ((k : Int) < (n : Int)) = true := by simp; omega
   have i0 : (0 : Int) ≤ (k : Int) := by omega
   have i1 : (k : Int) < (n : Int) := by omega
   obtain ⟨y, hy⟩ := get_of HL.out hlt
   obtain ⟨b, o, rfl, _, ck⟩ := hD.at_ hy
   have HX := hid hy
   clear hy
   cases e1 : (x.toList == y.toList)
   ·have e2 : (y.toList == x.toList) = false := by rw [beq_eq_false_iff_ne] at *; exact fun h => e1 h.symm
    have HN := hid (contS_step HX.out (fun e => by rw [e] at e1; simp at e1) HC.out)
    go_wp2_with fail
    go_roundw
    case rel => exact ⟨k + 1, by omega, by go_num, by first | rfl | trivial, HN⟩
    case measure => simp [intOf]; omega
   ·have e2 : (y.toList == x.toList) = true := by rw [beq_iff_eq] at *; exact e1.symm
    have HN := hid (contS_hit HX.out (ba_beq.1 e2))
    go_wp2_with fail
    go_ret
    exact ⟨⟨k, rfl, by rw [HN.out]; simp⟩, rfl⟩
  ·obtain rfl : n = k := by omega
   have hd : decide ((n : Int) < (n : Int)) = false := by simp
   have HN := hid (show contS xs x = false by have h := HC.out; rwa [List.take_of_length_le (by rw [HL.out]; exact Nat.le_refl _)] at h)
   go_wp2_with fail
   go_ret
   exact ⟨⟨-1, rfl, by rw [HN.out]; rfl⟩, rfl⟩
theorem scont_any (w : World) (A : Option Addr) (n c : Nat) (xs : List ByteArray) (x : ByteArray) (hD : StrsIn A n xs w) (hn : n ≤ 9223372036854775807) :
  Calls Tryz.prog 119 #[.slice A n c, .string x] w fun e w' => e = .returned (.bool (contS xs x)) ∧ w = w' := by
 go_enter Tryz.func119, Tryz.ntmps119
 go_wp2_with fail
 refine (sindex_any w A n c xs x hD hn).mono ?_
 rintro e w1 ⟨⟨r, rfl, hr⟩, rfl⟩
 go_wp2_with fail
 go_ret
 exact ⟨by first | rw [hr] <;> rfl | simp [← hr], rfl⟩
end Go.Proofs.YtnbbllkbefagmaaGreatDoor

namespace Go.Proofs.YtnbbllkbefagmaaGreatDoor
open Go.RowKit
set_option linter.unusedVariables false
set_option linter.unusedSimpArgs false
/-- the names of triggers -/
def trigN (j : Nat) : ByteArray := ⟨#[UInt8.ofNat (97 + j), UInt8.ofNat (97 + j)]⟩
def TNm (w : World) : Prop := ∀ j, j < 8 → w.cell? ⟨0, j, none⟩ = some (.string (trigN j))
/-- the triggers drawn: their names are the first ones -/
def TgsOk (l : List Tg) : Prop := (∀ i t, l[i]? = some t → t.name = trigN i) ∧ ∀ t ∈ l, TgGd 5 t ∧ OneName t.tab
theorem tgsOk_nil : TgsOk [] := ⟨fun i t h => by simp at h, fun t h => (nomatch h)⟩
theorem TgsOk.snoc {l : List Tg} {t : Tg} (h : TgsOk l) (h1 : t.name = trigN l.length) (h2 : TgGd 5 t) (h3 : OneName t.tab) : TgsOk (l ++ [t]) := ⟨fun i x hx => by
 rcases Nat.lt_or_ge i l.length with hi | hi
 ·rw [List.getElem?_append_left hi] at hx
  exact h.1 i x hx
 ·rw [List.getElem?_append_right hi] at hx
  rcases Nat.eq_zero_or_pos (i - l.length) with h0 | h0
  ·rw [h0] at hx
   obtain rfl : t = x := by simpa using hx
   rw [h1]; congr 1; omega
  ·rw [List.getElem?_eq_none (by simp; omega)] at hx
   exact (nomatch hx), fun x hx => by
 rcases List.mem_append.1 hx with hx | hx
 ·exact h.2 x hx
 ·simp only [List.mem_cons, List.not_mem_nil, or_false] at hx
  subst hx
  exact ⟨h2, h3⟩⟩
theorem addS_namesT {l : List Lk} {nm : ByteArray} {ps fs ns : List ByteArray} (hl : LkSorted l) (h : NamesIn ns l) (hn : nm ∈ ns) (hp : ∀ s ∈ ps, s ∈ ns) (hf : ∀ s ∈ fs, s ∈ ns) : NamesIn ns (addS l nm ps fs) :=
 insMany_names (insMany_spec _ _ l hl).1 (insMany_names hl h fun y hy => ⟨hn, hp y hy⟩) fun y hy => ⟨hf y hy, hn⟩
theorem clos_namesT {l r : List Lk} {ns : List ByteArray} (h : ClosOf l r) (hn : NamesIn ns l) : NamesIn ns r := fun z hz => Tr.names hn ((h.2 z.a z.b).1 hz)
/-- an order whose names are few -/
def OrdOk (B : Nat) (ol : List Lk) : Prop := validLk ol = true ∧ LkSorted ol ∧ ∃ ns : List ByteArray, ns.length ≤ 17 * B ∧ NamesIn ns ol
theorem OrdOk.le {B B' : Nat} {ol : List Lk} (h : OrdOk B ol) (hb : B ≤ B') : OrdOk B' ol := by
 obtain ⟨h1, h2, ns, h3, h4⟩ := h
 exact ⟨h1, h2, ns, by omega, h4⟩
def TabSl (M : Nat → Prop) (u : Value) (w : World) : Prop := ∃ (A : Option Addr) (c : Nat) (l : List Te), u = .slice A 3 c ∧ (∀ x ∈ l, 1 ≤ x.n ∧ x.n ≤ 4) ∧ Ro w M (TesIn A 3 l)
theorem tabSl_mono {M : Nat → Prop} (u : Value) (w w' : World) (hr : RM M w w') (h : TabSl M u w) : TabSl M u w' := by
 obtain ⟨A, c, l, h1, h2, h3⟩ := h
 exact ⟨A, c, l, h1, h2, hr.ro h3⟩
def TrgsRet (w : World) (T : Nat) (M : Nat → Prop) (N : Nat) (e : Ending) (w' : World) : Prop := ∃ (A : Option Addr) (n c : Nat) (l : List Tg) (O : Option Addr) (on oc : Nat) (ol : List Lk), e = .returned (.tuple #[.slice A n c, .slice O on oc]) ∧ l.length = n ∧ n ≤ N ∧ n ≤ c ∧ c ≤ 9223372036854775807 ∧ TgsOk l ∧ OrdOk N ol ∧ Ro w' M (TgsIn 5 A n l) ∧ Ro w' M (LksIn O on ol) ∧ Tp w' T ∧ w.grownBy w' (some T)
theorem Tryz.elTg : ElemT Tryz.prog 25 40 11 200 (.agg #[.string ⟨#[]⟩, .string ⟨#[]⟩, .bool false, .int .i64 0, .slice none 0 0, .bool false, .slice none 0 0, .slice none 0 0, .slice none 0 0, .slice none 0 0, .slice none 0 0]) := ⟨Tryz.underlying25, by kernel_rfl, rfl, by omega⟩
set_option maxHeartbeats 16000000 in
set_option maxRecDepth 100000 in
theorem trigs_any (M : Nat → Prop) (T : Nat) (w : World) (hM : ∀ b, M b → b < w.heap.size) (ht : Tp w T) (hMT : ∀ b, M b → T ≤ b) (N : Nat) (hN : N ≤ 8) (hW : Ro w (Mut M [.tp T]) Wds) (hT : 1 < T) (hTN : Ro w (Mut M [.tp T]) TNm) : Calls Tryz.prog 9 #[.pointer (some ⟨T, 0, none⟩), .int .i64 N] w fun e w' => TrgsRet w T M N e w' := by
 have K0 := ((((Hold.startT M w T hM ht hMT).add hW).add (hTN.less (by simp [mut_cons, Mut, Hp.foot]))).add (S := TgsOf 5 []) (fun w2 _ _ x hx => (nomatch hx))).nil 40 11
 clear hW hTN
 have hw1 : IntKind.i64.wrap ((N : Int) + 1) = ((N + 1 : Nat) : Int) := by rw [IntWalk.i64_in _ (by omega)]; omega
 go_enter Tryz.func9, Tryz.ntmps9
 go_wp2_with fail
 refine (next_any T (N + 1) _ (K0.tp_ 4 rfl) (by omega) (by omega)).mono ?_
 rintro e w1 ⟨r, rfl, r0, r1, t1, g1⟩
 have K1 := Hold.callT K0 4 rfl g1 t1
 clear K0 t1 g1 hw1
 obtain ⟨q, rfl⟩ : ∃ q : Nat, r = (q : Int) := ⟨r.toNat, by omega⟩
 have hq : q ≤ N := by omega
 clear r0 r1
 go_wp2_with fail
 go_loopw [6, 7, 8] (fun lv ov iv wr => ∃ (i k cap : Nat) (A : Option Addr) (l : List Tg) (O : Option Addr) (on oc : Nat) (ol : List Lk), i ≤ q ∧ k + i ≤ q ∧ l.length = k ∧ lv = .slice A k cap ∧ ov = .slice O on oc ∧ iv = .int .i64 i ∧ Hid (TgsOk l ∧ OrdOk (q - i) ol) ∧ Ro wr (Mut M [.own 40 11 (.slice A k cap) k (tgCells l), .ro (TgsOf 5 l), .ro TNm, .ro Wds, .tp T]) (LksIn O on ol) ∧ Hold M (some T) w wr [.own 40 11 (.slice A k cap) k (tgCells l), .ro (TgsOf 5 l), .ro TNm, .ro Wds, .tp T]) (fun _ _ iv _ => (intOf iv).toNat)
 case atStart => exact ⟨q, 0, 0, none, [], none, 0, 0, [], by omega, by omega, rfl, rfl, rfl, rfl, hid ⟨tgsOk_nil, by
  refine ⟨by decide, List.Pairwise.nil, [], by simp, fun z hz => (nomatch hz)⟩⟩, fun w2 _ _ => slr_nil 2 w2, K1⟩
 case round =>
  clear K1
  obtain ⟨i, k, cap, A, l, O, on, oc, ol, hi, hki, hlk, rfl, rfl, rfl, HOK, ho, H⟩ := hrel
  have HLK := hid hlk
  clear hlk
  rcases Nat.eq_zero_or_pos i with h0 | h0
  ·subst h0
   have hcap := own_caps (H.get 0 rfl)
   have KZ := H.sealRow 0 rfl
   simp only [List.set_cons_zero] at KZ
   have hR : Ro _ _ (TgsIn 5 A k l) := ((KZ.ro 0 rfl).and (KZ.ro 1 rfl)).imp fun w2 h2 => ⟨h2.1, h2.2⟩
   have HR := hid (hR.less zm)
   have HO := hid (ho.less zm)
   have HT := hid (And.intro (KZ.tp_ 4 rfl) KZ.grow)
   clear KZ H hR ho
   go_wp2_with fail
   go_ret2
   exact ⟨A, k, cap, l, O, on, oc, ol, rfl, HLK.out, by omega, hcap.1, hcap.2.1, HOK.out.1, (by
    obtain ⟨h1, h2, ns, h3, h4⟩ := HOK.out.2
    exact ⟨h1, h2, ns, by omega, h4⟩), HR.out, HO.out, HT.out.1, HT.out.2⟩
  ·have hi0 : (0 : Int) < (i : Int) := by omega
   have hk8 : (k : Int) < 8 := by omega
   have hwi : IntKind.i64.wrap ((i : Int) - 1) = ((i - 1 : Nat) : Int) := by rw [IntWalk.i64_in _ (by omega)]; omega
   have c0 := (H.ro 2 rfl).now k (by omega)
   have hcap := own_caps (H.get 0 rfl)
   have KL := H.add ho
   have hsl : Ro wr (fun b => b = T) (SlR 11 A k (tgCells l)) := by
    have KZ := H.sealRow 0 rfl
    simp only [List.set_cons_zero] at KZ
    exact (KZ.ro 0 rfl).less (fun b hb => by subst hb; exact (mut_tpG (i := 4) rfl) _ (by simp [mut_cons, Hp.foot]))
   clear H ho
   go_wp2_with fail
   clear c0
   refine (trigger_any (Mut M _) T _ KL.mutLt (KL.tp_ 5 rfl) (KL.get 5 rfl).2 (trigN k) A k cap l hsl (by omega) ((KL.ro 4 rfl).less (mut_tpG (i := 5) rfl)) hT).mono ?_
   rintro e w2 ⟨x, rfl, hxg, hxn, hxt, rx, t2, g2⟩
   obtain ⟨xn, xt, xb, xe, ⟨oA, onn, occ, oll⟩, xch, ⟨pA, pn, pc, pl⟩, ⟨qA, qn, qc, ql⟩, ⟨rA, rn, rc, rl⟩, ⟨kA, kn, kc, kl⟩, ⟨aA, an, ac, al⟩⟩ := x
   have HXG := hid hxg
   have HXT := hid hxt
   have hxn : xn = trigN k := hxn
   subst hxn
   have KA := ((Hold.callT KL 5 rfl g2 t2).add rx).alloc_cst #[.string (trigN k), .string xt, .bool xb, .int .i64 xe, .slice oA onn occ, .bool xch, .slice pA pn pc, .slice qA qn qc, .slice rA rn rc, .slice kA kn kc, .slice aA an ac] 40
   clear KL hsl g2 t2 rx hxg hxt
   obtain ⟨gt, hgt⟩ : ∃ g, g = w2.heap.size := ⟨_, rfl⟩
   rw [← hgt] at KA
   rw [show (Tg.val ⟨trigN k, xt, xb, xe, ⟨oA, onn, occ, oll⟩, xch, ⟨pA, pn, pc, pl⟩, ⟨qA, qn, qc, ql⟩, ⟨rA, rn, rc, rl⟩, ⟨kA, kn, kc, kl⟩, ⟨aA, an, ac, al⟩⟩) = .agg #[.string (trigN k), .string xt, .bool xb, .int .i64 xe, .slice oA onn occ, .bool xch, .slice pA pn pc, .slice qA qn qc, .slice rA rn rc, .slice kA kn kc, .slice aA an ac] from rfl]
   obtain ⟨KM, hKM, K6⟩ := KA.name
   have H1 : ∀ wv : World, Hold M (some T) w wv KM → Blk wv gt 40 #[.string (trigN k), .string xt, .bool xb, .int .i64 xe, .slice oA onn occ, .bool xch, .slice pA pn pc, .slice qA qn qc, .slice rA rn rc, .slice kA kn kc, .slice aA an ac] := fun wv h => by rw [hKM] at h; exact h.cst_ 0 rfl
   have H2 : ∀ wv : World, Hold M (some T) w wv KM → Ro wv (Mut M KM) (TgIn 5 ⟨trigN k, xt, xb, xe, ⟨oA, onn, occ, oll⟩, xch, ⟨pA, pn, pc, pl⟩, ⟨qA, qn, qc, ql⟩, ⟨rA, rn, rc, rl⟩, ⟨kA, kn, kc, kl⟩, ⟨aA, an, ac, al⟩⟩) := fun wv h => by rw [hKM] at h ⊢; exact h.ro 1 rfl
   have HH1 := hid H1
   have HH2 := hid H2
   have HKM := hid hKM
   clear hKM H1 H2 KA
   go_upto_region 7 with fail
   rw [← hgt]
   have HGT := hid hgt
   clear hgt
   refine wp_region_any (by kernel_rfl) ?_
   refine wpAny_hold 3 51 (KM) (spL [(28, TabSl (Mut M KM)), (29, fun u _ => ∃ c : Int, u = .int .i64 c)]) (by kernel_rfl) (by kernel_rfl) (by kernel_rfl) rfl ?_ (K6.drew) ?_
   ·exact stays_cons tabSl_mono (stays_cons (fun _ _ _ _ h => h) (stays_nil _))
   simp only [zd, Act.put, List.getElem_toArray, List.getElem_cons_zero, List.getElem_cons_succ, zl]
   refine dw_val rfl rfl rfl ?_; apply Exists.intro; refine ⟨fun wv HC => ?_, ?_⟩
   ·obtain q0 := (HH1.out _ HC).cell 0; obtain q1 := (HH1.out _ HC).cell 1; obtain q2 := (HH1.out _ HC).cell 2; obtain q3 := (HH1.out _ HC).cell 3; obtain q4 := (HH1.out _ HC).cell 4; obtain q5 := (HH1.out _ HC).cell 5; obtain q6 := (HH1.out _ HC).cell 6; obtain q7 := (HH1.out _ HC).cell 7; obtain q8 := (HH1.out _ HC).cell 8; obtain q9 := (HH1.out _ HC).cell 9; obtain q10 := (HH1.out _ HC).cell 10; go_simp <;> rfl
   simp only [Act.put, zl]
   refine dw_callR 28 (TabSl (Mut M KM)) (f := 45) (args := #[.slice none 0 0]) rfl rfl rfl rfl (fun wv => ?_) (fun wv HC hrm hD => ?_) ?_
   ·go_simp <;> rfl
   ·refine (tablesOf_any (Mut M KM) wv HC.mutLt).mono ?_
    rintro e w5 ⟨yA, yc, yl, rfl, hyl, ry, b5⟩
    exact ⟨_, rfl, ⟨yA, yc, yl, rfl, hyl, ry⟩, HC.call b5, RM.below b5⟩
   rintro u wx HCx ⟨yA, yc, yl, rfl, hyl, ry⟩
   clear HCx hyl ry
   simp only [Act.put, zl]
   refine dw_callR 29 (fun u _ => ∃ c : Int, u = .int .i64 c) (f := 44) (args := #[.agg #[.string (trigN k), .string xt, .bool xb, .int .i64 xe, .slice oA onn occ, .bool xch, .slice pA pn pc, .slice qA qn qc, .slice rA rn rc, .slice kA kn kc, .slice aA an ac], .slice yA 3 yc]) rfl rfl rfl rfl (fun wv => ?_) (fun wv HC hrm hD => ?_) ?_
   ·go_simp <;> rfl
   ·have h1 : TabSl (Mut M KM) (.slice yA 3 yc) wv := deps_at hD 1 rfl (by kernel_rfl) rfl rfl
    obtain ⟨yA', yc', yl', e', hyl, ry⟩ := h1
    obtain ⟨rfl, rfl⟩ : yA = yA' ∧ yc = yc' := by injection e' with e1 e2 e3; exact ⟨e1, e3⟩
    refine (rtrgCheck_ret 5 (by omega) ⟨trigN k, xt, xb, xe, ⟨oA, onn, occ, oll⟩, xch, ⟨pA, pn, pc, pl⟩, ⟨qA, qn, qc, ql⟩, ⟨rA, rn, rc, rl⟩, ⟨kA, kn, kc, kl⟩, ⟨aA, an, ac, al⟩⟩ yA 3 yc yl' wv ((HH2.out _ HC).less zn) HXG.out (ry.less zn) (by omega) (fun x hx => ⟨(hyl x hx).1, by have := (hyl x hx).2; omega⟩)).mono ?_
    rintro e w5 ⟨cd, rfl, b5⟩
    exact ⟨_, rfl, ⟨_, rfl⟩, HC.call b5, RM.below b5⟩
   rintro u wx HCx ⟨cd, rfl⟩
   clear HCx
   simp only [Act.put, zl]
   refine rel_nil ?_
   rintro wx3 HX
   rintro _hrm HGW
   clear HGW _hrm
   rw [HKM.out] at HX
   clear HH1 HH2 HKM K6
   have F4 := HX.facts
   simp only [factsL, cellsF, Nat.reduceAdd, zf, zl] at F4
   have HQ := hid (show k + (i - 1) ≤ q ∧ i - 1 ≤ q by omega)
   obtain ⟨z, hz⟩ : ∃ z : Bool, (cd != 0) = z := ⟨_, rfl⟩
   cases z
   ·have HPL := hid (show pl.length = pn from SlP.In.len (s := ⟨pA, pn, pc, pl⟩) (k := 1) (cel := strc) (P := fun _ _ => True) (HX.ro 1 rfl).now.2.1 (by omega) (fun _ => rfl))
    have HQL := hid (show ql.length = qn from SlP.In.len (s := ⟨qA, qn, qc, ql⟩) (k := 1) (cel := strc) (P := fun _ _ => True) (HX.ro 1 rfl).now.2.2.1 (by omega) (fun _ => rfl))
    have HOL := hid (show ol.length = on from (show LksIn O on ol _ from (HX.ro 2 rfl).now).len)
    obtain ⟨hv, hs, ns, h3, h4⟩ := HOK.out.2
    have HNS := hid (show ∃ NS : List ByteArray, NS.length ≤ 17 * (q - (i - 1)) ∧ NamesIn NS ol ∧ trigN k ∈ NS ∧ (∀ s ∈ pl, s ∈ NS) ∧ ∀ s ∈ ql, s ∈ NS from by
     refine ⟨trigN k :: (pl ++ (ql ++ ns)), ?_, ?_, by simp, fun s hs => by simp [hs], fun s hs => by simp [hs]⟩
     ·have e1 : pl.length ≤ 8 := HXG.out.p.2.1
      have e2 : ql.length ≤ 8 := HXG.out.f.2.1
      simp only [List.length_cons, List.length_append]
      omega
     ·intro z hz
      have := h4 z hz
      exact ⟨by simp [this.1], by simp [this.2]⟩)
    have HSO := hid hs
    have HON := hid (show on ≤ 1000000 from by
     have e := h4.len hs
     have e2 : ns.length ≤ 136 := by omega
     have e3 := Nat.mul_le_mul e2 e2
     rw [← HOL.out]
     omega)
    clear hv hs h3 h4
    obtain ⟨NS, n1, n2, n3, n4, n5⟩ := HNS.out
    have HN1 := hid n1
    have HN2 := hid n2
    have HN3 := hid n3
    have HN4 := hid n4
    have HN5 := hid n5
    clear HNS n1 n2 n3 n4 n5
    go_wp2_with fail
    refine (radd_any (Mut M _) _ HX.mutLt O on oc ol (trigN k) pA pn pc pl qA qn qc ql NS (HX.ro 2 rfl) ((HX.ro 1 rfl).imp fun w2 h2 => strsIn_of h2.2.1.1) ((HX.ro 1 rfl).imp fun w2 h2 => strsIn_of h2.2.2.1.1) HN2.out HN3.out HN4.out HN5.out (by
     have e2 : NS.length ≤ 136 := by have := HN1.out; omega
     have e3 := Nat.mul_le_mul e2 e2
     omega) HON.out (by have e1 : pl.length ≤ 8 := HXG.out.p.2.1; have := HPL.out; omega) (by have e1 : ql.length ≤ 8 := HXG.out.f.2.1; have := HQL.out; omega)).mono ?_
    rintro e w9 ⟨b9, h9⟩
    rcases h9 with ⟨-, rfl⟩ | ⟨-, r, hr, ⟨-, rfl⟩ | ⟨hvr, RA, rn2, rc2, rfl, hrn, hrc, hrc2, rr⟩⟩
    ·have K9 : Hold M (some T) w w9 [.ro (LksIn O on ol), .own 40 11 (.slice A k cap) k (tgCells l), .ro (TgsOf 5 l), .ro TNm, .ro Wds, .tp T] := (HX.call b9).pick [2, 3, 4, 5, 6, 7] (by decide) rfl
     clear HX F4 b9
     go_wp2_with fail
     go_roundw
     case rel => exact ⟨i - 1, k, cap, A, l, O, on, oc, ol, HQ.out.2, HQ.out.1, HLK.out, rfl, rfl, by go_num, hid ⟨HOK.out.1, HOK.out.2.le (by omega)⟩, (K9.ro 0 rfl).less (fun b hb => mut_cons.2 (.inr hb)), K9.drop (List.sublist_cons_self _ _)⟩
     case measure => simp [intOf]; omega
    ·have K9 : Hold M (some T) w w9 [.ro (LksIn O on ol), .own 40 11 (.slice A k cap) k (tgCells l), .ro (TgsOf 5 l), .ro TNm, .ro Wds, .tp T] := (HX.call b9).pick [2, 3, 4, 5, 6, 7] (by decide) rfl
     clear HX F4 b9 hr
     go_wp2_with fail
     go_roundw
     case rel => exact ⟨i - 1, k, cap, A, l, O, on, oc, ol, HQ.out.2, HQ.out.1, HLK.out, rfl, rfl, by go_num, hid ⟨HOK.out.1, HOK.out.2.le (by omega)⟩, (K9.ro 0 rfl).less (fun b hb => mut_cons.2 (.inr hb)), K9.drop (List.sublist_cons_self _ _)⟩
     case measure => simp [intOf]; omega
    ·have K9 := (HX.call b9).add rr
     have HR := hid (And.intro hr hvr)
     clear HX F4 b9 rr hr hvr hrn hrc hrc2
     have F9 := K9.facts
     simp only [factsL, cellsF, Nat.reduceAdd, zf, zl] at F9
     go_wp2_with (at_builtin; go_must (refine wpList_appH K9 4 rfl Tryz.elTg #[.string (trigN k), .string xt, .bool xb, .int .i64 xe, .slice oA onn occ, .bool xch, .slice pA pn pc, .slice qA qn qc, .slice rA rn rc, .slice kA kn kc, .slice aA an ac] rfl (.tmp 45) (.tmp 47) rfl rfl _ (by first | rfl | simp) rfl rfl (by intro u hu; simp at hu; rcases hu with rfl | rfl | rfl | rfl | rfl | rfl | rfl | rfl | rfl | rfl | rfl <;> rfl) (by omega) (by omega) ?_); intro gA capA wA hcA hmA KB; simp only [zl] at KB)
     rw [show tgCells l ++ (#[.string (trigN k), .string xt, .bool xb, .int .i64 xe, .slice oA onn occ, .bool xch, .slice pA pn pc, .slice qA qn qc, .slice rA rn rc, .slice kA kn kc, .slice aA an ac] : Array Value).toList = tgCells (l ++ [⟨trigN k, xt, xb, xe, ⟨oA, onn, occ, oll⟩, xch, ⟨pA, pn, pc, pl⟩, ⟨qA, qn, qc, ql⟩, ⟨rA, rn, rc, rl⟩, ⟨kA, kn, kc, kl⟩, ⟨aA, an, ac, al⟩⟩]) from (tgCells_snoc l ⟨trigN k, xt, xb, xe, ⟨oA, onn, occ, oll⟩, xch, ⟨pA, pn, pc, pl⟩, ⟨qA, qn, qc, ql⟩, ⟨rA, rn, rc, rl⟩, ⟨kA, kn, kc, kl⟩, ⟨aA, an, ac, al⟩⟩).symm] at KB
     have hR : Ro _ _ (TgsOf 5 (l ++ [⟨trigN k, xt, xb, xe, ⟨oA, onn, occ, oll⟩, xch, ⟨pA, pn, pc, pl⟩, ⟨qA, qn, qc, ql⟩, ⟨rA, rn, rc, rl⟩, ⟨kA, kn, kc, kl⟩, ⟨aA, an, ac, al⟩⟩])) := ((KB.ro 5 rfl).and (KB.ro 2 rfl)).imp fun w2 h2 y hy => by
      rcases List.mem_append.1 hy with hy | hy
      ·exact h2.1 y hy
      ·simp only [List.mem_cons, List.not_mem_nil, or_false] at hy
       subst hy
       exact h2.2
     have KC := (KB.swapRo 5 rfl hR).pick [0, 4, 5, 6, 7, 8] (by decide) rfl
     simp only [List.set_cons_zero, List.set_cons_succ, List.filterMap_cons, List.filterMap_nil, List.getElem?_cons_zero, List.getElem?_cons_succ] at KC
     go_roundw
     case rel => exact ⟨i - 1, k + 1, capA, _, l ++ [⟨trigN k, xt, xb, xe, ⟨oA, onn, occ, oll⟩, xch, ⟨pA, pn, pc, pl⟩, ⟨qA, qn, qc, ql⟩, ⟨rA, rn, rc, rl⟩, ⟨kA, kn, kc, kl⟩, ⟨aA, an, ac, al⟩⟩], RA, rn2, rc2, r, HQ.out.2, by have := HQ.out.1; omega, by simp [HLK.out], by first | rfl | trivial, by first | rfl | trivial, by go_num, hid ⟨HOK.out.1.snoc (by rw [HLK.out]) HXG.out HXT.out, ⟨HR.out.2, HR.out.1.1, NS, HN1.out, clos_namesT HR.out.1 (addS_namesT HSO.out HN2.out HN3.out HN4.out HN5.out)⟩⟩, (KC.ro 0 rfl).less (fun b hb => mut_cons.2 (.inr hb)), KC.drop (List.sublist_cons_self _ _)⟩
     case measure => simp [intOf]; omega
   ·go_wp2_with fail
    go_roundw
    have K9 : Hold M (some T) w wx3 [.ro (LksIn O on ol), .own 40 11 (.slice A k cap) k (tgCells l), .ro (TgsOf 5 l), .ro TNm, .ro Wds, .tp T] := HX.pick [2, 3, 4, 5, 6, 7] (by decide) rfl
    case rel => exact ⟨i - 1, k, cap, A, l, O, on, oc, ol, HQ.out.2, HQ.out.1, HLK.out, rfl, rfl, by go_num, hid ⟨HOK.out.1, HOK.out.2.le (by omega)⟩, (K9.ro 0 rfl).less (fun b hb => mut_cons.2 (.inr hb)), K9.drop (List.sublist_cons_self _ _)⟩
    case measure => simp [intOf]; omega
end Go.Proofs.YtnbbllkbefagmaaGreatDoor

namespace Go.Proofs.YtnbbllkbefagmaaGreatDoor
open Go.ChangeShapes Go.WideShapes Go.ChangeAt Go.RowKit
set_option linter.unusedVariables false
set_option linter.unusedSimpArgs false

theorem laidMet_tailT {P : Program} {W : World} {x : String × DataW Unit} {rest : List (String × DataW Unit)} (h : laidMet P (x :: rest) W) : laidMet P rest W := by
 obtain ⟨ps, ⟨g, t, cs, fuel, p, q, _, _, _, _, hr, rfl⟩, hn, hb⟩ := h
 exact ⟨q, hr, (List.nodup_append.1 hn).2.1, fun b off hm => hb b off (List.mem_append_right _ hm)⟩
theorem gTn : Tryz.prog.globalNamed "triggerstore/triggerstoreworld.triggerNames" = some 0 := by kernel_rfl
theorem gTnType : (Tryz.prog.globals[0]?).map (·.type) = some 103 := by kernel_rfl
def tnBytes : List (List UInt8) := [[97, 97], [98, 98], [99, 99], [100, 100], [101, 101], [102, 102], [103, 103], [104, 104]]
theorem tn_all : ∀ j, j < 8 → tnBytes[j]? = some (trigN j).data.toList := by decide +kernel
theorem tnm_of_laid {W : World} {rest : List (String × DataW Unit)} (h : laidMet Tryz.prog (("triggerstore/triggerstoreworld.triggerNames", Rows.laid_triggerstore_triggerstoreworld_triggerNames) :: rest) W) : TNm W := by
 intro j hj
 obtain ⟨s, h1, h2, _⟩ := strs_of_head (bs := tnBytes) (rest := rest) gTn gTnType Tryz.underlying103 Tryz.underlying9 (by kernel_rfl) h j hj
 rw [tn_all j hj] at h2
 have h3 := Option.some.inj h2
 have h4 : s = trigN j := Go.WideShapes.bytes_inj h3.symm
 rw [h1, h4]
theorem tn_of_laid {W : World} (h : laidMet Tryz.prog [("triggerstore/triggerstoreworld.triggerNames", Rows.laid_triggerstore_triggerstoreworld_triggerNames), ("triggerstore/triggerstoreworld.words", Rows.laid_triggerstore_triggerstoreworld_words)] W) : Wds W ∧ TNm W := ⟨wds_of_laid (rest := []) (laidMet_tailT h), tnm_of_laid h⟩
/-- A world for the witness of a row: the settled one, both tables laid. -/
noncomputable def tnWorld (os : Os) : World :=
 { wordsWorld os with heap := (wordsWorld os).heap.modify 0 fun
   | .cells _ t frozen => .cells #[.string ⟨#[97, 97]⟩, .string ⟨#[98, 98]⟩, .string ⟨#[99, 99]⟩, .string ⟨#[100, 100]⟩, .string ⟨#[101, 101]⟩, .string ⟨#[102, 102]⟩, .string ⟨#[103, 103]⟩, .string ⟨#[104, 104]⟩] t frozen
   | o => o }
theorem TNm.keep {w w' : World} (h : TNm w) (hk : w'.heap[0]? = w.heap[0]?) : TNm w' := fun j hj => (World.cell?_of_block (w := w) (a := ⟨0, j, none⟩) hk).trans (h j hj)
theorem TNm.lt {w : World} (h : TNm w) : 0 < w.heap.size := World.block_lt_of_cell? w ⟨0, 0, none⟩ (h 0 (by omega))
theorem TNm.ro2 {w : World} {M : Nat → Prop} (h : TNm w) (hM : ¬ M 0) : Ro w M TNm := fun w2 _ h2 => h.keep (h2 _ h.lt hM)
end Go.Proofs.YtnbbllkbefagmaaGreatDoor

namespace Go.Proofs.YtnbbllkbefagmaaGreatDoor
open Go.RowKit
set_option linter.unusedVariables false
set_option linter.unusedSimpArgs false
set_option maxHeartbeats 8000000 in
set_option maxRecDepth 100000 in
theorem six_any (w : World) (f : FuncId) (cv : Value) (p : ByteArray → Bool) (hcf : ∀ args w, Sem.run Tryz.prog (callFunc f args) w = .ok (.enter f args) w) (hf : ∀ s, Calls Tryz.prog f #[.string s, cv] w fun e w' => e = .returned (.bool (p s)) ∧ w = w') (B : Option Addr) (m q : Nat) (os : List ByteArray) (hl : StrsIn B m os w) (hm : m ≤ 1000000) : Calls Tryz.prog 179 #[.slice B m q, .func (.func f) #[] #[cv]] w fun e w' => (∃ r : Int, e = .returned (.int .i64 r) ∧ decide (r ≥ 0) = os.any p) ∧ w = w' := by
 have HL := hid hl.len
 have HF := hid hf
 have HCF := hid hcf
 clear hf hcf
 go_enter Tryz.func179, Tryz.ntmps179
 go_wp2_with fail
 go_loopw [8] (fun iv wr => ∃ j : Nat, j ≤ m ∧ iv = .int .i64 j ∧ Hid ((os.take j).any p = false) ∧ wr = w) (fun iv _ => m - (intOf iv).toNat)
 case atStart => exact ⟨0, by omega, rfl, hid rfl, rfl⟩
 case round =>
  obtain ⟨j, hj, rfl, HP, rfl⟩ := hrel
  by_cases hlt : j < m
  ·have j0 : (0 : Int) ≤ (j : Int) := by omega
   have j1 : (j : Int) < (m : Int) := by omega
   obtain ⟨x, hx⟩ := get_of HL.out hlt
   obtain ⟨b, o, rfl, hb, c0⟩ := hl.at_ hx
   have HXX := hid hx
   clear hx
   go_wp2_with fail
   rw [HCF.out]
   refine (HF.out x).mono ?_
   rintro e w2 ⟨rfl, rfl⟩
   obtain ⟨z, hz⟩ : ∃ z : Bool, p x = z := ⟨_, rfl⟩
   rw [hz]
   have HZ := hid hz
   clear hz
   cases z
   ·go_wp2_with fail
    go_roundw
    case rel => exact ⟨j + 1, by omega, by go_num, hid (by rw [List.take_add_one, HXX.out, List.any_append, HP.out]; simp [HZ.out]), by first | rfl | trivial⟩
    case measure => simp [intOf]; omega
   ·go_wp2_with fail
    go_ret
    exact ⟨⟨_, rfl, by rw [show os.any p = true from List.any_eq_true.2 ⟨x, List.mem_of_getElem? HXX.out, HZ.out⟩]; simp⟩, rfl⟩
  ·obtain rfl : m = j := by omega
   go_wp2_with fail
   go_ret
   exact ⟨⟨_, rfl, by
    have h := HP.out
    rw [List.take_of_length_le (by rw [HL.out]; exact Nat.le_refl _)] at h
    rw [h]
    rfl⟩, rfl⟩
set_option maxHeartbeats 8000000 in
theorem scf_any (w : World) (f : FuncId) (cv : Value) (p : ByteArray → Bool) (hcf : ∀ args w, Sem.run Tryz.prog (callFunc f args) w = .ok (.enter f args) w) (hf : ∀ s, Calls Tryz.prog f #[.string s, cv] w fun e w' => e = .returned (.bool (p s)) ∧ w = w') (B : Option Addr) (m q : Nat) (os : List ByteArray) (hl : StrsIn B m os w) (hm : m ≤ 1000000) : Calls Tryz.prog 117 #[.slice B m q, .func (.func f) #[] #[cv]] w fun e w' => e = .returned (.bool (os.any p)) ∧ w = w' := by
 go_enter Tryz.func117, Tryz.ntmps117
 go_wp2_with fail
 refine (six_any w f cv p hcf hf B m q os hl hm).mono ?_
 rintro e w2 ⟨⟨r, rfl, hr⟩, rfl⟩
 have HR := hid hr
 clear hr
 go_wp2_with fail
 go_ret
 exact ⟨by rw [← HR.out] <;> rfl, rfl⟩
end Go.Proofs.YtnbbllkbefagmaaGreatDoor

namespace Go.Proofs.YtnbbllkbefagmaaGreatDoor
open Go.RowKit
set_option linter.unusedVariables false
set_option linter.unusedSimpArgs false

/-- the columns that a trigger sets -/
def setCols (t : Tg) : List ByteArray := t.acts.l.flatMap fun a => if a.kind = 5 then a.sets.l.map Se.col else []
end Go.Proofs.YtnbbllkbefagmaaGreatDoor

namespace Go.Proofs.YtnbbllkbefagmaaGreatDoor
open Go.RowKit
set_option linter.unusedVariables false
set_option linter.unusedSimpArgs false

def upI (w i : Nat) : Nat := if i < w then i else i + 1
def dnI (w i : Nat) : Nat := if w < i then i - 1 else i
def shiftE (w : Nat) (e : Nat × Nat) : Option (Nat × Nat) := if e.1 = w ∨ e.2 = w then none else some (dnI w e.1, dnI w e.2)
def eds (f : Nat → Nat → Bool) (n : Nat) : List (Nat × Nat) := (List.range n).flatMap fun i => ((List.range n).filter (f i)).map fun k => (i, k)
theorem fm_congr {α β : Type} {l : List α} {f g : α → List β} (h : ∀ x ∈ l, f x = g x) : l.flatMap f = l.flatMap g := by
 induction l with
 | nil => rfl
 | cons a l ih => rw [List.flatMap_cons, List.flatMap_cons, h a (List.mem_cons_self ..), ih fun x hx => h x (List.mem_cons_of_mem _ hx)]
theorem range_skip {α : Type} (G : Nat → List α) {n w : Nat} (hw : w < n) (h0 : G w = []) : (List.range n).flatMap G = (List.range (n - 1)).flatMap fun i => G (upI w i) := by
 obtain ⟨b, rfl⟩ : ∃ b, n = w + (1 + b) := ⟨n - w - 1, by omega⟩
 have e : w + (1 + b) - 1 = w + b := by omega
 rw [e, List.range_add, List.range_add, List.range_add, List.flatMap_append, List.flatMap_append, List.map_append, List.flatMap_append]
 congr 1
 ·exact fm_congr (fun i hi => by have := List.mem_range.1 hi; simp only [upI, this, ↓reduceIte])
 ·have h1 : (List.map (fun x => w + x) (List.range 1)).flatMap G = [] := by simp [List.range_succ, h0]
  rw [h1, List.nil_append, List.map_map, List.flatMap_map, List.flatMap_map]
  refine fm_congr (fun i hi => ?_)
  have : ¬ w + i < w := by omega
  simp only [upI, this, ↓reduceIte, Function.comp]
  congr 1; try omega
theorem eds_row (f : Nat → Bool) (i : Nat) (n : Nat) : ((List.range n).filter f).map (fun k => (i, k)) = (List.range n).flatMap fun k => if f k = true then [(i, k)] else [] := by
 induction (List.range n) with
 | nil => rfl
 | cons a l ih =>
  rw [List.flatMap_cons, ← ih, List.filter_cons]
  cases f a <;> simp
theorem dn_up (w i : Nat) : dnI w (upI w i) = i := by
 unfold dnI upI; split <;> split <;> omega
theorem up_ne (w i : Nat) : upI w i ≠ w := by
 unfold upI; split <;> omega
theorem eds_shift (f : Nat → Nat → Bool) {n w : Nat} (hw : w < n) : (eds f n).filterMap (shiftE w) = eds (fun i k => f (upI w i) (upI w k)) (n - 1) := by
 unfold eds
 rw [List.filterMap_flatMap, range_skip _ hw]
 ·refine fm_congr (fun i _ => ?_)
  rw [eds_row, eds_row, List.filterMap_flatMap, range_skip _ hw]
  ·refine fm_congr (fun k _ => ?_)
   cases hf : f (upI w i) (upI w k)
   ·simp [hf]
   ·simp [hf, shiftE, up_ne, dn_up]
  ·cases f (upI w i) w <;> simp [shiftE]
 ·rw [eds_row, List.filterMap_flatMap]
  simp only [List.flatMap_eq_nil_iff]
  intro k _
  cases f w k <;> simp [shiftE]
theorem eds_sub {f g : Nat → Nat → Bool} {n : Nat} (h : ∀ i k, f i k = true → g i k = true) : ∀ e ∈ eds f n, e ∈ eds g n := by
 intro e he
 unfold eds at he ⊢
 simp only [List.mem_flatMap, List.mem_map, List.mem_filter] at he ⊢
 obtain ⟨i, hi, k, ⟨hk, hf⟩, rfl⟩ := he
 exact ⟨i, hi, k, ⟨hk, h i k hf⟩, rfl⟩
theorem rest_at {α : Type} (l : List α) {w : Nat} (hw : w < l.length) (i : Nat) : (l.take w ++ l.drop (w + 1))[i]? = l[upI w i]? := by
 have hl : (l.take w).length = w := by simp; omega
 by_cases h : i < w
 ·rw [List.getElem?_append_left (by omega), List.getElem?_take]; simp [upI, h]
 ·rw [List.getElem?_append_right (by omega), hl, List.getElem?_drop]; simp [upI, h]; congr 1; omega

/-! ## triggers -/
def hasB (l : List ByteArray) (c : ByteArray) : Bool := l.any fun x => decide (x = c)
theorem hasB_iff {l : List ByteArray} {c : ByteArray} : hasB l c = true ↔ c ∈ l := by
 unfold hasB; rw [List.any_eq_true]
 exact ⟨fun ⟨x, hx, h⟩ => of_decide_eq_true h ▸ hx, fun h => ⟨c, h, decide_eq_true rfl⟩⟩
/-- is a BEFORE trigger of rows applicable to an update of these columns -/
def appT (tab : ByteArray) (sl : List ByteArray) (t : Tg) : Bool := t.before && decide (t.tab = tab) && decide (t.event = 2) && t.each && (decide (t.cols.l = []) || t.cols.l.any fun c => hasB sl c)
/-- may an update change this column -/
def chgT (ts : List Tg) (a : Ac) (c : ByteArray) : Bool := hasB (assignedA a) c || ts.any fun t => appT a.tab (assignedA a) t && hasB (setCols t) c
/-- can an action make a trigger fire -/
def causeA (ts : List Tg) (u : Tg) (a : Ac) : Bool :=
 (decide (a.kind = 1) || decide (a.kind = 2) || decide (a.kind = 3)) && (!u.before && decide (a.tab = u.tab) && decide (a.kind = u.event) && (decide (u.cols.l = []) || u.cols.l.any fun c => decide (a.kind = 2) && chgT ts a c))
def edgeT (ts : List Tg) (t u : Tg) : Bool := !t.before && t.acts.l.any (causeA ts u)
def edgeI (ts : List Tg) (i k : Nat) : Bool := match ts[i]?, ts[k]? with
 | some t, some u => edgeT ts t u
 | _, _ => false
def edgesT (ts : List Tg) : List (Nat × Nat) := eds (edgeI ts) ts.length

theorem chgT_mono {ts rs : List Tg} {a : Ac} {c : ByteArray} (h : ∀ t ∈ rs, t ∈ ts) (hc : chgT rs a c = true) : chgT ts a c = true := by
 unfold chgT at hc ⊢
 rw [Bool.or_eq_true, List.any_eq_true] at hc ⊢
 exact hc.imp id fun ⟨t, ht, hh⟩ => ⟨t, h t ht, hh⟩
theorem causeA_mono {ts rs : List Tg} {u : Tg} {a : Ac} (h : ∀ (c : ByteArray), chgT rs a c = true → chgT ts a c = true) (hc : causeA rs u a = true) : causeA ts u a = true := by
 simp only [causeA, Bool.and_eq_true, Bool.or_eq_true, List.any_eq_true] at hc ⊢
 exact ⟨hc.1, hc.2.1, hc.2.2.imp id fun ⟨c, hm, hk, hx⟩ => ⟨c, hm, hk, h c hx⟩⟩
theorem edgeT_mono {ts rs : List Tg} {t u : Tg} (h : ∀ (a : Ac) (c : ByteArray), chgT rs a c = true → chgT ts a c = true) (hc : edgeT rs t u = true) : edgeT ts t u = true := by
 simp only [edgeT, Bool.and_eq_true, List.any_eq_true] at hc ⊢
 obtain ⟨h1, a, ha, hx⟩ := hc
 exact ⟨h1, a, ha, causeA_mono (h a) hx⟩
def restT (ts : List Tg) (w : Nat) : List Tg := ts.take w ++ ts.drop (w + 1)
theorem rest_len (ts : List Tg) {w : Nat} (hw : w < ts.length) : (restT ts w).length = ts.length - 1 := by simp [restT]; omega
theorem rest_mem {ts : List Tg} {w : Nat} : ∀ t ∈ restT ts w, t ∈ ts := fun t ht => by
 rcases List.mem_append.1 ht with h | h
 ·exact List.mem_of_mem_take h
 ·exact List.mem_of_mem_drop h
theorem rest_of {ts : List Tg} {w : Nat} (hw : w < ts.length) : ∀ t ∈ ts, t = ts[w] ∨ t ∈ restT ts w := fun t ht => by
 have e : ts = ts.take w ++ ts[w] :: ts.drop (w + 1) := by rw [List.getElem_cons_drop, List.take_append_drop]
 rw [e] at ht
 rcases List.mem_append.1 ht with h | h
 ·exact .inr (List.mem_append.2 (.inl h))
 ·rcases List.mem_cons.1 h with h | h
  ·exact .inl h
  ·exact .inr (List.mem_append.2 (.inr h))
theorem rest_edgeI (ts : List Tg) (rs : List Tg) {w : Nat} (hw : w < ts.length) (i k : Nat) (f : Tg → Tg → Bool) :
  (match (restT ts w)[i]?, (restT ts w)[k]? with | some t, some u => f t u | _, _ => false) = (match ts[upI w i]?, ts[upI w k]? with | some t, some u => f t u | _, _ => false) := by
 unfold restT; rw [rest_at ts hw, rest_at ts hw]
/-- removing any trigger makes no new edge -/
theorem edges_sub {ts : List Tg} {w : Nat} (hw : w < ts.length) : ∀ e ∈ edgesT (restT ts w), e ∈ (edgesT ts).filterMap (shiftE w) := by
 unfold edgesT
 rw [eds_shift _ hw, rest_len ts hw]
 refine eds_sub fun i k h => ?_
 unfold edgeI at h ⊢
 rw [rest_edgeI ts ts hw i k] at h
 revert h
 cases ts[upI w i]? <;> cases ts[upI w k]? <;> intro h
 ·exact h
 ·exact h
 ·exact h
 ·exact edgeT_mono (fun a c => chgT_mono rest_mem) h
/-- removing a trigger that is none of BEFORE and each row keeps the edges between the others -/
theorem edges_keep {ts : List Tg} {w : Nat} (hw : w < ts.length) (hn : ¬ (ts[w].before = true ∧ ts[w].each = true)) : edgesT (restT ts w) = (edgesT ts).filterMap (shiftE w) := by
 unfold edgesT
 rw [eds_shift _ hw, rest_len ts hw]
 congr 1
 funext i k
 unfold edgeI
 rw [rest_edgeI ts ts hw i k]
 have hc : ∀ (a : Ac) (c : ByteArray), chgT ts a c = true → chgT (restT ts w) a c = true := by
  intro a c h
  simp only [chgT, Bool.or_eq_true, List.any_eq_true] at h ⊢
  refine h.imp id ?_
  rintro ⟨t, ht, hx⟩
  rcases rest_of hw t ht with rfl | h
  ·exfalso; apply hn
   simp only [appT, Bool.and_eq_true] at hx
   exact ⟨hx.1.1.1.1.1, hx.1.1.2⟩
  ·exact ⟨t, h, hx⟩
 have he : ∀ t u : Tg, edgeT (restT ts w) t u = edgeT ts t u := fun t u =>
  Bool.eq_iff_iff.2 ⟨edgeT_mono (fun a c => chgT_mono rest_mem), edgeT_mono hc⟩
 cases ts[upI w i]? <;> cases ts[upI w k]? <;> simp only [he]
end Go.Proofs.YtnbbllkbefagmaaGreatDoor

namespace Go.Proofs.YtnbbllkbefagmaaGreatDoor
open Go.RowKit
set_option linter.unusedVariables false
set_option linter.unusedSimpArgs false
end Go.Proofs.YtnbbllkbefagmaaGreatDoor

namespace Go.Proofs.YtnbbllkbefagmaaGreatDoor
open Go.RowKit
set_option linter.unusedVariables false
set_option linter.unusedSimpArgs false
theorem map_take_snoc {α β : Type} {f : α → β} {l : List α} {k : List α} {j : Nat} {x y : α} (h : k.map f = (l.take j).map f) (hx : l[j]? = some x) (hy : f y = f x) : (k ++ [y]).map f = (l.take (j + 1)).map f := by
 obtain ⟨hl, e⟩ := List.getElem?_eq_some_iff.1 hx
 rw [List.take_succ_eq_append_getElem hl, List.map_append, List.map_append, h, e]
 simp [hy]
end Go.Proofs.YtnbbllkbefagmaaGreatDoor

namespace Go.Proofs.YtnbbllkbefagmaaGreatDoor
open Go.RowKit
set_option linter.unusedVariables false
set_option linter.unusedSimpArgs false
def uEx (_ : Ex) : Unit := ()
def uQu (_ : Qu) : Unit := ()
theorem Tryz.elQyD : ElemT Tryz.prog 94 273 4 72 (.agg #[.bool false, .slice none 0 0, .string ⟨#[]⟩, .slice none 0 0]) := ⟨Tryz.underlying94, by kernel_rfl, rfl, by omega⟩
theorem len_of_map {α β : Type} {f : α → β} {k l : List α} (h : k.map f = l.map f) : k.length = l.length := by simpa using congrArg List.length h
/-- a copy of an expression -/
def exER (d : Nat) (M : Nat → Prop) (x : Ex) (w : World) (e : Ending) (w' : World) : Prop := ∃ y : Ex, e = .returned (.agg #[.int .i64 y.kind, .int .i64 y.op, .bool y.nt, .int .i64 y.v.k, .int .i64 y.v.i, .string y.v.s, .string y.tab, .string y.nm, .slice y.A y.n y.c, .slice y.B y.m y.d]) ∧ ExGd d y ∧ uEx y = uEx x ∧ Ro w' M (ExIn d y) ∧ Below w.heap.size w w'
def exE (d : Nat) : Prop := ∀ (M : Nat → Prop) (w : World) (hM : ∀ b, M b → b < w.heap.size) (x : Ex) (hx : Ro w M (ExIn d x)) (hg : ExGd d x), Calls Tryz.prog 263 #[.agg #[.int .i64 x.kind, .int .i64 x.op, .bool x.nt, .int .i64 x.v.k, .int .i64 x.v.i, .string x.v.s, .string x.tab, .string x.nm, .slice x.A x.n x.c, .slice x.B x.m x.d]] w fun e w' => exER d M x w e w'
/-- a copy of a query -/
def qyER (d : Nat) (M : Nat → Prop) (x : Qu) (w : World) (e : Ending) (w' : World) : Prop := ∃ y : Qu, e = .returned (.agg #[.bool y.star, .slice y.A y.n y.c, .string y.src, .slice y.B y.m y.d]) ∧ QuGd d y ∧ uQu y = uQu x ∧ Ro w' M (QuIn d y) ∧ Below w.heap.size w w'
def qyE (d : Nat) : Prop := ∀ (M : Nat → Prop) (w : World) (hM : ∀ b, M b → b < w.heap.size) (x : Qu) (hx : Ro w M (QuIn d x)) (hg : QuGd d x), Calls Tryz.prog 266 #[.agg #[.bool x.star, .slice x.A x.n x.c, .string x.src, .slice x.B x.m x.d]] w fun e w' => qyER d M x w e w'
def exLR (d : Nat) (M : Nat → Prop) (n : Nat) (l : List Ex) (w : World) (e : Ending) (w' : World) : Prop := ∃ (B : Option Addr) (q : Nat) (k : List Ex), e = .returned (.slice B n q) ∧ (n ≤ q ∧ q ≤ 9223372036854775807) ∧ k.map uEx = l.map uEx ∧ (∀ x ∈ k, ExGd d x) ∧ Ro w' M (fun w => SlR 10 B n (k.flatMap Ex.cells) w ∧ ∀ x ∈ k, ExIn d x w) ∧ Below w.heap.size w w'
def exL (d : Nat) : Prop := ∀ (M : Nat → Prop) (w : World) (hM : ∀ b, M b → b < w.heap.size) (A : Option Addr) (n c : Nat) (l : List Ex) (hD : Ro w M (fun w => SlR 10 A n (l.flatMap Ex.cells) w ∧ ∀ x ∈ l, ExIn d x w)) (hn : n ≤ 1000) (hg : ∀ x ∈ l, ExGd d x), Calls Tryz.prog 262 #[.slice A n c, .func (.func 263) #[] #[]] w fun e w' => exLR d M n l w e w'
set_option maxHeartbeats 8000000 in
set_option maxRecDepth 100000 in
theorem exL_of {d : Nat} (HE : exE d) : exL d := by
 intro M w hM A n c l hD hn hg
 have HL := hid (show l.length = n from by
  have h := (show Rd _ _ 10 A n (l.flatMap Ex.cells) from hD.now.1).1
  rw [flat_len Ex.cells 10 (fun _ => rfl)] at h
  omega)
 have HG := hid hg
 have K0 := (((Hold.start M w hM).add (hD.less (by simp [Mut]))).add (S := fun w => ∀ x ∈ ([] : List Ex), ExIn d x w) (fun w2 _ _ x hx => (nomatch hx))).nil 126 10
 clear hD hg
 go_enter Tryz.func262, Tryz.ntmps262
 go_wp2_with fail
 go_loopw [5, 10] (fun ov iv wr => ∃ (j cap : Nat) (O : Option Addr) (outs : List Ex), j ≤ n ∧ iv = .int .i64 j ∧ ov = .slice O j cap ∧ Hid (outs.map uEx = (l.take j).map uEx ∧ ∀ x ∈ outs, ExGd d x) ∧ Hold M none w wr [.own 126 10 (.slice O j cap) j (outs.flatMap Ex.cells), .ro (fun w => ∀ x ∈ outs, ExIn d x w), .ro (fun w => SlR 10 A n (l.flatMap Ex.cells) w ∧ ∀ x ∈ l, ExIn d x w)]) (fun _ iv _ => n - (intOf iv).toNat)
 case atStart => exact ⟨0, 0, none, [], by omega, rfl, rfl, hid ⟨rfl, fun x hx => (nomatch hx)⟩, K0⟩
 case round =>
  clear K0
  obtain ⟨j, cap, O, outs, hj, rfl, rfl, HO, H⟩ := hrel
  by_cases hlt : j < n
  ·obtain ⟨x, hx⟩ := get_of HL.out hlt
   obtain ⟨b, o, rfl, hb, hc⟩ := (show ∃ b o, A = some ⟨b, o, none⟩ ∧ b < wr.heap.size ∧ ∀ q u, q < 10 → (Ex.cells x)[q]? = some u → World.cell? wr ⟨b, o + j * 10 + q, none⟩ = some u from by
    obtain ⟨b, o, e, hb, hcl⟩ := (show Rd _ _ 10 A n (l.flatMap Ex.cells) from (H.ro 2 rfl).now.1).2 (by omega)
    refine ⟨b, o, e, hb, fun q u hq hu => ?_⟩
    rw [Nat.add_assoc]
    exact hcl _ _ ((flat_get Ex.cells 10 (fun _ => rfl) l j q _ hq hx).trans hu))
   have x0 := hc 0 _ (by omega) rfl
   have x1 := hc 1 _ (by omega) rfl
   have x2 := hc 2 _ (by omega) rfl
   have x3 := hc 3 _ (by omega) rfl
   have x4 := hc 4 _ (by omega) rfl
   have x5 := hc 5 _ (by omega) rfl
   have x6 := hc 6 _ (by omega) rfl
   have x7 := hc 7 _ (by omega) rfl
   have x8 := hc 8 _ (by omega) rfl
   have x9 := hc 9 _ (by omega) rfl
   simp only [Nat.add_zero, Nat.mul_one, SlP.v] at x0 x1 x2 x3 x4 x5 x6 x7 x8 x9
   have hm := List.mem_of_getElem? hx
   have HX := hid hx
   clear hc hx
   have K1 := H.alloc_cst #[.int .i64 x.kind, .int .i64 x.op, .bool x.nt, .int .i64 x.v.k, .int .i64 x.v.i, .string x.v.s, .string x.tab, .string x.nm, .slice x.A x.n x.c, .slice x.B x.m x.d] 126
   have F1 := K1.facts
   simp only [factsL, cellsF, Nat.reduceAdd, zf, zl] at F1
   clear H
   go_wp2_with fail
   clear F1 x0 x1 x2 x3 x4 x5 x6 x7 x8 x9
   refine (HE (Mut M _) _ K1.mutLt x (((K1.ro 3 rfl).imp fun w2 h2 => h2.2 x hm)) (HG.out x hm)).mono ?_
   rintro e w2 ⟨y, rfl, hy, hyg, ry, b2⟩
   have HY := hid (And.intro hy hyg)
   have K2 := (K1.call b2).add ry
   clear K1 b2 ry hy hyg
   skip
   go_wp2_with (at_builtin; go_must (refine wpList_appH K2 2 rfl Tryz.elExG #[.int .i64 y.kind, .int .i64 y.op, .bool y.nt, .int .i64 y.v.k, .int .i64 y.v.i, .string y.v.s, .string y.tab, .string y.nm, .slice y.A y.n y.c, .slice y.B y.m y.d] rfl (.tmp 14) (.tmp 18) rfl rfl _ (by first | rfl | simp) rfl rfl (by intro u hu; simp at hu; rcases hu with rfl | rfl | rfl | rfl | rfl | rfl | rfl | rfl | rfl | rfl <;> rfl) (by omega) (by omega) ?_); intro gA capA wA hcA hmA KA; simp only [zl] at KA)
   rw [show outs.flatMap Ex.cells ++ (#[.int .i64 y.kind, .int .i64 y.op, .bool y.nt, .int .i64 y.v.k, .int .i64 y.v.i, .string y.v.s, .string y.tab, .string y.nm, .slice y.A y.n y.c, .slice y.B y.m y.d] : Array Value).toList = (outs ++ [y]).flatMap Ex.cells from by simp [Ex.cells]] at KA
   have hR : Ro _ _ (fun w => ∀ x ∈ outs ++ [y], ExIn d x w) := ((KA.ro 3 rfl).and (KA.ro 0 rfl)).imp fun w2 h2 z hz => by
    rcases List.mem_append.1 hz with hz | hz
    ·exact h2.1 z hz
    ·simp only [List.mem_cons, List.not_mem_nil, or_false] at hz
     subst hz
     exact h2.2
   have KB := (KA.swapRo 3 rfl hR).pick [2, 3, 4] (by decide) rfl
   simp only [List.set_cons_zero, List.set_cons_succ, List.filterMap_cons, List.filterMap_nil, List.getElem?_cons_zero, List.getElem?_cons_succ] at KB
   go_roundw
   case rel => exact ⟨j + 1, capA, _, outs ++ [y], by omega, by go_num, by first | rfl | trivial, hid ⟨map_take_snoc HO.out.1 HX.out (by first | exact HY.out.2 | rfl), fun z hz => by
    rcases List.mem_append.1 hz with hz | hz
    ·exact HO.out.2 z hz
    ·simp only [List.mem_cons, List.not_mem_nil, or_false] at hz
     subst hz
     exact HY.out.1⟩, KB⟩
   case measure => simp [intOf]; omega
  ·obtain rfl : n = j := by omega
   have hcap := own_caps (H.get 0 rfl)
   have KZ := H.sealRow 0 rfl
   simp only [List.set_cons_zero] at KZ
   have HRO := hid (((KZ.ro 0 rfl).and (KZ.ro 1 rfl)).less zm)
   have HB := hid KZ.below
   clear KZ H
   go_wp2_with fail
   go_ret
   exact ⟨O, cap, outs, rfl, ⟨hcap.1, hcap.2.1⟩, by rw [HO.out.1, List.take_of_length_le (by rw [HL.out]; exact Nat.le_refl _)], HO.out.2, HRO.out.imp fun w2 h2 => ⟨h2.1, h2.2⟩, HB.out⟩
def qyLR (d : Nat) (M : Nat → Prop) (n : Nat) (l : List Qu) (w : World) (e : Ending) (w' : World) : Prop := ∃ (B : Option Addr) (q : Nat) (k : List Qu), e = .returned (.slice B n q) ∧ (n ≤ q ∧ q ≤ 9223372036854775807) ∧ k.map uQu = l.map uQu ∧ (∀ x ∈ k, QuGd d x) ∧ Ro w' M (fun w => SlR 4 B n (k.flatMap Qu.cells) w ∧ ∀ x ∈ k, QuIn d x w) ∧ Below w.heap.size w w'
def qyL (d : Nat) : Prop := ∀ (M : Nat → Prop) (w : World) (hM : ∀ b, M b → b < w.heap.size) (A : Option Addr) (n c : Nat) (l : List Qu) (hD : Ro w M (fun w => SlR 4 A n (l.flatMap Qu.cells) w ∧ ∀ x ∈ l, QuIn d x w)) (hn : n ≤ 1000) (hg : ∀ x ∈ l, QuGd d x), Calls Tryz.prog 265 #[.slice A n c, .func (.func 266) #[] #[]] w fun e w' => qyLR d M n l w e w'
set_option maxHeartbeats 8000000 in
set_option maxRecDepth 100000 in
theorem qyL_of {d : Nat} (HE : qyE d) : qyL d := by
 intro M w hM A n c l hD hn hg
 have HL := hid (show l.length = n from by
  have h := (show Rd _ _ 4 A n (l.flatMap Qu.cells) from hD.now.1).1
  rw [flat_len Qu.cells 4 (fun _ => rfl)] at h
  omega)
 have HG := hid hg
 have K0 := (((Hold.start M w hM).add (hD.less (by simp [Mut]))).add (S := fun w => ∀ x ∈ ([] : List Qu), QuIn d x w) (fun w2 _ _ x hx => (nomatch hx))).nil 273 4
 clear hD hg
 go_enter Tryz.func265, Tryz.ntmps265
 go_wp2_with fail
 go_loopw [5, 10] (fun ov iv wr => ∃ (j cap : Nat) (O : Option Addr) (outs : List Qu), j ≤ n ∧ iv = .int .i64 j ∧ ov = .slice O j cap ∧ Hid (outs.map uQu = (l.take j).map uQu ∧ ∀ x ∈ outs, QuGd d x) ∧ Hold M none w wr [.own 273 4 (.slice O j cap) j (outs.flatMap Qu.cells), .ro (fun w => ∀ x ∈ outs, QuIn d x w), .ro (fun w => SlR 4 A n (l.flatMap Qu.cells) w ∧ ∀ x ∈ l, QuIn d x w)]) (fun _ iv _ => n - (intOf iv).toNat)
 case atStart => exact ⟨0, 0, none, [], by omega, rfl, rfl, hid ⟨rfl, fun x hx => (nomatch hx)⟩, K0⟩
 case round =>
  clear K0
  obtain ⟨j, cap, O, outs, hj, rfl, rfl, HO, H⟩ := hrel
  by_cases hlt : j < n
  ·obtain ⟨x, hx⟩ := get_of HL.out hlt
   obtain ⟨b, o, rfl, hb, hc⟩ := (show ∃ b o, A = some ⟨b, o, none⟩ ∧ b < wr.heap.size ∧ ∀ q u, q < 4 → (Qu.cells x)[q]? = some u → World.cell? wr ⟨b, o + j * 4 + q, none⟩ = some u from by
    obtain ⟨b, o, e, hb, hcl⟩ := (show Rd _ _ 4 A n (l.flatMap Qu.cells) from (H.ro 2 rfl).now.1).2 (by omega)
    refine ⟨b, o, e, hb, fun q u hq hu => ?_⟩
    rw [Nat.add_assoc]
    exact hcl _ _ ((flat_get Qu.cells 4 (fun _ => rfl) l j q _ hq hx).trans hu))
   have x0 := hc 0 _ (by omega) rfl
   have x1 := hc 1 _ (by omega) rfl
   have x2 := hc 2 _ (by omega) rfl
   have x3 := hc 3 _ (by omega) rfl
   simp only [Nat.add_zero, Nat.mul_one, SlP.v] at x0 x1 x2 x3
   have hm := List.mem_of_getElem? hx
   have HX := hid hx
   clear hc hx
   have K1 := H.alloc_cst #[.bool x.star, .slice x.A x.n x.c, .string x.src, .slice x.B x.m x.d] 273
   have F1 := K1.facts
   simp only [factsL, cellsF, Nat.reduceAdd, zf, zl] at F1
   clear H
   go_wp2_with fail
   clear F1 x0 x1 x2 x3
   refine (HE (Mut M _) _ K1.mutLt x (((K1.ro 3 rfl).imp fun w2 h2 => h2.2 x hm)) (HG.out x hm)).mono ?_
   rintro e w2 ⟨y, rfl, hy, hyg, ry, b2⟩
   have HY := hid (And.intro hy hyg)
   have K2 := (K1.call b2).add ry
   clear K1 b2 ry hy hyg
   skip
   go_wp2_with (at_builtin; go_must (refine wpList_appH K2 2 rfl Tryz.elQyD #[.bool y.star, .slice y.A y.n y.c, .string y.src, .slice y.B y.m y.d] rfl (.tmp 14) (.tmp 18) rfl rfl _ (by first | rfl | simp) rfl rfl (by intro u hu; simp at hu; rcases hu with rfl | rfl | rfl | rfl <;> rfl) (by omega) (by omega) ?_); intro gA capA wA hcA hmA KA; simp only [zl] at KA)
   rw [show outs.flatMap Qu.cells ++ (#[.bool y.star, .slice y.A y.n y.c, .string y.src, .slice y.B y.m y.d] : Array Value).toList = (outs ++ [y]).flatMap Qu.cells from by simp [Qu.cells]] at KA
   have hR : Ro _ _ (fun w => ∀ x ∈ outs ++ [y], QuIn d x w) := ((KA.ro 3 rfl).and (KA.ro 0 rfl)).imp fun w2 h2 z hz => by
    rcases List.mem_append.1 hz with hz | hz
    ·exact h2.1 z hz
    ·simp only [List.mem_cons, List.not_mem_nil, or_false] at hz
     subst hz
     exact h2.2
   have KB := (KA.swapRo 3 rfl hR).pick [2, 3, 4] (by decide) rfl
   simp only [List.set_cons_zero, List.set_cons_succ, List.filterMap_cons, List.filterMap_nil, List.getElem?_cons_zero, List.getElem?_cons_succ] at KB
   go_roundw
   case rel => exact ⟨j + 1, capA, _, outs ++ [y], by omega, by go_num, by first | rfl | trivial, hid ⟨map_take_snoc HO.out.1 HX.out (by first | exact HY.out.2 | rfl), fun z hz => by
    rcases List.mem_append.1 hz with hz | hz
    ·exact HO.out.2 z hz
    ·simp only [List.mem_cons, List.not_mem_nil, or_false] at hz
     subst hz
     exact HY.out.1⟩, KB⟩
   case measure => simp [intOf]; omega
  ·obtain rfl : n = j := by omega
   have hcap := own_caps (H.get 0 rfl)
   have KZ := H.sealRow 0 rfl
   simp only [List.set_cons_zero] at KZ
   have HRO := hid (((KZ.ro 0 rfl).and (KZ.ro 1 rfl)).less zm)
   have HB := hid KZ.below
   clear KZ H
   go_wp2_with fail
   go_ret
   exact ⟨O, cap, outs, rfl, ⟨hcap.1, hcap.2.1⟩, by rw [HO.out.1, List.take_of_length_le (by rw [HL.out]; exact Nat.le_refl _)], HO.out.2, HRO.out.imp fun w2 h2 => ⟨h2.1, h2.2⟩, HB.out⟩
/-- a copy of a list -/
def ExlC (M : Nat → Prop) (d : Nat) (l : List Ex) (n : Nat) (u : Value) (w : World) : Prop := ∃ (B : Option Addr) (q : Nat) (k : List Ex), u = .slice B n q ∧ (n ≤ q ∧ q ≤ 9223372036854775807) ∧ k.map uEx = l.map uEx ∧ (∀ x ∈ k, ExGd d x) ∧ Ro w M (fun w => SlR 10 B n (k.flatMap Ex.cells) w ∧ ∀ x ∈ k, ExIn d x w)
theorem ExlC.mono {M : Nat → Prop} {d : Nat} {l : List Ex} {n : Nat} (u : Value) (w w' : World) (hr : RM M w w') (h : ExlC M d l n u w) : ExlC M d l n u w' := by
 obtain ⟨B, q, k, h1, h2, h3, h4, h5⟩ := h
 exact ⟨B, q, k, h1, h2, h3, h4, hr.ro h5⟩
/-- a copy of a list -/
def QulC (M : Nat → Prop) (d : Nat) (l : List Qu) (n : Nat) (u : Value) (w : World) : Prop := ∃ (B : Option Addr) (q : Nat) (k : List Qu), u = .slice B n q ∧ (n ≤ q ∧ q ≤ 9223372036854775807) ∧ k.map uQu = l.map uQu ∧ (∀ x ∈ k, QuGd d x) ∧ Ro w M (fun w => SlR 4 B n (k.flatMap Qu.cells) w ∧ ∀ x ∈ k, QuIn d x w)
theorem QulC.mono {M : Nat → Prop} {d : Nat} {l : List Qu} {n : Nat} (u : Value) (w w' : World) (hr : RM M w w') (h : QulC M d l n u w) : QulC M d l n u w' := by
 obtain ⟨B, q, k, h1, h2, h3, h4, h5⟩ := h
 exact ⟨B, q, k, h1, h2, h3, h4, hr.ro h5⟩
set_option maxHeartbeats 8000000 in
set_option maxRecDepth 100000 in
theorem exE_of {d : Nat} (HEL : exL d) (HQL : qyL d) : exE (d + 1) := by
 intro M w hM x hx hg
 obtain ⟨kind, op, nt, v, tab, nm, A, n, c, args, B, m, dd, sub⟩ := x
 have HG := hid (show ExGd (d + 1) ⟨kind, op, nt, v, tab, nm, A, n, c, args, B, m, dd, sub⟩ from hg)
 have hn3 : n ≤ 3 := by
  have h := (show Rd _ _ 10 A n (exCells args) from hx.now.1).1
  rw [exCells_len] at h
  have h2 : args.length ≤ 3 := hg.2.1.2.1
  omega
 have hm1 : m ≤ 1 := by
  have h := (show Rd _ _ 4 B m (quCells sub) from hx.now.2.2.1).1
  rw [quCells_len] at h
  have h2 : sub.length ≤ 1 := hg.2.1.2.2
  omega
 clear hg
 have K0 := (((Hold.start M w hM).add (hx.less (by simp [Mut]))).alloc #[.int .i64 kind, .int .i64 op, .bool nt, .int .i64 v.k, .int .i64 v.i, .string v.s, .string tab, .string nm, .slice A n c, .slice B m dd] 126).alloc #[.int .i64 0, .int .i64 0, .bool false, .int .i64 0, .int .i64 0, .string ⟨#[]⟩, .string ⟨#[]⟩, .string ⟨#[]⟩, .slice none 0 0, .slice none 0 0] 126
 rw [World.size_alloc] at K0
 obtain ⟨g1, hg1⟩ : ∃ g, g = w.heap.size := ⟨_, rfl⟩
 rw [← hg1] at K0
 obtain ⟨g2, hg2⟩ : ∃ g, g = g1 + 1 := ⟨_, rfl⟩
 rw [← hg2] at K0
 have KB := K0.pick (L' := [.blk g1 126 #[.int .i64 kind, .int .i64 op, .bool nt, .int .i64 v.k, .int .i64 v.i, .string v.s, .string tab, .string nm, .slice A n c, .slice B m dd], .blk g2 126 #[.int .i64 0, .int .i64 0, .bool false, .int .i64 0, .int .i64 0, .string ⟨#[]⟩, .string ⟨#[]⟩, .string ⟨#[]⟩, .slice none 0 0, .slice none 0 0], .ro (ExIn (d + 1) ⟨kind, op, nt, v, tab, nm, A, n, c, args, B, m, dd, sub⟩)]) [1, 0, 2] (by decide) rfl
 clear hx K0
 go_enter Tryz.func263, Tryz.ntmps263
 go_upto_region 1 with fail
 rw [← hg1]
 try rw [← hg2]
 have HGX := hid (And.intro hg1 hg2)
 clear hg1 hg2
 generalize World.alloc _ _ = w1 at KB ⊢
 obtain ⟨KM, hKM, K6⟩ := KB.name
 have H1 : ∀ wv : World, Hold M none w wv KM → Blk wv g1 126 #[.int .i64 kind, .int .i64 op, .bool nt, .int .i64 v.k, .int .i64 v.i, .string v.s, .string tab, .string nm, .slice A n c, .slice B m dd] := fun wv h => by rw [hKM] at h; exact h.blk_ 0 rfl
 have H2 : ∀ wv : World, Hold M none w wv KM → Ro wv (Mut M KM) (fun w => SlR 10 A n (args.flatMap Ex.cells) w ∧ ∀ x ∈ args, ExIn d x w) := fun wv h => by rw [hKM] at h ⊢; exact (h.ro 2 rfl).imp fun w2 h2 => ⟨h2.1, h2.2.1⟩
 have H3 : ∀ wv : World, Hold M none w wv KM → Ro wv (Mut M KM) (fun w => SlR 4 B m (sub.flatMap Qu.cells) w ∧ ∀ x ∈ sub, QuIn d x w) := fun wv h => by rw [hKM] at h ⊢; exact (h.ro 2 rfl).imp fun w2 h2 => ⟨h2.2.2.1, h2.2.2.2⟩
 have HH1 := hid H1
 have HH2 := hid H2
 have HH3 := hid H3
 have HKM := hid hKM
 clear hKM H1 H2 H3 KB
 refine wp_region_any (by kernel_rfl) ?_
 refine wpAny_hold 7 12 (KM) (spL [(5, ExlC (Mut M KM) d args n), (8, QulC (Mut M KM) d sub m)]) (by kernel_rfl) (by kernel_rfl) (by kernel_rfl) rfl ?_ (K6.drew) ?_
 ·exact stays_cons ExlC.mono (stays_cons QulC.mono (stays_nil _))
 simp only [zd, Act.put, List.getElem_toArray, List.getElem_cons_zero, List.getElem_cons_succ, zl]
 refine dw_val rfl rfl rfl ?_; apply Exists.intro; refine ⟨fun wv HC => ?_, ?_⟩
 · go_simp <;> rfl
 simp only [Act.put, zl]
 refine dw_val rfl rfl rfl ?_; apply Exists.intro; refine ⟨fun wv HC => ?_, ?_⟩
 ·have q0 := (HH1.out _ HC).cell 8; go_simp <;> rfl
 simp only [Act.put, zl]
 refine dw_callR 5 (ExlC (Mut M KM) d args n) (f := 262) (args := #[.slice A n c, .func (.func 263) #[] #[]]) rfl rfl rfl rfl (fun wv => ?_) (fun wv HC hrm hD => ?_) ?_
 ·go_simp <;> rfl
 ·refine (HEL (Mut M KM) wv HC.mutLt A n c args (HH2.out _ HC) (by omega) HG.out.2.2.1).mono ?_
  rintro e w5 ⟨B0, q0, k0, rfl, hq, hk, hg, rk, b5⟩
  exact ⟨_, rfl, ⟨B0, q0, k0, rfl, hq, hk, hg, rk⟩, HC.call b5, RM.below b5⟩
 rintro u wx HCx ⟨B0, q0, k0', rfl, -, -, -, -⟩
 clear HCx
 simp only [Act.put, zl]
 refine dw_val rfl rfl rfl ?_; apply Exists.intro; refine ⟨fun wv HC => ?_, ?_⟩
 · go_simp <;> rfl
 simp only [Act.put, zl]
 refine dw_val rfl rfl rfl ?_; apply Exists.intro; refine ⟨fun wv HC => ?_, ?_⟩
 ·have q0 := (HH1.out _ HC).cell 9; go_simp <;> rfl
 simp only [Act.put, zl]
 refine dw_callR 8 (QulC (Mut M KM) d sub m) (f := 265) (args := #[.slice B m dd, .func (.func 266) #[] #[]]) rfl rfl rfl rfl (fun wv => ?_) (fun wv HC hrm hD => ?_) ?_
 ·go_simp <;> rfl
 ·refine (HQL (Mut M KM) wv HC.mutLt B m dd sub (HH3.out _ HC) (by omega) (fun q hq => HG.out.2.2.2 q hq)).mono ?_
  rintro e w5 ⟨B1, q1, k1, rfl, hq, hk, hg, rk, b5⟩
  exact ⟨_, rfl, ⟨B1, q1, k1, rfl, hq, hk, hg, rk⟩, HC.call b5, RM.below b5⟩
 rintro u wx HCx ⟨B1, q1, k1', rfl, -, -, -, -⟩
 clear HCx
 simp only [Act.put, zl]
 refine dw_val rfl rfl rfl ?_; apply Exists.intro; refine ⟨fun wv HC => ?_, ?_⟩
 · go_simp <;> rfl
 simp only [Act.put, zl]
 refine rel_nil ?_
 rintro wx3 HX
 rintro _hrm HGW
 have c0 : ExlC (Mut M KM) d args n (.slice B0 n q0) wx3 := (GW_on (d := 5) rfl).1 (HGW 2 _ rfl (by omega))
 obtain ⟨B0', q0', k0, e0, hq0, hk0, hg0, rk0⟩ := c0
 obtain ⟨rfl, rfl⟩ : B0 = B0' ∧ q0 = q0' := by injection e0 with e1 e2 e3; exact ⟨e1, e3⟩
 clear e0
 have c1 : QulC (Mut M KM) d sub m (.slice B1 m q1) wx3 := (GW_on (d := 8) rfl).1 (HGW 5 _ rfl (by omega))
 obtain ⟨B1', q1', k1, e1, hq1, hk1, hg1, rk1⟩ := c1
 obtain ⟨rfl, rfl⟩ : B1 = B1' ∧ q1 = q1' := by injection e1 with e1 e2 e3; exact ⟨e1, e3⟩
 clear e1
 clear HGW _hrm
 have K7 := ((HX.add rk0).add (rk1.less (by simp [mut_cons, Hp.foot])))
 rw [HKM.out] at K7
 have F7 := K7.facts
 simp only [factsL, cellsF, Nat.reduceAdd, zf, zl] at F7
 have K8 := K7.store 2 rfl 8 (.slice B0 n q0)
 simp only [zl] at K8
 have F8 := K8.facts
 simp only [factsL, cellsF, Nat.reduceAdd, zf, zl] at F8
 have K9 := K8.store 2 rfl 9 (.slice B1 m q1)
 simp only [zl] at K9
 have F9 := K9.facts
 simp only [factsL, cellsF, Nat.reduceAdd, zf, zl] at F9
 have K10 := ((((((((((K9.store 3 rfl 0 (.int .i64 kind)).store 3 rfl 1 (.int .i64 op)).store 3 rfl 2 (.bool nt)).store 3 rfl 3 (.int .i64 v.k)).store 3 rfl 4 (.int .i64 v.i)).store 3 rfl 5 (.string v.s)).store 3 rfl 6 (.string tab)).store 3 rfl 7 (.string nm)).store 3 rfl 8 (.slice B0 n q0)).store 3 rfl 9 (.slice B1 m q1))
 simp only [zl] at K10
 have F10 := K10.facts
 simp only [factsL, cellsF, Nat.reduceAdd, zf, zl] at F10
 have HR0 := hid ((K10.ro 1 rfl).less zm)
 have HR1 := hid ((K10.ro 0 rfl).less zm)
 have HB := hid K10.below
 clear K7 K8 K9 K10 HX rk0 rk1 HH1 HH2 HH3 HKM K6
 go_wp2_with fail
 refine bodyPost_ret (v := .agg #[.int .i64 kind, .int .i64 op, .bool nt, .int .i64 v.k, .int .i64 v.i, .string v.s, .string tab, .string nm, .slice B0 n q0, .slice B1 m q1]) ?_ rfl ?_
 ·clear HR0 HR1 HB
  simp [results, Tryz.results263, go_sem, F10]
 ·exact ⟨⟨kind, op, nt, v, tab, nm, B0, n, q0, k0, B1, m, q1, k1⟩, rfl, ⟨⟨HG.out.1.1, HG.out.1.2.1, HG.out.1.2.2.1, HG.out.1.2.2.2.1, hq0.1, hq0.2, hq1.1, hq1.2⟩, ⟨HG.out.2.1.1, by have := len_of_map hk0; have := HG.out.2.1.2.1; simp only at *; omega, by have := len_of_map hk1; have := HG.out.2.1.2.2; simp only at *; omega⟩, hg0, hg1⟩, rfl, (HR0.out.and HR1.out).imp fun w2 h2 => ⟨h2.1.1, h2.1.2, h2.2.1, h2.2.2⟩, HB.out⟩
def exsE (d : Nat) : Prop := ∀ (M : Nat → Prop) (w : World) (hM : ∀ b, M b → b < w.heap.size) (A : Option Addr) (n c : Nat) (l : List Ex) (hD : Ro w M (fun w => SlR 10 A n (l.flatMap Ex.cells) w ∧ ∀ x ∈ l, ExIn d x w)) (hn : n ≤ 1000) (hg : ∀ x ∈ l, ExGd d x), Calls Tryz.prog 238 #[.slice A n c] w fun e w' => exLR d M n l w e w'
set_option maxHeartbeats 8000000 in
theorem exsE_of {d : Nat} (HEL : exL d) : exsE d := by
 intro M w hM A n c l hD hn hg
 have HG := hid hg
 have K0 := ((Hold.start M w hM).add (hD.less (by simp [Mut])))
 clear hD hg
 go_enter Tryz.func238, Tryz.ntmps238
 go_wp2_with fail
 refine (HEL (Mut M _) _ K0.mutLt A n c l (K0.ro 0 rfl) hn HG.out).mono ?_
 rintro e w2 ⟨C, q, k, rfl, hk, hc, hl, rC, b2⟩
 have HB := hid (K0.call b2).below
 have HC := hid (rC.less zm)
 clear K0 rC b2
 go_wp2_with fail
 go_ret
 exact ⟨C, q, k, rfl, hk, hc, hl, HC.out, HB.out⟩
set_option maxHeartbeats 8000000 in
set_option maxRecDepth 100000 in
theorem qyE_of {d : Nat} (HXS : exsE d) : qyE d := by
 intro M w hM x hx hg
 obtain ⟨star, A, n, c, items, src, B, m, dd, wh⟩ := x
 have HG := hid (show QuGd d ⟨star, A, n, c, items, src, B, m, dd, wh⟩ from hg)
 have hn3 : n ≤ 8 := by
  have h := (show Rd _ _ 10 A n (exCells items) from hx.now.1.1).1
  rw [exCells_len] at h
  have h2 : items.length ≤ 8 := hg.2.1.1
  omega
 have hm1 : m ≤ 1 := by
  have h := (show Rd _ _ 10 B m (exCells wh) from hx.now.2.1).1
  rw [exCells_len] at h
  have h2 : wh.length ≤ 1 := hg.2.1.2
  omega
 clear hg
 have K0 := (((Hold.start M w hM).add (hx.less (by simp [Mut]))).alloc #[.bool star, .slice A n c, .string src, .slice B m dd] 273).alloc #[.bool false, .slice none 0 0, .string ⟨#[]⟩, .slice none 0 0] 273
 rw [World.size_alloc] at K0
 obtain ⟨g1, hg1⟩ : ∃ g, g = w.heap.size := ⟨_, rfl⟩
 rw [← hg1] at K0
 obtain ⟨g2, hg2⟩ : ∃ g, g = g1 + 1 := ⟨_, rfl⟩
 rw [← hg2] at K0
 have KB := K0.pick (L' := [.blk g1 273 #[.bool star, .slice A n c, .string src, .slice B m dd], .blk g2 273 #[.bool false, .slice none 0 0, .string ⟨#[]⟩, .slice none 0 0], .ro (QuIn d ⟨star, A, n, c, items, src, B, m, dd, wh⟩)]) [1, 0, 2] (by decide) rfl
 clear hx K0
 go_enter Tryz.func266, Tryz.ntmps266
 go_upto_region 1 with fail
 rw [← hg1]
 try rw [← hg2]
 have HGX := hid (And.intro hg1 hg2)
 clear hg1 hg2
 generalize World.alloc _ _ = w1 at KB ⊢
 obtain ⟨KM, hKM, K6⟩ := KB.name
 have H1 : ∀ wv : World, Hold M none w wv KM → Blk wv g1 273 #[.bool star, .slice A n c, .string src, .slice B m dd] := fun wv h => by rw [hKM] at h; exact h.blk_ 0 rfl
 have H2 : ∀ wv : World, Hold M none w wv KM → Ro wv (Mut M KM) (fun w => SlR 10 A n (items.flatMap Ex.cells) w ∧ ∀ x ∈ items, ExIn d x w) := fun wv h => by rw [hKM] at h ⊢; exact (h.ro 2 rfl).imp fun w2 h2 => ⟨h2.1.1, h2.1.2⟩
 have H3 : ∀ wv : World, Hold M none w wv KM → Ro wv (Mut M KM) (fun w => SlR 10 B m (wh.flatMap Ex.cells) w ∧ ∀ x ∈ wh, ExIn d x w) := fun wv h => by rw [hKM] at h ⊢; exact (h.ro 2 rfl).imp fun w2 h2 => ⟨h2.2.1, h2.2.2⟩
 have HH1 := hid H1
 have HH2 := hid H2
 have HH3 := hid H3
 have HKM := hid hKM
 clear hKM H1 H2 H3 KB
 refine wp_region_any (by kernel_rfl) ?_
 refine wpAny_hold 7 12 (KM) (spL [(5, ExlC (Mut M KM) d items n), (8, ExlC (Mut M KM) d wh m)]) (by kernel_rfl) (by kernel_rfl) (by kernel_rfl) rfl ?_ (K6.drew) ?_
 ·exact stays_cons ExlC.mono (stays_cons ExlC.mono (stays_nil _))
 simp only [zd, Act.put, List.getElem_toArray, List.getElem_cons_zero, List.getElem_cons_succ, zl]
 refine dw_val rfl rfl rfl ?_; apply Exists.intro; refine ⟨fun wv HC => ?_, ?_⟩
 · go_simp <;> rfl
 simp only [Act.put, zl]
 refine dw_val rfl rfl rfl ?_; apply Exists.intro; refine ⟨fun wv HC => ?_, ?_⟩
 ·have q0 := (HH1.out _ HC).cell 1; go_simp <;> rfl
 simp only [Act.put, zl]
 refine dw_callR 5 (ExlC (Mut M KM) d items n) (f := 238) (args := #[.slice A n c]) rfl rfl rfl rfl (fun wv => ?_) (fun wv HC hrm hD => ?_) ?_
 ·go_simp <;> rfl
 ·refine (HXS (Mut M KM) wv HC.mutLt A n c items (HH2.out _ HC) (by omega) HG.out.2.2.1).mono ?_
  rintro e w5 ⟨B0, q0, k0, rfl, hq, hk, hg, rk, b5⟩
  exact ⟨_, rfl, ⟨B0, q0, k0, rfl, hq, hk, hg, rk⟩, HC.call b5, RM.below b5⟩
 rintro u wx HCx ⟨B0, q0, k0', rfl, -, -, -, -⟩
 clear HCx
 simp only [Act.put, zl]
 refine dw_val rfl rfl rfl ?_; apply Exists.intro; refine ⟨fun wv HC => ?_, ?_⟩
 · go_simp <;> rfl
 simp only [Act.put, zl]
 refine dw_val rfl rfl rfl ?_; apply Exists.intro; refine ⟨fun wv HC => ?_, ?_⟩
 ·have q0 := (HH1.out _ HC).cell 3; go_simp <;> rfl
 simp only [Act.put, zl]
 refine dw_callR 8 (ExlC (Mut M KM) d wh m) (f := 238) (args := #[.slice B m dd]) rfl rfl rfl rfl (fun wv => ?_) (fun wv HC hrm hD => ?_) ?_
 ·go_simp <;> rfl
 ·refine (HXS (Mut M KM) wv HC.mutLt B m dd wh (HH3.out _ HC) (by omega) HG.out.2.2.2).mono ?_
  rintro e w5 ⟨B1, q1, k1, rfl, hq, hk, hg, rk, b5⟩
  exact ⟨_, rfl, ⟨B1, q1, k1, rfl, hq, hk, hg, rk⟩, HC.call b5, RM.below b5⟩
 rintro u wx HCx ⟨B1, q1, k1', rfl, -, -, -, -⟩
 clear HCx
 simp only [Act.put, zl]
 refine dw_val rfl rfl rfl ?_; apply Exists.intro; refine ⟨fun wv HC => ?_, ?_⟩
 · go_simp <;> rfl
 simp only [Act.put, zl]
 refine rel_nil ?_
 rintro wx3 HX
 rintro _hrm HGW
 have c0 : ExlC (Mut M KM) d items n (.slice B0 n q0) wx3 := (GW_on (d := 5) rfl).1 (HGW 2 _ rfl (by omega))
 obtain ⟨B0', q0', k0, e0, hq0, hk0, hg0, rk0⟩ := c0
 obtain ⟨rfl, rfl⟩ : B0 = B0' ∧ q0 = q0' := by injection e0 with e1 e2 e3; exact ⟨e1, e3⟩
 clear e0
 have c1 : ExlC (Mut M KM) d wh m (.slice B1 m q1) wx3 := (GW_on (d := 8) rfl).1 (HGW 5 _ rfl (by omega))
 obtain ⟨B1', q1', k1, e1, hq1, hk1, hg1, rk1⟩ := c1
 obtain ⟨rfl, rfl⟩ : B1 = B1' ∧ q1 = q1' := by injection e1 with e1 e2 e3; exact ⟨e1, e3⟩
 clear e1
 clear HGW _hrm
 have K7 := ((HX.add rk0).add (rk1.less (by simp [mut_cons, Hp.foot])))
 rw [HKM.out] at K7
 have F7 := K7.facts
 simp only [factsL, cellsF, Nat.reduceAdd, zf, zl] at F7
 have K8 := K7.store 2 rfl 1 (.slice B0 n q0)
 simp only [zl] at K8
 have F8 := K8.facts
 simp only [factsL, cellsF, Nat.reduceAdd, zf, zl] at F8
 have K9 := K8.store 2 rfl 3 (.slice B1 m q1)
 simp only [zl] at K9
 have F9 := K9.facts
 simp only [factsL, cellsF, Nat.reduceAdd, zf, zl] at F9
 have K10 := ((((K9.store 3 rfl 0 (.bool star)).store 3 rfl 1 (.slice B0 n q0)).store 3 rfl 2 (.string src)).store 3 rfl 3 (.slice B1 m q1))
 simp only [zl] at K10
 have F10 := K10.facts
 simp only [factsL, cellsF, Nat.reduceAdd, zf, zl] at F10
 have HR0 := hid ((K10.ro 1 rfl).less zm)
 have HR1 := hid ((K10.ro 0 rfl).less zm)
 have HB := hid K10.below
 clear K7 K8 K9 K10 HX rk0 rk1 HH1 HH2 HH3 HKM K6
 go_wp2_with fail
 refine bodyPost_ret (v := .agg #[.bool star, .slice B0 n q0, .string src, .slice B1 m q1]) ?_ rfl ?_
 ·clear HR0 HR1 HB
  simp [results, Tryz.results266, go_sem, F10]
 ·exact ⟨⟨star, B0, n, q0, k0, src, B1, m, q1, k1⟩, rfl, ⟨⟨hq0.1, hq0.2, hq1.1, hq1.2⟩, ⟨by have := len_of_map hk0; have := HG.out.2.1.1; simp only at *; omega, by have := len_of_map hk1; have := HG.out.2.1.2; simp only at *; omega⟩, hg0, hg1⟩, rfl, (HR0.out.and HR1.out).imp fun w2 h2 => ⟨⟨h2.1.1, h2.1.2⟩, h2.2.1, h2.2.2⟩, HB.out⟩
theorem exE_all : ∀ d : Nat, exE d
 | 0 => fun M w hM x hx hg => hg.elim
 | d + 1 => exE_of (exL_of (exE_all d)) (qyL_of (qyE_of (exsE_of (exL_of (exE_all d)))))
theorem exL_all (d : Nat) : exL d := exL_of (exE_all d)
theorem exsE_all (d : Nat) : exsE d := exsE_of (exL_all d)
theorem qyE_all (d : Nat) : qyE d := qyE_of (exsE_all d)
theorem qyL_all (d : Nat) : qyL d := qyL_of (qyE_all d)
end Go.Proofs.YtnbbllkbefagmaaGreatDoor

namespace Go.Proofs.YtnbbllkbefagmaaGreatDoor
open Go.RowKit
set_option linter.unusedVariables false
set_option linter.unusedSimpArgs false
def SeGd (d : Nat) (s : Se) : Prop := ExGd d s.e
def RwIn (d : Nat) (r : SlP Ex) (w : World) : Prop := r.In 10 Ex.cells (ExIn d) w
def RwGd (d : Nat) (r : SlP Ex) : Prop := LsOk 8 r (ExGd d)
def RwC (r : SlP Ex) : List Value := [r.v]
def uRw (_ : SlP Ex) : Unit := ()
/-- what a copy of an action keeps -/
def fAc (a : Ac) : Int × ByteArray × List ByteArray := (a.kind, a.tab, a.sets.l.map Se.col)
def seER (d : Nat) (M : Nat → Prop) (x : Se) (w : World) (e : Ending) (w' : World) : Prop := ∃ y : Se, e = .returned (.agg #[.string y.col, .int .i64 y.e.kind, .int .i64 y.e.op, .bool y.e.nt, .int .i64 y.e.v.k, .int .i64 y.e.v.i, .string y.e.v.s, .string y.e.tab, .string y.e.nm, .slice y.e.A y.e.n y.e.c, .slice y.e.B y.e.m y.e.d]) ∧ SeGd d y ∧ Se.col y = Se.col x ∧ Ro w' M (SeIn d y) ∧ Below w.heap.size w w'
def seE (d : Nat) : Prop := ∀ (M : Nat → Prop) (w : World) (hM : ∀ b, M b → b < w.heap.size) (x : Se) (hx : Ro w M (SeIn d x)) (hg : SeGd d x), Calls Tryz.prog 268 #[.agg #[.string x.col, .int .i64 x.e.kind, .int .i64 x.e.op, .bool x.e.nt, .int .i64 x.e.v.k, .int .i64 x.e.v.i, .string x.e.v.s, .string x.e.tab, .string x.e.nm, .slice x.e.A x.e.n x.e.c, .slice x.e.B x.e.m x.e.d]] w fun e w' => seER d M x w e w'
def rxER (d : Nat) (M : Nat → Prop) (x : SlP Ex) (w : World) (e : Ending) (w' : World) : Prop := ∃ y : SlP Ex, e = .returned (.slice y.A y.n y.c) ∧ RwGd d y ∧ uRw y = uRw x ∧ Ro w' M (RwIn d y) ∧ Below w.heap.size w w'
def rxE (d : Nat) : Prop := ∀ (M : Nat → Prop) (w : World) (hM : ∀ b, M b → b < w.heap.size) (x : SlP Ex) (hx : Ro w M (RwIn d x)) (hg : RwGd d x), Calls Tryz.prog 238 #[.slice x.A x.n x.c] w fun e w' => rxER d M x w e w'
def acER (d : Nat) (M : Nat → Prop) (x : Ac) (w : World) (e : Ending) (w' : World) : Prop := ∃ y : Ac, e = .returned (.agg #[.int .i64 y.kind, .string y.tab, .slice y.rows.A y.rows.n y.rows.c, .slice y.qs.A y.qs.n y.qs.c, .slice y.sets.A y.sets.n y.sets.c, .slice y.wh.A y.wh.n y.wh.c, .string y.text]) ∧ AcGd d y ∧ fAc y = fAc x ∧ Ro w' M (AcIn d y) ∧ Below w.heap.size w w'
def acE (d : Nat) : Prop := ∀ (M : Nat → Prop) (w : World) (hM : ∀ b, M b → b < w.heap.size) (x : Ac) (hx : Ro w M (AcIn d x)) (hg : AcGd d x), Calls Tryz.prog 240 #[.agg #[.int .i64 x.kind, .string x.tab, .slice x.rows.A x.rows.n x.rows.c, .slice x.qs.A x.qs.n x.qs.c, .slice x.sets.A x.sets.n x.sets.c, .slice x.wh.A x.wh.n x.wh.c, .string x.text]] w fun e w' => acER d M x w e w'
def seLR (d : Nat) (M : Nat → Prop) (n : Nat) (l : List Se) (w : World) (e : Ending) (w' : World) : Prop := ∃ (B : Option Addr) (q : Nat) (k : List Se), e = .returned (.slice B n q) ∧ (n ≤ q ∧ q ≤ 9223372036854775807) ∧ k.map Se.col = l.map Se.col ∧ (∀ x ∈ k, SeGd d x) ∧ Ro w' M (fun w => SlR 11 B n (k.flatMap Se.cells) w ∧ ∀ x ∈ k, SeIn d x w) ∧ Below w.heap.size w w'
def seL (d : Nat) : Prop := ∀ (M : Nat → Prop) (w : World) (hM : ∀ b, M b → b < w.heap.size) (A : Option Addr) (n c : Nat) (l : List Se) (hD : Ro w M (fun w => SlR 11 A n (l.flatMap Se.cells) w ∧ ∀ x ∈ l, SeIn d x w)) (hn : n ≤ 1000) (hg : ∀ x ∈ l, SeGd d x), Calls Tryz.prog 267 #[.slice A n c, .func (.func 268) #[] #[]] w fun e w' => seLR d M n l w e w'
set_option maxHeartbeats 8000000 in
set_option maxRecDepth 100000 in
theorem seL_of {d : Nat} (HE : seE d) : seL d := by
 intro M w hM A n c l hD hn hg
 have HL := hid (show l.length = n from by
  have h := (show Rd _ _ 11 A n (l.flatMap Se.cells) from hD.now.1).1
  rw [flat_len Se.cells 11 (fun _ => rfl)] at h
  omega)
 have HG := hid hg
 have K0 := (((Hold.start M w hM).add (hD.less (by simp [Mut]))).add (S := fun w => ∀ x ∈ ([] : List Se), SeIn d x w) (fun w2 _ _ x hx => (nomatch hx))).nil 128 11
 clear hD hg
 go_enter Tryz.func267, Tryz.ntmps267
 go_wp2_with fail
 go_loopw [5, 10] (fun ov iv wr => ∃ (j cap : Nat) (O : Option Addr) (outs : List Se), j ≤ n ∧ iv = .int .i64 j ∧ ov = .slice O j cap ∧ Hid (outs.map Se.col = (l.take j).map Se.col ∧ ∀ x ∈ outs, SeGd d x) ∧ Hold M none w wr [.own 128 11 (.slice O j cap) j (outs.flatMap Se.cells), .ro (fun w => ∀ x ∈ outs, SeIn d x w), .ro (fun w => SlR 11 A n (l.flatMap Se.cells) w ∧ ∀ x ∈ l, SeIn d x w)]) (fun _ iv _ => n - (intOf iv).toNat)
 case atStart => exact ⟨0, 0, none, [], by omega, rfl, rfl, hid ⟨rfl, fun x hx => (nomatch hx)⟩, K0⟩
 case round =>
  clear K0
  obtain ⟨j, cap, O, outs, hj, rfl, rfl, HO, H⟩ := hrel
  by_cases hlt : j < n
  ·obtain ⟨x, hx⟩ := get_of HL.out hlt
   obtain ⟨b, o, rfl, hb, hc⟩ := (show ∃ b o, A = some ⟨b, o, none⟩ ∧ b < wr.heap.size ∧ ∀ q u, q < 11 → (Se.cells x)[q]? = some u → World.cell? wr ⟨b, o + j * 11 + q, none⟩ = some u from by
    obtain ⟨b, o, e, hb, hcl⟩ := (show Rd _ _ 11 A n (l.flatMap Se.cells) from (H.ro 2 rfl).now.1).2 (by omega)
    refine ⟨b, o, e, hb, fun q u hq hu => ?_⟩
    rw [Nat.add_assoc]
    exact hcl _ _ ((flat_get Se.cells 11 (fun _ => rfl) l j q _ hq hx).trans hu))
   have x0 := hc 0 _ (by omega) rfl
   have x1 := hc 1 _ (by omega) rfl
   have x2 := hc 2 _ (by omega) rfl
   have x3 := hc 3 _ (by omega) rfl
   have x4 := hc 4 _ (by omega) rfl
   have x5 := hc 5 _ (by omega) rfl
   have x6 := hc 6 _ (by omega) rfl
   have x7 := hc 7 _ (by omega) rfl
   have x8 := hc 8 _ (by omega) rfl
   have x9 := hc 9 _ (by omega) rfl
   have x10 := hc 10 _ (by omega) rfl
   simp only [Nat.add_zero, Nat.mul_one, SlP.v] at x0 x1 x2 x3 x4 x5 x6 x7 x8 x9 x10
   have hm := List.mem_of_getElem? hx
   have HX := hid hx
   clear hc hx
   have K1 := H.alloc_cst #[.string x.col, .int .i64 x.e.kind, .int .i64 x.e.op, .bool x.e.nt, .int .i64 x.e.v.k, .int .i64 x.e.v.i, .string x.e.v.s, .string x.e.tab, .string x.e.nm, .slice x.e.A x.e.n x.e.c, .slice x.e.B x.e.m x.e.d] 128
   have F1 := K1.facts
   simp only [factsL, cellsF, Nat.reduceAdd, zf, zl] at F1
   clear H
   go_wp2_with fail
   clear F1 x0 x1 x2 x3 x4 x5 x6 x7 x8 x9 x10
   refine (HE (Mut M _) _ K1.mutLt x (((K1.ro 3 rfl).imp fun w2 h2 => h2.2 x hm)) (HG.out x hm)).mono ?_
   rintro e w2 ⟨y, rfl, hy, hyg, ry, b2⟩
   have HY := hid (And.intro hy hyg)
   have K2 := (K1.call b2).add ry
   clear K1 b2 ry hy hyg
   skip
   go_wp2_with (at_builtin; go_must (refine wpList_appH K2 2 rfl Tryz.elSeG #[.string y.col, .int .i64 y.e.kind, .int .i64 y.e.op, .bool y.e.nt, .int .i64 y.e.v.k, .int .i64 y.e.v.i, .string y.e.v.s, .string y.e.tab, .string y.e.nm, .slice y.e.A y.e.n y.e.c, .slice y.e.B y.e.m y.e.d] rfl (.tmp 14) (.tmp 18) rfl rfl _ (by first | rfl | simp) rfl rfl (by intro u hu; simp at hu; rcases hu with rfl | rfl | rfl | rfl | rfl | rfl | rfl | rfl | rfl | rfl | rfl <;> rfl) (by omega) (by omega) ?_); intro gA capA wA hcA hmA KA; simp only [zl] at KA)
   rw [show outs.flatMap Se.cells ++ (#[.string y.col, .int .i64 y.e.kind, .int .i64 y.e.op, .bool y.e.nt, .int .i64 y.e.v.k, .int .i64 y.e.v.i, .string y.e.v.s, .string y.e.tab, .string y.e.nm, .slice y.e.A y.e.n y.e.c, .slice y.e.B y.e.m y.e.d] : Array Value).toList = (outs ++ [y]).flatMap Se.cells from by simp [Se.cells, Ex.cells]] at KA
   have hR : Ro _ _ (fun w => ∀ x ∈ outs ++ [y], SeIn d x w) := ((KA.ro 3 rfl).and (KA.ro 0 rfl)).imp fun w2 h2 z hz => by
    rcases List.mem_append.1 hz with hz | hz
    ·exact h2.1 z hz
    ·simp only [List.mem_cons, List.not_mem_nil, or_false] at hz
     subst hz
     exact h2.2
   have KB := (KA.swapRo 3 rfl hR).pick [2, 3, 4] (by decide) rfl
   simp only [List.set_cons_zero, List.set_cons_succ, List.filterMap_cons, List.filterMap_nil, List.getElem?_cons_zero, List.getElem?_cons_succ] at KB
   go_roundw
   case rel => exact ⟨j + 1, capA, _, outs ++ [y], by omega, by go_num, by first | rfl | trivial, hid ⟨map_take_snoc HO.out.1 HX.out (by first | exact HY.out.2 | rfl), fun z hz => by
    rcases List.mem_append.1 hz with hz | hz
    ·exact HO.out.2 z hz
    ·simp only [List.mem_cons, List.not_mem_nil, or_false] at hz
     subst hz
     exact HY.out.1⟩, KB⟩
   case measure => simp [intOf]; omega
  ·obtain rfl : n = j := by omega
   have hcap := own_caps (H.get 0 rfl)
   have KZ := H.sealRow 0 rfl
   simp only [List.set_cons_zero] at KZ
   have HRO := hid (((KZ.ro 0 rfl).and (KZ.ro 1 rfl)).less zm)
   have HB := hid KZ.below
   clear KZ H
   go_wp2_with fail
   go_ret
   exact ⟨O, cap, outs, rfl, ⟨hcap.1, hcap.2.1⟩, by rw [HO.out.1, List.take_of_length_le (by rw [HL.out]; exact Nat.le_refl _)], HO.out.2, HRO.out.imp fun w2 h2 => ⟨h2.1, h2.2⟩, HB.out⟩
def rxLR (d : Nat) (M : Nat → Prop) (n : Nat) (l : List (SlP Ex)) (w : World) (e : Ending) (w' : World) : Prop := ∃ (B : Option Addr) (q : Nat) (k : List (SlP Ex)), e = .returned (.slice B n q) ∧ (n ≤ q ∧ q ≤ 9223372036854775807) ∧ k.map uRw = l.map uRw ∧ (∀ x ∈ k, RwGd d x) ∧ Ro w' M (fun w => SlR 1 B n (k.flatMap RwC) w ∧ ∀ x ∈ k, RwIn d x w) ∧ Below w.heap.size w w'
def rxL (d : Nat) : Prop := ∀ (M : Nat → Prop) (w : World) (hM : ∀ b, M b → b < w.heap.size) (A : Option Addr) (n c : Nat) (l : List (SlP Ex)) (hD : Ro w M (fun w => SlR 1 A n (l.flatMap RwC) w ∧ ∀ x ∈ l, RwIn d x w)) (hn : n ≤ 1000) (hg : ∀ x ∈ l, RwGd d x), Calls Tryz.prog 264 #[.slice A n c, .func (.func 238) #[] #[]] w fun e w' => rxLR d M n l w e w'
set_option maxHeartbeats 8000000 in
set_option maxRecDepth 100000 in
theorem rxL_of {d : Nat} (HE : rxE d) : rxL d := by
 intro M w hM A n c l hD hn hg
 have HL := hid (show l.length = n from by
  have h := (show Rd _ _ 1 A n (l.flatMap RwC) from hD.now.1).1
  rw [flat_len RwC 1 (fun _ => rfl)] at h
  omega)
 have HG := hid hg
 have K0 := (((Hold.start M w hM).add (hD.less (by simp [Mut]))).add (S := fun w => ∀ x ∈ ([] : List (SlP Ex)), RwIn d x w) (fun w2 _ _ x hx => (nomatch hx))).nil 37 1
 clear hD hg
 go_enter Tryz.func264, Tryz.ntmps264
 go_wp2_with fail
 go_loopw [5, 10] (fun ov iv wr => ∃ (j cap : Nat) (O : Option Addr) (outs : List (SlP Ex)), j ≤ n ∧ iv = .int .i64 j ∧ ov = .slice O j cap ∧ Hid (outs.map uRw = (l.take j).map uRw ∧ ∀ x ∈ outs, RwGd d x) ∧ Hold M none w wr [.own 37 1 (.slice O j cap) j (outs.flatMap RwC), .ro (fun w => ∀ x ∈ outs, RwIn d x w), .ro (fun w => SlR 1 A n (l.flatMap RwC) w ∧ ∀ x ∈ l, RwIn d x w)]) (fun _ iv _ => n - (intOf iv).toNat)
 case atStart => exact ⟨0, 0, none, [], by omega, rfl, rfl, hid ⟨rfl, fun x hx => (nomatch hx)⟩, K0⟩
 case round =>
  clear K0
  obtain ⟨j, cap, O, outs, hj, rfl, rfl, HO, H⟩ := hrel
  by_cases hlt : j < n
  ·obtain ⟨x, hx⟩ := get_of HL.out hlt
   obtain ⟨b, o, rfl, hb, hc⟩ := (show ∃ b o, A = some ⟨b, o, none⟩ ∧ b < wr.heap.size ∧ ∀ q u, q < 1 → (RwC x)[q]? = some u → World.cell? wr ⟨b, o + j * 1 + q, none⟩ = some u from by
    obtain ⟨b, o, e, hb, hcl⟩ := (show Rd _ _ 1 A n (l.flatMap RwC) from (H.ro 2 rfl).now.1).2 (by omega)
    refine ⟨b, o, e, hb, fun q u hq hu => ?_⟩
    rw [Nat.add_assoc]
    exact hcl _ _ ((flat_get RwC 1 (fun _ => rfl) l j q _ hq hx).trans hu))
   have x0 := hc 0 _ (by omega) rfl
   simp only [Nat.add_zero, Nat.mul_one, SlP.v] at x0
   have hm := List.mem_of_getElem? hx
   have HX := hid hx
   clear hc hx
   have K1 := H
   clear H
   have F1 := K1.facts
   simp only [factsL, cellsF, Nat.reduceAdd, zf, zl] at F1
   go_wp2_with fail
   clear F1 x0
   refine (HE (Mut M _) _ K1.mutLt x ((K1.ro 2 rfl).imp fun w2 h2 => h2.2 x hm) (HG.out x hm)).mono ?_
   rintro e w2 ⟨y, rfl, hy, hyg, ry, b2⟩
   have HY := hid (And.intro hy hyg)
   have K2 := (K1.call b2).add ry
   clear K1 b2 ry hy hyg
   skip
   go_wp2_with (at_builtin; go_must (refine wpList_appH K2 1 rfl Tryz.elRowG #[.slice y.A y.n y.c] rfl (.tmp 14) (.tmp 18) rfl rfl _ (by first | rfl | simp) rfl rfl (by intro u hu; simp at hu; rcases hu with rfl <;> rfl) (by omega) (by omega) ?_); intro gA capA wA hcA hmA KA; simp only [zl] at KA)
   rw [show outs.flatMap RwC ++ (#[.slice y.A y.n y.c] : Array Value).toList = (outs ++ [y]).flatMap RwC from by simp [RwC, SlP.v]] at KA
   have hR : Ro _ _ (fun w => ∀ x ∈ outs ++ [y], RwIn d x w) := ((KA.ro 2 rfl).and (KA.ro 0 rfl)).imp fun w2 h2 z hz => by
    rcases List.mem_append.1 hz with hz | hz
    ·exact h2.1 z hz
    ·simp only [List.mem_cons, List.not_mem_nil, or_false] at hz
     subst hz
     exact h2.2
   have KB := (KA.swapRo 2 rfl hR).pick [1, 2, 3] (by decide) rfl
   simp only [List.set_cons_zero, List.set_cons_succ, List.filterMap_cons, List.filterMap_nil, List.getElem?_cons_zero, List.getElem?_cons_succ] at KB
   go_roundw
   case rel => exact ⟨j + 1, capA, _, outs ++ [y], by omega, by go_num, by first | rfl | trivial, hid ⟨map_take_snoc HO.out.1 HX.out (by first | exact HY.out.2 | rfl), fun z hz => by
    rcases List.mem_append.1 hz with hz | hz
    ·exact HO.out.2 z hz
    ·simp only [List.mem_cons, List.not_mem_nil, or_false] at hz
     subst hz
     exact HY.out.1⟩, KB⟩
   case measure => simp [intOf]; omega
  ·obtain rfl : n = j := by omega
   have hcap := own_caps (H.get 0 rfl)
   have KZ := H.sealRow 0 rfl
   simp only [List.set_cons_zero] at KZ
   have HRO := hid (((KZ.ro 0 rfl).and (KZ.ro 1 rfl)).less zm)
   have HB := hid KZ.below
   clear KZ H
   go_wp2_with fail
   go_ret
   exact ⟨O, cap, outs, rfl, ⟨hcap.1, hcap.2.1⟩, by rw [HO.out.1, List.take_of_length_le (by rw [HL.out]; exact Nat.le_refl _)], HO.out.2, HRO.out.imp fun w2 h2 => ⟨h2.1, h2.2⟩, HB.out⟩
/-- a copy of a list -/
def SelC (M : Nat → Prop) (d : Nat) (l : List Se) (n : Nat) (u : Value) (w : World) : Prop := ∃ (B : Option Addr) (q : Nat) (k : List Se), u = .slice B n q ∧ (n ≤ q ∧ q ≤ 9223372036854775807) ∧ k.map Se.col = l.map Se.col ∧ (∀ x ∈ k, SeGd d x) ∧ Ro w M (fun w => SlR 11 B n (k.flatMap Se.cells) w ∧ ∀ x ∈ k, SeIn d x w)
theorem SelC.mono {M : Nat → Prop} {d : Nat} {l : List Se} {n : Nat} (u : Value) (w w' : World) (hr : RM M w w') (h : SelC M d l n u w) : SelC M d l n u w' := by
 obtain ⟨B, q, k, h1, h2, h3, h4, h5⟩ := h
 exact ⟨B, q, k, h1, h2, h3, h4, hr.ro h5⟩
/-- a copy of a list -/
def RwlC (M : Nat → Prop) (d : Nat) (l : List (SlP Ex)) (n : Nat) (u : Value) (w : World) : Prop := ∃ (B : Option Addr) (q : Nat) (k : List (SlP Ex)), u = .slice B n q ∧ (n ≤ q ∧ q ≤ 9223372036854775807) ∧ k.map uRw = l.map uRw ∧ (∀ x ∈ k, RwGd d x) ∧ Ro w M (fun w => SlR 1 B n (k.flatMap RwC) w ∧ ∀ x ∈ k, RwIn d x w)
theorem RwlC.mono {M : Nat → Prop} {d : Nat} {l : List (SlP Ex)} {n : Nat} (u : Value) (w w' : World) (hr : RM M w w') (h : RwlC M d l n u w) : RwlC M d l n u w' := by
 obtain ⟨B, q, k, h1, h2, h3, h4, h5⟩ := h
 exact ⟨B, q, k, h1, h2, h3, h4, hr.ro h5⟩
/-- a copied expression -/
def ExcC (M : Nat → Prop) (d : Nat) (u : Value) (w : World) : Prop := ∃ y : Ex, u = .agg #[.int .i64 y.kind, .int .i64 y.op, .bool y.nt, .int .i64 y.v.k, .int .i64 y.v.i, .string y.v.s, .string y.tab, .string y.nm, .slice y.A y.n y.c, .slice y.B y.m y.d] ∧ ExGd d y ∧ Ro w M (ExIn d y)
theorem ExcC.mono {M : Nat → Prop} {d : Nat} (u : Value) (w w' : World) (hr : RM M w w') (h : ExcC M d u w) : ExcC M d u w' := by
 obtain ⟨y, h1, h2, h3⟩ := h
 exact ⟨y, h1, h2, hr.ro h3⟩
set_option maxHeartbeats 8000000 in
set_option maxRecDepth 100000 in
theorem seE_of {d : Nat} (HE : exE d) : seE d := by
 intro M w hM x hx hg
 obtain ⟨col, ⟨kind, op, nt, v, tab, nm, A, n, c, args, B, m, dd, sub⟩⟩ := x
 have HG := hid (show ExGd d ⟨kind, op, nt, v, tab, nm, A, n, c, args, B, m, dd, sub⟩ from hg)
 have K0 := (((Hold.start M w hM).add (hx.less (by simp [Mut]))).alloc_cst #[.string col, .int .i64 kind, .int .i64 op, .bool nt, .int .i64 v.k, .int .i64 v.i, .string v.s, .string tab, .string nm, .slice A n c, .slice B m dd] 128).alloc #[.string ⟨#[]⟩, .int .i64 0, .int .i64 0, .bool false, .int .i64 0, .int .i64 0, .string ⟨#[]⟩, .string ⟨#[]⟩, .string ⟨#[]⟩, .slice none 0 0, .slice none 0 0] 128
 rw [World.size_alloc] at K0
 obtain ⟨g1, hg1⟩ : ∃ g, g = w.heap.size := ⟨_, rfl⟩
 rw [← hg1] at K0
 obtain ⟨g2, hg2⟩ : ∃ g, g = g1 + 1 := ⟨_, rfl⟩
 rw [← hg2] at K0
 clear hx hg
 go_enter Tryz.func268, Tryz.ntmps268
 go_upto_region 1 with fail
 rw [← hg1]
 try rw [← hg2]
 have HGX := hid (And.intro hg1 hg2)
 clear hg1 hg2
 generalize World.alloc _ _ = w1 at K0 ⊢
 obtain ⟨KM, hKM, K6⟩ := K0.name
 have H1 : ∀ wv : World, Hold M none w wv KM → Blk wv g1 128 #[.string col, .int .i64 kind, .int .i64 op, .bool nt, .int .i64 v.k, .int .i64 v.i, .string v.s, .string tab, .string nm, .slice A n c, .slice B m dd] := fun wv h => by rw [hKM] at h; exact h.cst_ 1 rfl
 have H2 : ∀ wv : World, Hold M none w wv KM → Ro wv (Mut M KM) (ExIn d ⟨kind, op, nt, v, tab, nm, A, n, c, args, B, m, dd, sub⟩) := fun wv h => by rw [hKM] at h ⊢; exact h.ro 2 rfl
 have HH1 := hid H1
 have HH2 := hid H2
 have HKM := hid hKM
 clear hKM H1 H2 K0
 refine wp_region_any (by kernel_rfl) ?_
 refine wpAny_hold 5 9 (KM) (spL [(7, ExcC (Mut M KM) d)]) (by kernel_rfl) (by kernel_rfl) (by kernel_rfl) rfl ?_ (K6.drew) ?_
 ·exact stays_cons ExcC.mono (stays_nil _)
 simp only [zd, Act.put, List.getElem_toArray, List.getElem_cons_zero, List.getElem_cons_succ, zl]
 refine dw_val rfl rfl rfl ?_; apply Exists.intro; refine ⟨fun wv HC => ?_, ?_⟩
 · go_simp <;> rfl
 simp only [Act.put, zl]
 refine dw_val rfl rfl rfl ?_; apply Exists.intro; refine ⟨fun wv HC => ?_, ?_⟩
 ·have q0 := (HH1.out _ HC).cell 0; go_simp <;> rfl
 simp only [Act.put, zl]
 refine dw_val rfl rfl rfl ?_; apply Exists.intro; refine ⟨fun wv HC => ?_, ?_⟩
 · go_simp <;> rfl
 simp only [Act.put, zl]
 refine dw_val rfl rfl rfl ?_; apply Exists.intro; refine ⟨fun wv HC => ?_, ?_⟩
 ·obtain q1 := (HH1.out _ HC).cell 1; obtain q2 := (HH1.out _ HC).cell 2; obtain q3 := (HH1.out _ HC).cell 3; obtain q4 := (HH1.out _ HC).cell 4; obtain q5 := (HH1.out _ HC).cell 5; obtain q6 := (HH1.out _ HC).cell 6; obtain q7 := (HH1.out _ HC).cell 7; obtain q8 := (HH1.out _ HC).cell 8; obtain q9 := (HH1.out _ HC).cell 9; obtain q10 := (HH1.out _ HC).cell 10; go_simp <;> rfl
 simp only [Act.put, zl]
 refine dw_callR 7 (ExcC (Mut M KM) d) (f := 263) (args := #[.agg #[.int .i64 kind, .int .i64 op, .bool nt, .int .i64 v.k, .int .i64 v.i, .string v.s, .string tab, .string nm, .slice A n c, .slice B m dd]]) rfl rfl rfl rfl (fun wv => ?_) (fun wv HC hrm hD => ?_) ?_
 ·go_simp <;> rfl
 ·refine (HE (Mut M KM) wv HC.mutLt ⟨kind, op, nt, v, tab, nm, A, n, c, args, B, m, dd, sub⟩ (HH2.out _ HC) HG.out).mono ?_
  rintro e w5 ⟨y, rfl, hy, -, ry, b5⟩
  exact ⟨_, rfl, ⟨y, rfl, hy, ry⟩, HC.call b5, RM.below b5⟩
 rintro u wx HCx ⟨y, rfl, -, -⟩
 clear HCx
 simp only [Act.put, zl]
 refine rel_nil ?_
 rintro wx3 HX
 rintro _hrm HGW
 obtain ⟨z, hzy, hz, rz⟩ : ExcC (Mut M KM) d (.agg #[.int .i64 y.kind, .int .i64 y.op, .bool y.nt, .int .i64 y.v.k, .int .i64 y.v.i, .string y.v.s, .string y.tab, .string y.nm, .slice y.A y.n y.c, .slice y.B y.m y.d]) wx3 := (GW_on (d := 7) rfl).1 (HGW 4 _ rfl (by omega))
 rw [hzy]
 clear HGW _hrm hzy
 have HZ := hid hz
 have K7 := HX.add rz
 rw [HKM.out] at K7
 have K8 := K7
 have F7 := K7.facts
 simp only [factsL, cellsF, Nat.reduceAdd, zf, zl] at F7
 have K9 := (((((((((((K7.store 1 rfl 0 (.string col)).store 1 rfl 1 (.int .i64 z.kind)).store 1 rfl 2 (.int .i64 z.op)).store 1 rfl 3 (.bool z.nt)).store 1 rfl 4 (.int .i64 z.v.k)).store 1 rfl 5 (.int .i64 z.v.i)).store 1 rfl 6 (.string z.v.s)).store 1 rfl 7 (.string z.tab)).store 1 rfl 8 (.string z.nm)).store 1 rfl 9 (.slice z.A z.n z.c)).store 1 rfl 10 (.slice z.B z.m z.d))
 simp only [zl] at K9
 have F9 := K9.facts
 simp only [factsL, cellsF, Nat.reduceAdd, zf, zl] at F9
 have HR := hid ((K9.ro 0 rfl).less zm)
 have HB := hid K9.below
 clear K9 K8 K7 HX rz HH1 HH2 HKM K6 hz
 go_wp2_with fail
 refine bodyPost_ret (v := .agg #[.string col, .int .i64 z.kind, .int .i64 z.op, .bool z.nt, .int .i64 z.v.k, .int .i64 z.v.i, .string z.v.s, .string z.tab, .string z.nm, .slice z.A z.n z.c, .slice z.B z.m z.d]) ?_ rfl ?_
 ·clear HR HB
  simp [results, Tryz.results268, go_sem, F9]
 ·exact ⟨⟨col, z⟩, rfl, HZ.out, rfl, HR.out, HB.out⟩
theorem rxE_of {d : Nat} (HXS : exsE d) : rxE d := by
 intro M w hM x hx hg
 obtain ⟨A, n, c, l⟩ := x
 have hn : l.length = n := ExsIn.len (show ExsIn d A n l w from hx.now)
 have hl8 : l.length ≤ 8 := hg.2.1
 refine (HXS M w hM A n c l (hx.imp fun w2 h2 => h2) (by omega) hg.2.2).mono ?_
 rintro e w' ⟨B, q, k, rfl, hq, hk, hkg, rk, b⟩
 have hkl := len_of_map hk
 exact ⟨⟨B, n, q, k⟩, rfl, ⟨hq, by simp only; omega, hkg⟩, rfl, rk.imp fun w2 h2 => h2, b⟩
set_option maxHeartbeats 8000000 in
set_option maxRecDepth 100000 in
theorem acE_of {d : Nat} (HRW : rxL d) (HQL : qyL d) (HSL : seL d) (HXS : exsE d) : acE d := by
 intro M w hM x hx hg
 obtain ⟨kind, tab, ⟨rA, rn, rc, rl⟩, ⟨qA, qn, qc, ql⟩, ⟨sA, sn, sc, sl⟩, ⟨hA, hn_, hc, hl⟩, text⟩ := x
 have HG := hid (show AcGd d ⟨kind, tab, ⟨rA, rn, rc, rl⟩, ⟨qA, qn, qc, ql⟩, ⟨sA, sn, sc, sl⟩, ⟨hA, hn_, hc, hl⟩, text⟩ from hg)
 have hrn : rn ≤ 8 := by
  have h := SlP.In.len (s := ⟨rA, rn, rc, rl⟩) (k := 1) (cel := fun r : SlP Ex => [r.v]) (P := fun r w => r.In 10 Ex.cells (ExIn d) w) hx.now.1 (by omega) (fun _ => rfl)
  have h2 : rl.length ≤ 8 := hg.r.2.1
  simp only at h; omega
 have hqn : qn ≤ 1 := by
  have h := SlP.In.len (s := ⟨qA, qn, qc, ql⟩) (k := 4) (cel := Qu.cells) (P := QuIn d) hx.now.2.1 (by omega) (fun _ => rfl)
  have h2 : ql.length ≤ 1 := hg.q.2.1
  simp only at h; omega
 have hsn : sn ≤ 8 := by
  have h := SlP.In.len (s := ⟨sA, sn, sc, sl⟩) (k := 11) (cel := Se.cells) (P := SeIn d) hx.now.2.2.1 (by omega) (fun _ => rfl)
  have h2 : sl.length ≤ 8 := hg.s.2.1
  simp only at h; omega
 have hhn : hn_ ≤ 1 := by
  have h := ExsIn.len (show ExsIn d hA hn_ hl w from hx.now.2.2.2)
  have h2 : hl.length ≤ 1 := hg.h.2.1
  omega
 clear hg
 have K0 := (((Hold.start M w hM).add (hx.less (by simp [Mut]))).alloc #[.int .i64 kind, .string tab, .slice rA rn rc, .slice qA qn qc, .slice sA sn sc, .slice hA hn_ hc, .string text] 97).alloc #[.int .i64 0, .string ⟨#[]⟩, .slice none 0 0, .slice none 0 0, .slice none 0 0, .slice none 0 0, .string ⟨#[]⟩] 97
 rw [World.size_alloc] at K0
 obtain ⟨g1, hg1⟩ : ∃ g, g = w.heap.size := ⟨_, rfl⟩
 rw [← hg1] at K0
 obtain ⟨g2, hg2⟩ : ∃ g, g = g1 + 1 := ⟨_, rfl⟩
 rw [← hg2] at K0
 have KB := K0.pick (L' := [.blk g1 97 #[.int .i64 kind, .string tab, .slice rA rn rc, .slice qA qn qc, .slice sA sn sc, .slice hA hn_ hc, .string text], .blk g2 97 #[.int .i64 0, .string ⟨#[]⟩, .slice none 0 0, .slice none 0 0, .slice none 0 0, .slice none 0 0, .string ⟨#[]⟩], .ro (AcIn d ⟨kind, tab, ⟨rA, rn, rc, rl⟩, ⟨qA, qn, qc, ql⟩, ⟨sA, sn, sc, sl⟩, ⟨hA, hn_, hc, hl⟩, text⟩)]) [1, 0, 2] (by decide) rfl
 clear hx K0
 go_enter Tryz.func240, Tryz.ntmps240
 go_upto_region 1 with fail
 rw [← hg1]
 try rw [← hg2]
 have HGX := hid (And.intro hg1 hg2)
 clear hg1 hg2
 generalize World.alloc _ _ = w1 at KB ⊢
 obtain ⟨KM, hKM, K6⟩ := KB.name
 have H1 : ∀ wv : World, Hold M none w wv KM → Blk wv g1 97 #[.int .i64 kind, .string tab, .slice rA rn rc, .slice qA qn qc, .slice sA sn sc, .slice hA hn_ hc, .string text] := fun wv h => by rw [hKM] at h; exact h.blk_ 0 rfl
 have H2 : ∀ wv : World, Hold M none w wv KM → Ro wv (Mut M KM) (fun w => SlR 1 rA rn (rl.flatMap RwC) w ∧ ∀ x ∈ rl, RwIn d x w) := fun wv h => by rw [hKM] at h ⊢; exact (h.ro 2 rfl).imp fun w2 h2 => ⟨h2.1.1, h2.1.2⟩
 have H3 : ∀ wv : World, Hold M none w wv KM → Ro wv (Mut M KM) (fun w => SlR 4 qA qn (ql.flatMap Qu.cells) w ∧ ∀ x ∈ ql, QuIn d x w) := fun wv h => by rw [hKM] at h ⊢; exact (h.ro 2 rfl).imp fun w2 h2 => ⟨h2.2.1.1, h2.2.1.2⟩
 have H4 : ∀ wv : World, Hold M none w wv KM → Ro wv (Mut M KM) (fun w => SlR 11 sA sn (sl.flatMap Se.cells) w ∧ ∀ x ∈ sl, SeIn d x w) := fun wv h => by rw [hKM] at h ⊢; exact (h.ro 2 rfl).imp fun w2 h2 => ⟨h2.2.2.1.1, h2.2.2.1.2⟩
 have H5 : ∀ wv : World, Hold M none w wv KM → Ro wv (Mut M KM) (fun w => SlR 10 hA hn_ (hl.flatMap Ex.cells) w ∧ ∀ x ∈ hl, ExIn d x w) := fun wv h => by rw [hKM] at h ⊢; exact (h.ro 2 rfl).imp fun w2 h2 => ⟨h2.2.2.2.1, h2.2.2.2.2⟩
 have HH1 := hid H1
 have HH2 := hid H2
 have HH3 := hid H3
 have HH4 := hid H4
 have HH5 := hid H5
 have HKM := hid hKM
 clear hKM H1 H2 H3 H4 H5 KB
 refine wp_region_any (by kernel_rfl) ?_
 refine wpAny_hold 13 20 (KM) (spL [(5, RwlC (Mut M KM) d rl rn), (8, QulC (Mut M KM) d ql qn), (11, SelC (Mut M KM) d sl sn), (14, ExlC (Mut M KM) d hl hn_)]) (by kernel_rfl) (by kernel_rfl) (by kernel_rfl) rfl ?_ (K6.drew) ?_
 ·exact stays_cons RwlC.mono (stays_cons QulC.mono (stays_cons SelC.mono (stays_cons ExlC.mono (stays_nil _))))
 simp only [zd, Act.put, List.getElem_toArray, List.getElem_cons_zero, List.getElem_cons_succ, zl]
 refine dw_val rfl rfl rfl ?_; apply Exists.intro; refine ⟨fun wv HC => ?_, ?_⟩
 · go_simp <;> rfl
 simp only [Act.put, zl]
 refine dw_val rfl rfl rfl ?_; apply Exists.intro; refine ⟨fun wv HC => ?_, ?_⟩
 ·have q0 := (HH1.out _ HC).cell 2; go_simp <;> rfl
 simp only [Act.put, zl]
 refine dw_callR 5 (RwlC (Mut M KM) d rl rn) (f := 264) (args := #[.slice rA rn rc, .func (.func 238) #[] #[]]) rfl rfl rfl rfl (fun wv => ?_) (fun wv HC hrm hD => ?_) ?_
 ·go_simp <;> rfl
 ·refine (HRW (Mut M KM) wv HC.mutLt rA rn rc rl (HH2.out _ HC) (by omega) HG.out.r.2.2).mono ?_
  rintro e w5 ⟨B0, q0, k0, rfl, hq, hk, hg, rk, b5⟩
  exact ⟨_, rfl, ⟨B0, q0, k0, rfl, hq, hk, hg, rk⟩, HC.call b5, RM.below b5⟩
 rintro u wx HCx ⟨B0, q0, k0', rfl, -, -, -, -⟩
 clear HCx
 simp only [Act.put, zl]
 refine dw_val rfl rfl rfl ?_; apply Exists.intro; refine ⟨fun wv HC => ?_, ?_⟩
 · go_simp <;> rfl
 simp only [Act.put, zl]
 refine dw_val rfl rfl rfl ?_; apply Exists.intro; refine ⟨fun wv HC => ?_, ?_⟩
 ·have q0 := (HH1.out _ HC).cell 3; go_simp <;> rfl
 simp only [Act.put, zl]
 refine dw_callR 8 (QulC (Mut M KM) d ql qn) (f := 265) (args := #[.slice qA qn qc, .func (.func 266) #[] #[]]) rfl rfl rfl rfl (fun wv => ?_) (fun wv HC hrm hD => ?_) ?_
 ·go_simp <;> rfl
 ·refine (HQL (Mut M KM) wv HC.mutLt qA qn qc ql (HH3.out _ HC) (by omega) HG.out.q.2.2).mono ?_
  rintro e w5 ⟨B1, q1, k1, rfl, hq, hk, hg, rk, b5⟩
  exact ⟨_, rfl, ⟨B1, q1, k1, rfl, hq, hk, hg, rk⟩, HC.call b5, RM.below b5⟩
 rintro u wx HCx ⟨B1, q1, k1', rfl, -, -, -, -⟩
 clear HCx
 simp only [Act.put, zl]
 refine dw_val rfl rfl rfl ?_; apply Exists.intro; refine ⟨fun wv HC => ?_, ?_⟩
 · go_simp <;> rfl
 simp only [Act.put, zl]
 refine dw_val rfl rfl rfl ?_; apply Exists.intro; refine ⟨fun wv HC => ?_, ?_⟩
 ·have q0 := (HH1.out _ HC).cell 4; go_simp <;> rfl
 simp only [Act.put, zl]
 refine dw_callR 11 (SelC (Mut M KM) d sl sn) (f := 267) (args := #[.slice sA sn sc, .func (.func 268) #[] #[]]) rfl rfl rfl rfl (fun wv => ?_) (fun wv HC hrm hD => ?_) ?_
 ·go_simp <;> rfl
 ·refine (HSL (Mut M KM) wv HC.mutLt sA sn sc sl (HH4.out _ HC) (by omega) HG.out.s.2.2).mono ?_
  rintro e w5 ⟨B2, q2, k2, rfl, hq, hk, hg, rk, b5⟩
  exact ⟨_, rfl, ⟨B2, q2, k2, rfl, hq, hk, hg, rk⟩, HC.call b5, RM.below b5⟩
 rintro u wx HCx ⟨B2, q2, k2', rfl, -, -, -, -⟩
 clear HCx
 simp only [Act.put, zl]
 refine dw_val rfl rfl rfl ?_; apply Exists.intro; refine ⟨fun wv HC => ?_, ?_⟩
 · go_simp <;> rfl
 simp only [Act.put, zl]
 refine dw_val rfl rfl rfl ?_; apply Exists.intro; refine ⟨fun wv HC => ?_, ?_⟩
 ·have q0 := (HH1.out _ HC).cell 5; go_simp <;> rfl
 simp only [Act.put, zl]
 refine dw_callR 14 (ExlC (Mut M KM) d hl hn_) (f := 238) (args := #[.slice hA hn_ hc]) rfl rfl rfl rfl (fun wv => ?_) (fun wv HC hrm hD => ?_) ?_
 ·go_simp <;> rfl
 ·refine (HXS (Mut M KM) wv HC.mutLt hA hn_ hc hl (HH5.out _ HC) (by omega) HG.out.h.2.2).mono ?_
  rintro e w5 ⟨B3, q3, k3, rfl, hq, hk, hg, rk, b5⟩
  exact ⟨_, rfl, ⟨B3, q3, k3, rfl, hq, hk, hg, rk⟩, HC.call b5, RM.below b5⟩
 rintro u wx HCx ⟨B3, q3, k3', rfl, -, -, -, -⟩
 clear HCx
 simp only [Act.put, zl]
 refine dw_val rfl rfl rfl ?_; apply Exists.intro; refine ⟨fun wv HC => ?_, ?_⟩
 · go_simp <;> rfl
 simp only [Act.put, zl]
 refine rel_nil ?_
 rintro wx3 HX
 rintro _hrm HGW
 have c0 : RwlC (Mut M KM) d rl rn (.slice B0 rn q0) wx3 := (GW_on (d := 5) rfl).1 (HGW 2 _ rfl (by omega))
 obtain ⟨B0', q0', k0, e0, hq0, hk0, hg0, rk0⟩ := c0
 obtain ⟨rfl, rfl⟩ : B0 = B0' ∧ q0 = q0' := by injection e0 with e1 e2 e3; exact ⟨e1, e3⟩
 clear e0
 have c1 : QulC (Mut M KM) d ql qn (.slice B1 qn q1) wx3 := (GW_on (d := 8) rfl).1 (HGW 5 _ rfl (by omega))
 obtain ⟨B1', q1', k1, e1, hq1, hk1, hg1, rk1⟩ := c1
 obtain ⟨rfl, rfl⟩ : B1 = B1' ∧ q1 = q1' := by injection e1 with e1 e2 e3; exact ⟨e1, e3⟩
 clear e1
 have c2 : SelC (Mut M KM) d sl sn (.slice B2 sn q2) wx3 := (GW_on (d := 11) rfl).1 (HGW 8 _ rfl (by omega))
 obtain ⟨B2', q2', k2, e2, hq2, hk2, hg2, rk2⟩ := c2
 obtain ⟨rfl, rfl⟩ : B2 = B2' ∧ q2 = q2' := by injection e2 with e1 e2 e3; exact ⟨e1, e3⟩
 clear e2
 have c3 : ExlC (Mut M KM) d hl hn_ (.slice B3 hn_ q3) wx3 := (GW_on (d := 14) rfl).1 (HGW 11 _ rfl (by omega))
 obtain ⟨B3', q3', k3, e3, hq3, hk3, hg3, rk3⟩ := c3
 obtain ⟨rfl, rfl⟩ : B3 = B3' ∧ q3 = q3' := by injection e3 with e1 e2 e3; exact ⟨e1, e3⟩
 clear e3
 clear HGW _hrm
 have K7 := ((((HX.add rk0).add (rk1.less (by simp [mut_cons, Hp.foot]))).add (rk2.less (by simp [mut_cons, Hp.foot]))).add (rk3.less (by simp [mut_cons, Hp.foot])))
 rw [HKM.out] at K7
 have F7 := K7.facts
 simp only [factsL, cellsF, Nat.reduceAdd, zf, zl] at F7
 have K8 := K7.store 4 rfl 2 (.slice B0 rn q0)
 simp only [zl] at K8
 have F8 := K8.facts
 simp only [factsL, cellsF, Nat.reduceAdd, zf, zl] at F8
 have K9 := K8.store 4 rfl 3 (.slice B1 qn q1)
 simp only [zl] at K9
 have F9 := K9.facts
 simp only [factsL, cellsF, Nat.reduceAdd, zf, zl] at F9
 have K10 := K9.store 4 rfl 4 (.slice B2 sn q2)
 simp only [zl] at K10
 have F10 := K10.facts
 simp only [factsL, cellsF, Nat.reduceAdd, zf, zl] at F10
 have K11 := K10.store 4 rfl 5 (.slice B3 hn_ q3)
 simp only [zl] at K11
 have F11 := K11.facts
 simp only [factsL, cellsF, Nat.reduceAdd, zf, zl] at F11
 have K12 := (((((((K11.store 5 rfl 0 (.int .i64 kind)).store 5 rfl 1 (.string tab)).store 5 rfl 2 (.slice B0 rn q0)).store 5 rfl 3 (.slice B1 qn q1)).store 5 rfl 4 (.slice B2 sn q2)).store 5 rfl 5 (.slice B3 hn_ q3)).store 5 rfl 6 (.string text))
 simp only [zl] at K12
 have F12 := K12.facts
 simp only [factsL, cellsF, Nat.reduceAdd, zf, zl] at F12
 have HR0 := hid ((K12.ro 3 rfl).less zm)
 have HR1 := hid ((K12.ro 2 rfl).less zm)
 have HR2 := hid ((K12.ro 1 rfl).less zm)
 have HR3 := hid ((K12.ro 0 rfl).less zm)
 have HB := hid K12.below
 clear K7 K8 K9 K10 K11 K12 HX rk0 rk1 rk2 rk3 HH1 HH2 HH3 HH4 HH5 HKM K6
 go_wp2_with fail
 refine bodyPost_ret (v := .agg #[.int .i64 kind, .string tab, .slice B0 rn q0, .slice B1 qn q1, .slice B2 sn q2, .slice B3 hn_ q3, .string text]) ?_ rfl ?_
 ·clear HR0 HR1 HR2 HR3 HB
  simp [results, Tryz.results240, go_sem, F12]
 ·exact ⟨⟨kind, tab, ⟨B0, rn, q0, k0⟩, ⟨B1, qn, q1, k1⟩, ⟨B2, sn, q2, k2⟩, ⟨B3, hn_, q3, k3⟩, text⟩, rfl, ⟨HG.out.k, ⟨hq0, by have := len_of_map hk0; have := HG.out.r.2.1; simp only at *; omega, hg0⟩, ⟨hq1, by have := len_of_map hk1; have := HG.out.q.2.1; simp only at *; omega, hg1⟩, ⟨hq2, by have := len_of_map hk2; have := HG.out.s.2.1; simp only at *; omega, hg2⟩, ⟨hq3, by have := len_of_map hk3; have := HG.out.h.2.1; simp only at *; omega, hg3⟩⟩, by simp only [fAc, hk2], ((HR0.out.and HR1.out).and (HR2.out.and HR3.out)).imp fun w2 h2 => ⟨⟨h2.1.1.1, h2.1.1.2⟩, ⟨h2.1.2.1, h2.1.2.2⟩, ⟨h2.2.1.1, h2.2.1.2⟩, h2.2.2.1, h2.2.2.2⟩, HB.out⟩
theorem seL_all (d : Nat) : seL d := seL_of (seE_of (exE_all d))
theorem rxL_all (d : Nat) : rxL d := rxL_of (rxE_of (exsE_all d))
theorem acE_all (d : Nat) : acE d := acE_of (rxL_all d) (qyL_all d) (seL_all d) (exsE_all d)
theorem Tryz.elAcD : ElemT Tryz.prog 38 97 7 136 (.agg #[.int .i64 0, .string ⟨#[]⟩, .slice none 0 0, .slice none 0 0, .slice none 0 0, .slice none 0 0, .string ⟨#[]⟩]) := ⟨Tryz.underlying38, by kernel_rfl, rfl, by omega⟩
def acLR (d : Nat) (M : Nat → Prop) (n : Nat) (l : List Ac) (w : World) (e : Ending) (w' : World) : Prop := ∃ (B : Option Addr) (q : Nat) (k : List Ac), e = .returned (.slice B n q) ∧ (n ≤ q ∧ q ≤ 9223372036854775807) ∧ k.map fAc = l.map fAc ∧ (∀ x ∈ k, AcGd d x) ∧ Ro w' M (fun w => SlR 7 B n (k.flatMap Ac.cells) w ∧ ∀ x ∈ k, AcIn d x w) ∧ Below w.heap.size w w'
def acL (d : Nat) : Prop := ∀ (M : Nat → Prop) (w : World) (hM : ∀ b, M b → b < w.heap.size) (A : Option Addr) (n c : Nat) (l : List Ac) (hD : Ro w M (fun w => SlR 7 A n (l.flatMap Ac.cells) w ∧ ∀ x ∈ l, AcIn d x w)) (hn : n ≤ 1000) (hg : ∀ x ∈ l, AcGd d x), Calls Tryz.prog 239 #[.slice A n c, .func (.func 240) #[] #[]] w fun e w' => acLR d M n l w e w'
set_option maxHeartbeats 8000000 in
set_option maxRecDepth 100000 in
theorem acL_of {d : Nat} (HE : acE d) : acL d := by
 intro M w hM A n c l hD hn hg
 have HL := hid (show l.length = n from by
  have h := (show Rd _ _ 7 A n (l.flatMap Ac.cells) from hD.now.1).1
  rw [flat_len Ac.cells 7 (fun _ => rfl)] at h
  omega)
 have HG := hid hg
 have K0 := (((Hold.start M w hM).add (hD.less (by simp [Mut]))).add (S := fun w => ∀ x ∈ ([] : List Ac), AcIn d x w) (fun w2 _ _ x hx => (nomatch hx))).nil 97 7
 clear hD hg
 go_enter Tryz.func239, Tryz.ntmps239
 go_wp2_with fail
 go_loopw [5, 10] (fun ov iv wr => ∃ (j cap : Nat) (O : Option Addr) (outs : List Ac), j ≤ n ∧ iv = .int .i64 j ∧ ov = .slice O j cap ∧ Hid (outs.map fAc = (l.take j).map fAc ∧ ∀ x ∈ outs, AcGd d x) ∧ Hold M none w wr [.own 97 7 (.slice O j cap) j (outs.flatMap Ac.cells), .ro (fun w => ∀ x ∈ outs, AcIn d x w), .ro (fun w => SlR 7 A n (l.flatMap Ac.cells) w ∧ ∀ x ∈ l, AcIn d x w)]) (fun _ iv _ => n - (intOf iv).toNat)
 case atStart => exact ⟨0, 0, none, [], by omega, rfl, rfl, hid ⟨rfl, fun x hx => (nomatch hx)⟩, K0⟩
 case round =>
  clear K0
  obtain ⟨j, cap, O, outs, hj, rfl, rfl, HO, H⟩ := hrel
  by_cases hlt : j < n
  ·obtain ⟨x, hx⟩ := get_of HL.out hlt
   obtain ⟨b, o, rfl, hb, hc⟩ := (show ∃ b o, A = some ⟨b, o, none⟩ ∧ b < wr.heap.size ∧ ∀ q u, q < 7 → (Ac.cells x)[q]? = some u → World.cell? wr ⟨b, o + j * 7 + q, none⟩ = some u from by
    obtain ⟨b, o, e, hb, hcl⟩ := (show Rd _ _ 7 A n (l.flatMap Ac.cells) from (H.ro 2 rfl).now.1).2 (by omega)
    refine ⟨b, o, e, hb, fun q u hq hu => ?_⟩
    rw [Nat.add_assoc]
    exact hcl _ _ ((flat_get Ac.cells 7 (fun _ => rfl) l j q _ hq hx).trans hu))
   have x0 := hc 0 _ (by omega) rfl
   have x1 := hc 1 _ (by omega) rfl
   have x2 := hc 2 _ (by omega) rfl
   have x3 := hc 3 _ (by omega) rfl
   have x4 := hc 4 _ (by omega) rfl
   have x5 := hc 5 _ (by omega) rfl
   have x6 := hc 6 _ (by omega) rfl
   simp only [Nat.add_zero, Nat.mul_one, SlP.v] at x0 x1 x2 x3 x4 x5 x6
   have hm := List.mem_of_getElem? hx
   have HX := hid hx
   clear hc hx
   have K1 := H.alloc_cst #[.int .i64 x.kind, .string x.tab, .slice x.rows.A x.rows.n x.rows.c, .slice x.qs.A x.qs.n x.qs.c, .slice x.sets.A x.sets.n x.sets.c, .slice x.wh.A x.wh.n x.wh.c, .string x.text] 97
   have F1 := K1.facts
   simp only [factsL, cellsF, Nat.reduceAdd, zf, zl] at F1
   clear H
   go_wp2_with fail
   clear F1 x0 x1 x2 x3 x4 x5 x6
   refine (HE (Mut M _) _ K1.mutLt x (((K1.ro 3 rfl).imp fun w2 h2 => h2.2 x hm)) (HG.out x hm)).mono ?_
   rintro e w2 ⟨y, rfl, hy, hyg, ry, b2⟩
   have HY := hid (And.intro hy hyg)
   have K2 := (K1.call b2).add ry
   clear K1 b2 ry hy hyg
   skip
   go_wp2_with (at_builtin; go_must (refine wpList_appH K2 2 rfl Tryz.elAcD #[.int .i64 y.kind, .string y.tab, .slice y.rows.A y.rows.n y.rows.c, .slice y.qs.A y.qs.n y.qs.c, .slice y.sets.A y.sets.n y.sets.c, .slice y.wh.A y.wh.n y.wh.c, .string y.text] rfl (.tmp 14) (.tmp 18) rfl rfl _ (by first | rfl | simp) rfl rfl (by intro u hu; simp at hu; rcases hu with rfl | rfl | rfl | rfl | rfl | rfl | rfl <;> rfl) (by omega) (by omega) ?_); intro gA capA wA hcA hmA KA; simp only [zl] at KA)
   rw [show outs.flatMap Ac.cells ++ (#[.int .i64 y.kind, .string y.tab, .slice y.rows.A y.rows.n y.rows.c, .slice y.qs.A y.qs.n y.qs.c, .slice y.sets.A y.sets.n y.sets.c, .slice y.wh.A y.wh.n y.wh.c, .string y.text] : Array Value).toList = (outs ++ [y]).flatMap Ac.cells from by simp [Ac.cells, SlP.v]] at KA
   have hR : Ro _ _ (fun w => ∀ x ∈ outs ++ [y], AcIn d x w) := ((KA.ro 3 rfl).and (KA.ro 0 rfl)).imp fun w2 h2 z hz => by
    rcases List.mem_append.1 hz with hz | hz
    ·exact h2.1 z hz
    ·simp only [List.mem_cons, List.not_mem_nil, or_false] at hz
     subst hz
     exact h2.2
   have KB := (KA.swapRo 3 rfl hR).pick [2, 3, 4] (by decide) rfl
   simp only [List.set_cons_zero, List.set_cons_succ, List.filterMap_cons, List.filterMap_nil, List.getElem?_cons_zero, List.getElem?_cons_succ] at KB
   go_roundw
   case rel => exact ⟨j + 1, capA, _, outs ++ [y], by omega, by go_num, by first | rfl | trivial, hid ⟨map_take_snoc HO.out.1 HX.out (by first | exact HY.out.2 | rfl), fun z hz => by
    rcases List.mem_append.1 hz with hz | hz
    ·exact HO.out.2 z hz
    ·simp only [List.mem_cons, List.not_mem_nil, or_false] at hz
     subst hz
     exact HY.out.1⟩, KB⟩
   case measure => simp [intOf]; omega
  ·obtain rfl : n = j := by omega
   have hcap := own_caps (H.get 0 rfl)
   have KZ := H.sealRow 0 rfl
   simp only [List.set_cons_zero] at KZ
   have HRO := hid (((KZ.ro 0 rfl).and (KZ.ro 1 rfl)).less zm)
   have HB := hid KZ.below
   clear KZ H
   go_wp2_with fail
   go_ret
   exact ⟨O, cap, outs, rfl, ⟨hcap.1, hcap.2.1⟩, by rw [HO.out.1, List.take_of_length_le (by rw [HL.out]; exact Nat.le_refl _)], HO.out.2, HRO.out.imp fun w2 h2 => ⟨h2.1, h2.2⟩, HB.out⟩
theorem acL_all (d : Nat) : acL d := acL_of (acE_all d)
/-- a copy of a list -/
def AclC (M : Nat → Prop) (d : Nat) (l : List Ac) (n : Nat) (u : Value) (w : World) : Prop := ∃ (B : Option Addr) (q : Nat) (k : List Ac), u = .slice B n q ∧ (n ≤ q ∧ q ≤ 9223372036854775807) ∧ k.map fAc = l.map fAc ∧ (∀ x ∈ k, AcGd d x) ∧ Ro w M (fun w => SlR 7 B n (k.flatMap Ac.cells) w ∧ ∀ x ∈ k, AcIn d x w)
theorem AclC.mono {M : Nat → Prop} {d : Nat} {l : List Ac} {n : Nat} (u : Value) (w w' : World) (hr : RM M w w') (h : AclC M d l n u w) : AclC M d l n u w' := by
 obtain ⟨B, q, k, h1, h2, h3, h4, h5⟩ := h
 exact ⟨B, q, k, h1, h2, h3, h4, hr.ro h5⟩
end Go.Proofs.YtnbbllkbefagmaaGreatDoor

namespace Go.Proofs.YtnbbllkbefagmaaGreatDoor
open Go.RowKit
set_option linter.unusedVariables false
set_option linter.unusedSimpArgs false
theorem one_strc (l : List ByteArray) : ∀ u ∈ l.flatMap strc, u.oneCell' = true := fun u hu => by
 rw [List.mem_flatMap] at hu
 obtain ⟨x, _, hx⟩ := hu
 simp only [strc, SlP.v, List.mem_cons, List.not_mem_nil, or_false] at hx
 rcases hx with rfl <;> rfl
theorem one_rks (l : List Rk) : ∀ u ∈ l.flatMap Rk.cells, u.oneCell' = true := fun u hu => by
 rw [List.mem_flatMap] at hu
 obtain ⟨x, _, hx⟩ := hu
 simp only [Rk.cells, SlP.v, List.mem_cons, List.not_mem_nil, or_false] at hx
 rcases hx with rfl | rfl | rfl | rfl <;> rfl
theorem one_tgs (l : List Tg) : ∀ u ∈ l.flatMap Tg.cells, u.oneCell' = true := fun u hu => by
 rw [List.mem_flatMap] at hu
 obtain ⟨x, _, hx⟩ := hu
 simp only [Tg.cells, SlP.v, List.mem_cons, List.not_mem_nil, or_false] at hx
 rcases hx with rfl | rfl | rfl | rfl | rfl | rfl | rfl | rfl | rfl | rfl | rfl <;> rfl
theorem Tryz.elStrD : ElemT Tryz.prog 35 9 1 16 (.string ⟨#[]⟩) := ⟨Tryz.underlying35, by kernel_rfl, rfl, by omega⟩
theorem Tryz.elRkD : ElemT Tryz.prog 36 85 4 48 (.agg #[.string ⟨#[]⟩, .string ⟨#[]⟩, .int .i64 0, .int .i64 0]) := ⟨Tryz.underlying36, by kernel_rfl, rfl, by omega⟩
theorem Tryz.elTgD : ElemT Tryz.prog 25 40 11 200 (.agg #[.string ⟨#[]⟩, .string ⟨#[]⟩, .bool false, .int .i64 0, .slice none 0 0, .bool false, .slice none 0 0, .slice none 0 0, .slice none 0 0, .slice none 0 0, .slice none 0 0]) := ⟨Tryz.underlying25, by kernel_rfl, rfl, by omega⟩
set_option maxHeartbeats 4000000 in
set_option maxRecDepth 100000 in
theorem cloneStr_any (M : Nat → Prop) (w : World) (hM : ∀ b, M b → b < w.heap.size) (A : Option Addr) (n c : Nat) (l : List ByteArray) (hD : Ro w M (SlR 1 A n (l.flatMap strc))) (hl : l.length = n) (hn : n ≤ 1000) :
  Calls Tryz.prog 236 #[.slice A n c] w fun e w' => RowRet 1 (l.flatMap strc) n w M e w' := by
 have hq : ∀ (w : World) (a : Option Addr) (n c : Nat), (binOp .eql 35 (.slice a n c) (.slice none 0 0)).run Tryz.prog w = .ok (.bool a.isNone) w := fun w a n c => Go.Lib.run_eql_slice_nil w _ _ a n c 0 0 Tryz.underlying35
 rcases A with _ | a
 ·have h0 : n = 0 := by
   rcases Nat.eq_zero_or_pos n with h | h
   ·exact h
   ·obtain ⟨_, _, e, _⟩ := (show Rd w w.heap.size 1 none n (l.flatMap strc) from hD.now).2 h; cases e
  subst h0
  obtain rfl : l = [] := List.length_eq_zero_iff.1 hl
  go_enter Tryz.func236, Tryz.ntmps236
  go_wp2_with fail
  go_ret
  exact ⟨none, 0, 0, rfl, rfl, by omega, by omega, ro_nil, Below.refl _ _⟩
 ·have K0 := (Hold.start M w hM).add (hD.less (by simp [Mut]))
  have K1 := K0.alloc_own #[] 9 1 0 (by unfold maxLen; omega) rfl
  have hr := hid (show SlR 1 (some a) n (l.flatMap strc) _ from (K1.ro 1 rfl).now)
  have h1 := hid (one_strc l)
  clear hl
  go_enter Tryz.func236, Tryz.ntmps236
  go_wp2_with (at_builtin; go_must (refine wpList_appAllH K1 0 rfl Tryz.elStrD hr.out rfl (.tmp 5) (.tmp 6) rfl rfl rfl h1.out (by omega) (by omega) ?_); intro C' cap' w2 hc1 hm1 K2)
  have KS := K2.sealRow 0 rfl
  go_ret
  simp only [Nat.zero_add, List.nil_append, List.set_cons_zero] at KS hc1
  exact ⟨C', n, cap', by first | rfl | simp, rfl, hc1, hm1, KS.roOut 0 rfl, KS.below⟩
set_option maxHeartbeats 4000000 in
set_option maxRecDepth 100000 in
theorem cloneRk_any (M : Nat → Prop) (w : World) (hM : ∀ b, M b → b < w.heap.size) (A : Option Addr) (n c : Nat) (l : List Rk) (hD : Ro w M (SlR 4 A n (l.flatMap Rk.cells))) (hl : l.length = n) (hn : n ≤ 1000) :
  Calls Tryz.prog 237 #[.slice A n c] w fun e w' => RowRet 4 (l.flatMap Rk.cells) n w M e w' := by
 have hq : ∀ (w : World) (a : Option Addr) (n c : Nat), (binOp .eql 36 (.slice a n c) (.slice none 0 0)).run Tryz.prog w = .ok (.bool a.isNone) w := fun w a n c => Go.Lib.run_eql_slice_nil w _ _ a n c 0 0 Tryz.underlying36
 rcases A with _ | a
 ·have h0 : n = 0 := by
   rcases Nat.eq_zero_or_pos n with h | h
   ·exact h
   ·obtain ⟨_, _, e, _⟩ := (show Rd w w.heap.size 4 none n (l.flatMap Rk.cells) from hD.now).2 h; cases e
  subst h0
  obtain rfl : l = [] := List.length_eq_zero_iff.1 hl
  go_enter Tryz.func237, Tryz.ntmps237
  go_wp2_with fail
  go_ret
  exact ⟨none, 0, 0, rfl, rfl, by omega, by omega, ro_nil, Below.refl _ _⟩
 ·have K0 := (Hold.start M w hM).add (hD.less (by simp [Mut]))
  have K1 := K0.alloc_own #[] 85 4 0 (by unfold maxLen; omega) rfl
  have hr := hid (show SlR 4 (some a) n (l.flatMap Rk.cells) _ from (K1.ro 1 rfl).now)
  have h1 := hid (one_rks l)
  clear hl
  go_enter Tryz.func237, Tryz.ntmps237
  go_wp2_with (at_builtin; go_must (refine wpList_appAllH K1 0 rfl Tryz.elRkD hr.out rfl (.tmp 5) (.tmp 6) rfl rfl rfl h1.out (by omega) (by omega) ?_); intro C' cap' w2 hc1 hm1 K2)
  have KS := K2.sealRow 0 rfl
  go_ret
  simp only [Nat.zero_add, List.nil_append, List.set_cons_zero] at KS hc1
  exact ⟨C', n, cap', by first | rfl | simp, rfl, hc1, hm1, KS.roOut 0 rfl, KS.below⟩
end Go.Proofs.YtnbbllkbefagmaaGreatDoor

namespace Go.Proofs.YtnbbllkbefagmaaGreatDoor
open Go.RowKit
set_option linter.unusedVariables false
set_option linter.unusedSimpArgs false
/-- a copied list -/
def ClC (M : Nat → Prop) (k : Nat) (cs : List Value) (n : Nat) (u : Value) (w : World) : Prop := ∃ (B : Option Addr) (q : Nat), u = .slice B n q ∧ (n ≤ q ∧ q ≤ 9223372036854775807) ∧ Ro w M (SlR k B n cs)
theorem ClC.mono {M : Nat → Prop} {k : Nat} {cs : List Value} {n : Nat} (u : Value) (w w' : World) (hr : RM M w w') (h : ClC M k cs n u w) : ClC M k cs n u w' := by
 obtain ⟨B, q, h1, h2, h3⟩ := h
 exact ⟨B, q, h1, h2, hr.ro h3⟩
/-- what a copy of a trigger keeps -/
def TgCp (t t' : Tg) : Prop := t'.name = t.name ∧ t'.tab = t.tab ∧ t'.before = t.before ∧ t'.event = t.event ∧ t'.each = t.each ∧ t'.cols.l = t.cols.l ∧ t'.acts.l.map fAc = t.acts.l.map fAc
def tgER (d : Nat) (M : Nat → Prop) (x : Tg) (w : World) (e : Ending) (w' : World) : Prop := ∃ y : Tg, e = .returned y.val ∧ TgGd d y ∧ TgCp x y ∧ Ro w' M (TgIn d y) ∧ Below w.heap.size w w'
set_option maxHeartbeats 16000000 in
set_option maxRecDepth 100000 in
theorem deepTrig_any (d : Nat) (M : Nat → Prop) (w : World) (hM : ∀ b, M b → b < w.heap.size) (x : Tg) (hx : Ro w M (TgIn d x)) (hg : TgGd d x) : Calls Tryz.prog 214 #[x.val] w fun e w' => tgER d M x w e w' := by
 have HXS := exsE_all d
 have HAL_ := acL_all d
 obtain ⟨tn, tt, tb, te, ⟨oA, on, oc, ol⟩, tch, ⟨pA, pn, pc, pl⟩, ⟨qA, qn, qc, ql⟩, ⟨rA, rn, rc, rl⟩, ⟨kA, kn, kc, kl⟩, ⟨aA, an, ac, al⟩⟩ := x
 have HOL := hid (show ol.length = on from SlP.In.len (s := ⟨oA, on, oc, ol⟩) (k := 1) (cel := strc) (P := fun _ _ => True) hx.now.1 (by omega) (fun _ => rfl))
 have HPL := hid (show pl.length = pn from SlP.In.len (s := ⟨pA, pn, pc, pl⟩) (k := 1) (cel := strc) (P := fun _ _ => True) hx.now.2.1 (by omega) (fun _ => rfl))
 have HQL := hid (show ql.length = qn from SlP.In.len (s := ⟨qA, qn, qc, ql⟩) (k := 1) (cel := strc) (P := fun _ _ => True) hx.now.2.2.1 (by omega) (fun _ => rfl))
 have HRL := hid (show rl.length = rn from SlP.In.len (s := ⟨rA, rn, rc, rl⟩) (k := 4) (cel := Rk.cells) (P := fun _ _ => True) hx.now.2.2.2.1 (by omega) (fun _ => rfl))
 have HKL := hid (show kl.length = kn from ExsIn.len (show ExsIn d kA kn kl w from hx.now.2.2.2.2.1))
 have HAL := hid (show al.length = an from SlP.In.len (s := ⟨aA, an, ac, al⟩) (k := 7) (cel := Ac.cells) (P := AcIn d) hx.now.2.2.2.2.2 (by omega) (fun _ => rfl))
 have hon : on ≤ 8 := by have h2 : ol.length ≤ 8 := hg.o.2.1; have := HOL.out; omega
 have hpn : pn ≤ 8 := by have h2 : pl.length ≤ 8 := hg.p.2.1; have := HPL.out; omega
 have hqn : qn ≤ 8 := by have h2 : ql.length ≤ 8 := hg.f.2.1; have := HQL.out; omega
 have hrn : rn ≤ 1 := by have h2 : rl.length ≤ 1 := hg.r.2.1; have := HRL.out; omega
 have hkn : kn ≤ 1 := by have h2 : kl.length ≤ 1 := hg.h.2.1; have := HKL.out; omega
 have han : an ≤ 4 := by have h2 : al.length ≤ 4 := hg.a.2.1; have := HAL.out; omega
 have HG := hid hg
 have K0 := (((Hold.start M w hM).add (hx.less (by simp [Mut]))).alloc #[.string tn, .string tt, .bool tb, .int .i64 te, .slice oA on oc, .bool tch, .slice pA pn pc, .slice qA qn qc, .slice rA rn rc, .slice kA kn kc, .slice aA an ac] 40).alloc #[.string ⟨#[]⟩, .string ⟨#[]⟩, .bool false, .int .i64 0, .slice none 0 0, .bool false, .slice none 0 0, .slice none 0 0, .slice none 0 0, .slice none 0 0, .slice none 0 0] 40
 rw [World.size_alloc] at K0
 obtain ⟨g1, hg1⟩ : ∃ g, g = w.heap.size := ⟨_, rfl⟩
 rw [← hg1] at K0
 obtain ⟨g2, hg2⟩ : ∃ g, g = g1 + 1 := ⟨_, rfl⟩
 rw [← hg2] at K0
 have KB := K0.pick (L' := [.blk g1 40 #[.string tn, .string tt, .bool tb, .int .i64 te, .slice oA on oc, .bool tch, .slice pA pn pc, .slice qA qn qc, .slice rA rn rc, .slice kA kn kc, .slice aA an ac], .blk g2 40 #[.string ⟨#[]⟩, .string ⟨#[]⟩, .bool false, .int .i64 0, .slice none 0 0, .bool false, .slice none 0 0, .slice none 0 0, .slice none 0 0, .slice none 0 0, .slice none 0 0], .ro (TgIn d ⟨tn, tt, tb, te, ⟨oA, on, oc, ol⟩, tch, ⟨pA, pn, pc, pl⟩, ⟨qA, qn, qc, ql⟩, ⟨rA, rn, rc, rl⟩, ⟨kA, kn, kc, kl⟩, ⟨aA, an, ac, al⟩⟩)]) [1, 0, 2] (by decide) rfl
 clear hx K0 hg
 simp only [Tg.val]
 go_enter Tryz.func214, Tryz.ntmps214
 go_upto_region 1 with fail
 rw [← hg1]
 try rw [← hg2]
 have HGX := hid (And.intro hg1 hg2)
 clear hg1 hg2
 generalize World.alloc _ _ = w1 at KB ⊢
 obtain ⟨KM, hKM, K6⟩ := KB.name
 have H1 : ∀ wv : World, Hold M none w wv KM → Blk wv g1 40 #[.string tn, .string tt, .bool tb, .int .i64 te, .slice oA on oc, .bool tch, .slice pA pn pc, .slice qA qn qc, .slice rA rn rc, .slice kA kn kc, .slice aA an ac] := fun wv h => by rw [hKM] at h; exact h.blk_ 0 rfl
 have H2 : ∀ wv : World, Hold M none w wv KM → Ro wv (Mut M KM) (TgIn d ⟨tn, tt, tb, te, ⟨oA, on, oc, ol⟩, tch, ⟨pA, pn, pc, pl⟩, ⟨qA, qn, qc, ql⟩, ⟨rA, rn, rc, rl⟩, ⟨kA, kn, kc, kl⟩, ⟨aA, an, ac, al⟩⟩) := fun wv h => by rw [hKM] at h ⊢; exact h.ro 2 rfl
 have HH1 := hid H1
 have HH2 := hid H2
 have HKM := hid hKM
 clear hKM H1 H2 KB
 refine wp_region_any (by kernel_rfl) ?_
 refine wpAny_hold 13 28 (KM) (spL [(5, ClC (Mut M KM) 1 (ol.flatMap strc) on), (8, ClC (Mut M KM) 1 (pl.flatMap strc) pn), (11, ClC (Mut M KM) 1 (ql.flatMap strc) qn), (14, ClC (Mut M KM) 4 (rl.flatMap Rk.cells) rn)]) (by kernel_rfl) (by kernel_rfl) (by kernel_rfl) rfl ?_ (K6.drew) ?_
 ·exact stays_cons ClC.mono (stays_cons ClC.mono (stays_cons ClC.mono (stays_cons ClC.mono (stays_nil _))))
 simp only [zd, Act.put, List.getElem_toArray, List.getElem_cons_zero, List.getElem_cons_succ, zl]
 refine dw_val rfl rfl rfl ?_; apply Exists.intro; refine ⟨fun wv HC => ?_, ?_⟩
 · go_simp <;> rfl
 simp only [Act.put, zl]
 refine dw_val rfl rfl rfl ?_; apply Exists.intro; refine ⟨fun wv HC => ?_, ?_⟩
 ·have q0 := (HH1.out _ HC).cell 4; go_simp <;> rfl
 simp only [Act.put, zl]
 refine dw_callR 5 (ClC (Mut M KM) 1 (ol.flatMap strc) on) (f := 236) (args := #[.slice oA on oc]) rfl rfl rfl rfl (fun wv => ?_) (fun wv HC hrm hD => ?_) ?_
 ·go_simp <;> rfl
 ·refine (cloneStr_any (Mut M KM) wv HC.mutLt oA on oc ol ((HH2.out _ HC).imp fun w2 h2 => h2.1.1) HOL.out (by omega)).mono ?_
  rintro e w5 ⟨B, n', q, rfl, rfl, hq1, hq2, rk, b5⟩
  exact ⟨_, rfl, ⟨B, q, rfl, ⟨hq1, hq2⟩, rk⟩, HC.call b5, RM.below b5⟩
 rintro u wx HCx ⟨B0, q0, rfl, -, -⟩
 clear HCx
 simp only [Act.put, zl]
 refine dw_val rfl rfl rfl ?_; apply Exists.intro; refine ⟨fun wv HC => ?_, ?_⟩
 · go_simp <;> rfl
 simp only [Act.put, zl]
 refine dw_val rfl rfl rfl ?_; apply Exists.intro; refine ⟨fun wv HC => ?_, ?_⟩
 ·have q0 := (HH1.out _ HC).cell 6; go_simp <;> rfl
 simp only [Act.put, zl]
 refine dw_callR 8 (ClC (Mut M KM) 1 (pl.flatMap strc) pn) (f := 236) (args := #[.slice pA pn pc]) rfl rfl rfl rfl (fun wv => ?_) (fun wv HC hrm hD => ?_) ?_
 ·go_simp <;> rfl
 ·refine (cloneStr_any (Mut M KM) wv HC.mutLt pA pn pc pl ((HH2.out _ HC).imp fun w2 h2 => h2.2.1.1) HPL.out (by omega)).mono ?_
  rintro e w5 ⟨B, n', q, rfl, rfl, hq1, hq2, rk, b5⟩
  exact ⟨_, rfl, ⟨B, q, rfl, ⟨hq1, hq2⟩, rk⟩, HC.call b5, RM.below b5⟩
 rintro u wx HCx ⟨B1, q1, rfl, -, -⟩
 clear HCx
 simp only [Act.put, zl]
 refine dw_val rfl rfl rfl ?_; apply Exists.intro; refine ⟨fun wv HC => ?_, ?_⟩
 · go_simp <;> rfl
 simp only [Act.put, zl]
 refine dw_val rfl rfl rfl ?_; apply Exists.intro; refine ⟨fun wv HC => ?_, ?_⟩
 ·have q0 := (HH1.out _ HC).cell 7; go_simp <;> rfl
 simp only [Act.put, zl]
 refine dw_callR 11 (ClC (Mut M KM) 1 (ql.flatMap strc) qn) (f := 236) (args := #[.slice qA qn qc]) rfl rfl rfl rfl (fun wv => ?_) (fun wv HC hrm hD => ?_) ?_
 ·go_simp <;> rfl
 ·refine (cloneStr_any (Mut M KM) wv HC.mutLt qA qn qc ql ((HH2.out _ HC).imp fun w2 h2 => h2.2.2.1.1) HQL.out (by omega)).mono ?_
  rintro e w5 ⟨B, n', q, rfl, rfl, hq1, hq2, rk, b5⟩
  exact ⟨_, rfl, ⟨B, q, rfl, ⟨hq1, hq2⟩, rk⟩, HC.call b5, RM.below b5⟩
 rintro u wx HCx ⟨B2, q2, rfl, -, -⟩
 clear HCx
 simp only [Act.put, zl]
 refine dw_val rfl rfl rfl ?_; apply Exists.intro; refine ⟨fun wv HC => ?_, ?_⟩
 · go_simp <;> rfl
 simp only [Act.put, zl]
 refine dw_val rfl rfl rfl ?_; apply Exists.intro; refine ⟨fun wv HC => ?_, ?_⟩
 ·have q0 := (HH1.out _ HC).cell 8; go_simp <;> rfl
 simp only [Act.put, zl]
 refine dw_callR 14 (ClC (Mut M KM) 4 (rl.flatMap Rk.cells) rn) (f := 237) (args := #[.slice rA rn rc]) rfl rfl rfl rfl (fun wv => ?_) (fun wv HC hrm hD => ?_) ?_
 ·go_simp <;> rfl
 ·refine (cloneRk_any (Mut M KM) wv HC.mutLt rA rn rc rl ((HH2.out _ HC).imp fun w2 h2 => h2.2.2.2.1.1) HRL.out (by omega)).mono ?_
  rintro e w5 ⟨B, n', q, rfl, rfl, hq1, hq2, rk, b5⟩
  exact ⟨_, rfl, ⟨B, q, rfl, ⟨hq1, hq2⟩, rk⟩, HC.call b5, RM.below b5⟩
 rintro u wx HCx ⟨B3, q3, rfl, -, -⟩
 clear HCx
 simp only [Act.put, zl]
 refine dw_val rfl rfl rfl ?_; apply Exists.intro; refine ⟨fun wv HC => ?_, ?_⟩
 · go_simp <;> rfl
 simp only [Act.put, zl]
 refine rel_nil ?_
 rintro wx3 HX
 rintro _hrm HGW
 obtain ⟨B0', q0', e0, hq0, rk0⟩ : ClC (Mut M KM) 1 (ol.flatMap strc) on (.slice B0 on q0) wx3 := (GW_on (d := 5) rfl).1 (HGW 2 _ rfl (by omega))
 obtain ⟨rfl, rfl⟩ : B0 = B0' ∧ q0 = q0' := by injection e0 with e1 e2 e3; exact ⟨e1, e3⟩
 clear e0
 obtain ⟨B1', q1', e1, hq1, rk1⟩ : ClC (Mut M KM) 1 (pl.flatMap strc) pn (.slice B1 pn q1) wx3 := (GW_on (d := 8) rfl).1 (HGW 5 _ rfl (by omega))
 obtain ⟨rfl, rfl⟩ : B1 = B1' ∧ q1 = q1' := by injection e1 with e1 e2 e3; exact ⟨e1, e3⟩
 clear e1
 obtain ⟨B2', q2', e2, hq2, rk2⟩ : ClC (Mut M KM) 1 (ql.flatMap strc) qn (.slice B2 qn q2) wx3 := (GW_on (d := 11) rfl).1 (HGW 8 _ rfl (by omega))
 obtain ⟨rfl, rfl⟩ : B2 = B2' ∧ q2 = q2' := by injection e2 with e1 e2 e3; exact ⟨e1, e3⟩
 clear e2
 obtain ⟨B3', q3', e3, hq3, rk3⟩ : ClC (Mut M KM) 4 (rl.flatMap Rk.cells) rn (.slice B3 rn q3) wx3 := (GW_on (d := 14) rfl).1 (HGW 11 _ rfl (by omega))
 obtain ⟨rfl, rfl⟩ : B3 = B3' ∧ q3 = q3' := by injection e3 with e1 e2 e3; exact ⟨e1, e3⟩
 clear e3
 clear HGW _hrm
 have K7 := (((HX.add rk0).add (rk1.less (by simp [mut_cons, Hp.foot]))).add (rk2.less (by simp [mut_cons, Hp.foot]))).add (rk3.less (by simp [mut_cons, Hp.foot]))
 rw [HKM.out] at K7
 have F7 := K7.facts
 simp only [factsL, cellsF, Nat.reduceAdd, zf, zl] at F7
 have K8 := K7.store 4 rfl 4 (.slice B0 on q0)
 simp only [zl] at K8
 have F8 := K8.facts
 simp only [factsL, cellsF, Nat.reduceAdd, zf, zl] at F8
 have K9 := K8.store 4 rfl 6 (.slice B1 pn q1)
 simp only [zl] at K9
 have F9 := K9.facts
 simp only [factsL, cellsF, Nat.reduceAdd, zf, zl] at F9
 have K10 := K9.store 4 rfl 7 (.slice B2 qn q2)
 simp only [zl] at K10
 have F10 := K10.facts
 simp only [factsL, cellsF, Nat.reduceAdd, zf, zl] at F10
 have K11 := K10.store 4 rfl 8 (.slice B3 rn q3)
 simp only [zl] at K11
 have F11 := K11.facts
 simp only [factsL, cellsF, Nat.reduceAdd, zf, zl] at F11
 clear HX rk0 rk1 rk2 rk3 HH1 HH2 HKM K6 K7 K8 K9 K10
 go_upto_region 2 with fail
 clear F7 F8 F9 F10 F11
 generalize World.setCell _ _ _ = w2 at K11 ⊢
 obtain ⟨KN, hKN, K12⟩ := K11.name
 have H1 : ∀ wv : World, Hold M none w wv KN → Blk wv g1 40 #[.string tn, .string tt, .bool tb, .int .i64 te, .slice B0 on q0, .bool tch, .slice B1 pn q1, .slice B2 qn q2, .slice B3 rn q3, .slice kA kn kc, .slice aA an ac] := fun wv h => by rw [hKN] at h; exact h.blk_ 4 rfl
 have H2 : ∀ wv : World, Hold M none w wv KN → Ro wv (Mut M KN) (TgIn d ⟨tn, tt, tb, te, ⟨oA, on, oc, ol⟩, tch, ⟨pA, pn, pc, pl⟩, ⟨qA, qn, qc, ql⟩, ⟨rA, rn, rc, rl⟩, ⟨kA, kn, kc, kl⟩, ⟨aA, an, ac, al⟩⟩) := fun wv h => by rw [hKN] at h ⊢; exact h.ro 6 rfl
 have HH1 := hid H1
 have HH2 := hid H2
 have HKN := hid hKN
 clear hKN H1 H2 K11
 refine wp_region_any (by kernel_rfl) ?_
 refine wpAny_hold 7 28 (KN) (spL [(21, ExlC (Mut M KN) d kl kn), (24, AclC (Mut M KN) d al an)]) (by kernel_rfl) (by kernel_rfl) (by kernel_rfl) rfl ?_ (K12.drew) ?_
 ·exact stays_cons ExlC.mono (stays_cons AclC.mono (stays_nil _))
 simp only [zd, Act.put, List.getElem_toArray, List.getElem_cons_zero, List.getElem_cons_succ, zl]
 refine dw_val rfl rfl rfl ?_; apply Exists.intro; refine ⟨fun wv HC => ?_, ?_⟩
 · go_simp <;> rfl
 simp only [Act.put, zl]
 refine dw_val rfl rfl rfl ?_; apply Exists.intro; refine ⟨fun wv HC => ?_, ?_⟩
 ·have q0 := (HH1.out _ HC).cell 9; go_simp <;> rfl
 simp only [Act.put, zl]
 refine dw_callR 21 (ExlC (Mut M KN) d kl kn) (f := 238) (args := #[.slice kA kn kc]) rfl rfl rfl rfl (fun wv => ?_) (fun wv HC hrm hD => ?_) ?_
 ·go_simp <;> rfl
 ·refine (HXS (Mut M KN) wv HC.mutLt kA kn kc kl ((HH2.out _ HC).imp fun w2 h2 => ⟨h2.2.2.2.2.1.1, h2.2.2.2.2.1.2⟩) (by omega) HG.out.h.2.2).mono ?_
  rintro e w5 ⟨B, q, k, rfl, hq, hk, hg, rk, b5⟩
  exact ⟨_, rfl, ⟨B, q, k, rfl, hq, hk, hg, rk⟩, HC.call b5, RM.below b5⟩
 rintro u wx HCx ⟨B4, q4, k4', rfl, -, -, -, -⟩
 clear HCx
 simp only [Act.put, zl]
 refine dw_val rfl rfl rfl ?_; apply Exists.intro; refine ⟨fun wv HC => ?_, ?_⟩
 · go_simp <;> rfl
 simp only [Act.put, zl]
 refine dw_val rfl rfl rfl ?_; apply Exists.intro; refine ⟨fun wv HC => ?_, ?_⟩
 ·have q0 := (HH1.out _ HC).cell 10; go_simp <;> rfl
 simp only [Act.put, zl]
 refine dw_callR 24 (AclC (Mut M KN) d al an) (f := 239) (args := #[.slice aA an ac, .func (.func 240) #[] #[]]) rfl rfl rfl rfl (fun wv => ?_) (fun wv HC hrm hD => ?_) ?_
 ·go_simp <;> rfl
 ·refine (HAL_ (Mut M KN) wv HC.mutLt aA an ac al ((HH2.out _ HC).imp fun w2 h2 => ⟨h2.2.2.2.2.2.1, h2.2.2.2.2.2.2⟩) (by omega) HG.out.a.2.2).mono ?_
  rintro e w5 ⟨B, q, k, rfl, hq, hk, hg, rk, b5⟩
  exact ⟨_, rfl, ⟨B, q, k, rfl, hq, hk, hg, rk⟩, HC.call b5, RM.below b5⟩
 rintro u wx HCx ⟨B5, q5, k5', rfl, -, -, -, -⟩
 clear HCx
 simp only [Act.put, zl]
 refine dw_val rfl rfl rfl ?_; apply Exists.intro; refine ⟨fun wv HC => ?_, ?_⟩
 · go_simp <;> rfl
 simp only [Act.put, zl]
 refine rel_nil ?_
 rintro wx4 HX
 rintro _hrm HGW
 obtain ⟨B4', q4', k4, e4, hq4, hk4, hg4, rk4⟩ : ExlC (Mut M KN) d kl kn (.slice B4 kn q4) wx4 := (GW_on (d := 21) rfl).1 (HGW 2 _ rfl (by omega))
 obtain ⟨rfl, rfl⟩ : B4 = B4' ∧ q4 = q4' := by injection e4 with e1 e2 e3; exact ⟨e1, e3⟩
 obtain ⟨B5', q5', k5, e5, hq5, hk5, hg5, rk5⟩ : AclC (Mut M KN) d al an (.slice B5 an q5) wx4 := (GW_on (d := 24) rfl).1 (HGW 5 _ rfl (by omega))
 obtain ⟨rfl, rfl⟩ : B5 = B5' ∧ q5 = q5' := by injection e5 with e1 e2 e3; exact ⟨e1, e3⟩
 clear HGW _hrm e4 e5
 have HK := hid (And.intro (And.intro hk4 hg4) (And.intro hk5 hg5))
 clear hk4 hg4 hk5 hg5
 have K13 := (HX.add rk4).add (rk5.less (by simp [mut_cons, Hp.foot]))
 rw [HKN.out] at K13
 have F13 := K13.facts
 simp only [factsL, cellsF, Nat.reduceAdd, zf, zl] at F13
 have K14 := K13.store 6 rfl 9 (.slice B4 kn q4)
 simp only [zl] at K14
 have F14 := K14.facts
 simp only [factsL, cellsF, Nat.reduceAdd, zf, zl] at F14
 have K15 := K14.store 6 rfl 10 (.slice B5 an q5)
 simp only [zl] at K15
 have F15 := K15.facts
 simp only [factsL, cellsF, Nat.reduceAdd, zf, zl] at F15
 have K16 := (((((((((((K15.store 7 rfl 0 (.string tn)).store 7 rfl 1 (.string tt)).store 7 rfl 2 (.bool tb)).store 7 rfl 3 (.int .i64 te)).store 7 rfl 4 (.slice B0 on q0)).store 7 rfl 5 (.bool tch)).store 7 rfl 6 (.slice B1 pn q1)).store 7 rfl 7 (.slice B2 qn q2)).store 7 rfl 8 (.slice B3 rn q3)).store 7 rfl 9 (.slice B4 kn q4)).store 7 rfl 10 (.slice B5 an q5))
 simp only [zl] at K16
 have F16 := K16.facts
 simp only [factsL, cellsF, Nat.reduceAdd, zf, zl] at F16
 have HR0 := hid ((K16.ro 5 rfl).less zm)
 have HR1 := hid ((K16.ro 4 rfl).less zm)
 have HR2 := hid ((K16.ro 3 rfl).less zm)
 have HR3 := hid ((K16.ro 2 rfl).less zm)
 have HR4 := hid ((K16.ro 1 rfl).less zm)
 have HR5 := hid ((K16.ro 0 rfl).less zm)
 have HB := hid K16.below
 clear K13 K14 K15 K16 HX rk4 rk5 HH1 HH2 HKN K12
 go_wp2_with fail
 refine bodyPost_ret (v := .agg #[.string tn, .string tt, .bool tb, .int .i64 te, .slice B0 on q0, .bool tch, .slice B1 pn q1, .slice B2 qn q2, .slice B3 rn q3, .slice B4 kn q4, .slice B5 an q5]) ?_ rfl ?_
 ·clear HR0 HR1 HR2 HR3 HR4 HR5 HB
  simp [results, Tryz.results214, go_sem, F16]
 ·exact ⟨⟨tn, tt, tb, te, ⟨B0, on, q0, ol⟩, tch, ⟨B1, pn, q1, pl⟩, ⟨B2, qn, q2, ql⟩, ⟨B3, rn, q3, rl⟩, ⟨B4, kn, q4, k4⟩, ⟨B5, an, q5, k5⟩⟩, rfl, ⟨HG.out.e, ⟨hq0, HG.out.o.2.1, HG.out.o.2.2⟩, ⟨hq1, HG.out.p.2.1, HG.out.p.2.2⟩, ⟨hq2, HG.out.f.2.1, HG.out.f.2.2⟩, ⟨hq3, HG.out.r.2.1, HG.out.r.2.2⟩, ⟨hq4, by have := len_of_map HK.out.1.1; have := HG.out.h.2.1; simp only at *; omega, HK.out.1.2⟩, ⟨hq5, by have := len_of_map HK.out.2.1; have := HG.out.a.2.1; simp only at *; omega, HK.out.2.2⟩⟩, ⟨rfl, rfl, rfl, rfl, rfl, rfl, HK.out.2.1⟩, ((HR0.out.and HR1.out).and ((HR2.out.and HR3.out).and (HR4.out.and HR5.out))).imp fun w2 h2 => ⟨⟨h2.1.1, fun _ _ => trivial⟩, ⟨h2.1.2, fun _ _ => trivial⟩, ⟨h2.2.1.1, fun _ _ => trivial⟩, ⟨h2.2.1.2, fun _ _ => trivial⟩, ⟨h2.2.2.1.1, h2.2.2.1.2⟩, ⟨h2.2.2.2.1, h2.2.2.2.2⟩⟩, HB.out⟩
end Go.Proofs.YtnbbllkbefagmaaGreatDoor

namespace Go.Proofs.YtnbbllkbefagmaaGreatDoor
open Go.RowKit
set_option linter.unusedVariables false
set_option linter.unusedSimpArgs false

structure Ed where
 f : Int
 t : Int
deriving DecidableEq
def Ed.cells (x : Ed) : List Value := [.int .i64 x.f, .int .i64 x.t]
def edCells (l : List Ed) : List Value := l.flatMap Ed.cells
theorem edCells_len (l : List Ed) : (edCells l).length = l.length * 2 := flat_len _ 2 (fun _ => rfl) l
def EdsIn (A : Option Addr) (n : Nat) (l : List Ed) : World → Prop := SlR 2 A n (edCells l)
theorem EdsIn.len {w : World} {A : Option Addr} {n : Nat} {l : List Ed} (h : EdsIn A n l w) : l.length = n := by
 have := (show Rd w w.heap.size 2 A n (edCells l) from h).1
 rw [edCells_len] at this
 omega
theorem EdsIn.at_ {w : World} {A : Option Addr} {n : Nat} {l : List Ed} (h : EdsIn A n l w) {k : Nat} {x : Ed} (hx : l[k]? = some x) :
  ∃ b o, A = some ⟨b, o, none⟩ ∧ b < w.heap.size ∧ w.cell? ⟨b, o + k * 2, none⟩ = some (.int .i64 x.f) ∧ w.cell? ⟨b, o + k * 2 + 1, none⟩ = some (.int .i64 x.t) := by
 have hk : k < n := by rw [← h.len]; exact (List.getElem?_eq_some_iff.1 hx).1
 obtain ⟨b, o, e, hb, hc⟩ := (show Rd w w.heap.size 2 A n (edCells l) from h).2 (by omega)
 exact ⟨b, o, e, hb, hc _ _ (flat_get Ed.cells 2 (fun _ => rfl) l k 0 x (by omega) hx), hc _ _ (flat_get Ed.cells 2 (fun _ => rfl) l k 1 x (by omega) hx)⟩
theorem Tryz.elEd : ElemT Tryz.prog 58 61 2 16 (.agg #[.int .i64 0, .int .i64 0]) := ⟨Tryz.underlying58, by kernel_rfl, rfl, by omega⟩
end Go.Proofs.YtnbbllkbefagmaaGreatDoor

namespace Go.Proofs.YtnbbllkbefagmaaGreatDoor
open Go.RowKit
set_option linter.unusedVariables false
set_option linter.unusedSimpArgs false
theorem take_nx {α : Type} {l : List α} {j : Nat} {x : α} (hx : l[j]? = some x) : l.take (j + 1) = l.take j ++ [x] := by
 obtain ⟨hl, e⟩ := List.getElem?_eq_some_iff.1 hx
 rw [List.take_succ_eq_append_getElem hl, e]
/-- a trigger in a list of which the graph is asked -/
structure TgEd (t : Tg) : Prop where
 b : t.before = true → TgGd 5 t
 c : t.cols.l.length ≤ 8
 a : t.acts.l.length ≤ 4
 s : ∀ a ∈ t.acts.l, a.sets.l.length ≤ 8
theorem TgGd.ed {t : Tg} (h : TgGd 5 t) : TgEd t := ⟨fun _ => h, h.o.2.1, h.a.2.1, fun a ha => (h.a.2.2 a ha).s.2.1⟩
/-- what of a copy matters -/
def kTg (t : Tg) : Bool × Bool × List ByteArray := (t.before, t.each, setCols t)
theorem setCols_fAc (t : Tg) : setCols t = (t.acts.l.map fAc).flatMap fun x => if x.1 = 5 then x.2.2 else [] := by
 unfold setCols
 rw [List.flatMap_map]
 rfl
theorem TgCp.k {t t' : Tg} (h : TgCp t t') : kTg t' = kTg t := by
 obtain ⟨_, _, h3, _, h5, _, h7⟩ := h
 unfold kTg
 rw [h3, h5, setCols_fAc, setCols_fAc, h7]
/-- an effect -/
structure Ef where
 tab : ByteArray
 ev : Int
 cols : SlP ByteArray
def Ef.cells (x : Ef) : List Value := [.string x.tab, .int .i64 x.ev, .slice x.cols.A x.cols.n x.cols.c]
def efCells (l : List Ef) : List Value := l.flatMap Ef.cells
theorem efCells_len (l : List Ef) : (efCells l).length = l.length * 3 := flat_len _ 3 (fun _ => rfl) l
theorem efCells_snoc (l : List Ef) (x : Ef) : efCells (l ++ [x]) = efCells l ++ x.cells := by simp [efCells]
def EfIn (x : Ef) (w : World) : Prop := StrsIn x.cols.A x.cols.n x.cols.l w
def EfsOf (l : List Ef) (w : World) : Prop := ∀ x ∈ l, EfIn x w
def EfsIn (A : Option Addr) (n : Nat) (l : List Ef) (w : World) : Prop := SlR 3 A n (efCells l) w ∧ EfsOf l w
theorem EfsIn.len {A : Option Addr} {n : Nat} {l : List Ef} {w : World} (h : EfsIn A n l w) : l.length = n := by
 have := (show Rd w w.heap.size 3 A n (efCells l) from h.1).1
 rw [efCells_len] at this
 omega
theorem EfsIn.at_ {w : World} {A : Option Addr} {n : Nat} {l : List Ef} (h : EfsIn A n l w) {k : Nat} {x : Ef} (hx : l[k]? = some x) :
  ∃ b o, A = some ⟨b, o, none⟩ ∧ b < w.heap.size ∧ w.cell? ⟨b, o + k * 3, none⟩ = some (.string x.tab) ∧ w.cell? ⟨b, o + k * 3 + 1, none⟩ = some (.int .i64 x.ev) ∧ w.cell? ⟨b, o + k * 3 + 2, none⟩ = some (.slice x.cols.A x.cols.n x.cols.c) := by
 have hk : k < n := by rw [← h.len]; exact (List.getElem?_eq_some_iff.1 hx).1
 obtain ⟨b, o, e, hb, hc⟩ := (show Rd w w.heap.size 3 A n (efCells l) from h.1).2 (by omega)
 exact ⟨b, o, e, hb, hc _ _ (flat_get Ef.cells 3 (fun _ => rfl) l k 0 x (by omega) hx), hc _ _ (flat_get Ef.cells 3 (fun _ => rfl) l k 1 x (by omega) hx), hc _ _ (flat_get Ef.cells 3 (fun _ => rfl) l k 2 x (by omega) hx)⟩
/-- does an effect make a trigger fire? -/
def efC (u : Tg) (x : Ef) : Bool := !u.before && decide (x.tab = u.tab) && decide (x.ev = u.event) && (decide (u.cols.l = []) || u.cols.l.any fun c => hasB x.cols.l c)
/-- the effect of an action -/
def EfA (ts : List Tg) (a : Ac) (x : Ef) : Prop := x.tab = a.tab ∧ x.ev = a.kind ∧ ((a.kind = 1 ∨ a.kind = 3) ∧ x.cols.l = [] ∨ a.kind = 2 ∧ ∀ s, s ∈ x.cols.l ↔ chgT ts a s = true)
theorem any_congrB {α : Type} {l : List α} {f g : α → Bool} (h : ∀ x, f x = g x) : l.any f = l.any g := by rw [show f = g from funext h]
theorem ef_cause {ts : List Tg} {a : Ac} {x : Ef} (h : EfA ts a x) (u : Tg) : efC u x = causeA ts u a := by
 obtain ⟨h1, h2, h3⟩ := h
 unfold efC causeA
 rw [h1, h2]
 rcases h3 with ⟨h3, h4⟩ | ⟨h3, h4⟩
 ·have e1 : (decide (a.kind = 1) || decide (a.kind = 2) || decide (a.kind = 3)) = true := by rcases h3 with h3 | h3 <;> simp [h3]
  have e2 : decide (a.kind = 2) = false := by rcases h3 with h3 | h3 <;> simp [h3]
  have e3 : (u.cols.l.any fun c => hasB x.cols.l c) = (u.cols.l.any fun c => decide (a.kind = 2) && chgT ts a c) := any_congrB fun c => by rw [h4, e2]; rfl
  rw [e1, e3]
  simp [Bool.and_assoc]
 ·have e1 : (decide (a.kind = 1) || decide (a.kind = 2) || decide (a.kind = 3)) = true := by simp [h3]
  have e2 : decide (a.kind = 2) = true := by simp [h3]
  have e3 : (u.cols.l.any fun c => hasB x.cols.l c) = (u.cols.l.any fun c => decide (a.kind = 2) && chgT ts a c) := any_congrB fun c => by
   rw [e2, Bool.true_and]
   exact Bool.eq_iff_iff.2 (hasB_iff.trans (h4 c))
  rw [e1, e3]
  simp [Bool.and_assoc]
/-- an action without an effect -/
theorem cause_none {ts : List Tg} {u : Tg} {a : Ac} (h1 : a.kind ≠ 1) (h2 : a.kind ≠ 2) (h3 : a.kind ≠ 3) : causeA ts u a = false := by
 unfold causeA; simp [h1, h2, h3]
def dmlB (a : Ac) : Bool := decide (a.kind = 1) || decide (a.kind = 2) || decide (a.kind = 3)
/-- the effects of actions -/
def EfsFor (ts : List Tg) (l : List Ac) (k : List Ef) : Prop := k.length = (l.filter dmlB).length ∧ ∀ u, k.any (efC u) = l.any (causeA ts u)
theorem efs_nil (ts : List Tg) : EfsFor ts [] [] := ⟨rfl, fun _ => rfl⟩
theorem efs_skip {ts : List Tg} {l : List Ac} {k : List Ef} {j : Nat} {a : Ac} (h : EfsFor ts (l.take j) k) (ha : l[j]? = some a) (h1 : a.kind ≠ 1) (h2 : a.kind ≠ 2) (h3 : a.kind ≠ 3) : EfsFor ts (l.take (j + 1)) k := by
 have e : l.take (j + 1) = l.take j ++ [a] := by rw [List.take_add_one, ha]; rfl
 refine ⟨?_, fun u => ?_⟩
 ·rw [e, List.filter_append, h.1]; simp [dmlB, h1, h2, h3]
 ·rw [e, List.any_append, h.2 u]; simp [cause_none h1 h2 h3]
theorem efs_next {ts : List Tg} {l : List Ac} {k : List Ef} {j : Nat} {a : Ac} {x : Ef} (h : EfsFor ts (l.take j) k) (ha : l[j]? = some a) (hx : EfA ts a x) : EfsFor ts (l.take (j + 1)) (k ++ [x]) := by
 have e : l.take (j + 1) = l.take j ++ [a] := by rw [List.take_add_one, ha]; rfl
 have hd : dmlB a = true := by
  unfold dmlB
  rcases hx.2.2 with ⟨h3 | h3, _⟩ | ⟨h3, _⟩ <;> simp [h3]
 refine ⟨?_, fun u => ?_⟩
 ·rw [e, List.filter_append, List.length_append, List.length_append, h.1]; simp [hd]
 ·rw [e, List.any_append, List.any_append, h.2 u]; simp [ef_cause hx u]
/-- edges as the program has them -/
def edI (p : Nat × Nat) : Ed := ⟨p.1, p.2⟩
theorem edge_at {ts : List Tg} {i k : Nat} {t u : Tg} (hi : ts[i]? = some t) (hk : ts[k]? = some u) : edgeI ts i k = edgeT ts t u := by unfold edgeI; rw [hi, hk]
/-- the edges as far as row i, and in it as far as k -/
def edgT (ts : List Tg) (i k : Nat) : List Ed := (((List.range i).flatMap fun i => ((List.range ts.length).filter (edgeI ts i)).map fun k => (i, k)) ++ ((List.range k).filter (edgeI ts i)).map fun k => (i, k)).map edI
theorem edgT_end (ts : List Tg) : edgT ts ts.length 0 = (edgesT ts).map edI := by simp [edgT, edgesT, eds]
theorem edgT_row (ts : List Tg) (i : Nat) : edgT ts i ts.length = edgT ts (i + 1) 0 := by simp [edgT, List.range_succ]
theorem edgT_yes {ts : List Tg} {i k : Nat} (h : edgeI ts i k = true) : edgT ts i (k + 1) = edgT ts i k ++ [⟨i, k⟩] := by simp [edgT, List.range_succ, h, edI]
theorem edgT_no {ts : List Tg} {i k : Nat} (h : edgeI ts i k = false) : edgT ts i (k + 1) = edgT ts i k := by simp [edgT, List.range_succ, h]
/-- the edges wanted once a trigger is gone -/
def wantL (ts : List Tg) (w j : Nat) : List Ed := (((edgesT ts).take j).filterMap (shiftE w)).map edI
theorem want_take {ts : List Tg} {j : Nat} {p : Nat × Nat} (hp : (edgesT ts)[j]? = some p) : (edgesT ts).take (j + 1) = (edgesT ts).take j ++ [p] := by rw [List.take_add_one, hp]; rfl
theorem want_skip {ts : List Tg} {w j : Nat} {p : Nat × Nat} (hp : (edgesT ts)[j]? = some p) (h : p.1 = w ∨ p.2 = w) : wantL ts w (j + 1) = wantL ts w j := by
 unfold wantL
 rw [want_take hp, List.filterMap_append]
 simp [shiftE, h]
theorem want_next {ts : List Tg} {w j : Nat} {p : Nat × Nat} (hp : (edgesT ts)[j]? = some p) (h : ¬ (p.1 = w ∨ p.2 = w)) : wantL ts w (j + 1) = wantL ts w j ++ [⟨dnI w p.1, dnI w p.2⟩] := by
 unfold wantL
 rw [want_take hp, List.filterMap_append]
 simp [shiftE, h, edI]
theorem want_end {ts : List Tg} {w : Nat} : wantL ts w (edgesT ts).length = ((edgesT ts).filterMap (shiftE w)).map edI := by unfold wantL; rw [List.take_length]
theorem dnI_le {w i : Nat} (h : i < w) : dnI w i = i := by unfold dnI; rw [if_neg (by omega)]
theorem dnI_gt {w i : Nat} (h : w < i) : ((dnI w i : Nat) : Int) = (i : Int) - 1 := by unfold dnI; rw [if_pos h]; omega
theorem got_in {ts : List Tg} {w j : Nat} (hw : w < ts.length) {x : Ed} (hx : ((edgesT (restT ts w)).map edI)[j]? = some x) : x ∈ wantL ts w (edgesT ts).length := by
 rw [want_end]
 have h := List.mem_of_getElem? hx
 rw [List.mem_map] at h ⊢
 obtain ⟨p, hp, rfl⟩ := h
 exact ⟨p, edges_sub hw p hp, rfl⟩
theorem got_eq {ts : List Tg} {w : Nat} (hw : w < ts.length) (hn : ¬ (ts[w].before = true ∧ ts[w].each = true)) : (edgesT (restT ts w)).map edI = wantL ts w (edgesT ts).length := by rw [want_end, edges_keep hw hn]
theorem edges_lt {ts : List Tg} {p : Nat × Nat} (h : p ∈ edgesT ts) : p.1 < ts.length ∧ p.2 < ts.length := by
 unfold edgesT eds at h
 rw [List.mem_flatMap] at h
 obtain ⟨i, hi, h⟩ := h
 rw [List.mem_map] at h
 obtain ⟨k, hk, rfl⟩ := h
 exact ⟨List.mem_range.1 hi, List.mem_range.1 (List.mem_filter.1 hk).1⟩
end Go.Proofs.YtnbbllkbefagmaaGreatDoor

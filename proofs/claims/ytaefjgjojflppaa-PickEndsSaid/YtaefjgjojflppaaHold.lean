/- A world described by items of memory: blocks known whole, rows that the call owns, a tape, and data that nobody writes. -/
import Derived.Test.YtaefjgjojflppaaTape
import Derived.Test.YtaefjgjojflppaaBoxes
import Derived.Deep.AppendLies
namespace Go.Proofs.Ytaefjgjojflppaa
open Go.RowKit
set_option linter.unusedVariables false

/-- An item of memory: a block known whole, a row that grows, a tape, or a statement on cells that are never written again. -/
inductive Hp where
  | blk (g : Nat) (t : TypeId) (cs : Array Value)
  | own (e : TypeId) (size : Nat) (v : Value) (n : Nat) (xs : List Value)
  | tp (T : Nat)
  | ro (S : World → Prop)
  | cst (g : Nat) (t : TypeId) (cs : Array Value)

/-- the block that the item may write -/
def Hp.foot : Hp → Option Nat
  | .blk g _ _ => some g
  | .own _ _ v _ _ => v.ownBlock
  | .tp T => some T
  | .ro _ => none
  | .cst _ _ _ => none

/-- the blocks that may be written: a caller's own (M), and those of the items -/
def Mut (M : Nat → Prop) (L : List Hp) (b : Nat) : Prop := M b ∨ ∃ h ∈ L, h.foot = some b

/-- S holds in w, and as long as nothing but the blocks of M and new ones turns -/
def Ro (w : World) (M : Nat → Prop) (S : World → Prop) : Prop :=
  ∀ w' : World, w.heap.size ≤ w'.heap.size → (∀ b, b < w.heap.size → ¬ M b → w'.heap[b]? = w.heap[b]?) → S w'

theorem Ro.now {w : World} {M : Nat → Prop} {S : World → Prop} (h : Ro w M S) : S w := h w (Nat.le_refl _) (fun _ _ _ => rfl)
theorem Ro.step {w w' : World} {M M' : Nat → Prop} {S : World → Prop} (h : Ro w M S) (hs : w.heap.size ≤ w'.heap.size) (hb : ∀ b, b < w.heap.size → ¬ M b → w'.heap[b]? = w.heap[b]?)
    (hM : ∀ b, b < w.heap.size → M' b → M b) : Ro w' M' S := fun w2 h1 h2 => h w2 (Nat.le_trans hs h1) fun b hbl hn => (h2 b (Nat.lt_of_lt_of_le hbl hs) (fun hm => hn (hM b hbl hm))).trans (hb b hbl hn)
theorem Ro.less {w : World} {M M' : Nat → Prop} {S : World → Prop} (h : Ro w M S) (hM : ∀ b, M' b → M b) : Ro w M' S := h.step (Nat.le_refl _) (fun _ _ _ => rfl) (fun b _ hb => hM b hb)
theorem Ro.imp {w : World} {M : Nat → Prop} {S S' : World → Prop} (h : Ro w M S) (hi : ∀ w, S w → S' w) : Ro w M S' := fun w2 h1 h2 => hi _ (h w2 h1 h2)
theorem Ro.and {w : World} {M : Nat → Prop} {S S' : World → Prop} (h : Ro w M S) (k : Ro w M S') : Ro w M (fun w => S w ∧ S' w) := fun w2 h1 h2 => ⟨h w2 h1 h2, k w2 h1 h2⟩
theorem Ro.below {w w' : World} {M : Nat → Prop} {S : World → Prop} (h : Ro w M S) (hb : Below w.heap.size w w') : Ro w' M S := h.step hb.size (fun b hl _ => hb.block b hl) (fun _ _ hm => hm)
theorem Ro.grown {w w' : World} {M : Nat → Prop} {S : World → Prop} {T : Nat} (h : Ro w M S) (hb : w.grownBy w' (some T)) (hT : M T) : Ro w' M S :=
  h.step hb.size (fun b hl hn => hb.block b hl (fun e => by injection e with e; subst e; exact hn hT)) (fun _ _ hm => hm)
theorem Ro.true_ {w : World} {M : Nat → Prop} {p : Prop} (h : p) : Ro w M (fun _ => p) := fun _ _ _ => h

def Hp.sat (B : Nat) (w : World) (M : Nat → Prop) : Hp → Prop
  | .blk g t cs => w.heap[g]? = some (.cells cs t (0, 0))
  | .own e size v n xs => w.ownsRow B e size v n xs
  | .tp T => Tp w T ∧ ∀ b, M b → T ≤ b
  | .ro S => Ro w M S
  | .cst g t cs => Ro w M (fun w => w.heap[g]? = some (.cells cs t (0, 0)))

/-- no two items may write one block -/
def Apart : List Hp → Prop
  | [] => True
  | h :: L => (∀ b, h.foot = some b → ∀ k ∈ L, k.foot ≠ some b) ∧ Apart L

/-- From w0 to w nothing turned but the block 'row' and new ones; the items of L hold in w. M: blocks of the caller's that it may write. -/
structure Hold (M : Nat → Prop) (row : Option Nat) (w0 w : World) (L : List Hp) : Prop where
  grow : w0.grownBy w row
  low : ∀ b, M b → b < w0.heap.size
  sat : ∀ h ∈ L, h.sat w0.heap.size w (Mut M L)
  fresh : ∀ h ∈ L, ∀ b, h.foot = some b → (w0.heap.size ≤ b ∨ (row = some b ∧ h = .tp b)) ∧ b < w.heap.size
  sep : Apart L

section
variable {M : Nat → Prop} {row : Option Nat} {w0 w w' : World} {L L' : List Hp}

theorem Hold.start (M : Nat → Prop) (w : World) (h : ∀ b, M b → b < w.heap.size) : Hold M none w w [] :=
  ⟨World.grownBy.refl _ _, h, (fun _ h => nomatch h), (fun _ h => nomatch h), trivial⟩
theorem Hold.startT (M : Nat → Prop) (w : World) (T : Nat) (h : ∀ b, M b → b < w.heap.size) (ht : Tp w T) (hM : ∀ b, M b → T ≤ b) : Hold M (some T) w w [.tp T] := by
  refine ⟨World.grownBy.refl _ _, h, fun k hm => ?_, fun k hm b hf => ?_, ⟨fun _ _ k hk => by simp at hk, trivial⟩⟩
  · simp only [List.mem_singleton] at hm; subst hm
    refine ⟨ht, fun b hb => ?_⟩
    rcases hb with hb | ⟨k, hm, hf⟩
    · exact hM b hb
    · simp only [List.mem_singleton] at hm; subst hm; injection hf with hf; omega
  · simp only [List.mem_singleton] at hm; subst hm; injection hf with hf; subst hf; exact ⟨.inr ⟨rfl, rfl⟩, ht.lt⟩

theorem Hold.mutLt (h : Hold M row w0 w L) : ∀ b, Mut M L b → b < w.heap.size := fun b hb => by
  rcases hb with hb | ⟨k, hk, hf⟩
  · exact Nat.lt_of_lt_of_le (h.low b hb) h.grow.size
  · exact (h.fresh k hk b hf).2
theorem Hold.below (h : Hold M none w0 w L) : Below w0.heap.size w0 w := ⟨h.grow.os, h.grow.tape, h.grow.output, h.grow.size, fun k hk => h.grow.block k hk (by simp)⟩
theorem mut_cons {k : Hp} {b : Nat} : Mut M (k :: L) b ↔ (k.foot = some b ∨ Mut M L b) := by
  unfold Mut; simp only [List.mem_cons, exists_eq_or_imp]
  constructor
  · rintro (h | h | h)
    · exact .inr (.inl h)
    · exact .inl h
    · exact .inr (.inr h)
  · rintro (h | h | h)
    · exact .inr (.inl h)
    · exact .inl h
    · exact .inr (.inr h)

/-- An item's truth over a step that leaves all that may not be written, and the item's own block. -/
theorem Hp.sat_step {B : Nat} {M M' : Nat → Prop} {k : Hp} (h : k.sat B w M) (hs : w.heap.size ≤ w'.heap.size) (hb : ∀ b, b < w.heap.size → ¬ M b → w'.heap[b]? = w.heap[b]?)
    (hM : ∀ b, b < w.heap.size → M' b → M b) (hT : ∀ b, k.foot = some b → w'.heap[b]? = w.heap[b]?) (hlow : ∀ T, k = .tp T → (∀ b, b < T → w'.heap[b]? = w.heap[b]?)) : k.sat B w' M' := by
  cases k with
  | blk g t cs => exact (hT g rfl).trans h
  | own e size v n xs =>
    refine ⟨h.1, ?_⟩
    rcases h.2 with hn | ⟨g, cap, cur, rfl, hb', hgg, rest⟩
    · exact .inl hn
    · exact .inr ⟨g, cap, cur, rfl, hb', (hT g rfl).trans hgg, rest⟩
  | tp T =>
    refine ⟨h.1.keep fun b hbT => ?_, fun b hb' => ?_⟩
    · rcases Nat.lt_or_ge b T with hlt | hge
      · exact hlow T rfl b hlt
      · obtain rfl : b = T := by omega
        exact hT b rfl
    · rcases Nat.lt_or_ge b w.heap.size with hlt | hge
      · exact h.2 b (hM b hlt hb')
      · have := h.1.lt; omega
  | ro S => exact h.step hs hb hM
  | cst g t cs => exact Ro.step h hs hb hM

/-- The step of a call that leaves old memory (and the caller's blocks). -/
theorem Hold.call (h : Hold M row w0 w L) (hb : Below w.heap.size w w') : Hold M row w0 w' L :=
  ⟨only_below h.grow hb, h.low,
   fun k hk => Hp.sat_step (k := k) (h.sat k hk) hb.size (fun b hl _ => hb.block b hl) (fun _ _ hm => hm) (fun b hf => hb.block b (h.fresh k hk b hf).2)
     (fun T hT b hlt => by
        have := h.fresh k hk T (by subst hT; rfl)
        exact hb.block b (by omega)),
   fun k hk b hf => ⟨(h.fresh k hk b hf).1, Nat.lt_of_lt_of_le (h.fresh k hk b hf).2 hb.size⟩, h.sep⟩

theorem Hold.drew (h : Hold M row w0 w L) : Hold M row w0 w.drew L :=
  ⟨only_drew h.grow, h.low, fun k hk => Hp.sat_step (k := k) (h.sat k hk) (Nat.le_refl _) (fun _ _ _ => rfl) (fun _ _ hm => hm) (fun _ _ => rfl) (fun _ _ _ _ => rfl), h.fresh, h.sep⟩
theorem Hold.drewN (h : Hold M row w0 w L) (n : Nat) : Hold M row w0 (w.drewN n) L :=
  ⟨only_drewN h.grow n, h.low, fun k hk => Hp.sat_step (k := k) (h.sat k hk) (Nat.le_refl _) (fun _ _ _ => rfl) (fun _ _ hm => hm) (fun _ _ => rfl) (fun _ _ _ _ => rfl), h.fresh, h.sep⟩

/-- A new block. -/
theorem Hold.alloc (h : Hold M row w0 w L) (cs : Array Value) (t : TypeId) : Hold M row w0 (w.alloc (.cells cs t)) (.blk w.heap.size t cs :: L) := by
  have hsz : (w.alloc (.cells cs t)).heap.size = w.heap.size + 1 := by simp
  have hMM : ∀ b, b < w.heap.size → Mut M (.blk w.heap.size t cs :: L) b → Mut M L b := fun b hl hm => by
    rcases mut_cons.1 hm with hf | hm
    · injection hf with hf; omega
    · exact hm
  refine ⟨only_alloc h.grow _, h.low, fun k hk => ?_, fun k hk b hf => ?_, ⟨fun b hf k hk he => ?_, h.sep⟩⟩
  · rcases List.mem_cons.1 hk with rfl | hk
    · exact heap_alloc_new w _
    · exact Hp.sat_step (k := k) (h.sat k hk) (by omega) (fun b hl _ => Below.heap_alloc w _ b hl) hMM (fun b hf => Below.heap_alloc w _ b (h.fresh k hk b hf).2)
        (fun T hT b hlt => by
          have := h.fresh k hk T (by subst hT; rfl)
          exact Below.heap_alloc w _ b (by omega))
  · rcases List.mem_cons.1 hk with rfl | hk
    · injection hf with hf; subst hf; exact ⟨.inl h.grow.size, by omega⟩
    · exact ⟨(h.fresh k hk b hf).1, by have := (h.fresh k hk b hf).2; omega⟩
  · injection hf with hf; subst hf
    have := (h.fresh k hk _ he).2; omega

/-- An item that may be written is replaced by one of the same block, or of a new one; a step of the world that turns nothing but that block. -/
theorem Apart.mem (h : Apart L) {i j : Nat} {a b : Hp} (hi : L[i]? = some a) (hj : L[j]? = some b) (hij : i ≠ j) {x : Nat} (ha : a.foot = some x) : b.foot ≠ some x := by
  induction L generalizing i j with
  | nil => cases hi
  | cons c L ih =>
    obtain ⟨h1, h2⟩ := h
    cases i with
    | zero =>
      cases j with
      | zero => exact absurd rfl hij
      | succ j => simp only [List.getElem?_cons_zero, Option.some.injEq] at hi; subst hi; exact h1 x ha b (List.mem_of_getElem? (by simpa using hj))
    | succ i =>
      cases j with
      | zero =>
        simp only [List.getElem?_cons_zero, Option.some.injEq] at hj; subst hj
        intro hb
        exact h1 x hb a (List.mem_of_getElem? (by simpa using hi)) ha
      | succ j => exact ih h2 (by simpa using hi) (by simpa using hj) (fun e => hij (by omega))
theorem apart_of (h : ∀ (i j : Nat) (a b : Hp), L[i]? = some a → L[j]? = some b → i ≠ j → ∀ x, a.foot = some x → b.foot ≠ some x) : Apart L := by
  induction L with
  | nil => trivial
  | cons c L ih =>
    refine ⟨fun x hx k hk => ?_, ih fun i j a b hi hj hij => h (i + 1) (j + 1) a b (by simpa using hi) (by simpa using hj) (by omega)⟩
    obtain ⟨n, hn⟩ := List.getElem?_of_mem hk
    exact h 0 (n + 1) c k rfl (by simpa using hn) (by omega) x hx

theorem set_get {k : Hp} {i j : Nat} {a : Hp} (h : (L.set i k)[j]? = some a) : (i = j ∧ a = k) ∨ (i ≠ j ∧ L[j]? = some a) := by
  by_cases e : i = j
  · subst e
    left
    rw [List.getElem?_set] at h
    simp only [if_true] at h
    split at h
    · injection h with h; exact ⟨rfl, h.symm⟩
    · cases h
  · right
    rw [List.getElem?_set, if_neg e] at h
    exact ⟨e, h⟩

theorem Hold.turn (h : Hold M row w0 w L) (i : Nat) {k k' : Hp} (hi : L[i]? = some k) (hsz : w.heap.size ≤ w'.heap.size) (hos : w'.os = w.os ∧ w'.tape = w.tape ∧ w'.output = w.output)
    (hb : ∀ b, b < w.heap.size → k.foot ≠ some b → w'.heap[b]? = w.heap[b]?)
    (hf : ∀ b, k'.foot = some b → (k.foot = some b ∨ w.heap.size ≤ b) ∧ b < w'.heap.size)
    (hs : k'.sat w0.heap.size w' (Mut M (L.set i k'))) (hnt : ∀ T, k = .tp T → k' = .tp T) : Hold M row w0 w' (L.set i k') := by
  have hkm : k ∈ L := List.mem_of_getElem? hi
  have hMM : ∀ b, b < w.heap.size → Mut M (L.set i k') b → Mut M L b := fun b hl hm => by
    rcases hm with hm | ⟨a, ha, hfa⟩
    · exact .inl hm
    · obtain ⟨j, hj⟩ := List.getElem?_of_mem ha
      rcases set_get hj with ⟨rfl, rfl⟩ | ⟨_, hj⟩
      · rcases (hf b hfa).1 with h1 | h1
        · exact .inr ⟨k, hkm, h1⟩
        · omega
      · exact .inr ⟨a, List.mem_of_getElem? hj, hfa⟩
  have hkM : ∀ b, k.foot = some b → Mut M L b := fun b hb => .inr ⟨k, hkm, hb⟩
  refine ⟨⟨hos.1.trans h.grow.os, hos.2.1.trans h.grow.tape, hos.2.2.trans h.grow.output, Nat.le_trans h.grow.size hsz, fun b hl hne => ?_⟩, h.low, fun a ha => ?_, fun a ha b hfa => ?_, ?_⟩
  · refine (hb b (Nat.lt_of_lt_of_le hl h.grow.size) fun hk => ?_).trans (h.grow.block b hl hne)
    rcases (h.fresh k hkm b hk).1 with h1 | h1
    · omega
    · exact hne h1.1.symm
  · obtain ⟨j, hj⟩ := List.getElem?_of_mem ha
    rcases set_get hj with ⟨rfl, rfl⟩ | ⟨hij, hj⟩
    · exact hs
    · have ham := List.mem_of_getElem? hj
      refine Hp.sat_step (k := a) (h.sat a ham) hsz (fun b hl hn => hb b hl fun hk => hn (hkM b hk)) hMM (fun b hfb => hb b (h.fresh a ham b hfb).2 (h.sep.mem hj hi (fun e => hij e.symm) hfb)) (fun T hT b hlt => ?_)
      subst hT
      have h1 := (h.fresh _ ham T rfl).2
      refine hb b (by omega) fun hk => ?_
      have h2 := (h.sat _ ham).2 b (hkM b hk)
      omega
  · obtain ⟨j, hj⟩ := List.getElem?_of_mem ha
    rcases set_get hj with ⟨rfl, rfl⟩ | ⟨hij, hj⟩
    · obtain ⟨h1, h2⟩ := hf b hfa
      rcases h1 with h1 | h1
      · refine ⟨?_, h2⟩
        rcases (h.fresh k hkm b h1).1 with h3 | ⟨h3, h4⟩
        · exact .inl h3
        · exact .inr ⟨h3, hnt b h4⟩
      · exact ⟨.inl (Nat.le_trans h.grow.size h1), h2⟩
    · have ham := List.mem_of_getElem? hj
      exact ⟨(h.fresh a ham b hfa).1, Nat.lt_of_lt_of_le (h.fresh a ham b hfa).2 hsz⟩
  · refine apart_of fun x y a b hx hy hxy g hg => ?_
    rcases set_get hx with ⟨rfl, rfl⟩ | ⟨hix, hx'⟩ <;> rcases set_get hy with ⟨rfl, rfl⟩ | ⟨hiy, hy'⟩
    · exact absurd rfl hxy
    · rcases (hf g hg).1 with h1 | h1
      · exact h.sep.mem hi hy' hxy h1
      · intro he; have := (h.fresh b (List.mem_of_getElem? hy') g he).2; omega
    · intro he
      rcases (hf g he).1 with h1 | h1
      · exact h.sep.mem hx' hi hxy hg h1
      · have := (h.fresh a (List.mem_of_getElem? hx') g hg).2; omega
    · exact h.sep.mem hx' hy' hxy hg

/-- A store into a block that is known whole. -/
theorem Hold.store (h : Hold M row w0 w L) (i : Nat) {g : Nat} {t : TypeId} {cs : Array Value} (hi : L[i]? = some (.blk g t cs)) (j : Nat) (u : Value) :
    Hold M row w0 (w.setCell ⟨g, j, none⟩ u) (L.set i (.blk g t (cs.setIfInBounds j u))) := by
  have hkm := List.mem_of_getElem? hi
  refine h.turn i hi (by simp [World.setCell]) ⟨rfl, rfl, rfl⟩ (fun b _ hne => Below.heap_setCell w _ u b fun e => hne (by rw [e]; rfl)) (fun b hf => ?_) (blk_set (h.sat _ hkm) j u) (fun T hT => by cases hT)
  have : some g = some b := hf
  injection this with this
  subst this
  exact ⟨.inl rfl, by have := (h.fresh _ hkm g rfl).2; simpa [World.setCell] using this⟩

/-- A store into an own row (below its length). -/
theorem Hold.put_ (h : Hold M row w0 w L) (i : Nat) {e : TypeId} {size n cap g : Nat} {xs : List Value} (hi : L[i]? = some (.own e size (.slice (some ⟨g, 0, none⟩) n cap) n xs)) (j : Nat) (u : Value) :
    Hold M row w0 (w.setCell ⟨g, j, none⟩ u) (L.set i (.own e size (.slice (some ⟨g, 0, none⟩) n cap) n (xs.set j u))) := by
  have hkm := List.mem_of_getElem? hi
  have hs := World.ownsRow.stored (h.sat _ hkm) j u
  refine h.turn i hi (by simp [World.setCell]) ⟨rfl, rfl, rfl⟩ (fun b _ hne => Below.heap_setCell w _ u b fun e => hne (by rw [e]; rfl)) (fun b hf => ?_) hs.1 (fun T hT => by cases hT)
  have : some g = some b := hf
  injection this with this
  subst this
  exact ⟨.inl rfl, by have := (h.fresh _ hkm g rfl).2; simpa [World.setCell] using this⟩

/-- An append to an own row. -/
theorem Hold.append (h : Hold M row w0 w L) (i : Nat) {e : TypeId} {size n n' g cap : Nat} {v : Value} {xs ys : List Value} (hi : L[i]? = some (.own e size v n xs))
    (ho : w'.ownsRow w0.heap.size e size (.slice (some ⟨g, 0, none⟩) n' cap) n' ys) (hg : w.grownBy w' v.ownBlock) (hd : v.ownBlock = some g ∨ w.heap.size ≤ g) (hl : g < w'.heap.size) :
    Hold M row w0 w' (L.set i (.own e size (.slice (some ⟨g, 0, none⟩) n' cap) n' ys)) := by
  refine h.turn i hi hg.size ⟨hg.os, hg.tape, hg.output⟩ (fun b hl hne => hg.block b hl fun e => hne e.symm) (fun b hf => ?_) ho (fun T hT => by cases hT)
  have : some g = some b := hf
  injection this with this
  subst this
  exact ⟨hd, hl⟩

/-- A call that turns the tape. -/
theorem Hold.callT (h : Hold M row w0 w L) (i : Nat) {T : Nat} (hi : L[i]? = some (.tp T)) (hg : w.grownBy w' (some T)) (ht : Tp w' T) : Hold M row w0 w' L := by
  have hkm := List.mem_of_getElem? hi
  have hlt := (h.fresh _ hkm T rfl).2
  have := h.turn (k' := .tp T) i hi hg.size ⟨hg.os, hg.tape, hg.output⟩ (fun b hl hne => hg.block b hl fun e => hne e.symm) (fun b hf => ⟨.inl hf, by
    injection hf with hf; subst hf; exact Nat.lt_of_lt_of_le hlt hg.size⟩) ⟨ht, fun b hb => by
      have hb' : Mut M L b := by
        rcases hb with hb | ⟨a, ha, hfa⟩
        · exact .inl hb
        · obtain ⟨j, hj⟩ := List.getElem?_of_mem ha
          rcases set_get hj with ⟨rfl, rfl⟩ | ⟨_, hj⟩
          · exact .inr ⟨_, hkm, hfa⟩
          · exact .inr ⟨a, List.mem_of_getElem? hj, hfa⟩
      exact (h.sat _ hkm).2 b hb'⟩ (fun T' hT' => by injection hT' with hT'; rw [hT'])
  have e : L.set i (.tp T) = L := by
    apply List.ext_getElem?
    intro j
    rw [List.getElem?_set]
    split
    · subst i; split
      · exact hi.symm
      · rw [List.getElem?_eq_none (by omega)]
    · rfl
  rwa [e] at this

/-- More is known. -/
theorem Hold.add (h : Hold M row w0 w L) {S : World → Prop} (hr : Ro w (Mut M L) S) : Hold M row w0 w (.ro S :: L) := by
  have e : ∀ b, Mut M (.ro S :: L) b → Mut M L b := fun b hb => by
    rcases mut_cons.1 hb with hf | hm
    · cases hf
    · exact hm
  refine ⟨h.grow, h.low, fun k hk => ?_, fun k hk b hf => ?_, ⟨(fun b hf => nomatch hf), h.sep⟩⟩
  · rcases List.mem_cons.1 hk with rfl | hk
    · exact hr.less e
    · exact Hp.sat_step (k := k) (h.sat k hk) (Nat.le_refl _) (fun _ _ _ => rfl) (fun b _ hb => e b hb) (fun _ _ => rfl) (fun _ _ _ _ => rfl)
  · rcases List.mem_cons.1 hk with rfl | hk
    · cases hf
    · exact h.fresh k hk b hf

/-- A row of the call's own, empty. -/
theorem Hold.nil (h : Hold M row w0 w L) (e : TypeId) (size : Nat) : Hold M row w0 w (.own e size (.slice none 0 0) 0 [] :: L) := by
  have ee : ∀ b, Mut M (.own e size (.slice none 0 0) 0 [] :: L) b → Mut M L b := fun b hb => by
    rcases mut_cons.1 hb with hf | hm
    · cases hf
    · exact hm
  refine ⟨h.grow, h.low, fun k hk => ?_, fun k hk b hf => ?_, ⟨(fun b hf => nomatch hf), h.sep⟩⟩
  · rcases List.mem_cons.1 hk with rfl | hk
    · exact World.ownsRow_nil _ _ _ _
    · exact Hp.sat_step (k := k) (h.sat k hk) (Nat.le_refl _) (fun _ _ _ => rfl) (fun b _ hb => ee b hb) (fun _ _ => rfl) (fun _ _ _ _ => rfl)
  · rcases List.mem_cons.1 hk with rfl | hk
    · cases hf
    · exact h.fresh k hk b hf

/-- A new block taken for an own row: a literal, or what make laid. -/
theorem Hold.alloc_own (h : Hold M row w0 w L) (cs : Array Value) (t : TypeId) (size n : Nat) (hm : n ≤ maxLen) (hs : cs.size = n * size) :
    Hold M row w0 (w.alloc (.cells cs t)) (.own t size (.slice (some ⟨w.heap.size, 0, none⟩) n n) n cs.toList :: L) := by
  have h1 := h.alloc cs t
  exact h1.turn (k' := .own t size (.slice (some ⟨w.heap.size, 0, none⟩) n n) n cs.toList) 0 rfl (Nat.le_refl _) ⟨rfl, rfl, rfl⟩ (fun _ _ _ => rfl) (fun b hf => ⟨.inl hf, (h1.fresh _ (List.mem_cons_self ..) b hf).2⟩)
    (World.ownsRow_lit w cs n h.grow.size hm hs) (fun T hT => by cases hT)

/-- Less is known. -/
theorem Hold.drop (h : Hold M row w0 w L) (hL : List.Sublist L' L) : Hold M row w0 w L' := by
  have e : ∀ b, Mut M L' b → Mut M L b := fun b hb => by
    rcases hb with hb | ⟨k, hk, hf⟩
    · exact .inl hb
    · exact .inr ⟨k, hL.subset hk, hf⟩
  refine ⟨h.grow, h.low, fun k hk => Hp.sat_step (k := k) (h.sat k (hL.subset hk)) (Nat.le_refl _) (fun _ _ _ => rfl) (fun b _ hb => e b hb) (fun _ _ => rfl) (fun _ _ _ _ => rfl), fun k hk => h.fresh k (hL.subset hk), ?_⟩
  have h1 := h.sep
  clear h e
  induction hL with
  | slnil => trivial
  | cons _ _ ih => exact ih h1.2
  | cons_cons a hs ih => exact ⟨fun b hb k hk => h1.1 b hb k (hs.subset hk), ih h1.2⟩

/-- An item that may be written is laid down for good: whatever its block says. -/
theorem Hold.sealTo (h : Hold M row w0 w L) (i : Nat) {k k' : Hp} (hi : L[i]? = some k) (hk : ∀ T, k ≠ .tp T) (hk' : k'.foot = none) {S : World → Prop}
    (hS : ∀ w2 : World, k.sat w0.heap.size w (Mut M L) → (∀ b, k.foot = some b → w2.heap[b]? = w.heap[b]?) → S w2) (hs : Ro w (Mut M (L.set i k')) S → k'.sat w0.heap.size w (Mut M (L.set i k'))) : Hold M row w0 w (L.set i k') := by
  have hkm := List.mem_of_getElem? hi
  refine h.turn i hi (Nat.le_refl _) ⟨rfl, rfl, rfl⟩ (fun _ _ _ => rfl) (fun b hf => by rw [hk'] at hf; cases hf) (hs ?_) (fun T hT => absurd hT (hk T))
  intro w2 h1 h2
  refine hS w2 (h.sat k hkm) fun b hf => h2 b (h.fresh k hkm b hf).2 ?_
  rintro (hm | ⟨a, ha, hfa⟩)
  · rcases (h.fresh k hkm b hf).1 with h3 | ⟨h3, h4⟩
    · have := h.low b hm; omega
    · exact absurd h4 (hk b)
  · obtain ⟨j, hj⟩ := List.getElem?_of_mem ha
    rcases set_get hj with ⟨rfl, rfl⟩ | ⟨hij, hj⟩
    · rw [hk'] at hfa; cases hfa
    · exact h.sep.mem hi hj hij hf hfa
theorem Hold.seal (h : Hold M row w0 w L) (i : Nat) {k : Hp} (hi : L[i]? = some k) (hk : ∀ T, k ≠ .tp T) {S : World → Prop}
    (hS : ∀ w2 : World, k.sat w0.heap.size w (Mut M L) → (∀ b, k.foot = some b → w2.heap[b]? = w.heap[b]?) → S w2) : Hold M row w0 w (L.set i (.ro S)) :=
  h.sealTo i hi hk rfl hS id
/-- A block that will not be written again. -/
theorem Hold.fix_ (h : Hold M row w0 w L) (i : Nat) {g : Nat} {t : TypeId} {cs : Array Value} (hi : L[i]? = some (.blk g t cs)) : Hold M row w0 w (L.set i (.cst g t cs)) :=
  h.sealTo i hi (fun T e => nomatch e) rfl (S := fun w => w.heap[g]? = some (.cells cs t (0, 0))) (fun w2 h1 h2 => (h2 g rfl).trans h1) id
/-- A new block that will not be written again. -/
theorem Hold.alloc_cst (h : Hold M row w0 w L) (cs : Array Value) (t : TypeId) : Hold M row w0 (w.alloc (.cells cs t)) (.cst w.heap.size t cs :: L) := (h.alloc cs t).fix_ 0 rfl
/-- A new tape, where nothing that may be written is known. -/
theorem Hold.newTape (h : Hold M row w0 w L) {T : Nat} (hb : Below w.heap.size w w') (ht : Tp w' T) (hT : w.heap.size ≤ T) (hm : ∀ b, ¬ Mut M L b) : Hold M row w0 w' (.tp T :: L) := by
  have h1 := h.call hb
  have hM : ∀ b, Mut M (.tp T :: L) b → b = T := fun b hb => by
    rcases mut_cons.1 hb with hf | hm'
    · injection hf with hf; exact hf.symm
    · exact absurd hm' (hm b)
  have hfo : ∀ k ∈ L, ∀ b, k.foot ≠ some b := fun k hk b hf => hm b (.inr ⟨k, hk, hf⟩)
  refine ⟨h1.grow, h.low, fun k hk => ?_, fun k hk b hf => ?_, ⟨fun b _ k hk => hfo k hk b, h.sep⟩⟩
  · rcases List.mem_cons.1 hk with rfl | hk
    · exact ⟨ht, fun b hb => by rw [hM b hb]; exact Nat.le_refl _⟩
    · exact Hp.sat_step (k := k) (h.sat k hk) hb.size (fun b hl _ => hb.block b hl) (fun b hl hm' => by have := hM b hm'; omega) (fun b hf => absurd hf (hfo k hk b)) (fun T' hT' => absurd (by rw [hT']; rfl) (hfo k hk T'))
  · rcases List.mem_cons.1 hk with rfl | hk
    · injection hf with hf; subst hf; exact ⟨.inl (Nat.le_trans h.grow.size hT), ht.lt⟩
    · exact absurd hf (hfo k hk b)
end
/-- The cells of a block, one by one: what the walk reads. -/
def cellsF (w : World) (g : Nat) : Nat → List Value → Prop
  | _, [] => True
  | i, x :: r => w.cell? ⟨g, i, none⟩ = some x ∧ w.frozen? ⟨g, i, none⟩ = false ∧ cellsF w g (i + 1) r
def factsL (w : World) : List Hp → Prop
  | [] => True
  | .blk g t cs :: L => g < w.heap.size ∧ cellsF w g 0 cs.toList ∧ factsL w L
  | .own _ _ _ _ _ :: L => factsL w L
  | .tp _ :: L => factsL w L
  | .ro _ :: L => factsL w L
  | .cst g t cs :: L => g < w.heap.size ∧ cellsF w g 0 cs.toList ∧ factsL w L
theorem cellsF_of {w : World} {g : Nat} {t : TypeId} {cs : Array Value} (h : w.heap[g]? = some (.cells cs t (0, 0))) : ∀ (l : List Value) (i : Nat), (∀ j, l[j]? = cs[i + j]?) → cellsF w g i l
  | [], _, _ => trivial
  | x :: r, i, hl => by
    refine ⟨?_, frozen_blk h i, cellsF_of h r (i + 1) fun j => ?_⟩
    · rw [cell_of_row w g i cs t (0, 0) h]; exact (hl 0).symm
    · have := hl (j + 1); rw [show i + 1 + j = i + (j + 1) from by omega]; simpa using this
theorem factsL_of {w : World} {B : Nat} {M : Nat → Prop} : ∀ {L : List Hp}, (∀ h ∈ L, h.sat B w M) → (∀ h ∈ L, ∀ b, h.foot = some b → b < w.heap.size) → factsL w L
  | [], _, _ => trivial
  | .blk g t cs :: L, h, k => ⟨k _ (List.mem_cons_self ..) g rfl, cellsF_of (h _ (List.mem_cons_self ..)) cs.toList 0 (by simp), factsL_of (fun a ha => h a (List.mem_cons_of_mem _ ha)) (fun a ha => k a (List.mem_cons_of_mem _ ha))⟩
  | .own .. :: L, h, k => factsL_of (L := L) (fun a ha => h a (List.mem_cons_of_mem _ ha)) (fun a ha => k a (List.mem_cons_of_mem _ ha))
  | .tp _ :: L, h, k => factsL_of (L := L) (fun a ha => h a (List.mem_cons_of_mem _ ha)) (fun a ha => k a (List.mem_cons_of_mem _ ha))
  | .ro _ :: L, h, k => factsL_of (L := L) (fun a ha => h a (List.mem_cons_of_mem _ ha)) (fun a ha => k a (List.mem_cons_of_mem _ ha))
  | .cst g t cs :: L, h, k => by
    have h1 : w.heap[g]? = some (.cells cs t (0, 0)) := Ro.now (show Ro w M (fun w => w.heap[g]? = some (.cells cs t (0, 0))) from h _ (List.mem_cons_self ..))
    refine ⟨?_, cellsF_of h1 cs.toList 0 (by simp), factsL_of (fun a ha => h a (List.mem_cons_of_mem _ ha)) (fun a ha => k a (List.mem_cons_of_mem _ ha))⟩
    rcases Nat.lt_or_ge g w.heap.size with hlt | hge
    · exact hlt
    · rw [Array.getElem?_eq_none hge] at h1; cases h1
theorem Hold.facts {M : Nat → Prop} {row : Option Nat} {w0 w : World} {L : List Hp} (h : Hold M row w0 w L) : factsL w L := factsL_of h.sat fun a ha b hb => (h.fresh a ha b hb).2
/-- The blocks differ. -/
def neF (g : Nat) : List Hp → Prop
  | [] => True
  | .blk g' _ _ :: L => ¬ g = g' ∧ ¬ g' = g ∧ neF g L
  | .own _ _ _ _ _ :: L => neF g L
  | .tp T :: L => ¬ g = T ∧ ¬ T = g ∧ neF g L
  | .ro _ :: L => neF g L
  | .cst _ _ _ :: L => neF g L
def nesL : List Hp → Prop
  | [] => True
  | .blk g _ _ :: L => neF g L ∧ nesL L
  | .own _ _ _ _ _ :: L => nesL L
  | .tp T :: L => neF T L ∧ nesL L
  | .ro _ :: L => nesL L
  | .cst _ _ _ :: L => nesL L
theorem neF_of {g : Nat} : ∀ {L : List Hp}, (∀ k ∈ L, k.foot ≠ some g) → neF g L
  | [], _ => trivial
  | .blk g' _ _ :: L, h => ⟨fun e => h _ (List.mem_cons_self ..) (by rw [e]; rfl), fun e => h _ (List.mem_cons_self ..) (by rw [← e]; rfl), neF_of fun k hk => h k (List.mem_cons_of_mem _ hk)⟩
  | .own .. :: L, h => neF_of (L := L) fun k hk => h k (List.mem_cons_of_mem _ hk)
  | .tp T :: L, h => ⟨fun e => h _ (List.mem_cons_self ..) (by rw [e]; rfl), fun e => h _ (List.mem_cons_self ..) (by rw [← e]; rfl), neF_of fun k hk => h k (List.mem_cons_of_mem _ hk)⟩
  | .ro _ :: L, h => neF_of (L := L) fun k hk => h k (List.mem_cons_of_mem _ hk)
  | .cst .. :: L, h => neF_of (L := L) fun k hk => h k (List.mem_cons_of_mem _ hk)
theorem nesL_of : ∀ {L : List Hp}, Apart L → nesL L
  | [], _ => trivial
  | .blk g _ _ :: L, h => ⟨neF_of (h.1 g rfl), nesL_of h.2⟩
  | .own .. :: L, h => nesL_of (L := L) h.2
  | .tp T :: L, h => ⟨neF_of (h.1 T rfl), nesL_of h.2⟩
  | .ro _ :: L, h => nesL_of (L := L) h.2
  | .cst .. :: L, h => nesL_of (L := L) h.2
theorem Hold.nes {M : Nat → Prop} {row : Option Nat} {w0 w : World} {L : List Hp} (h : Hold M row w0 w L) : nesL L := nesL_of h.sep
/-- an item by its place -/
theorem Hold.get {M : Nat → Prop} {row : Option Nat} {w0 w : World} {L : List Hp} (h : Hold M row w0 w L) (i : Nat) {k : Hp} (hi : L[i]? = some k) : k.sat w0.heap.size w (Mut M L) := h.sat k (List.mem_of_getElem? hi)
theorem Hold.ro {M : Nat → Prop} {row : Option Nat} {w0 w : World} {L : List Hp} (h : Hold M row w0 w L) (i : Nat) {S : World → Prop} (hi : L[i]? = some (.ro S)) : Ro w (Mut M L) S := h.get i hi
theorem Hold.cst_ {M : Nat → Prop} {row : Option Nat} {w0 w : World} {L : List Hp} (h : Hold M row w0 w L) (i : Nat) {g : Nat} {t : TypeId} {cs : Array Value} (hi : L[i]? = some (.cst g t cs)) : Blk w g t cs := Ro.now (S := fun w => w.heap[g]? = some (.cells cs t (0, 0))) (h.get i hi)
theorem Hold.blk_ {M : Nat → Prop} {row : Option Nat} {w0 w : World} {L : List Hp} (h : Hold M row w0 w L) (i : Nat) {g : Nat} {t : TypeId} {cs : Array Value} (hi : L[i]? = some (.blk g t cs)) : Blk w g t cs := h.get i hi
theorem Hold.tp_ {M : Nat → Prop} {row : Option Nat} {w0 w : World} {L : List Hp} (h : Hold M row w0 w L) (i : Nat) {T : Nat} (hi : L[i]? = some (.tp T)) : Tp w T := (h.get i hi).1
theorem Hold.roOut {M : Nat → Prop} {row : Option Nat} {w0 w : World} {L : List Hp} (h : Hold M row w0 w L) (i : Nat) {S : World → Prop} (hi : L[i]? = some (.ro S)) : Ro w M S := (h.ro i hi).less fun b hb => .inl hb
/-- no block of a caller's that may be written -/
def None_ (b : Nat) : Prop := False
theorem Hold.begin_ (w : World) : Hold None_ none w w [] := Hold.start None_ w (fun b hb => hb.elim)
end Go.Proofs.Ytaefjgjojflppaa

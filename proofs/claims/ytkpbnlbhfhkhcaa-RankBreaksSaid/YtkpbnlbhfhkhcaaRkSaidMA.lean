/- RkFn2: rank.constant. -/
import Derived.Below
import Derived.Laws.OwnMore
import Derived.Deep.AppendLies
import Derived.Deep.Draws
import Derived.Deep.QuietTactic
import Derived.WalkKit
import Derived.Test.YtkpbnlbhfhkhcaaProg
import Derived.WalkSpells
import Derived.BigQuiet
import Derived.WalkLawsBesides
import Derived.Maps.AppendAt
import Derived.OwnWalk
import Derived.Laws.MakeOwn
import Derived.StillTailTactics
import Derived.Deep.LoopGhost
import Derived.StillTail
import Derived.Tactics
import Derived.KernelRfl
import Derived.Deep.DeepCutAuto
import Derived.IntWalk
namespace Go.Proofs.Ytkpbnlbhfhkhcaa
open Go.RowKit
set_option linter.unusedVariables false

theorem hid {p : Prop} (h : p) : Hid p := h
def I64 (x : Int) : Prop := -9223372036854775808 ≤ x ∧ x ≤ 9223372036854775807
def Ints (zs : List Int) : Prop := ∀ x ∈ zs, I64 x
theorem Ints.at_ {zs : List Int} (h : Ints zs) (k : Nat) : I64 (zs.getD k 0) := by
  by_cases hk : k < zs.length
  · simp only [List.getD, List.getElem?_eq_getElem hk, Option.getD_some]; exact h _ (List.getElem_mem hk)
  · simp [List.getD, List.getElem?_eq_none (Nat.le_of_not_lt hk), I64]
/-- The slice with address A, n elements of 'size' cells each, reads as the cells xs, all of them in blocks below B. -/
def Rd (w : World) (B size : Nat) (A : Option Addr) (n : Nat) (xs : List Value) : Prop :=
  xs.length = n * size ∧ (0 < n → ∃ b o, A = some ⟨b, o, none⟩ ∧ b < B ∧ ∀ j u, xs[j]? = some u → w.cell? ⟨b, o + j, none⟩ = some u)

section
variable {w w' : World} {B B' size n : Nat} {A : Option Addr} {xs : List Value}
theorem Rd.none_ : Rd w B size A 0 [] := ⟨by simp, fun h => absurd h (by omega)⟩
theorem Rd.keep (h : Rd w B size A n xs) (hk : ∀ p : Addr, p.block < B → w'.cell? p = w.cell? p) : Rd w' B size A n xs :=
  ⟨h.1, fun hn => by
    obtain ⟨b, o, e, hb, hc⟩ := h.2 hn
    exact ⟨b, o, e, hb, fun j u hu => (hk _ hb).trans (hc j u hu)⟩⟩
theorem Rd.more (h : Rd w B size A n xs) (hB : B ≤ B') : Rd w B' size A n xs :=
  ⟨h.1, fun hn => by
    obtain ⟨b, o, e, hb, hc⟩ := h.2 hn
    exact ⟨b, o, e, by omega, hc⟩⟩
theorem Rd.below (h : Rd w B size A n xs) (hb : Below B' w w') (hB : B ≤ B') : Rd w' B size A n xs := h.keep fun _ hp => hb.cell (by omega)
theorem Rd.alloc (h : Rd w B size A n xs) (hB : B ≤ w.heap.size) (o : Obj) : Rd (w.alloc o) B size A n xs := h.keep fun p hp => World.cell?_alloc_lt w o p (by omega)
theorem Rd.drew (h : Rd w B size A n xs) : Rd w.drew B size A n xs := h
theorem Rd.drewN (h : Rd w B size A n xs) (k : Nat) : Rd (w.drewN k) B size A n xs := h
theorem Rd.setCell (h : Rd w B size A n xs) {p : Addr} (hB : B ≤ p.block) (u : Value) : Rd (w.setCell p u) B size A n xs :=
  h.keep fun q hq => World.cell?_setCell_other w p q u (fun e => by subst e; omega)
theorem Rd.of_own {base : Nat} {e : TypeId} {c : Nat} (h : w.ownsRow base e size (.slice A n c) n xs) : Rd w w.heap.size size A n xs := by
  refine ⟨h.1, fun hn => ?_⟩
  obtain ⟨g, cap, hv, _, hlt⟩ := h.form hn
  have hA : A = some ⟨g, 0, none⟩ := by injection hv
  subst hA
  refine ⟨g, 0, rfl, hlt, fun j u hu => ?_⟩
  have := h.cells (g := g) rfl j u hu
  rwa [Addr.add_lit] at this
end

/-- A block that has just been laid reads as its cells. -/
theorem Rd.lit (w : World) (cs : Array Value) (E : TypeId) {size n : Nat} {xs : List Value} (h : cs.toList = xs) (hn : xs.length = n * size) : Rd (w.alloc (.cells cs E)) (w.heap.size + 1) size (some ⟨w.heap.size, 0, none⟩) n xs := by
  subst h
  refine ⟨hn, fun _ => ⟨_, _, rfl, by omega, fun j u hu => ?_⟩⟩
  have := cell_of_row (w.alloc (.cells cs E)) w.heap.size j cs E (0, 0) (heap_alloc_new w _)
  rw [Nat.zero_add, this]
  simpa using hu

theorem only_drewN {a w : World} {row : Option Nat} (h : a.grownBy w row) (n : Nat) : a.grownBy (w.drewN n) row := ⟨h.os, h.tape, h.output, h.size, h.block⟩
theorem only_drew {a w : World} {row : Option Nat} (h : a.grownBy w row) : a.grownBy w.drew row := ⟨h.os, h.tape, h.output, h.size, h.block⟩
theorem only_alloc {a w : World} {row : Option Nat} (h : a.grownBy w row) (o : Obj) : a.grownBy (w.alloc o) row :=
  ⟨h.os, h.tape, h.output, Nat.le_trans h.size (by simp), fun i hi hne => (Below.heap_alloc w o i (Nat.lt_of_lt_of_le hi h.size)).trans (h.block i hi hne)⟩
theorem only_of_below {a w : World} (h : Below a.heap.size a w) (row : Option Nat) : a.grownBy w row := ⟨h.os, h.tape, h.output, h.size, fun i hi _ => h.block i hi⟩
theorem only_trans {a b c : World} {row : Option Nat} (h : a.grownBy b row) (k : b.grownBy c row) : a.grownBy c row :=
  ⟨k.os.trans h.os, k.tape.trans h.tape, k.output.trans h.output, Nat.le_trans h.size k.size, fun i hi hn => (k.block i (Nat.lt_of_lt_of_le hi h.size) hn).trans (h.block i hi hn)⟩
theorem only_below {a b c : World} {row : Option Nat} (h : a.grownBy b row) (k : Below b.heap.size b c) : a.grownBy c row := only_trans h (only_of_below k row)

/-- An own row keeps when another row is written. -/
theorem own_form {w : World} {base : Nat} {e : TypeId} {size : Nat} {v : Value} {n : Nat} {xs : List Value} (h : w.ownsRow base e size v n xs) : ∃ A c, v = .slice A n c := by
  obtain ⟨_, h | ⟨g, cap, _, h, _⟩⟩ := h
  · obtain ⟨rfl, rfl⟩ := h; exact ⟨_, _, rfl⟩
  · exact ⟨_, _, h⟩

theorem frozen_blk {w : World} {g : Nat} {t : TypeId} {cs : Array Value} (h : w.heap[g]? = some (.cells cs t (0, 0))) (i : Nat) : w.frozen? ⟨g, i, none⟩ = false := by simp [World.frozen?, h]
theorem blk_set {w : World} {g : Nat} {t : TypeId} {cs : Array Value} {fr : Nat × Nat} (h : w.heap[g]? = some (.cells cs t fr)) (i : Nat) (u : Value) : (w.setCell ⟨g, i, none⟩ u).heap[g]? = some (.cells (cs.setIfInBounds i u) t fr) := by
  simp [World.setCell, Array.getElem?_modify, h]

end Go.Proofs.Ytkpbnlbhfhkhcaa

namespace Go.Proofs.Ytkpbnlbhfhkhcaa
open Go.RowKit
set_option linter.unusedVariables false

/-- Block T is a tape: a list of numbers that lies in older blocks, and a place in it. -/
def Tp (w : World) (T : Nat) : Prop :=
  ∃ (A : Option Addr) (n c p : Nat) (zs : List Int), w.heap[T]? = some (.cells #[.slice A n c, .int .i64 p] 0 (0, 0)) ∧ p ≤ n ∧ n ≤ 500 ∧ Rd w T 1 A n (zs.map (Value.int .i64)) ∧ Ints zs

theorem Tp.lt {w : World} {T : Nat} (h : Tp w T) : T < w.heap.size := by
  obtain ⟨A, n, c, p, zs, h, _⟩ := h
  rcases Nat.lt_or_ge T w.heap.size with hlt | hge
  · exact hlt
  · rw [Array.getElem?_eq_none hge] at h; cases h
theorem Tp.keep {w w' : World} {T : Nat} (h : Tp w T) (hk : ∀ k, k ≤ T → w'.heap[k]? = w.heap[k]?) : Tp w' T := by
  obtain ⟨A, n, c, p, zs, h1, h2, h3, h4, h5⟩ := h
  exact ⟨A, n, c, p, zs, (hk T (Nat.le_refl _)).trans h1, h2, h3, h4.keep fun q hq => World.cell?_of_block (w := w) (hk q.block (by omega)), h5⟩
theorem Tp.below {w w' : World} {T B : Nat} (h : Tp w T) (hb : Below B w w') (hT : T < B) : Tp w' T := h.keep fun k hk => hb.block k (by omega)
theorem Tp.alloc {w : World} {T : Nat} (h : Tp w T) (o : Obj) : Tp (w.alloc o) T := h.keep fun k hk => Below.heap_alloc w o k (by have := h.lt; omega)
theorem Tp.drew {w : World} {T : Nat} (h : Tp w T) : Tp w.drew T := h
theorem Tp.drewN {w : World} {T : Nat} (h : Tp w T) (n : Nat) : Tp (w.drewN n) T := h
theorem Tp.setCell {w : World} {T : Nat} (h : Tp w T) {p : Addr} (hp : T < p.block) (u : Value) : Tp (w.setCell p u) T := h.keep fun k hk => Below.heap_setCell w p u k (by omega)

theorem mod_eq (v n : Int) (h : 0 < n) : (if v.tmod n < 0 then v.tmod n + n else v.tmod n) = v % n := by
  have h1 : -n < v.tmod n := Int.lt_tmod_of_pos v h
  have h2 : v.tmod n < n := Int.tmod_lt_of_pos v h
  have h3 : v = n * (v.tdiv n) + v.tmod n := (Int.mul_tdiv_add_tmod v n).symm
  split
  · rename_i hlt
    have : v = (v.tmod n + n) + n * (v.tdiv n - 1) := by rw [Int.mul_sub, Int.mul_one]; omega
    conv => rhs; rw [this]
    rw [Int.add_mul_emod_self_left, Int.emod_eq_of_lt (by omega) (by omega)]
  · conv => rhs; rw [h3]
    rw [Int.add_comm, Int.add_mul_emod_self_left, Int.emod_eq_of_lt (by omega) (by omega)]

theorem ret_i64 {a b : Int} (h : a = b) : Ending.returned (.int .i64 a) = .returned (.int .i64 b) := by rw [h]

set_option maxHeartbeats 400000 in
theorem wmod_any (v n : Int) (w : World) (hv : I64 v) (h0 : 0 < n) (h1 : n ≤ 9223372036854775807) :
    Calls Try.prog 4 #[.int .i64 v, .int .i64 n] w fun e w' => e = .returned (.int .i64 (v % n)) ∧ w = w' := by
  have hm := mod_eq v n h0
  have b1 : -n < v.tmod n := Int.lt_tmod_of_pos v h0
  have b2 : v.tmod n < n := Int.tmod_lt_of_pos v h0
  have hn : (n == 0) = false := by simp; omega
  obtain ⟨t, ht, ht'⟩ : ∃ t, IntKind.i64.wrap (v.tmod n) = t ∧ v.tmod n = t := ⟨_, IntWalk.i64_in _ (by omega), rfl⟩
  rw [ht'] at hm b1 b2
  obtain ⟨hv0, hv1⟩ := hv
  by_cases hlt : t < 0
  · have HM : Hid (t + n = v % n) := by rw [if_pos hlt] at hm; exact hm
    clear hm
    go_enter Try.func4, Try.ntmps4
    go_wp2
    go_ret
    exact ⟨ret_i64 HM.out, rfl⟩
  · have HM : Hid (t = v % n) := by rw [if_neg hlt] at hm; exact hm
    clear hm
    go_enter Try.func4, Try.ntmps4
    go_wp2
    go_ret
    exact ⟨ret_i64 HM.out, rfl⟩

end Go.Proofs.Ytkpbnlbhfhkhcaa

namespace Go.Proofs.Ytkpbnlbhfhkhcaa
open Go.RowKit
set_option linter.unusedVariables false

def Blk (w : World) (g : Nat) (t : TypeId) (cs : Array Value) : Prop := w.heap[g]? = some (.cells cs t (0, 0))

section
variable {w w' w1 : World} {g : Nat} {t : TypeId} {cs : Array Value}
theorem Blk.lt (h : Blk w g t cs) : g < w.heap.size := by
  rcases Nat.lt_or_ge g w.heap.size with hlt | hge
  · exact hlt
  · unfold Blk at h; rw [Array.getElem?_eq_none hge] at h; cases h
theorem Blk.cell (h : Blk w g t cs) (i : Nat) : w.cell? ⟨g, i, none⟩ = cs[i]? := cell_of_row w g i cs t (0, 0) h
theorem Blk.frozen (h : Blk w g t cs) (i : Nat) : w.frozen? ⟨g, i, none⟩ = false := frozen_blk h i
theorem Blk.new (w : World) (t : TypeId) (cs : Array Value) : Blk (w.alloc (.cells cs t)) w.heap.size t cs := heap_alloc_new w _
theorem Blk.alloc (h : Blk w g t cs) (o : Obj) : Blk (w.alloc o) g t cs := (Below.heap_alloc w o g h.lt).trans h
theorem Blk.below {B : Nat} (h : Blk w g t cs) (hb : Below B w w') (hg : g < B) : Blk w' g t cs := (hb.block g hg).trans h
theorem Blk.over (h : Blk w g t cs) (hb : Below w.heap.size w w') : Blk w' g t cs := h.below hb h.lt
theorem Blk.far (h : Blk w g t cs) {p : Addr} (hp : g ≠ p.block) (u : Value) : Blk (w.setCell p u) g t cs := (Below.heap_setCell w p u g hp).trans h
theorem Blk.drew (h : Blk w g t cs) : Blk w.drew g t cs := h
theorem Blk.drewN (h : Blk w g t cs) (n : Nat) : Blk (w.drewN n) g t cs := h
/-- three cells -/
theorem Blk.c3 {x y z : Value} (h : Blk w g t #[x, y, z]) : w.cell? ⟨g, 0, none⟩ = some x ∧ w.cell? ⟨g, 1, none⟩ = some y ∧ w.cell? ⟨g, 2, none⟩ = some z ∧ g < w.heap.size := ⟨h.cell 0, h.cell 1, h.cell 2, h.lt⟩
end
theorem ext1 (w : World) (o : Obj) : Below w.heap.size w (w.alloc o) := (Below.refl _ _).alloc (Nat.le_refl _) _
end Go.Proofs.Ytkpbnlbhfhkhcaa

namespace Go.Proofs.Ytkpbnlbhfhkhcaa
open Go.RowKit
set_option linter.unusedVariables false

/-- An item of memory: a block known whole, a row that grows, a tape, or a statement on cells that are never written again. -/
inductive Hp where
  | blk (g : Nat) (t : TypeId) (cs : Array Value)
  | own (e : TypeId) (size : Nat) (v : Value) (n : Nat) (xs : List Value)
  | tp (T : Nat)
  | ro (S : World → Prop)
  | cst (g : Nat) (t : TypeId) (cs : Array Value)
  | ob (g : Nat) (F : World → Prop)

/-- the block that the item may write -/
def Hp.foot : Hp → Option Nat
  | .blk g _ _ => some g
  | .own _ _ v _ _ => v.ownBlock
  | .tp T => some T
  | .ro _ => none
  | .cst _ _ _ => none
  | .ob g _ => some g

/-- the blocks that may be written: a caller's own (M), and those of the items -/
def Mut (M : Nat → Prop) (L : List Hp) (b : Nat) : Prop := M b ∨ ∃ h ∈ L, h.foot = some b

/-- S holds in w, and as long as nothing but the blocks of M and new ones turns -/
def Ro (w : World) (M : Nat → Prop) (S : World → Prop) : Prop :=
  ∀ w' : World, w.heap.size ≤ w'.heap.size → (∀ b, b < w.heap.size → ¬ M b → w'.heap[b]? = w.heap[b]?) → S w'

theorem Ro.now {w : World} {M : Nat → Prop} {S : World → Prop} (h : Ro w M S) : S w := h w (Nat.le_refl _) (fun _ _ _ => rfl)
theorem Ro.step {w w' : World} {M M' : Nat → Prop} {S : World → Prop} (h : Ro w M S) (hs : w.heap.size ≤ w'.heap.size) (hb : ∀ b, b < w.heap.size → ¬ M b → w'.heap[b]? = w.heap[b]?)
    (hM : ∀ b, b < w.heap.size → M' b → M b) : Ro w' M' S := fun w2 h1 h2 => h w2 (Nat.le_trans hs h1) fun b hbl hn => (h2 b (Nat.lt_of_lt_of_le hbl hs) (fun hm => hn (hM b hbl hm))).trans (hb b hbl hn)
theorem Ro.less {w : World} {M M' : Nat → Prop} {S : World → Prop} (h : Ro w M S) (hM : ∀ b, M' b → M b) : Ro w M' S := h.step (Nat.le_refl _) (fun _ _ _ => rfl) (fun b _ hb => hM b hb)
theorem Ro.imp {w : World} {M : Nat → Prop} {S S' : World → Prop} (h : Ro w M S) (hi : ∀ w, S w → S' w) : Ro w M S' := fun w2 h1 h2 => hi _ (h w2 h1 h2)
theorem Ro.and {w : World} {M : Nat → Prop} {S S' : World → Prop} (h : Ro w M S) (k : Ro w M S') : Ro w M (fun w => S w ∧ S' w) := fun w2 h1 h2 => ⟨h w2 h1 h2, k w2 h1 h2⟩
theorem Ro.below {w w' : World} {M : Nat → Prop} {S : World → Prop} (h : Ro w M S) (hb : Below w.heap.size w w') : Ro w' M S := h.step hb.size (fun b hl _ => hb.block b hl) (fun _ _ hm => hm)
def Hp.sat (B : Nat) (w : World) (M : Nat → Prop) : Hp → Prop
  | .blk g t cs => w.heap[g]? = some (.cells cs t (0, 0))
  | .own e size v n xs => w.ownsRow B e size v n xs
  | .tp T => Tp w T ∧ ∀ b, M b → T ≤ b
  | .ro S => Ro w M S
  | .cst g t cs => Ro w M (fun w => w.heap[g]? = some (.cells cs t (0, 0)))
  | .ob g F => ∀ w' : World, w'.heap[g]? = w.heap[g]? → F w'

/-- no two items may write one block -/
def Apart : List Hp → Prop
  | [] => True
  | h :: L => (∀ b, h.foot = some b → ∀ k ∈ L, k.foot ≠ some b) ∧ Apart L

/-- From w0 to w nothing turned but the block 'row' and new ones; the items of L hold in w. M: blocks of the caller's that it may write. -/
structure Hold (M : Nat → Prop) (row : Option Nat) (w0 w : World) (L : List Hp) : Prop where
  grow : w0.grownBy w row
  low : ∀ b, M b → b < w0.heap.size
  sat : ∀ h ∈ L, h.sat w0.heap.size w (Mut M L)
  fresh : ∀ h ∈ L, ∀ b, h.foot = some b → (w0.heap.size ≤ b ∨ (row = some b ∧ h = .tp b)) ∧ b < w.heap.size
  sep : Apart L

section
variable {M : Nat → Prop} {row : Option Nat} {w0 w w' : World} {L L' : List Hp}

theorem Hold.start (M : Nat → Prop) (w : World) (h : ∀ b, M b → b < w.heap.size) : Hold M none w w [] :=
  ⟨World.grownBy.refl _ _, h, (fun _ h => nomatch h), (fun _ h => nomatch h), trivial⟩
theorem Hold.mutLt (h : Hold M row w0 w L) : ∀ b, Mut M L b → b < w.heap.size := fun b hb => by
  rcases hb with hb | ⟨k, hk, hf⟩
  · exact Nat.lt_of_lt_of_le (h.low b hb) h.grow.size
  · exact (h.fresh k hk b hf).2
theorem Hold.below (h : Hold M none w0 w L) : Below w0.heap.size w0 w := ⟨h.grow.os, h.grow.tape, h.grow.output, h.grow.size, fun k hk => h.grow.block k hk (by simp)⟩
theorem mut_cons {k : Hp} {b : Nat} : Mut M (k :: L) b ↔ (k.foot = some b ∨ Mut M L b) := by
  unfold Mut; simp only [List.mem_cons, exists_eq_or_imp]
  constructor
  · rintro (h | h | h)
    · exact .inr (.inl h)
    · exact .inl h
    · exact .inr (.inr h)
  · rintro (h | h | h)
    · exact .inr (.inl h)
    · exact .inl h
    · exact .inr (.inr h)

/-- An item's truth over a step that leaves all that may not be written, and the item's own block. -/
theorem Hp.sat_step {B : Nat} {M M' : Nat → Prop} {k : Hp} (h : k.sat B w M) (hs : w.heap.size ≤ w'.heap.size) (hb : ∀ b, b < w.heap.size → ¬ M b → w'.heap[b]? = w.heap[b]?)
    (hM : ∀ b, b < w.heap.size → M' b → M b) (hT : ∀ b, k.foot = some b → w'.heap[b]? = w.heap[b]?) (hlow : ∀ T, k = .tp T → (∀ b, b < T → w'.heap[b]? = w.heap[b]?)) : k.sat B w' M' := by
  cases k with
  | blk g t cs => exact (hT g rfl).trans h
  | own e size v n xs =>
    refine ⟨h.1, ?_⟩
    rcases h.2 with hn | ⟨g, cap, cur, rfl, hb', hgg, rest⟩
    · exact .inl hn
    · exact .inr ⟨g, cap, cur, rfl, hb', (hT g rfl).trans hgg, rest⟩
  | tp T =>
    refine ⟨h.1.keep fun b hbT => ?_, fun b hb' => ?_⟩
    · rcases Nat.lt_or_ge b T with hlt | hge
      · exact hlow T rfl b hlt
      · obtain rfl : b = T := by omega
        exact hT b rfl
    · rcases Nat.lt_or_ge b w.heap.size with hlt | hge
      · exact h.2 b (hM b hlt hb')
      · have := h.1.lt; omega
  | ro S => exact h.step hs hb hM
  | cst g t cs => exact Ro.step h hs hb hM
  | ob g F => exact fun w2 h2 => h w2 (h2.trans (hT g rfl))

/-- The step of a call that leaves old memory (and the caller's blocks). -/
theorem Hold.call (h : Hold M row w0 w L) (hb : Below w.heap.size w w') : Hold M row w0 w' L :=
  ⟨only_below h.grow hb, h.low,
   fun k hk => Hp.sat_step (k := k) (h.sat k hk) hb.size (fun b hl _ => hb.block b hl) (fun _ _ hm => hm) (fun b hf => hb.block b (h.fresh k hk b hf).2)
     (fun T hT b hlt => by
        have := h.fresh k hk T (by subst hT; rfl)
        exact hb.block b (by omega)),
   fun k hk b hf => ⟨(h.fresh k hk b hf).1, Nat.lt_of_lt_of_le (h.fresh k hk b hf).2 hb.size⟩, h.sep⟩

theorem Hold.drew (h : Hold M row w0 w L) : Hold M row w0 w.drew L :=
  ⟨only_drew h.grow, h.low, fun k hk => Hp.sat_step (k := k) (h.sat k hk) (Nat.le_refl _) (fun _ _ _ => rfl) (fun _ _ hm => hm) (fun _ _ => rfl) (fun _ _ _ _ => rfl), h.fresh, h.sep⟩
theorem Hold.drewN (h : Hold M row w0 w L) (n : Nat) : Hold M row w0 (w.drewN n) L :=
  ⟨only_drewN h.grow n, h.low, fun k hk => Hp.sat_step (k := k) (h.sat k hk) (Nat.le_refl _) (fun _ _ _ => rfl) (fun _ _ hm => hm) (fun _ _ => rfl) (fun _ _ _ _ => rfl), h.fresh, h.sep⟩

/-- A new block. -/
theorem Hold.alloc (h : Hold M row w0 w L) (cs : Array Value) (t : TypeId) : Hold M row w0 (w.alloc (.cells cs t)) (.blk w.heap.size t cs :: L) := by
  have hsz : (w.alloc (.cells cs t)).heap.size = w.heap.size + 1 := by simp
  have hMM : ∀ b, b < w.heap.size → Mut M (.blk w.heap.size t cs :: L) b → Mut M L b := fun b hl hm => by
    rcases mut_cons.1 hm with hf | hm
    · injection hf with hf; omega
    · exact hm
  refine ⟨only_alloc h.grow _, h.low, fun k hk => ?_, fun k hk b hf => ?_, ⟨fun b hf k hk he => ?_, h.sep⟩⟩
  · rcases List.mem_cons.1 hk with rfl | hk
    · exact heap_alloc_new w _
    · exact Hp.sat_step (k := k) (h.sat k hk) (by omega) (fun b hl _ => Below.heap_alloc w _ b hl) hMM (fun b hf => Below.heap_alloc w _ b (h.fresh k hk b hf).2)
        (fun T hT b hlt => by
          have := h.fresh k hk T (by subst hT; rfl)
          exact Below.heap_alloc w _ b (by omega))
  · rcases List.mem_cons.1 hk with rfl | hk
    · injection hf with hf; subst hf; exact ⟨.inl h.grow.size, by omega⟩
    · exact ⟨(h.fresh k hk b hf).1, by have := (h.fresh k hk b hf).2; omega⟩
  · injection hf with hf; subst hf
    have := (h.fresh k hk _ he).2; omega

/-- An item that may be written is replaced by one of the same block, or of a new one; a step of the world that turns nothing but that block. -/
theorem Apart.mem (h : Apart L) {i j : Nat} {a b : Hp} (hi : L[i]? = some a) (hj : L[j]? = some b) (hij : i ≠ j) {x : Nat} (ha : a.foot = some x) : b.foot ≠ some x := by
  induction L generalizing i j with
  | nil => cases hi
  | cons c L ih =>
    obtain ⟨h1, h2⟩ := h
    cases i with
    | zero =>
      cases j with
      | zero => exact absurd rfl hij
      | succ j => simp only [List.getElem?_cons_zero, Option.some.injEq] at hi; subst hi; exact h1 x ha b (List.mem_of_getElem? (by simpa using hj))
    | succ i =>
      cases j with
      | zero =>
        simp only [List.getElem?_cons_zero, Option.some.injEq] at hj; subst hj
        intro hb
        exact h1 x hb a (List.mem_of_getElem? (by simpa using hi)) ha
      | succ j => exact ih h2 (by simpa using hi) (by simpa using hj) (fun e => hij (by omega))
theorem apart_of (h : ∀ (i j : Nat) (a b : Hp), L[i]? = some a → L[j]? = some b → i ≠ j → ∀ x, a.foot = some x → b.foot ≠ some x) : Apart L := by
  induction L with
  | nil => trivial
  | cons c L ih =>
    refine ⟨fun x hx k hk => ?_, ih fun i j a b hi hj hij => h (i + 1) (j + 1) a b (by simpa using hi) (by simpa using hj) (by omega)⟩
    obtain ⟨n, hn⟩ := List.getElem?_of_mem hk
    exact h 0 (n + 1) c k rfl (by simpa using hn) (by omega) x hx

theorem set_get {k : Hp} {i j : Nat} {a : Hp} (h : (L.set i k)[j]? = some a) : (i = j ∧ a = k) ∨ (i ≠ j ∧ L[j]? = some a) := by
  by_cases e : i = j
  · subst e
    left
    rw [List.getElem?_set] at h
    simp only [if_true] at h
    split at h
    · injection h with h; exact ⟨rfl, h.symm⟩
    · cases h
  · right
    rw [List.getElem?_set, if_neg e] at h
    exact ⟨e, h⟩

theorem Hold.turn (h : Hold M row w0 w L) (i : Nat) {k k' : Hp} (hi : L[i]? = some k) (hsz : w.heap.size ≤ w'.heap.size) (hos : w'.os = w.os ∧ w'.tape = w.tape ∧ w'.output = w.output)
    (hb : ∀ b, b < w.heap.size → k.foot ≠ some b → w'.heap[b]? = w.heap[b]?)
    (hf : ∀ b, k'.foot = some b → (k.foot = some b ∨ w.heap.size ≤ b) ∧ b < w'.heap.size)
    (hs : k'.sat w0.heap.size w' (Mut M (L.set i k'))) (hnt : ∀ T, k = .tp T → k' = .tp T) : Hold M row w0 w' (L.set i k') := by
  have hkm : k ∈ L := List.mem_of_getElem? hi
  have hMM : ∀ b, b < w.heap.size → Mut M (L.set i k') b → Mut M L b := fun b hl hm => by
    rcases hm with hm | ⟨a, ha, hfa⟩
    · exact .inl hm
    · obtain ⟨j, hj⟩ := List.getElem?_of_mem ha
      rcases set_get hj with ⟨rfl, rfl⟩ | ⟨_, hj⟩
      · rcases (hf b hfa).1 with h1 | h1
        · exact .inr ⟨k, hkm, h1⟩
        · omega
      · exact .inr ⟨a, List.mem_of_getElem? hj, hfa⟩
  have hkM : ∀ b, k.foot = some b → Mut M L b := fun b hb => .inr ⟨k, hkm, hb⟩
  refine ⟨⟨hos.1.trans h.grow.os, hos.2.1.trans h.grow.tape, hos.2.2.trans h.grow.output, Nat.le_trans h.grow.size hsz, fun b hl hne => ?_⟩, h.low, fun a ha => ?_, fun a ha b hfa => ?_, ?_⟩
  · refine (hb b (Nat.lt_of_lt_of_le hl h.grow.size) fun hk => ?_).trans (h.grow.block b hl hne)
    rcases (h.fresh k hkm b hk).1 with h1 | h1
    · omega
    · exact hne h1.1.symm
  · obtain ⟨j, hj⟩ := List.getElem?_of_mem ha
    rcases set_get hj with ⟨rfl, rfl⟩ | ⟨hij, hj⟩
    · exact hs
    · have ham := List.mem_of_getElem? hj
      refine Hp.sat_step (k := a) (h.sat a ham) hsz (fun b hl hn => hb b hl fun hk => hn (hkM b hk)) hMM (fun b hfb => hb b (h.fresh a ham b hfb).2 (h.sep.mem hj hi (fun e => hij e.symm) hfb)) (fun T hT b hlt => ?_)
      subst hT
      have h1 := (h.fresh _ ham T rfl).2
      refine hb b (by omega) fun hk => ?_
      have h2 := (h.sat _ ham).2 b (hkM b hk)
      omega
  · obtain ⟨j, hj⟩ := List.getElem?_of_mem ha
    rcases set_get hj with ⟨rfl, rfl⟩ | ⟨hij, hj⟩
    · obtain ⟨h1, h2⟩ := hf b hfa
      rcases h1 with h1 | h1
      · refine ⟨?_, h2⟩
        rcases (h.fresh k hkm b h1).1 with h3 | ⟨h3, h4⟩
        · exact .inl h3
        · exact .inr ⟨h3, hnt b h4⟩
      · exact ⟨.inl (Nat.le_trans h.grow.size h1), h2⟩
    · have ham := List.mem_of_getElem? hj
      exact ⟨(h.fresh a ham b hfa).1, Nat.lt_of_lt_of_le (h.fresh a ham b hfa).2 hsz⟩
  · refine apart_of fun x y a b hx hy hxy g hg => ?_
    rcases set_get hx with ⟨rfl, rfl⟩ | ⟨hix, hx'⟩ <;> rcases set_get hy with ⟨rfl, rfl⟩ | ⟨hiy, hy'⟩
    · exact absurd rfl hxy
    · rcases (hf g hg).1 with h1 | h1
      · exact h.sep.mem hi hy' hxy h1
      · intro he; have := (h.fresh b (List.mem_of_getElem? hy') g he).2; omega
    · intro he
      rcases (hf g he).1 with h1 | h1
      · exact h.sep.mem hx' hi hxy hg h1
      · have := (h.fresh a (List.mem_of_getElem? hx') g hg).2; omega
    · exact h.sep.mem hx' hy' hxy hg

/-- A store into a block that is known whole. -/
theorem Hold.store (h : Hold M row w0 w L) (i : Nat) {g : Nat} {t : TypeId} {cs : Array Value} (hi : L[i]? = some (.blk g t cs)) (j : Nat) (u : Value) :
    Hold M row w0 (w.setCell ⟨g, j, none⟩ u) (L.set i (.blk g t (cs.setIfInBounds j u))) := by
  have hkm := List.mem_of_getElem? hi
  refine h.turn i hi (by simp [World.setCell]) ⟨rfl, rfl, rfl⟩ (fun b _ hne => Below.heap_setCell w _ u b fun e => hne (by rw [e]; rfl)) (fun b hf => ?_) (blk_set (h.sat _ hkm) j u) (fun T hT => by cases hT)
  have : some g = some b := hf
  injection this with this
  subst this
  exact ⟨.inl rfl, by have := (h.fresh _ hkm g rfl).2; simpa [World.setCell] using this⟩

/-- An append to an own row. -/
theorem Hold.append (h : Hold M row w0 w L) (i : Nat) {e : TypeId} {size n n' g cap : Nat} {v : Value} {xs ys : List Value} (hi : L[i]? = some (.own e size v n xs))
    (ho : w'.ownsRow w0.heap.size e size (.slice (some ⟨g, 0, none⟩) n' cap) n' ys) (hg : w.grownBy w' v.ownBlock) (hd : v.ownBlock = some g ∨ w.heap.size ≤ g) (hl : g < w'.heap.size) :
    Hold M row w0 w' (L.set i (.own e size (.slice (some ⟨g, 0, none⟩) n' cap) n' ys)) := by
  refine h.turn i hi hg.size ⟨hg.os, hg.tape, hg.output⟩ (fun b hl hne => hg.block b hl fun e => hne e.symm) (fun b hf => ?_) ho (fun T hT => by cases hT)
  have : some g = some b := hf
  injection this with this
  subst this
  exact ⟨hd, hl⟩

/-- More is known. -/
theorem Hold.add (h : Hold M row w0 w L) {S : World → Prop} (hr : Ro w (Mut M L) S) : Hold M row w0 w (.ro S :: L) := by
  have e : ∀ b, Mut M (.ro S :: L) b → Mut M L b := fun b hb => by
    rcases mut_cons.1 hb with hf | hm
    · cases hf
    · exact hm
  refine ⟨h.grow, h.low, fun k hk => ?_, fun k hk b hf => ?_, ⟨(fun b hf => nomatch hf), h.sep⟩⟩
  · rcases List.mem_cons.1 hk with rfl | hk
    · exact hr.less e
    · exact Hp.sat_step (k := k) (h.sat k hk) (Nat.le_refl _) (fun _ _ _ => rfl) (fun b _ hb => e b hb) (fun _ _ => rfl) (fun _ _ _ _ => rfl)
  · rcases List.mem_cons.1 hk with rfl | hk
    · cases hf
    · exact h.fresh k hk b hf

/-- A row of the call's own, empty. -/
theorem Hold.nil (h : Hold M row w0 w L) (e : TypeId) (size : Nat) : Hold M row w0 w (.own e size (.slice none 0 0) 0 [] :: L) := by
  have ee : ∀ b, Mut M (.own e size (.slice none 0 0) 0 [] :: L) b → Mut M L b := fun b hb => by
    rcases mut_cons.1 hb with hf | hm
    · cases hf
    · exact hm
  refine ⟨h.grow, h.low, fun k hk => ?_, fun k hk b hf => ?_, ⟨(fun b hf => nomatch hf), h.sep⟩⟩
  · rcases List.mem_cons.1 hk with rfl | hk
    · exact World.ownsRow_nil _ _ _ _
    · exact Hp.sat_step (k := k) (h.sat k hk) (Nat.le_refl _) (fun _ _ _ => rfl) (fun b _ hb => ee b hb) (fun _ _ => rfl) (fun _ _ _ _ => rfl)
  · rcases List.mem_cons.1 hk with rfl | hk
    · cases hf
    · exact h.fresh k hk b hf

/-- A new block taken for an own row: a literal, or what make laid. -/
theorem Hold.alloc_own (h : Hold M row w0 w L) (cs : Array Value) (t : TypeId) (size n : Nat) (hm : n ≤ maxLen) (hs : cs.size = n * size) :
    Hold M row w0 (w.alloc (.cells cs t)) (.own t size (.slice (some ⟨w.heap.size, 0, none⟩) n n) n cs.toList :: L) := by
  have h1 := h.alloc cs t
  exact h1.turn (k' := .own t size (.slice (some ⟨w.heap.size, 0, none⟩) n n) n cs.toList) 0 rfl (Nat.le_refl _) ⟨rfl, rfl, rfl⟩ (fun _ _ _ => rfl) (fun b hf => ⟨.inl hf, (h1.fresh _ (List.mem_cons_self ..) b hf).2⟩)
    (World.ownsRow_lit w cs n h.grow.size hm hs) (fun T hT => by cases hT)

/-- Less is known. -/
theorem Hold.drop (h : Hold M row w0 w L) (hL : List.Sublist L' L) : Hold M row w0 w L' := by
  have e : ∀ b, Mut M L' b → Mut M L b := fun b hb => by
    rcases hb with hb | ⟨k, hk, hf⟩
    · exact .inl hb
    · exact .inr ⟨k, hL.subset hk, hf⟩
  refine ⟨h.grow, h.low, fun k hk => Hp.sat_step (k := k) (h.sat k (hL.subset hk)) (Nat.le_refl _) (fun _ _ _ => rfl) (fun b _ hb => e b hb) (fun _ _ => rfl) (fun _ _ _ _ => rfl), fun k hk => h.fresh k (hL.subset hk), ?_⟩
  have h1 := h.sep
  clear h e
  induction hL with
  | slnil => trivial
  | cons _ _ ih => exact ih h1.2
  | cons_cons a hs ih => exact ⟨fun b hb k hk => h1.1 b hb k (hs.subset hk), ih h1.2⟩

/-- An item that may be written is laid down for good: whatever its block says. -/
theorem Hold.sealTo (h : Hold M row w0 w L) (i : Nat) {k k' : Hp} (hi : L[i]? = some k) (hk : ∀ T, k ≠ .tp T) (hk' : k'.foot = none) {S : World → Prop}
    (hS : ∀ w2 : World, k.sat w0.heap.size w (Mut M L) → (∀ b, k.foot = some b → w2.heap[b]? = w.heap[b]?) → S w2) (hs : Ro w (Mut M (L.set i k')) S → k'.sat w0.heap.size w (Mut M (L.set i k'))) : Hold M row w0 w (L.set i k') := by
  have hkm := List.mem_of_getElem? hi
  refine h.turn i hi (Nat.le_refl _) ⟨rfl, rfl, rfl⟩ (fun _ _ _ => rfl) (fun b hf => by rw [hk'] at hf; cases hf) (hs ?_) (fun T hT => absurd hT (hk T))
  intro w2 h1 h2
  refine hS w2 (h.sat k hkm) fun b hf => h2 b (h.fresh k hkm b hf).2 ?_
  rintro (hm | ⟨a, ha, hfa⟩)
  · rcases (h.fresh k hkm b hf).1 with h3 | ⟨h3, h4⟩
    · have := h.low b hm; omega
    · exact absurd h4 (hk b)
  · obtain ⟨j, hj⟩ := List.getElem?_of_mem ha
    rcases set_get hj with ⟨rfl, rfl⟩ | ⟨hij, hj⟩
    · rw [hk'] at hfa; cases hfa
    · exact h.sep.mem hi hj hij hf hfa
theorem Hold.seal (h : Hold M row w0 w L) (i : Nat) {k : Hp} (hi : L[i]? = some k) (hk : ∀ T, k ≠ .tp T) {S : World → Prop}
    (hS : ∀ w2 : World, k.sat w0.heap.size w (Mut M L) → (∀ b, k.foot = some b → w2.heap[b]? = w.heap[b]?) → S w2) : Hold M row w0 w (L.set i (.ro S)) :=
  h.sealTo i hi hk rfl hS id
/-- A block that will not be written again. -/
theorem Hold.fix_ (h : Hold M row w0 w L) (i : Nat) {g : Nat} {t : TypeId} {cs : Array Value} (hi : L[i]? = some (.blk g t cs)) : Hold M row w0 w (L.set i (.cst g t cs)) :=
  h.sealTo i hi (fun T e => nomatch e) rfl (S := fun w => w.heap[g]? = some (.cells cs t (0, 0))) (fun w2 h1 h2 => (h2 g rfl).trans h1) id
/-- A new block that will not be written again. -/
theorem Hold.alloc_cst (h : Hold M row w0 w L) (cs : Array Value) (t : TypeId) : Hold M row w0 (w.alloc (.cells cs t)) (.cst w.heap.size t cs :: L) := (h.alloc cs t).fix_ 0 rfl
end
/-- The cells of a block, one by one: what the walk reads. -/
def cellsF (w : World) (g : Nat) : Nat → List Value → Prop
  | _, [] => True
  | i, x :: r => w.cell? ⟨g, i, none⟩ = some x ∧ w.frozen? ⟨g, i, none⟩ = false ∧ cellsF w g (i + 1) r
def factsL (w : World) : List Hp → Prop
  | [] => True
  | .blk g t cs :: L => g < w.heap.size ∧ cellsF w g 0 cs.toList ∧ factsL w L
  | .own _ _ _ _ _ :: L => factsL w L
  | .tp _ :: L => factsL w L
  | .ro _ :: L => factsL w L
  | .cst g t cs :: L => g < w.heap.size ∧ cellsF w g 0 cs.toList ∧ factsL w L
  | .ob _ _ :: L => factsL w L
theorem cellsF_of {w : World} {g : Nat} {t : TypeId} {cs : Array Value} (h : w.heap[g]? = some (.cells cs t (0, 0))) : ∀ (l : List Value) (i : Nat), (∀ j, l[j]? = cs[i + j]?) → cellsF w g i l
  | [], _, _ => trivial
  | x :: r, i, hl => by
    refine ⟨?_, frozen_blk h i, cellsF_of h r (i + 1) fun j => ?_⟩
    · rw [cell_of_row w g i cs t (0, 0) h]; exact (hl 0).symm
    · have := hl (j + 1); rw [show i + 1 + j = i + (j + 1) from by omega]; simpa using this
theorem factsL_of {w : World} {B : Nat} {M : Nat → Prop} : ∀ {L : List Hp}, (∀ h ∈ L, h.sat B w M) → (∀ h ∈ L, ∀ b, h.foot = some b → b < w.heap.size) → factsL w L
  | [], _, _ => trivial
  | .blk g t cs :: L, h, k => ⟨k _ (List.mem_cons_self ..) g rfl, cellsF_of (h _ (List.mem_cons_self ..)) cs.toList 0 (by simp), factsL_of (fun a ha => h a (List.mem_cons_of_mem _ ha)) (fun a ha => k a (List.mem_cons_of_mem _ ha))⟩
  | .own .. :: L, h, k => factsL_of (L := L) (fun a ha => h a (List.mem_cons_of_mem _ ha)) (fun a ha => k a (List.mem_cons_of_mem _ ha))
  | .tp _ :: L, h, k => factsL_of (L := L) (fun a ha => h a (List.mem_cons_of_mem _ ha)) (fun a ha => k a (List.mem_cons_of_mem _ ha))
  | .ro _ :: L, h, k => factsL_of (L := L) (fun a ha => h a (List.mem_cons_of_mem _ ha)) (fun a ha => k a (List.mem_cons_of_mem _ ha))
  | .ob _ _ :: L, h, k => factsL_of (L := L) (fun a ha => h a (List.mem_cons_of_mem _ ha)) (fun a ha => k a (List.mem_cons_of_mem _ ha))
  | .cst g t cs :: L, h, k => by
    have h1 : w.heap[g]? = some (.cells cs t (0, 0)) := Ro.now (show Ro w M (fun w => w.heap[g]? = some (.cells cs t (0, 0))) from h _ (List.mem_cons_self ..))
    refine ⟨?_, cellsF_of h1 cs.toList 0 (by simp), factsL_of (fun a ha => h a (List.mem_cons_of_mem _ ha)) (fun a ha => k a (List.mem_cons_of_mem _ ha))⟩
    rcases Nat.lt_or_ge g w.heap.size with hlt | hge
    · exact hlt
    · rw [Array.getElem?_eq_none hge] at h1; cases h1
theorem Hold.facts {M : Nat → Prop} {row : Option Nat} {w0 w : World} {L : List Hp} (h : Hold M row w0 w L) : factsL w L := factsL_of h.sat fun a ha b hb => (h.fresh a ha b hb).2
/-- an item by its place -/
theorem Hold.get {M : Nat → Prop} {row : Option Nat} {w0 w : World} {L : List Hp} (h : Hold M row w0 w L) (i : Nat) {k : Hp} (hi : L[i]? = some k) : k.sat w0.heap.size w (Mut M L) := h.sat k (List.mem_of_getElem? hi)
theorem Hold.ro {M : Nat → Prop} {row : Option Nat} {w0 w : World} {L : List Hp} (h : Hold M row w0 w L) (i : Nat) {S : World → Prop} (hi : L[i]? = some (.ro S)) : Ro w (Mut M L) S := h.get i hi
theorem Hold.cst_ {M : Nat → Prop} {row : Option Nat} {w0 w : World} {L : List Hp} (h : Hold M row w0 w L) (i : Nat) {g : Nat} {t : TypeId} {cs : Array Value} (hi : L[i]? = some (.cst g t cs)) : Blk w g t cs := Ro.now (S := fun w => w.heap[g]? = some (.cells cs t (0, 0))) (h.get i hi)
theorem Hold.blk_ {M : Nat → Prop} {row : Option Nat} {w0 w : World} {L : List Hp} (h : Hold M row w0 w L) (i : Nat) {g : Nat} {t : TypeId} {cs : Array Value} (hi : L[i]? = some (.blk g t cs)) : Blk w g t cs := h.get i hi
theorem Hold.roOut {M : Nat → Prop} {row : Option Nat} {w0 w : World} {L : List Hp} (h : Hold M row w0 w L) (i : Nat) {S : World → Prop} (hi : L[i]? = some (.ro S)) : Ro w M S := (h.ro i hi).less fun b hb => .inl hb
/-- no block of a caller's that may be written -/
def None_ (b : Nat) : Prop := False
theorem Hold.begin_ (w : World) : Hold None_ none w w [] := Hold.start None_ w (fun b hb => hb.elim)
end Go.Proofs.Ytkpbnlbhfhkhcaa

namespace Go.Proofs.Ytkpbnlbhfhkhcaa
open Go.RowKit
set_option linter.unusedVariables false

theorem flat_get {α β : Type} (f : α → List β) (n : Nat) (hf : ∀ a, (f a).length = n) : ∀ (l : List α) (k j : Nat) (a : α), j < n → l[k]? = some a → (l.flatMap f)[k * n + j]? = (f a)[j]?
  | [], k, j, a, _, h => by simp at h
  | x :: l, 0, j, a, hj, h => by
    simp only [List.getElem?_cons_zero, Option.some.injEq] at h
    subst h
    simp only [List.flatMap_cons, Nat.zero_mul, Nat.zero_add]
    rw [List.getElem?_append_left (by rw [hf]; exact hj)]
  | x :: l, k + 1, j, a, hj, h => by
    simp only [List.getElem?_cons_succ] at h
    simp only [List.flatMap_cons]
    rw [List.getElem?_append_right (by rw [hf, Nat.succ_mul]; omega), hf, show (k + 1) * n + j - n = k * n + j by rw [Nat.succ_mul]; omega]
    exact flat_get f n hf l k j a hj h
theorem flat_len {α β : Type} (f : α → List β) (n : Nat) (hf : ∀ a, (f a).length = n) (l : List α) : (l.flatMap f).length = l.length * n := by
  induction l with
  | nil => simp
  | cons x l ih => simp [List.flatMap_cons, hf, ih, Nat.succ_mul]; omega
/-- A column. -/
structure Col where
  name : ByteArray
  ty : Int
  nn : Bool
  key : Bool
deriving DecidableEq
def Col.cells (c : Col) : List Value := [.string c.name, .int .i64 c.ty, .bool c.nn, .bool c.key]
def colCells (l : List Col) : List Value := l.flatMap Col.cells
theorem colCells_len (l : List Col) : (colCells l).length = l.length * 4 := flat_len _ 4 (fun _ => rfl) l
theorem colCells_at {l : List Col} {k : Nat} {c : Col} (h : l[k]? = some c) : (colCells l)[k * 4]? = some (.string c.name) ∧ (colCells l)[k * 4 + 1]? = some (.int .i64 c.ty) ∧ (colCells l)[k * 4 + 2]? = some (.bool c.nn) ∧ (colCells l)[k * 4 + 3]? = some (.bool c.key) :=
  ⟨flat_get Col.cells 4 (fun _ => rfl) l k 0 c (by omega) h, flat_get Col.cells 4 (fun _ => rfl) l k 1 c (by omega) h, flat_get Col.cells 4 (fun _ => rfl) l k 2 c (by omega) h, flat_get Col.cells 4 (fun _ => rfl) l k 3 c (by omega) h⟩

/-- The slice with address A and n elements reads as the columns l. -/
def RdC (w : World) (B : Nat) (A : Option Addr) (n : Nat) (l : List Col) : Prop := Rd w B 4 A n (colCells l)
theorem RdC.len {w : World} {B n : Nat} {A : Option Addr} {l : List Col} (h : RdC w B A n l) : l.length = n := by
  have := h.1
  rw [colCells_len] at this
  omega
theorem RdC.at_ {w : World} {B n : Nat} {A : Option Addr} {l : List Col} (h : RdC w B A n l) {k : Nat} {c : Col} (hc : l[k]? = some c) :
    ∃ b o, A = some ⟨b, o, none⟩ ∧ b < B ∧ w.cell? ⟨b, o + k * 4, none⟩ = some (.string c.name) ∧ w.cell? ⟨b, o + k * 4 + 1, none⟩ = some (.int .i64 c.ty) ∧ w.cell? ⟨b, o + k * 4 + 2, none⟩ = some (.bool c.nn) ∧ w.cell? ⟨b, o + k * 4 + 3, none⟩ = some (.bool c.key) := by
  have hk : k < n := by rw [← h.len]; exact (List.getElem?_eq_some_iff.1 hc).1
  obtain ⟨b, o, e, hb, hcell⟩ := h.2 (by omega)
  obtain ⟨h0, h1, h2, h3⟩ := colCells_at hc
  exact ⟨b, o, e, hb, hcell _ _ h0, hcell _ _ h1, hcell _ _ h2, hcell _ _ h3⟩
end Go.Proofs.Ytkpbnlbhfhkhcaa

namespace Go.Proofs.Ytkpbnlbhfhkhcaa
open Go.RowKit
set_option linter.unusedVariables false

/-- The slice with address A and n elements of 'size' cells reads as xs. -/
def SlR (size : Nat) (A : Option Addr) (n : Nat) (xs : List Value) (w : World) : Prop := Rd w w.heap.size size A n xs

section
variable {w w' : World} {M : Nat → Prop} {B size n : Nat} {A : Option Addr} {xs : List Value}
theorem Rd.ro (h : Rd w B size A n xs) (hB : B ≤ w.heap.size) (hM : ∀ b, b < B → ¬ M b) : Ro w M (SlR size A n xs) := fun w2 h1 h2 =>
  (h.keep fun p hp => World.cell?_of_block (w := w) (h2 p.block (by omega) (hM _ hp))).more (by omega)
theorem ro_block {g : Nat} {t : TypeId} {cs : Array Value} (h : Ro w M (fun w => w.heap[g]? = some (.cells cs t (0, 0)))) (hl : cs.toList.length = n * size) : Ro w M (SlR size (some ⟨g, 0, none⟩) n cs.toList) :=
  h.imp fun w2 h2 => ⟨hl, fun _ => ⟨g, 0, rfl, Blk.lt (t := t) (cs := cs) h2, fun j u hu => by
    rw [cell_of_row w2 g (0 + j) cs t (0, 0) h2, Nat.zero_add]; simpa using hu⟩⟩
theorem ro_nil : Ro w M (SlR size none 0 []) := fun _ _ _ => Rd.none_
/-- More is known: an item that writes nothing. -/
theorem Hold.addItem {row : Option Nat} {w0 : World} {L : List Hp} (h : Hold M row w0 w L) {k' : Hp} (hk' : k'.foot = none) (hs : k'.sat w0.heap.size w (Mut M (k' :: L))) : Hold M row w0 w (k' :: L) := by
  have e : ∀ b, Mut M (k' :: L) b → Mut M L b := fun b hb => by
    rcases mut_cons.1 hb with hf | hm
    · rw [hk'] at hf; cases hf
    · exact hm
  refine ⟨h.grow, h.low, fun k hk => ?_, fun k hk b hf => ?_, ⟨(fun b hf => by rw [hk'] at hf; cases hf), h.sep⟩⟩
  · rcases List.mem_cons.1 hk with rfl | hk
    · exact hs
    · exact Hp.sat_step (k := k) (h.sat k hk) (Nat.le_refl _) (fun _ _ _ => rfl) (fun b _ hb => e b hb) (fun _ _ => rfl) (fun _ _ _ _ => rfl)
  · rcases List.mem_cons.1 hk with rfl | hk
    · rw [hk'] at hf; cases hf
    · exact h.fresh k hk b hf
theorem mut_none {k' : Hp} (hk' : k'.foot = none) {L : List Hp} : ∀ b, Mut M (k' :: L) b → Mut M L b := fun b hb => by
  rcases mut_cons.1 hb with hf | hm
  · rw [hk'] at hf; cases hf
  · exact hm
theorem Hold.addCst {row : Option Nat} {w0 : World} {L : List Hp} (h : Hold M row w0 w L) {g : Nat} {t : TypeId} {cs : Array Value} (hr : Ro w (Mut M L) (fun w => w.heap[g]? = some (.cells cs t (0, 0)))) : Hold M row w0 w (.cst g t cs :: L) :=
  h.addItem rfl (hr.less (mut_none rfl))
/-- An own row, for good. -/
theorem Hold.sealRow {row : Option Nat} {w0 : World} {L : List Hp} (h : Hold M row w0 w L) (i : Nat) {e : TypeId} {A : Option Addr} {c : Nat} (hi : L[i]? = some (.own e size (.slice A n c) n xs)) :
    Hold M row w0 w (L.set i (.ro (SlR size A n xs))) :=
  h.seal i hi (fun T e => nomatch e) fun w2 h1 h2 => by
    have h3 : w2.ownsRow w0.heap.size e size (.slice A n c) n xs := by
      refine ⟨h1.1, ?_⟩
      rcases h1.2 with hn | ⟨g, cap, cur, hv, hb, hgg, rest⟩
      · exact .inl hn
      · injection hv with hv1 hv2 hv3
        subst hv1 hv3
        exact .inr ⟨g, c, cur, rfl, hb, (h2 g rfl).trans hgg, rest⟩
    exact Rd.of_own h3
end
theorem get_of {α : Type} {l : List α} {n k : Nat} (h : l.length = n) (hk : k < n) : ∃ x, l[k]? = some x := ⟨l[k]'(by omega), List.getElem?_eq_getElem _⟩
end Go.Proofs.Ytkpbnlbhfhkhcaa

namespace Go.Proofs.Ytkpbnlbhfhkhcaa
open Go.RowKit
set_option linter.unusedVariables false

/-- A value of the store: its kind, its number, its text. -/
structure Vl where
  k : Int
  i : Int
  s : ByteArray
deriving DecidableEq

def okByte (c : UInt8) : Bool := decide (32 ≤ c.toNat ∧ c.toNat ≤ 126)
def plainB (s : ByteArray) : Bool := s.data.toList.all okByte && decide (s.size ≤ 64)

/-- Which values are valid. -/
def validB (k i : Int) (s : ByteArray) : Bool :=
  if k = 0 then i == 0 && s.toList.isEmpty else if k = 1 then s.toList.isEmpty else if k = 2 then (i == 0 || i == 1) && s.toList.isEmpty else if k = 3 then i == 0 && plainB s else false

end Go.Proofs.Ytkpbnlbhfhkhcaa

namespace Go.Proofs.Ytkpbnlbhfhkhcaa
open Go.RowKit
set_option linter.unusedVariables false

theorem drop_cons {α : Type} {l : List α} {k : Nat} {c : α} (h : l[k]? = some c) : l.drop k = c :: l.drop (k + 1) := by
  obtain ⟨hk, rfl⟩ := List.getElem?_eq_some_iff.1 h
  exact List.drop_eq_getElem_cons hk

def findFrom {α : Type} (p : α → Bool) (k : Nat) : List α → Int
  | [] => -1
  | c :: r => if p c then (k : Int) else findFrom p (k + 1) r
def findB {α : Type} (p : α → Bool) (l : List α) : Int := findFrom p 0 l
section
variable {α : Type} {p : α → Bool} {l : List α} {k : Nat} {c : α}
theorem find_hit (h : findB p l = findFrom p k (l.drop k)) (hc : l[k]? = some c) (hp : p c = true) : findB p l = k := by
  rw [h, drop_cons hc, findFrom, if_pos hp]
theorem find_miss (h : findB p l = findFrom p k (l.drop k)) (hc : l[k]? = some c) (hp : p c = false) : findB p l = findFrom p (k + 1) (l.drop (k + 1)) := by
  rw [h, drop_cons hc, findFrom, if_neg (by simp [hp])]
theorem find_end (h : findB p l = findFrom p k (l.drop k)) (hk : l.length ≤ k) : findB p l = -1 := by
  rw [h, List.drop_of_length_le hk, findFrom]
end

def named (s : ByteArray) (c : Col) : Bool := c.name.toList == s.toList
/-- A list in which each element passes a test of its place. -/
def okFrom {α : Type} (t : Nat → α → Bool) (k : Nat) : List α → Bool
  | [] => true
  | c :: r => t k c && okFrom t (k + 1) r
section
variable {α : Type} {t : Nat → α → Bool} {l : List α} {k : Nat} {c : α}
end
end Go.Proofs.Ytkpbnlbhfhkhcaa

namespace Go.Proofs.Ytkpbnlbhfhkhcaa
open Go.RowKit
set_option linter.unusedVariables false
set_option linter.unusedSimpArgs false

def Vl.val (x : Vl) : Value := .agg #[.int .i64 x.k, .int .i64 x.i, .string x.s]
def Vl.cells (x : Vl) : List Value := [.int .i64 x.k, .int .i64 x.i, .string x.s]
def Vl.ok (x : Vl) : Prop := I64 x.k ∧ I64 x.i ∧ x.s.size ≤ maxLen
def vlCells (l : List Vl) : List Value := l.flatMap Vl.cells
theorem vlCells_len (l : List Vl) : (vlCells l).length = l.length * 3 := flat_len _ 3 (fun _ => rfl) l
def VlsIn (A : Option Addr) (n : Nat) (l : List Vl) : World → Prop := SlR 3 A n (vlCells l)
theorem VlsIn.len {w : World} {A : Option Addr} {n : Nat} {l : List Vl} (h : VlsIn A n l w) : l.length = n := by
  have := (show Rd w w.heap.size 3 A n (vlCells l) from h).1
  rw [vlCells_len] at this
  omega
theorem VlsIn.at_ {w : World} {A : Option Addr} {n : Nat} {l : List Vl} (h : VlsIn A n l w) {k : Nat} {x : Vl} (hx : l[k]? = some x) :
    ∃ b o, A = some ⟨b, o, none⟩ ∧ b < w.heap.size ∧ w.cell? ⟨b, o + k * 3, none⟩ = some (.int .i64 x.k) ∧ w.cell? ⟨b, o + k * 3 + 1, none⟩ = some (.int .i64 x.i) ∧ w.cell? ⟨b, o + k * 3 + 2, none⟩ = some (.string x.s) := by
  have hk : k < n := by rw [← h.len]; exact (List.getElem?_eq_some_iff.1 hx).1
  obtain ⟨b, o, e, hb, hc⟩ := (show Rd w w.heap.size 3 A n (vlCells l) from h).2 (by omega)
  exact ⟨b, o, e, hb, hc _ _ (flat_get Vl.cells 3 (fun _ => rfl) l k 0 x (by omega) hx), hc _ _ (flat_get Vl.cells 3 (fun _ => rfl) l k 1 x (by omega) hx), hc _ _ (flat_get Vl.cells 3 (fun _ => rfl) l k 2 x (by omega) hx)⟩
/-- A row in memory: its number, the slice of its values, the values. -/
structure Rw where
  id : Int
  A : Option Addr
  n : Nat
  c : Nat
  vs : List Vl
def Rw.cells (r : Rw) : List Value := [.int .i64 r.id, .slice r.A r.n r.c]
def rwCells (l : List Rw) : List Value := l.flatMap Rw.cells
theorem rwCells_len (l : List Rw) : (rwCells l).length = l.length * 2 := flat_len _ 2 (fun _ => rfl) l
/-- the rows' values stand in memory -/
def ValsIn (l : List Rw) (w : World) : Prop := ∀ r ∈ l, VlsIn r.A r.n r.vs w
def RwsIn (A : Option Addr) (n : Nat) (l : List Rw) (w : World) : Prop := SlR 2 A n (rwCells l) w ∧ ValsIn l w
theorem RwsIn.len {w : World} {A : Option Addr} {n : Nat} {l : List Rw} (h : RwsIn A n l w) : l.length = n := by
  have := (show Rd w w.heap.size 2 A n (rwCells l) from h.1).1
  rw [rwCells_len] at this
  omega
theorem RwsIn.at_ {w : World} {A : Option Addr} {n : Nat} {l : List Rw} (h : RwsIn A n l w) {k : Nat} {x : Rw} (hx : l[k]? = some x) :
    ∃ b o, A = some ⟨b, o, none⟩ ∧ b < w.heap.size ∧ w.cell? ⟨b, o + k * 2, none⟩ = some (.int .i64 x.id) ∧ w.cell? ⟨b, o + k * 2 + 1, none⟩ = some (.slice x.A x.n x.c) ∧ VlsIn x.A x.n x.vs w := by
  have hk : k < n := by rw [← h.len]; exact (List.getElem?_eq_some_iff.1 hx).1
  obtain ⟨b, o, e, hb, hc⟩ := (show Rd w w.heap.size 2 A n (rwCells l) from h.1).2 (by omega)
  exact ⟨b, o, e, hb, hc _ _ (flat_get Rw.cells 2 (fun _ => rfl) l k 0 x (by omega) hx), hc _ _ (flat_get Rw.cells 2 (fun _ => rfl) l k 1 x (by omega) hx), h.2 x (List.mem_of_getElem? hx)⟩
/-- a row's numbers are numbers of Go's, its slice has room -/
structure Rw.ok (r : Rw) : Prop where
  id : I64 r.id
  nc : r.n ≤ r.c
  c : r.c ≤ 9223372036854775807
  vs : ∀ v ∈ r.vs, v.ok
abbrev Row := Int × List Vl
def Rw.row (r : Rw) : Row := (r.id, r.vs)

/-- a row's first reason not to fit -/
def fitsV (c : Col) (v : Vl) : Int := if validB v.k v.i v.s then (if v.k == 0 then (if c.nn then 8 else 0) else if v.k == c.ty then 0 else 5) else 17
def fitsL : List Col → List Vl → Int
  | c :: cs, v :: vs => if fitsV c v = 0 then fitsL cs vs else fitsV c v
  | _, _ => 0
def fitsT (cs : List Col) (vs : List Vl) : Int := if vs.length = cs.length then fitsL cs vs else 17
/-- do two rows have one key? -/
def dupF (k : Int) : List Vl → List (List Vl) → Bool
  | _, [] => false
  | seen, r :: rs => if 0 ≤ k then match r[k.toNat]? with
    | some v => if v ∈ seen then true else dupF k (v :: seen) rs
    | none => dupF k seen rs
    else dupF k seen rs
def dupB (cs : List Col) (rs : List Row) : Bool := dupF (findB Col.key cs) [] (rs.map (·.2))
/-- rows numbered upward, below next, that fit -/
def okR (cs : List Col) (next : Int) : Int → List Row → Bool
  | _, [] => true
  | last, r :: rs => decide (last < r.1) && decide (r.1 < next) && decide (fitsT cs r.2 = 0) && okR cs next r.1 rs
end Go.Proofs.Ytkpbnlbhfhkhcaa

namespace Go.Proofs.Ytkpbnlbhfhkhcaa
open Go.RowKit
set_option linter.unusedVariables false

theorem wpList_app2 {P : Program} (w0 : World) (cs : Array Value) {ops : Array Oper} {rest : List Oper} {o : Oper} {a : Act} {Q : Exit → Act → World → Prop} (hgd : o.guard = none) (s x : Operand) (t : TypeId)
    (ho : o.op = .call { callee := .builtin .append, args := #[s, x], argTypes := #[t, t] })
    (base : Nat) (e : TypeId) (size bytes : Nat) (z : Value) (ht : P.underlying t = some (.slice e)) (hi : (P.info? e).map (fun i => (i.zero, i.size, i.bytes)) = some (some z, size, bytes))
    (hzs : z.cells.size = size) (hsz : 0 < size)
    (v : Value) (n : Nat) (xs : List Value) (hs : a.eval s = v) (hown : w0.ownsRow base e size v n xs)
    (H : Nat) (hH : w0.heap.size = H) (hx : a.eval x = .slice (some ⟨H, 0, none⟩) 1 1) (hl : cs.size = size) (h1 : ∀ u ∈ cs.toList, u.oneCell' = true)
    (hn : n < 140737488355328) (hbytes : (n + 1) * bytes ≤ 140737488355328) (hbase : base ≤ w0.heap.size)
    (h : ∀ g cap w', w'.ownsRow base e size (.slice (some ⟨g, 0, none⟩) (n + 1) cap) (n + 1) (xs ++ cs.toList) → (w0.alloc (.cells cs e)).grownBy w' v.ownBlock → (v.ownBlock = some g ∨ (w0.alloc (.cells cs e)).heap.size ≤ g) → g < w'.heap.size →
      wpList P ops Q rest (a.put o.dst (.slice (some ⟨g, 0, none⟩) (n + 1) cap)) w') :
    wpList P ops Q (o :: rest) a (w0.alloc (.cells cs e)) := by
  subst hH
  obtain ⟨i, hi1, hi2, hi3, hi4⟩ := info_parts hi
  refine wpList_append_lies (w := w0.alloc (.cells cs e)) hgd s x t ho base e i z size bytes ht hi1 hi2 hi3 hi4 hzs hsz v n xs hs (hown.alloc _) ⟨w0.heap.size, 0, none⟩ 1 1 cs.toList hx (by simpa using hl) ?_ h1 (by omega) (by unfold maxLen; omega) hbytes (by simp; omega) (w0.heap.size + 1) (by simp) ?_
  · exact World.news_of_block (heap_alloc_new w0 _)
  · intro g cap w' h2 h3 h4 h5
    exact h g cap w' h2 h3 (h4.imp id fun e => by rw [e]; simp) h5
end Go.Proofs.Ytkpbnlbhfhkhcaa

namespace Go.Proofs.Ytkpbnlbhfhkhcaa
open Go.RowKit
set_option linter.unusedVariables false

/-- A slice type and its element type, as the table of types says them. -/
structure ElemT (P : Program) (t e : TypeId) (size bytes : Nat) (z : Value) : Prop where
  ht : P.underlying t = some (.slice e)
  hi : (P.info? e).map (fun i => (i.zero, i.size, i.bytes)) = some (some z, size, bytes)
  hzs : z.cells.size = size
  hsz : 0 < size

section
variable {P : Program} {M : Nat → Prop} {row : Option Nat} {w0 w w' : World} {L L' : List Hp}

theorem own_caps {w : World} {base : Nat} {e : TypeId} {size n m c : Nat} {A : Option Addr} {xs : List Value} (h : w.ownsRow base e size (.slice A n c) m xs) : m ≤ c ∧ c ≤ 9223372036854775807 ∧ n = m := by
  obtain ⟨h1, ⟨h2, h3⟩ | ⟨g, cap, cur, hv, _, _, hle, hm, _⟩⟩ := h
  · have e1 := (Value.slice.inj h2).2.2
    have e2 := (Value.slice.inj h2).2.1
    omega
  · have e1 := (Value.slice.inj hv).2.2
    have e2 := (Value.slice.inj hv).2.1
    unfold maxLen at hm
    omega
theorem own_addr {w : World} {base : Nat} {e : TypeId} {size n m c : Nat} {A : Option Addr} {xs : List Value} (h : w.ownsRow base e size (.slice A n c) m xs) : (A = none ∧ m = 0 ∧ c = 0) ∨ ∃ g, A = some ⟨g, 0, none⟩ ∧ base ≤ g := by
  obtain ⟨h1, ⟨h2, h3⟩ | ⟨g, cap, cur, hv, hb, _⟩⟩ := h
  · exact .inl ⟨(Value.slice.inj h2).1, h3, (Value.slice.inj h2).2.2⟩
  · exact .inr ⟨g, (Value.slice.inj hv).1, hb⟩

/-- append(s, x): one element, laid ahead in a block of its own. -/
theorem wpList_appH (K : Hold M row w0 w L) (i : Nat) {t e : TypeId} {size bytes q cap : Nat} {C : Option Addr} {xs : List Value} {z : Value} (hi : L[i]? = some (.own e size (.slice C q cap) q xs)) (hE : ElemT P t e size bytes z)
    (cs : Array Value) {ops : Array Oper} {rest : List Oper} {o : Oper} {a : Act} {Q : Exit → Act → World → Prop} (hgd : o.guard = none) (s x : Operand) (ho : o.op = .call { callee := .builtin .append, args := #[s, x], argTypes := #[t, t] })
    (hs : a.eval s = .slice C q cap) (H : Nat) (hH : w.heap.size = H) (hx : a.eval x = .slice (some ⟨H, 0, none⟩) 1 1) (hl : cs.size = size) (h1 : ∀ u ∈ cs.toList, u.oneCell' = true) (hq : q < 140737488355328) (hb : (q + 1) * bytes ≤ 140737488355328)
    (h : ∀ g cap' w', q + 1 ≤ cap' → cap' ≤ 9223372036854775807 → Hold M row w0 w' (L.set i (.own e size (.slice (some ⟨g, 0, none⟩) (q + 1) cap') (q + 1) (xs ++ cs.toList))) → wpList P ops Q rest (a.put o.dst (.slice (some ⟨g, 0, none⟩) (q + 1) cap')) w') :
    wpList P ops Q (o :: rest) a (w.alloc (.cells cs e)) := by
  refine wpList_app2 w cs hgd s x t ho w0.heap.size e size bytes z hE.ht hE.hi hE.hzs hE.hsz (.slice C q cap) q xs hs (K.get i hi) H hH hx hl h1 hq hb K.grow.size ?_
  intro g cap' w' ho' hg hd hl'
  obtain ⟨c1, c2, _⟩ := own_caps ho'
  have K1 := K.alloc_cst cs e
  have K2 := K1.append (i + 1) (by simpa using hi) ho' hg hd hl'
  refine h g cap' w' c1 c2 (K2.drop ?_)
  simp

theorem run_append_self (w : World) (base : Nat) (t ty e : TypeId) (i : TypeInfo) (size : Nat) (ht : P.underlying t = some (.slice e)) (hi : P.info? e = some i)
    (v : Value) (n : Nat) (xs : List Value) (hown : w.ownsRow base e size v n xs) (c : Nat) : (Builtin.append_ #[t, t] ty #[v, .slice none 0 c]).run P w = .ok v w := by
  rcases hown.2 with ⟨rfl, rfl⟩ | ⟨g, cap, cur, rfl, _, _, hnc, _⟩
  · simp [Builtin.append_, run_underlying ht, sizeOf, typeInfo, hi, Builtin.lenOf, Builtin.firstCells]
  · simp [Builtin.append_, run_underlying ht, sizeOf, typeInfo, hi, Builtin.lenOf, Builtin.firstCells, hnc, storeCells]

/-- append(s, xs...): whatever list, nil and empty too. -/
theorem wpList_appAllH (K : Hold M row w0 w L) (i : Nat) {t e : TypeId} {size bytes q cap : Nat} {C : Option Addr} {xs : List Value} {z : Value} (hi : L[i]? = some (.own e size (.slice C q cap) q xs)) (hE : ElemT P t e size bytes z)
    {A : Option Addr} {m c : Nat} {ys : List Value} (hr : SlR size A m ys w) {ops : Array Oper} {rest : List Oper} {o : Oper} {a : Act} {Q : Exit → Act → World → Prop} (hgd : o.guard = none) (s x : Operand) (ho : o.op = .call { callee := .builtin .append, args := #[s, x], argTypes := #[t, t] })
    (hs : a.eval s = .slice C q cap) (hx : a.eval x = .slice A m c) (h1 : ∀ u ∈ ys, u.oneCell' = true) (hq : q + m < 140737488355328) (hb : (q + m) * bytes ≤ 140737488355328)
    (h : ∀ C' cap' w', q + m ≤ cap' → cap' ≤ 9223372036854775807 → Hold M row w0 w' (L.set i (.own e size (.slice C' (q + m) cap') (q + m) (xs ++ ys))) → wpList P ops Q rest (a.put o.dst (.slice C' (q + m) cap')) w') :
    wpList P ops Q (o :: rest) a w := by
  obtain ⟨i0, hi1, hi2, hi3, hi4⟩ := info_parts hE.hi
  have hown := K.get i hi
  have hrun : ∃ C' cap' w', (Builtin.append_ #[t, t] o.type #[.slice C q cap, .slice A m c]).run P w = .ok (.slice C' (q + m) cap') w' ∧ q + m ≤ cap' ∧ cap' ≤ 9223372036854775807 ∧ Hold M row w0 w' (L.set i (.own e size (.slice C' (q + m) cap') (q + m) (xs ++ ys))) := by
    have hz : A = none → m = 0 := fun hA => by
      rcases Nat.eq_zero_or_pos m with h0 | h0
      · exact h0
      · obtain ⟨b, o, h, _⟩ := hr.2 h0
        rw [hA] at h; cases h
    rcases A with _ | ad
    · obtain rfl := hz rfl
      have hn : ys = [] := List.eq_nil_of_length_eq_zero (by simpa using hr.1)
      subst hn
      have hc := own_caps hown
      have e : L.set i (.own e size (.slice C (q + 0) cap) (q + 0) (xs ++ [])) = L := by
        rw [Nat.add_zero, List.append_nil]
        apply List.ext_getElem?
        intro j
        rw [List.getElem?_set]
        split
        · subst i; split
          · exact hi.symm
          · rw [List.getElem?_eq_none (by omega)]
        · rfl
      exact ⟨C, cap, w, run_append_self w _ t _ _ i0 size hE.ht hi1 _ _ _ hown c, hc.1, hc.2.1, by rw [e]; exact K⟩
    · have hcells : ∀ j u, ys[j]? = some u → w.cell? (ad.add j) = some u := by
        intro j u hu
        have hpos : 0 < m := by
          rcases Nat.eq_zero_or_pos m with h0 | h0
          · have hn : ys = [] := List.eq_nil_of_length_eq_zero (by have := hr.1; rw [h0] at this; simpa using this)
            rw [hn] at hu; simp at hu
          · exact h0
        obtain ⟨b, o', hA, _, hc⟩ := hr.2 hpos
        injection hA with hA
        subst hA
        have := hc j u hu
        rwa [Addr.add_lit]
      obtain ⟨v', w', hrun, h2, h3, _, h5⟩ := run_append_own_at (P := P) w w0.heap.size t o.type e i0 z size bytes hE.ht hi1 hi2 hi3 hi4 hE.hzs hE.hsz _ q xs hown ad m c ys hr.1 hcells h1 (by unfold maxLen; omega) hb K.grow.size
      obtain ⟨C', cap', rfl⟩ := own_form h2
      have hc := own_caps h2
      refine ⟨C', cap', w', hrun, hc.1, hc.2.1, ?_⟩
      refine K.turn i hi h3.size ⟨h3.os, h3.tape, h3.output⟩ (fun b hl hne => h3.block b hl fun e => hne e.symm) (fun b hf => ?_) h2 (fun T hT => by cases hT)
      have hlt := (h2.lt b hf).2
      refine ⟨?_, hlt⟩
      have hf' : Value.ownBlock (.slice C' (q + m) cap') = some b := hf
      rcases h5 with h5 | h5
      · left; rw [h5] at hf'; exact hf'
      · right; rw [h5] at hf'; injection hf' with hf'; omega
  obtain ⟨C', cap', w', hr', c1, c2, hK⟩ := hrun
  refine wpList_plain hgd fun K' hK' => ?_
  unfold Oper.wp execOp
  simp only [ho, resolve, invoke, builtin, Sem.run_bind, Sem.run_pure, Result.andThen_ok, List.map_toArray, List.map_cons, List.map_nil, hs, hx, hr']
  exact hK' _ _ (h C' cap' w' c1 c2 hK)

/-- A call that hands back a row of its own. -/
theorem Hold.callOwn (K : Hold M row w0 w L) {e : TypeId} {size n : Nat} {v : Value} {xs : List Value} (hb : Below w.heap.size w w') (ho : w'.ownsRow w.heap.size e size v n xs) : Hold M row w0 w' (.own e size v n xs :: L) := by
  have h1 := K.call hb
  have hbase : ∀ b, v.ownBlock = some b → w.heap.size ≤ b ∧ b < w'.heap.size := fun b hf => ho.lt b hf
  have ee : ∀ b, b < w.heap.size → Mut M (.own e size v n xs :: L) b → Mut M L b := fun b hl hb => by
    rcases mut_cons.1 hb with hf | hm
    · have := (hbase b hf).1; omega
    · exact hm
  refine ⟨h1.grow, h1.low, fun k hk => ?_, fun k hk b hf => ?_, ⟨fun b hf k hk he => ?_, K.sep⟩⟩
  · rcases List.mem_cons.1 hk with rfl | hk
    · refine ⟨ho.1, ?_⟩
      rcases ho.2 with hn | ⟨g, cap, cur, hv, hg, rest⟩
      · exact .inl hn
      · exact .inr ⟨g, cap, cur, hv, Nat.le_trans K.grow.size hg, rest⟩
    · exact Hp.sat_step (k := k) (K.sat k hk) hb.size (fun b hl _ => hb.block b hl) ee (fun b hf => hb.block b (K.fresh k hk b hf).2)
        (fun T hT b hlt => by
          have := K.fresh k hk T (by subst hT; rfl)
          exact hb.block b (by omega))
  · rcases List.mem_cons.1 hk with rfl | hk
    · have := hbase b hf
      exact ⟨.inl (Nat.le_trans K.grow.size this.1), this.2⟩
    · exact h1.fresh k hk b hf
  · have := (hbase b hf).1
    have h2 := (K.fresh k hk b he).2
    omega

theorem run_make_n {t e : TypeId} {size bytes : Nat} {z : Value} (hE : ElemT P t e size bytes z) (n : Nat) (hb : bytes * n ≤ 281474976710656) (h63 : n ≤ 9223372036854775807) (w : World) :
    (Instr.makeSlice t (.int .i64 (n : Int)) (.int .i64 (n : Int))).run P w = .ok (.slice (some ⟨w.heap.size, 0, none⟩) n n) (w.alloc (.cells (madeCells z.cells (n * size)) e)) := by
  obtain ⟨i0, hi1, hi2, hi3, hi4⟩ := info_parts hE.hi
  have hb' : (i0.bytes : Int) * (n : Int) ≤ 281474976710656 := by
    have h : ((i0.bytes * n : Nat) : Int) ≤ 281474976710656 := by rw [hi4]; omega
    rwa [Int.natCast_mul] at h
  have hr := run_make (P := P) w t e i0 z hE.ht hi1 hi2 .i64 .i64 n n (by omega) (by omega) hb' (by omega)
  simp only [Int.toNat_natCast, hi3] at hr
  exact hr
theorem apart_pair : ∀ {L : List Hp}, Apart L ↔ L.Pairwise fun h k => ∀ b, h.foot = some b → k.foot ≠ some b
  | [] => ⟨fun _ => List.Pairwise.nil, fun _ => trivial⟩
  | h :: L => by
    rw [List.pairwise_cons, ← apart_pair]
    exact ⟨fun ⟨a, b⟩ => ⟨fun k hk x hx => a x hx k hk, b⟩, fun ⟨a, b⟩ => ⟨fun x hx k hk => a k hk x hx, b⟩⟩
/-- The items in another order. -/
theorem Hold.perm (K : Hold M row w0 w L) (hp : L.Perm L') : Hold M row w0 w L' := by
  have hm : ∀ b, Mut M L' b → Mut M L b := fun b hb => hb.imp id fun ⟨k, hk, hf⟩ => ⟨k, hp.symm.subset hk, hf⟩
  refine ⟨K.grow, K.low, fun k hk => ?_, fun k hk => K.fresh k (hp.symm.subset hk), apart_pair.2 ((hp.pairwise_iff fun h b hy hx => h b hx hy).1 (apart_pair.1 K.sep))⟩
  exact Hp.sat_step (k := k) (K.sat k (hp.symm.subset hk)) (Nat.le_refl _) (fun _ _ _ => rfl) (fun b _ hb => hm b hb) (fun _ _ => rfl) (fun _ _ _ _ => rfl)
/-- The first item goes to place i. -/
theorem Hold.sinkN {a : Hp} (K : Hold M row w0 w (a :: L)) (i : Nat) : Hold M row w0 w (L.take i ++ a :: L.drop i) := by
  refine K.perm (List.Perm.trans ?_ List.perm_middle.symm)
  rw [List.take_append_drop]
/-- A row is cut down: its first n elements. -/
theorem Hold.cutRow (K : Hold M row w0 w L) (i : Nat) {e : TypeId} {size n m cap g : Nat} {xs : List Value} (hi : L[i]? = some (.own e size (.slice (some ⟨g, 0, none⟩) m cap) m xs)) (hn : n ≤ m) :
    Hold M row w0 w (L.set i (.own e size (.slice (some ⟨g, 0, none⟩) n cap) n (xs.take (n * size)))) := by
  have hown := K.get i hi
  have hkm := List.mem_of_getElem? hi
  refine K.turn i hi (Nat.le_refl _) ⟨rfl, rfl, rfl⟩ (fun _ _ _ => rfl) (fun b hf => ⟨.inl hf, (K.fresh _ hkm b hf).2⟩) ?_ (fun T hT => by cases hT)
  have h1 := hown.1
  refine ⟨by rw [List.length_take, h1]; exact Nat.min_eq_left (Nat.mul_le_mul_right _ hn), ?_⟩
  rcases hown.2 with ⟨h, _⟩ | ⟨g', cap', cur, hv, hb, hg, hle, hm, hcs, ht⟩
  · cases h
  · obtain ⟨e1, _, e2⟩ := Value.slice.inj hv
    injection e1 with e1; injection e1 with e1
    subst e1 e2
    refine .inr ⟨g, cap, cur, rfl, hb, hg, by omega, hm, hcs, ?_⟩
    rw [← ht, List.take_take, Nat.min_eq_left (Nat.mul_le_mul_right _ hn)]
end
end Go.Proofs.Ytkpbnlbhfhkhcaa

namespace Go.Proofs.Ytkpbnlbhfhkhcaa
open Go.RowKit
set_option linter.unusedVariables false
set_option linter.unusedSimpArgs false

theorem RdC.of_sl {w : World} {A : Option Addr} {n : Nat} {l : List Col} (h : SlR 4 A n (colCells l) w) : RdC w w.heap.size A n l := h
theorem get_col {l : List Col} {n k : Nat} (h : l.length = n) (hk : k < n) : ∃ c, l[k]? = some c := ⟨l[k]'(by omega), List.getElem?_eq_getElem _⟩

set_option maxHeartbeats 400000 in
theorem findc_any (nm : ByteArray) (ty : Int) (nn key : Bool) (g : Nat) (s : ByteArray) (w : World) (hg : w.cell? ⟨g, 0, none⟩ = some (.string s)) (hlt : g < w.heap.size) :
    Calls Try.prog 25 #[.agg #[.string nm, .int .i64 ty, .bool nn, .bool key], .pointer (some ⟨g, 0, none⟩)] w fun e w' => e = .returned (.bool (nm.toList == s.toList)) ∧ Below w.heap.size w w' := by
  go_enter Try.func25, Try.ntmps25
  go_wp2
  go_ret
  exact ⟨rfl, ext1 _ _⟩

set_option maxHeartbeats 2000000 in
theorem idx_find (M : Nat → Prop) (w : World) (hM : ∀ b, M b → b < w.heap.size) (A : Option Addr) (n c : Nat) (l : List Col) (hD : Ro w M (SlR 4 A n (colCells l))) (hn : n ≤ 9223372036854775807) (g : Nat) (s : ByteArray) (hS : Ro w M (fun w => w.heap[g]? = some (.cells #[.string s] 9 (0, 0)))) :
    Calls Try.prog 24 #[.slice A n c, .func (.func 25) #[] #[.pointer (some ⟨g, 0, none⟩)]] w fun e w' => e = .returned (.int .i64 (findB (named s) l)) ∧ Below w.heap.size w w' := by
  have HL := hid (RdC.of_sl hD.now).len
  have K0 := ((Hold.start M w hM).add (hD.less (by simp [Mut]))).add (S := fun w => w.heap[g]? = some (.cells #[.string s] 9 (0, 0))) (hS.less (by simp [Mut, Hp.foot]))
  go_enter Try.func24, Try.ntmps24
  go_wp2_with fail
  go_loopw [8] (fun i wr => ∃ k : Nat, k ≤ n ∧ i = .int .i64 k ∧ findB (named s) l = findFrom (named s) k (l.drop k) ∧ Hold M none w wr [.ro (fun w => w.heap[g]? = some (.cells #[.string s] 9 (0, 0))), .ro (SlR 4 A n (colCells l))]) (fun i _ => n - (intOf i).toNat)
  case atStart => exact ⟨0, by omega, rfl, rfl, K0⟩
  case round =>
    obtain ⟨k, hk, rfl, hf, H⟩ := hrel
    have HF := hid hf; clear hf
    by_cases hlt : k < n
    · obtain ⟨⟨nm, ty, nn, key⟩, hc⟩ := get_col HL.out hlt
      obtain ⟨b, o, rfl, hb, c0, c1, c2, c3⟩ := (RdC.of_sl (H.ro 1 rfl).now).at_ hc
      have HC := hid hc; clear hc
      have hB : Blk _ g 9 #[.string s] := (H.ro 0 rfl).now
      simp only at c0 c1 c2 c3
      cases hp : (nm.toList == s.toList)
      all_goals
        go_wp2_with fail
        refine (findc_any nm ty nn key g s _ (hB.cell 0) hB.lt).mono ?_
        rintro e w1 ⟨rfl, b1⟩
        have K1 := Hold.call H b1
        rw [hp]
        go_wp2_with fail
      · go_roundw
        case rel => exact ⟨k + 1, by omega, by go_num, find_miss HF.out HC.out hp, K1⟩
        case measure => simp [intOf]; omega
      · go_ret
        exact ⟨by rw [find_hit HF.out HC.out hp] <;> rfl, K1.below⟩
    · go_wp2
      go_ret
      exact ⟨by rw [find_end HF.out (by rw [HL.out]; omega)] <;> rfl, H.below⟩

set_option maxHeartbeats 1000000 in
theorem find_any (M : Nat → Prop) (w : World) (hM : ∀ b, M b → b < w.heap.size) (nm : ByteArray) (A : Option Addr) (n c : Nat) (l : List Col) (s : ByteArray) (hD : Ro w M (SlR 4 A n (colCells l))) (hn : n ≤ 9223372036854775807) :
    Calls Try.prog 12 #[.agg #[.string nm, .slice A n c], .string s] w fun e w' => e = .returned (.int .i64 (findB (named s) l)) ∧ Below w.heap.size w w' := by
  have K0 := (((Hold.start M w hM).add (hD.less (by simp [Mut]))).alloc_cst #[.string nm, .slice A n c] 53).alloc_cst #[.string s] 9
  simp only [World.size_alloc] at K0
  go_enter Try.func12, Try.ntmps12
  go_wp2_with fail
  refine (idx_find (Mut M _) _ K0.mutLt A n c l (K0.ro 2 rfl) hn _ s (K0.get 0 rfl)).mono ?_
  rintro e w1 ⟨rfl, b1⟩
  have K1 := Hold.call K0 b1
  go_wp2
  go_ret
  exact ⟨rfl, K1.below⟩

end Go.Proofs.Ytkpbnlbhfhkhcaa

namespace Go.Proofs.Ytkpbnlbhfhkhcaa
open Go.RowKit
set_option linter.unusedVariables false
set_option linter.unusedSimpArgs false

abbrev ColsIn (A : Option Addr) (n : Nat) (l : List Col) : World → Prop := SlR 4 A n (colCells l)
theorem one_cols (l : List Col) : ∀ u ∈ colCells l, u.oneCell' = true := fun u hu => by
  unfold colCells at hu
  rw [List.mem_flatMap] at hu
  obtain ⟨x, _, hx⟩ := hu
  simp only [Col.cells, List.mem_cons, List.not_mem_nil, or_false] at hx
  rcases hx with rfl | rfl | rfl | rfl <;> rfl
theorem Try.elCol : ElemT Try.prog 51 58 4 32 (.agg #[.string ⟨#[]⟩, .int .i64 0, .bool false, .bool false]) := ⟨Try.underlying51, by kernel_rfl, rfl, by omega⟩
theorem Try.elRw : ElemT Try.prog 64 148 2 32 (.agg #[.int .i64 0, .slice none 0 0]) := ⟨Try.underlying64, by kernel_rfl, rfl, by omega⟩
/-- A list handed back, in memory that nobody writes. -/
def RowRet (size : Nat) (xs : List Value) (k : Nat) (w : World) (M : Nat → Prop) (e : Ending) (w' : World) : Prop :=
  ∃ (A : Option Addr) (n c : Nat), e = .returned (.slice A n c) ∧ n = k ∧ n ≤ c ∧ c ≤ 9223372036854775807 ∧ Ro w' M (SlR size A n xs) ∧ Below w.heap.size w w'
set_option maxHeartbeats 4000000 in
set_option maxRecDepth 100000 in
theorem cloneCols_any (M : Nat → Prop) (w : World) (hM : ∀ b, M b → b < w.heap.size) (A : Option Addr) (n c : Nat) (l : List Col) (hD : Ro w M (ColsIn A n l)) (hn : n ≤ 4398046511104) :
    Calls Try.prog 23 #[.slice A n c] w fun e w' => RowRet 4 (colCells l) l.length w M e w' := by
  have hl := hid (show l.length = n from (RdC.of_sl hD.now).len)
  have hq : ∀ (w : World) (a : Option Addr) (n c : Nat), (binOp .eql 51 (.slice a n c) (.slice none 0 0)).run Try.prog w = .ok (.bool a.isNone) w := fun w a n c => Go.Lib.run_eql_slice_nil w _ _ a n c 0 0 Try.underlying51
  rcases A with _ | a
  · have h0 : n = 0 := by
      rcases Nat.eq_zero_or_pos n with h | h
      · exact h
      · obtain ⟨_, _, e, _⟩ := (show Rd w w.heap.size 4 none n (colCells l) from hD.now).2 h; cases e
    subst h0
    obtain rfl : l = [] := List.length_eq_zero_iff.1 hl.out
    go_enter Try.func23, Try.ntmps23
    go_wp2_with fail
    go_ret
    exact ⟨none, 0, 0, rfl, rfl, by omega, by omega, ro_nil, Below.refl _ _⟩
  · have K0 := (Hold.start M w hM).add (hD.less (by simp [Mut]))
    have K1 := K0.alloc_own #[] 58 4 0 (by unfold maxLen; omega) rfl
    have hr := hid (show ColsIn (some a) n l _ from (K1.ro 1 rfl).now)
    have h1 := hid (one_cols l)
    go_enter Try.func23, Try.ntmps23
    go_wp2_with (at_builtin; go_must (refine wpList_appAllH K1 0 rfl Try.elCol hr.out rfl (.tmp 5) (.tmp 6) rfl rfl rfl h1.out (by omega) (by omega) ?_); intro C' cap' w2 hc1 hm1 K2)
    have KS := K2.sealRow 0 rfl
    go_ret
    simp only [Nat.zero_add, List.nil_append, List.set_cons_zero] at KS hc1
    exact ⟨C', n, cap', by first | rfl | simp, hl.out.symm, hc1, hm1, KS.roOut 0 rfl, KS.below⟩
end Go.Proofs.Ytkpbnlbhfhkhcaa

namespace Go.Proofs.Ytkpbnlbhfhkhcaa
open Go.RowKit
set_option linter.unusedVariables false
set_option linter.unusedSimpArgs false

/-- the values of the row with a number -/
def getR (rs : List Row) (id : Int) : Option (List Vl) := (rs.find? fun r => r.1 == id).map (·.2)
end Go.Proofs.Ytkpbnlbhfhkhcaa

namespace Go.Proofs.Ytkpbnlbhfhkhcaa
open Go.RowKit
set_option linter.unusedVariables false
set_option linter.unusedSimpArgs false

def iCells (l : List Int) : List Value := l.map (.int .i64)
theorem iCells_len (l : List Int) : (iCells l).length = l.length := by simp [iCells]
def IsIn (A : Option Addr) (n : Nat) (l : List Int) : World → Prop := SlR 1 A n (iCells l)
theorem IsIn.len {w : World} {A : Option Addr} {n : Nat} {l : List Int} (h : IsIn A n l w) : l.length = n := by
  have := (show Rd w w.heap.size 1 A n (iCells l) from h).1
  rw [iCells_len] at this
  omega
theorem IsIn.cells {w : World} {A : Option Addr} {n : Nat} {l : List Int} (h : IsIn A n l w) (h0 : 0 < n) : ∃ b o, A = some ⟨b, o, none⟩ ∧ b < w.heap.size ∧ ∀ j, j < l.length → w.cell? ⟨b, o + j, none⟩ = some (.int .i64 (l.getD j 0)) := by
  obtain ⟨b, o, rfl, hb, hc⟩ := (show Rd w w.heap.size 1 A n (iCells l) from h).2 h0
  refine ⟨b, o, rfl, hb, fun j hj => hc j _ ?_⟩
  simp [iCells, List.getD, hj]
end Go.Proofs.Ytkpbnlbhfhkhcaa

namespace Go.Proofs.Ytkpbnlbhfhkhcaa
open Go.RowKit
set_option linter.unusedVariables false
set_option linter.unusedSimpArgs false

/-- A row without a number in memory: the slice of its values, the values. -/
structure Sl where
  A : Option Addr
  n : Nat
  c : Nat
  vs : List Vl
def Sl.cells (r : Sl) : List Value := [.slice r.A r.n r.c]
def slCells (l : List Sl) : List Value := l.flatMap Sl.cells
theorem slCells_len (l : List Sl) : (slCells l).length = l.length := by have := flat_len Sl.cells 1 (fun _ => rfl) l; simpa [slCells] using this
def SlsIn (A : Option Addr) (n : Nat) (l : List Sl) (w : World) : Prop := SlR 1 A n (slCells l) w ∧ ∀ r ∈ l, VlsIn r.A r.n r.vs w
theorem SlsIn.len {w : World} {A : Option Addr} {n : Nat} {l : List Sl} (h : SlsIn A n l w) : l.length = n := by
  have := (show Rd w w.heap.size 1 A n (slCells l) from h.1).1
  rw [slCells_len] at this
  omega
theorem SlsIn.at_ {w : World} {A : Option Addr} {n : Nat} {l : List Sl} (h : SlsIn A n l w) {k : Nat} {x : Sl} (hx : l[k]? = some x) :
    ∃ b o, A = some ⟨b, o, none⟩ ∧ b < w.heap.size ∧ w.cell? ⟨b, o + k, none⟩ = some (.slice x.A x.n x.c) ∧ VlsIn x.A x.n x.vs w := by
  have hk : k < n := by rw [← h.len]; exact (List.getElem?_eq_some_iff.1 hx).1
  obtain ⟨b, o, e, hb, hc⟩ := (show Rd w w.heap.size 1 A n (slCells l) from h.1).2 (by omega)
  have h0 := flat_get Sl.cells 1 (fun _ => rfl) l k 0 x (by omega) hx
  rw [Nat.mul_one, Nat.add_zero] at h0
  exact ⟨b, o, e, hb, hc _ _ h0, h.2 x (List.mem_of_getElem? hx)⟩
structure Sl.ok (r : Sl) : Prop where
  nc : r.n ≤ r.c
  c : r.c ≤ 9223372036854775807
  vs : ∀ v ∈ r.vs, v.ok
/-- An update in memory. -/
structure Pr where
  id : Int
  oA : Option Addr
  on : Nat
  oc : Nat
  old : List Vl
  nA : Option Addr
  nn : Nat
  nc : Nat
  new : List Vl
def Pr.cells (r : Pr) : List Value := [.int .i64 r.id, .slice r.oA r.on r.oc, .slice r.nA r.nn r.nc]
def prCells (l : List Pr) : List Value := l.flatMap Pr.cells
theorem prCells_len (l : List Pr) : (prCells l).length = l.length * 3 := flat_len _ 3 (fun _ => rfl) l
def PrsIn (A : Option Addr) (n : Nat) (l : List Pr) (w : World) : Prop := SlR 3 A n (prCells l) w ∧ ∀ r ∈ l, VlsIn r.oA r.on r.old w ∧ VlsIn r.nA r.nn r.new w
theorem PrsIn.len {w : World} {A : Option Addr} {n : Nat} {l : List Pr} (h : PrsIn A n l w) : l.length = n := by
  have := (show Rd w w.heap.size 3 A n (prCells l) from h.1).1
  rw [prCells_len] at this
  omega
theorem PrsIn.at_ {w : World} {A : Option Addr} {n : Nat} {l : List Pr} (h : PrsIn A n l w) {k : Nat} {x : Pr} (hx : l[k]? = some x) :
    ∃ b o, A = some ⟨b, o, none⟩ ∧ b < w.heap.size ∧ w.cell? ⟨b, o + k * 3, none⟩ = some (.int .i64 x.id) ∧ w.cell? ⟨b, o + k * 3 + 1, none⟩ = some (.slice x.oA x.on x.oc) ∧ w.cell? ⟨b, o + k * 3 + 2, none⟩ = some (.slice x.nA x.nn x.nc) ∧ VlsIn x.oA x.on x.old w ∧ VlsIn x.nA x.nn x.new w := by
  have hk : k < n := by rw [← h.len]; exact (List.getElem?_eq_some_iff.1 hx).1
  obtain ⟨b, o, e, hb, hc⟩ := (show Rd w w.heap.size 3 A n (prCells l) from h.1).2 (by omega)
  have h2 := h.2 x (List.mem_of_getElem? hx)
  exact ⟨b, o, e, hb, hc _ _ (flat_get Pr.cells 3 (fun _ => rfl) l k 0 x (by omega) hx), hc _ _ (flat_get Pr.cells 3 (fun _ => rfl) l k 1 x (by omega) hx), hc _ _ (flat_get Pr.cells 3 (fun _ => rfl) l k 2 x (by omega) hx), h2.1, h2.2⟩
structure Pr.ok (r : Pr) : Prop where
  id : I64 r.id
  oc : r.on ≤ r.oc
  oc2 : r.oc ≤ 9223372036854775807
  nc : r.nn ≤ r.nc
  nc2 : r.nc ≤ 9223372036854775807
  old : ∀ v ∈ r.old, v.ok
  new : ∀ v ∈ r.new, v.ok
abbrev Upd := Int × List Vl × List Vl
def Pr.upd (r : Pr) : Upd := (r.id, r.old, r.new)

end Go.Proofs.Ytkpbnlbhfhkhcaa

namespace Go.Proofs.Ytkpbnlbhfhkhcaa
open Go.RowKit
set_option linter.unusedVariables false
set_option linter.unusedSimpArgs false

/-- a query: its items and its condition are of type α -/
structure QuP (α : Type) where
  star : Bool
  A : Option Addr
  n : Nat
  c : Nat
  items : List α
  src : ByteArray
  B : Option Addr
  m : Nat
  d : Nat
  wh : List α
/-- an expression, with the places of its lists -/
structure Ex where
  kind : Int
  op : Int
  nt : Bool
  v : Vl
  tab : ByteArray
  nm : ByteArray
  A : Option Addr
  n : Nat
  c : Nat
  args : List Ex
  B : Option Addr
  m : Nat
  d : Nat
  sub : List (QuP Ex)
abbrev Qu := QuP Ex
def Ex.cells (e : Ex) : List Value := [.int .i64 e.kind, .int .i64 e.op, .bool e.nt, .int .i64 e.v.k, .int .i64 e.v.i, .string e.v.s, .string e.tab, .string e.nm, .slice e.A e.n e.c, .slice e.B e.m e.d]
def Ex.val (e : Ex) : Value := .agg #[.int .i64 e.kind, .int .i64 e.op, .bool e.nt, .int .i64 e.v.k, .int .i64 e.v.i, .string e.v.s, .string e.tab, .string e.nm, .slice e.A e.n e.c, .slice e.B e.m e.d]
def Qu.cells (q : Qu) : List Value := [.bool q.star, .slice q.A q.n q.c, .string q.src, .slice q.B q.m q.d]
def exCells (l : List Ex) : List Value := l.flatMap Ex.cells
def quCells (l : List Qu) : List Value := l.flatMap Qu.cells
theorem exCells_len (l : List Ex) : (exCells l).length = l.length * 10 := flat_len _ 10 (fun _ => rfl) l
/-- the tree below e lies in memory, at most d levels deep (a query and the expressions in it are two levels) -/
def ExIn : Nat → Ex → World → Prop
  | 0, _, _ => False
  | d + 1, e, w => SlR 10 e.A e.n (exCells e.args) w ∧ (∀ a ∈ e.args, ExIn d a w) ∧ SlR 4 e.B e.m (quCells e.sub) w ∧ ∀ q ∈ e.sub, (SlR 10 q.A q.n (exCells q.items) w ∧ ∀ a ∈ q.items, ExIn d a w) ∧ SlR 10 q.B q.m (exCells q.wh) w ∧ ∀ a ∈ q.wh, ExIn d a w
def QuIn (d : Nat) (q : Qu) (w : World) : Prop := (SlR 10 q.A q.n (exCells q.items) w ∧ ∀ a ∈ q.items, ExIn d a w) ∧ SlR 10 q.B q.m (exCells q.wh) w ∧ ∀ a ∈ q.wh, ExIn d a w
def ExsIn (d : Nat) (A : Option Addr) (n : Nat) (l : List Ex) (w : World) : Prop := SlR 10 A n (exCells l) w ∧ ∀ e ∈ l, ExIn d e w
theorem ExIn.succ {d : Nat} {e : Ex} {w : World} : ExIn (d + 1) e w ↔ ExsIn d e.A e.n e.args w ∧ SlR 4 e.B e.m (quCells e.sub) w ∧ ∀ q ∈ e.sub, QuIn d q w := by
  constructor
  · rintro ⟨h1, h2, h3, h4⟩; exact ⟨⟨h1, h2⟩, h3, h4⟩
  · rintro ⟨⟨h1, h2⟩, h3, h4⟩; exact ⟨h1, h2, h3, h4⟩
theorem ExIn.more {w : World} : ∀ {d : Nat} {e : Ex}, ExIn d e w → ExIn (d + 1) e w
  | 0, _, h => h.elim
  | d + 1, e, ⟨h1, h2, h3, h4⟩ => ⟨h1, fun a ha => (h2 a ha).more, h3, fun q hq => ⟨⟨(h4 q hq).1.1, fun a ha => ((h4 q hq).1.2 a ha).more⟩, (h4 q hq).2.1, fun a ha => ((h4 q hq).2.2 a ha).more⟩⟩
theorem ExIn.le {w : World} {d d' : Nat} {e : Ex} (h : ExIn d e w) (hd : d ≤ d') : ExIn d' e w := by
  obtain ⟨k, rfl⟩ : ∃ k, d' = d + k := ⟨d' - d, by omega⟩
  clear hd
  induction k with
  | zero => exact h
  | succ k ih => exact ih.more
theorem ExsIn.len {d : Nat} {A : Option Addr} {n : Nat} {l : List Ex} {w : World} (h : ExsIn d A n l w) : l.length = n := by
  have := (show Rd w w.heap.size 10 A n (exCells l) from h.1).1
  rw [exCells_len] at this
  omega
theorem ExsIn.at_ {d : Nat} {w : World} {A : Option Addr} {n : Nat} {l : List Ex} (h : ExsIn d A n l w) {k : Nat} {x : Ex} (hx : l[k]? = some x) :
    ∃ b o, A = some ⟨b, o, none⟩ ∧ b < w.heap.size ∧ (∀ j u, j < 10 → x.cells[j]? = some u → w.cell? ⟨b, o + k * 10 + j, none⟩ = some u) ∧ ExIn d x w := by
  have hk : k < n := by rw [← h.len]; exact (List.getElem?_eq_some_iff.1 hx).1
  obtain ⟨b, o, e, hb, hc⟩ := (show Rd w w.heap.size 10 A n (exCells l) from h.1).2 (by omega)
  refine ⟨b, o, e, hb, fun j u hj hu => ?_, h.2 x (List.mem_of_getElem? hx)⟩
  rw [Nat.add_assoc]
  exact hc _ _ ((flat_get Ex.cells 10 (fun _ => rfl) l k j x hj hx).trans hu)
/-- the usual trees -/
def vlZ : Vl := ⟨0, 0, ⟨#[]⟩⟩
def litE (v : Vl) : Ex := ⟨1, 0, false, v, ⟨#[]⟩, ⟨#[]⟩, none, 0, 0, [], none, 0, 0, []⟩
def colE (t n : ByteArray) : Ex := ⟨2, 0, false, vlZ, t, n, none, 0, 0, [], none, 0, 0, []⟩
def opE (kind op : Int) (nt : Bool) (g k : Nat) (l : List Ex) : Ex := ⟨kind, op, nt, vlZ, ⟨#[]⟩, ⟨#[]⟩, some ⟨g, 0, none⟩, k, k, l, none, 0, 0, []⟩
/-- a number as an expression: a literal, or a literal behind a minus sign -/
def NumE (x : Ex) (n : Int) : Prop := (0 ≤ n ∧ x = litE ⟨1, n, ⟨#[]⟩⟩) ∨ (n < 0 ∧ ∃ g, x = opE 4 0 false g 1 [litE ⟨1, -n, ⟨#[]⟩⟩])
theorem slr_nil (size : Nat) (w : World) : SlR size none 0 [] w := ⟨by simp, fun h => absurd h (Nat.lt_irrefl 0)⟩
theorem lit_in (v : Vl) (w : World) : ExIn 1 (litE v) w := ⟨slr_nil 10 w, fun a ha => (nomatch ha), slr_nil 4 w, fun q hq => (nomatch hq)⟩
theorem col_in (t n : ByteArray) (w : World) : ExIn 1 (colE t n) w := ⟨slr_nil 10 w, fun a ha => (nomatch ha), slr_nil 4 w, fun q hq => (nomatch hq)⟩
theorem op_in {d : Nat} {kind op : Int} {nt : Bool} {g k : Nat} {l : List Ex} {w : World} (h : ExsIn d (some ⟨g, 0, none⟩) k l w) : ExIn (d + 1) (opE kind op nt g k l) w := ⟨h.1, h.2, slr_nil 4 w, fun q hq => (nomatch hq)⟩
theorem one_ex (x : Ex) : ∀ u ∈ x.cells, u.oneCell' = true := fun u hu => by
  simp only [Ex.cells, List.mem_cons, List.not_mem_nil, or_false] at hu
  rcases hu with rfl | rfl | rfl | rfl | rfl | rfl | rfl | rfl | rfl | rfl <;> rfl
theorem exs_block {d : Nat} {w : World} {M : Nat → Prop} {g : Nat} {t : TypeId} {cs : Array Value} {l : List Ex} (h : Ro w M (fun w => w.heap[g]? = some (.cells cs t (0, 0)))) (hl : cs.toList = exCells l) (hr : ∀ x ∈ l, Ro w M (ExIn d x)) : Ro w M (ExsIn d (some ⟨g, 0, none⟩) l.length l) := by
  have h1 : Ro w M (SlR 10 (some ⟨g, 0, none⟩) l.length cs.toList) := ro_block h (by rw [hl, exCells_len])
  rw [hl] at h1
  exact h1.and fun w2 a b x hx => hr x hx w2 a b
end Go.Proofs.Ytkpbnlbhfhkhcaa

namespace Go.Proofs.Ytkpbnlbhfhkhcaa
open Go.RowKit
set_option linter.unusedVariables false
set_option linter.unusedSimpArgs false

/-- a slice with its place and what it holds -/
structure SlP (α : Type) where
  A : Option Addr
  n : Nat
  c : Nat
  l : List α
def SlP.v {α : Type} (s : SlP α) : Value := .slice s.A s.n s.c
def SlP.nil {α : Type} : SlP α := ⟨none, 0, 0, []⟩
def SlP.In {α : Type} (s : SlP α) (k : Nat) (cel : α → List Value) (P : α → World → Prop) (w : World) : Prop := SlR k s.A s.n (s.l.flatMap cel) w ∧ ∀ x ∈ s.l, P x w
theorem SlP.In.len {α : Type} {s : SlP α} {k : Nat} {cel : α → List Value} {P : α → World → Prop} {w : World} (h : s.In k cel P w) (hk : 0 < k) (hc : ∀ x, (cel x).length = k) : s.l.length = s.n := by
  have := (show Rd w w.heap.size k s.A s.n (s.l.flatMap cel) from h.1).1
  rw [flat_len cel k hc] at this
  exact Nat.eq_of_mul_eq_mul_right hk this
theorem SlP.In.at_ {α : Type} {s : SlP α} {k : Nat} {cel : α → List Value} {P : α → World → Prop} {w : World} (h : s.In k cel P w) (hk : 0 < k) (hc : ∀ x, (cel x).length = k) {i : Nat} {x : α} (hx : s.l[i]? = some x) :
    ∃ b o, s.A = some ⟨b, o, none⟩ ∧ b < w.heap.size ∧ (∀ j u, j < k → (cel x)[j]? = some u → w.cell? ⟨b, o + i * k + j, none⟩ = some u) ∧ P x w := by
  have hi : i < s.n := by rw [← h.len hk hc]; exact (List.getElem?_eq_some_iff.1 hx).1
  obtain ⟨b, o, e, hb, hcl⟩ := (show Rd w w.heap.size k s.A s.n (s.l.flatMap cel) from h.1).2 (by omega)
  refine ⟨b, o, e, hb, fun j u hj hu => ?_, h.2 x (List.mem_of_getElem? hx)⟩
  rw [Nat.add_assoc]
  exact hcl _ _ ((flat_get cel k hc s.l i j x hj hx).trans hu)
theorem SlP.nil_in {α : Type} (k : Nat) (cel : α → List Value) (P : α → World → Prop) (w : World) : (SlP.nil : SlP α).In k cel P w := ⟨slr_nil k w, fun _ hx => (nomatch hx)⟩
/-- an assignment -/
structure Se where
  col : ByteArray
  e : Ex
def Se.cells (s : Se) : List Value := .string s.col :: s.e.cells
/-- a certificate -/
structure Rk where
  tab : ByteArray
  col : ByteArray
  lo : Int
  hi : Int
def Rk.cells (r : Rk) : List Value := [.string r.tab, .string r.col, .int .i64 r.lo, .int .i64 r.hi]
/-- an action -/
structure Ac where
  kind : Int
  tab : ByteArray
  rows : SlP (SlP Ex)
  qs : SlP Qu
  sets : SlP Se
  wh : SlP Ex
  text : ByteArray
def Ac.cells (a : Ac) : List Value := [.int .i64 a.kind, .string a.tab, a.rows.v, a.qs.v, a.sets.v, a.wh.v, .string a.text]
/-- a trigger -/
structure Tg where
  name : ByteArray
  tab : ByteArray
  before : Bool
  event : Int
  cols : SlP ByteArray
  each : Bool
  prec : SlP ByteArray
  foll : SlP ByteArray
  rank : SlP Rk
  cond : SlP Ex
  acts : SlP Ac
def Tg.cells (t : Tg) : List Value := [.string t.name, .string t.tab, .bool t.before, .int .i64 t.event, t.cols.v, .bool t.each, t.prec.v, t.foll.v, t.rank.v, t.cond.v, t.acts.v]
def SeIn (d : Nat) (s : Se) (w : World) : Prop := ExIn d s.e w
def AcIn (d : Nat) (a : Ac) (w : World) : Prop :=
  a.rows.In 1 (fun r => [r.v]) (fun r w => r.In 10 Ex.cells (ExIn d) w) w ∧ a.qs.In 4 Qu.cells (QuIn d) w ∧ a.sets.In 11 Se.cells (SeIn d) w ∧ a.wh.In 10 Ex.cells (ExIn d) w
def strc (s : ByteArray) : List Value := [.string s]
def TgIn (d : Nat) (t : Tg) (w : World) : Prop :=
  t.cols.In 1 strc (fun _ _ => True) w ∧ t.prec.In 1 strc (fun _ _ => True) w ∧ t.foll.In 1 strc (fun _ _ => True) w ∧ t.rank.In 4 Rk.cells (fun _ _ => True) w ∧ t.cond.In 10 Ex.cells (ExIn d) w ∧ t.acts.In 7 Ac.cells (AcIn d) w
/-- the first part of a condition -/
def frstE : Nat → Ex → Ex
  | 0, e => e
  | d + 1, e => if e.kind = 5 ∧ e.op = 2 then (match e.args with | a :: _ => frstE d a | [] => e) else e
def isColB (e : Ex) (tab col : ByteArray) : Bool := (e.kind == 2) && (e.nm.toList == col.toList) && (e.tab.toList.isEmpty || e.tab.toList == tab.toList)
/-- the number that an expression is -/
def constE (e : Ex) : Int × Bool :=
  match e.args with
  | [a] => if e.kind = 4 ∧ a.kind = 1 then (IntKind.i64.wrap (-a.v.i), decide (a.v.k = 1)) else (e.v.i, decide (e.kind = 1) && decide (e.v.k = 1))
  | _ => (e.v.i, decide (e.kind = 1) && decide (e.v.k = 1))
/-- the limits within which an update changes a column -/
def guardA (d : Nat) (a : Ac) (col : ByteArray) : Option (Int × Int) :=
  match a.wh.l with
  | [] => none
  | e0 :: _ =>
    let e := frstE d e0
    if a.kind = 2 ∧ e.kind = 7 then
      match e.args with
      | [x, y, z] => if isColB x a.tab col ∧ (constE y).2 ∧ (constE z).2 then some ((constE y).1, (constE z).1) else none
      | _ => none
    else none
/-- 3: a literal is added; 4: one is subtracted -/
def stepS (s : Se) (tab : ByteArray) : Option Int :=
  match s.e.args with
  | [c, k] => if s.e.kind = 5 ∧ (s.e.op = 9 ∨ s.e.op = 10) ∧ c.kind = 2 ∧ c.nm = s.col ∧ (c.tab = ⟨#[]⟩ ∨ c.tab = tab) ∧ k.kind = 1 ∧ k.v.k = 1 then some (if s.e.op = 9 then 3 else 4) else none
  | _ => none
/-- by how much an assignment lowers a column -/
def lowS (tab col : ByteArray) (s : Se) : Option Int :=
  if s.col = col ∧ stepS s tab = some 4 then (match s.e.args with | [_, k] => some k.v.i | _ => none) else none
def lowersA (a : Ac) (col : ByteArray) : Option Int := if a.kind = 2 then a.sets.l.findSome? (lowS a.tab col) else none
def ownAct (d : Nat) (r : Rk) (a : Ac) : Bool :=
  decide (a.kind = 4) || (decide (a.tab = r.tab) && (match lowersA a r.col, guardA d a r.col with | some k, some (lo, hi) => decide (1 ≤ k) && decide (r.lo ≤ lo) && decide (hi ≤ r.hi) | _, _ => false))
def ownT (d : Nat) (t : Tg) (r : Rk) : Bool := t.acts.l.all (ownAct d r)
def assignedA (a : Ac) : List ByteArray := if a.kind = 2 then a.sets.l.map Se.col else []
def harmlessA (r : Rk) (a : Ac) : Bool :=
  if a.tab = r.tab then (if a.kind = 1 then false else if a.kind = 2 ∧ ((assignedA a).any fun c => decide (c = r.col)) = true then (lowersA a r.col).isSome else true) else true
end Go.Proofs.Ytkpbnlbhfhkhcaa

namespace Go.Proofs.Ytkpbnlbhfhkhcaa
open Go.RowKit
set_option linter.unusedVariables false
set_option linter.unusedSimpArgs false

set_option maxHeartbeats 2000000 in
theorem iscol_any (w : World) (e : Ex) (t c : ByteArray) : Calls Try.prog 35 #[e.val, .string t, .string c] w fun r w' => r = .returned (.bool (isColB e t c)) ∧ Below w.heap.size w w' := by
  have K0 := (Hold.begin_ w).alloc_cst #[.int .i64 e.kind, .int .i64 e.op, .bool e.nt, .int .i64 e.v.k, .int .i64 e.v.i, .string e.v.s, .string e.tab, .string e.nm, .slice e.A e.n e.c, .slice e.B e.m e.d] 38
  have F := K0.facts
  simp only [World.size_alloc, World.size_drew, factsL, cellsF, Nat.reduceAdd, List.toList_toArray, List.set_cons_zero, List.set_cons_succ, List.setIfInBounds_toArray, and_true, true_and] at F
  have HB := hid K0.below
  rw [show e.val = .agg #[.int .i64 e.kind, .int .i64 e.op, .bool e.nt, .int .i64 e.v.k, .int .i64 e.v.i, .string e.v.s, .string e.tab, .string e.nm, .slice e.A e.n e.c, .slice e.B e.m e.d] from rfl]
  go_enter Try.func35, Try.ntmps35
  go_wp2_with fail
  all_goals
    go_ret
    exact ⟨by simp_all [isColB], ext1 _ _⟩
set_option maxRecDepth 100000 in
set_option maxHeartbeats 2000000 in
theorem first_nil (w : World) (A : Option Addr) (c : Nat) : Calls Try.prog 34 #[.slice A 0 c] w fun r w' => r = .returned (.tuple #[.agg #[.int .i64 0, .int .i64 0, .bool false, .int .i64 0, .int .i64 0, .string ⟨#[]⟩, .string ⟨#[]⟩, .string ⟨#[]⟩, .slice none 0 0, .slice none 0 0], .bool false]) ∧ Below w.heap.size w w' := by
  go_enter Try.func34, Try.ntmps34
  go_wp2_with fail
  exact bodyPost_ret (v := .tuple #[.agg #[.int .i64 0, .int .i64 0, .bool false, .int .i64 0, .int .i64 0, .string ⟨#[]⟩, .string ⟨#[]⟩, .string ⟨#[]⟩, .slice none 0 0, .slice none 0 0], .bool false]) (by simp [results, Try.results34, go_sem]) rfl ⟨rfl, ext1 _ _⟩
theorem frstE_step {d : Nat} {e a : Ex} {l : List Ex} (h1 : e.kind = 5) (h2 : e.op = 2) (h3 : e.args = a :: l) : frstE (d + 1) e = frstE d a := by
  simp [frstE, h1, h2, h3]
theorem frstE_end {d : Nat} {e : Ex} (h : ¬ (e.kind = 5 ∧ e.op = 2 ∧ e.args ≠ [])) : frstE d e = e := by
  cases d with
  | zero => rfl
  | succ d =>
    simp only [frstE]
    split
    · split
      · rename_i h1 _ _ _ h2
        exact absurd ⟨h1.1, h1.2, by rw [h2]; exact List.cons_ne_nil _ _⟩ h
      · rfl
    · rfl
set_option maxRecDepth 100000 in
set_option maxHeartbeats 2000000 in
theorem first_any (M : Nat → Prop) (w : World) (hM : ∀ b, M b → b < w.heap.size) (A : Option Addr) (n c d : Nat) (x : Ex) (l : List Ex) (hl : Ro w M (ExsIn d A n (x :: l))) (hn : n ≤ 9223372036854775807) : Calls Try.prog 34 #[.slice A n c] w fun r w' => r = .returned (.tuple #[(frstE d x).val, .bool true]) ∧ Below w.heap.size w w' := by
  have hlen := hl.now.len
  have K0 := ((Hold.start M w hM).add (hl.less (by simp [Mut]))).alloc #[.int .i64 0, .int .i64 0, .bool false, .int .i64 0, .int .i64 0, .string ⟨#[]⟩, .string ⟨#[]⟩, .string ⟨#[]⟩, .slice none 0 0, .slice none 0 0] 38
  have hd : ((n : Int) == 0) = false := by simp at hlen; simp; omega
  have h1 : 0 < n := by simp at hlen; omega
  obtain ⟨b, o, rfl, hb, hc, hx⟩ := (K0.ro 1 rfl).now.at_ (k := 0) (x := x) rfl
  have c0 := hc 0 _ (by omega) rfl
  have c1 := hc 1 _ (by omega) rfl
  have c2 := hc 2 _ (by omega) rfl
  have c3 := hc 3 _ (by omega) rfl
  have c4 := hc 4 _ (by omega) rfl
  have c5 := hc 5 _ (by omega) rfl
  have c6 := hc 6 _ (by omega) rfl
  have c7 := hc 7 _ (by omega) rfl
  have c8 := hc 8 _ (by omega) rfl
  have c9 := hc 9 _ (by omega) rfl
  simp only [Nat.zero_mul, Nat.add_zero] at c0 c1 c2 c3 c4 c5 c6 c7 c8 c9
  clear hc hlen
  have F := K0.facts
  simp only [World.size_alloc, World.size_drew, factsL, cellsF, Nat.reduceAdd, List.toList_toArray, List.set_cons_zero, List.set_cons_succ, List.setIfInBounds_toArray, and_true, true_and] at F
  go_enter Try.func34, Try.ntmps34
  go_wp2_with fail
  have K1 := ((K0.add (S := ExIn d x) ((K0.ro 1 rfl).imp fun w2 h2 => h2.2 x (List.mem_cons_self ..))).perm (L' := [.ro (ExIn d x), .blk w.heap.size 38 #[.int .i64 0, .int .i64 0, .bool false, .int .i64 0, .int .i64 0, .string ⟨#[]⟩, .string ⟨#[]⟩, .string ⟨#[]⟩, .slice none 0 0, .slice none 0 0], .ro (ExsIn d (some ⟨b, o, none⟩) n (x :: l))]) (List.Perm.refl _)).alloc #[.int .i64 x.kind, .int .i64 x.op, .bool x.nt, .int .i64 x.v.k, .int .i64 x.v.i, .string x.v.s, .string x.tab, .string x.nm, .slice x.A x.n x.c, .slice x.B x.m x.d] 38
  simp only [World.size_alloc] at K1
  clear c0 c1 c2 c3 c4 c5 c6 c7 c8 c9 F hx K0
  go_loopg [] d (fun gh wr => ∃ e : Ex, Hid (frstE d x = frstE gh e) ∧ Hold M none w wr [.blk (w.heap.size + 1) 38 #[.int .i64 e.kind, .int .i64 e.op, .bool e.nt, .int .i64 e.v.k, .int .i64 e.v.i, .string e.v.s, .string e.tab, .string e.nm, .slice e.A e.n e.c, .slice e.B e.m e.d], .ro (ExIn gh e), .blk w.heap.size 38 #[.int .i64 0, .int .i64 0, .bool false, .int .i64 0, .int .i64 0, .string ⟨#[]⟩, .string ⟨#[]⟩, .string ⟨#[]⟩, .slice none 0 0, .slice none 0 0]])
  case atStart => exact ⟨x, hid rfl, K1.drop (List.Sublist.cons_cons _ (.cons_cons _ (.cons_cons _ (List.nil_sublist _))))⟩
  case round =>
    clear K1
    obtain ⟨⟨k, op, nt, v, tab, nm, A, n2, c2, args, B, m, d2, sub⟩, HE, H⟩ := hrel
    obtain _ | gh := gk
    · exact ((H.ro 1 rfl).now).elim
    have hx := ExIn.succ.1 (H.ro 1 rfl).now
    have hlen := hx.1.len
    simp only at hlen H
    have F := H.facts
    simp only [World.size_alloc, World.size_drew, factsL, cellsF, Nat.reduceAdd, List.toList_toArray, List.set_cons_zero, List.set_cons_succ, List.setIfInBounds_toArray, and_true, true_and] at F
    by_cases hk : k = 5 ∧ op = 2 ∧ args ≠ []
    · obtain ⟨rfl, rfl, h3⟩ := hk
      obtain ⟨a, t, rfl⟩ := List.exists_cons_of_ne_nil h3
      obtain ⟨b2, o2, rfl, hb2, hc, ha⟩ := hx.1.at_ (k := 0) (x := a) rfl
      have y0 := hc 0 _ (by omega) rfl
      have y1 := hc 1 _ (by omega) rfl
      have y2 := hc 2 _ (by omega) rfl
      have y3 := hc 3 _ (by omega) rfl
      have y4 := hc 4 _ (by omega) rfl
      have y5 := hc 5 _ (by omega) rfl
      have y6 := hc 6 _ (by omega) rfl
      have y7 := hc 7 _ (by omega) rfl
      have y8 := hc 8 _ (by omega) rfl
      have y9 := hc 9 _ (by omega) rfl
      simp only [Nat.zero_mul, Nat.add_zero] at y0 y1 y2 y3 y4 y5 y6 y7 y8 y9
      have hn2 : decide ((n2 : Int) > 0) = true := by simp at hlen; simp; omega
      have h0 : 0 < n2 := by simp at hlen; omega
      clear hc hx ha
      have KA := H.add (S := ExIn gh a) ((H.ro 1 rfl).imp fun w2 h2 => (ExIn.succ.1 h2).1.2 a (List.mem_cons_self ..))
      have KB := KA.perm (L' := [.blk (w.heap.size + 1) 38 #[.int .i64 5, .int .i64 2, .bool nt, .int .i64 v.k, .int .i64 v.i, .string v.s, .string tab, .string nm, .slice (some ⟨b2, o2, none⟩) n2 c2, .slice B m d2], .ro (ExIn gh a), .blk w.heap.size 38 #[.int .i64 0, .int .i64 0, .bool false, .int .i64 0, .int .i64 0, .string ⟨#[]⟩, .string ⟨#[]⟩, .string ⟨#[]⟩, .slice none 0 0, .slice none 0 0], .ro (ExIn (gh + 1) ⟨5, 2, nt, v, tab, nm, some ⟨b2, o2, none⟩, n2, c2, a :: t, B, m, d2, sub⟩)]) ((List.Perm.swap _ _ _).trans (((List.Perm.swap _ _ _).cons _).cons _))
      have K2 := (((((((((KB.store 0 rfl 0 (.int .i64 a.kind)).store 0 rfl 1 (.int .i64 a.op)).store 0 rfl 2 (.bool a.nt)).store 0 rfl 3 (.int .i64 a.v.k)).store 0 rfl 4 (.int .i64 a.v.i)).store 0 rfl 5 (.string a.v.s)).store 0 rfl 6 (.string a.tab)).store 0 rfl 7 (.string a.nm)).store 0 rfl 8 (.slice a.A a.n a.c)).store 0 rfl 9 (.slice a.B a.m a.d)
      simp only [List.set_cons_zero, List.set_cons_succ, List.setIfInBounds_toArray] at K2
      have K3 := K2.drop (List.Sublist.cons_cons _ (.cons_cons _ (.cons_cons _ (List.nil_sublist _))))
      clear KA KB K2
      go_wp2_with fail
      go_roundg gh
      case rel => exact ⟨a, hid (HE.out.trans (frstE_step rfl rfl rfl)), K3⟩
      case measure => omega
    · have HF := hid (frstE_end (d := gh + 1) (e := ⟨k, op, nt, v, tab, nm, A, n2, c2, args, B, m, d2, sub⟩) hk)
      have HC : k ≠ 5 ∨ (k = 5 ∧ op ≠ 2) ∨ (k = 5 ∧ op = 2 ∧ n2 = 0) := by
        by_cases h5 : k = 5
        · by_cases h2 : op = 2
          · refine .inr (.inr ⟨h5, h2, ?_⟩)
            have : args = [] := Classical.byContradiction fun h => hk ⟨h5, h2, h⟩
            rw [this] at hlen
            exact hlen.symm
          · exact .inr (.inl ⟨h5, h2⟩)
        · exact .inl h5
      clear hx hlen hk
      rcases HC with h | ⟨rfl, h⟩ | ⟨rfl, rfl, rfl⟩
      · have hq : (k == 5) = false := by simpa using h
        have K2 := (((((((((H.store 2 rfl 0 (.int .i64 k)).store 2 rfl 1 (.int .i64 op)).store 2 rfl 2 (.bool nt)).store 2 rfl 3 (.int .i64 v.k)).store 2 rfl 4 (.int .i64 v.i)).store 2 rfl 5 (.string v.s)).store 2 rfl 6 (.string tab)).store 2 rfl 7 (.string nm)).store 2 rfl 8 (.slice A n2 c2)).store 2 rfl 9 (.slice B m d2)
        simp only [List.set_cons_zero, List.set_cons_succ, List.setIfInBounds_toArray] at K2
        have F2 := K2.facts
        simp only [World.size_alloc, World.size_drew, factsL, cellsF, Nat.reduceAdd, List.toList_toArray, List.set_cons_zero, List.set_cons_succ, List.setIfInBounds_toArray, and_true, true_and] at F2
        have HB := hid K2.below
        clear K2 H
        go_wp2_with fail
        refine bodyPost_ret (v := .tuple #[.agg #[.int .i64 k, .int .i64 op, .bool nt, .int .i64 v.k, .int .i64 v.i, .string v.s, .string tab, .string nm, .slice A n2 c2, .slice B m d2], .bool true]) ?_ rfl ⟨by rw [HE.out, HF.out]; rfl, HB.out⟩
        simp [results, Try.results34, go_sem, F2]
      · have hq : (op == 2) = false := by simpa using h
        have K2 := (((((((((H.store 2 rfl 0 (.int .i64 5)).store 2 rfl 1 (.int .i64 op)).store 2 rfl 2 (.bool nt)).store 2 rfl 3 (.int .i64 v.k)).store 2 rfl 4 (.int .i64 v.i)).store 2 rfl 5 (.string v.s)).store 2 rfl 6 (.string tab)).store 2 rfl 7 (.string nm)).store 2 rfl 8 (.slice A n2 c2)).store 2 rfl 9 (.slice B m d2)
        simp only [List.set_cons_zero, List.set_cons_succ, List.setIfInBounds_toArray] at K2
        have F2 := K2.facts
        simp only [World.size_alloc, World.size_drew, factsL, cellsF, Nat.reduceAdd, List.toList_toArray, List.set_cons_zero, List.set_cons_succ, List.setIfInBounds_toArray, and_true, true_and] at F2
        have HB := hid K2.below
        clear K2 H
        go_wp2_with fail
        refine bodyPost_ret (v := .tuple #[.agg #[.int .i64 5, .int .i64 op, .bool nt, .int .i64 v.k, .int .i64 v.i, .string v.s, .string tab, .string nm, .slice A n2 c2, .slice B m d2], .bool true]) ?_ rfl ⟨by rw [HE.out, HF.out]; rfl, HB.out⟩
        simp [results, Try.results34, go_sem, F2]
      · skip
        have K2 := (((((((((H.store 2 rfl 0 (.int .i64 5)).store 2 rfl 1 (.int .i64 2)).store 2 rfl 2 (.bool nt)).store 2 rfl 3 (.int .i64 v.k)).store 2 rfl 4 (.int .i64 v.i)).store 2 rfl 5 (.string v.s)).store 2 rfl 6 (.string tab)).store 2 rfl 7 (.string nm)).store 2 rfl 8 (.slice A 0 c2)).store 2 rfl 9 (.slice B m d2)
        simp only [List.set_cons_zero, List.set_cons_succ, List.setIfInBounds_toArray] at K2
        have F2 := K2.facts
        simp only [World.size_alloc, World.size_drew, factsL, cellsF, Nat.reduceAdd, List.toList_toArray, List.set_cons_zero, List.set_cons_succ, List.setIfInBounds_toArray, and_true, true_and] at F2
        have HB := hid K2.below
        clear K2 H
        go_wp2_with fail
        refine bodyPost_ret (v := .tuple #[.agg #[.int .i64 5, .int .i64 2, .bool nt, .int .i64 v.k, .int .i64 v.i, .string v.s, .string tab, .string nm, .slice A 0 c2, .slice B m d2], .bool true]) ?_ rfl ⟨by rw [HE.out, HF.out]; rfl, HB.out⟩
        simp [results, Try.results34, go_sem, F2]
end Go.Proofs.Ytkpbnlbhfhkhcaa

namespace Go.Proofs.Ytkpbnlbhfhkhcaa
open Go.RowKit
set_option linter.unusedVariables false
set_option linter.unusedSimpArgs false

theorem bytesEq {a b : ByteArray} (h : a.toList = b.toList) : a = b := Go.WideShapes.bytes_inj (by rw [← ByteArray.toList_eq, ← ByteArray.toList_eq]; exact h)
end Go.Proofs.Ytkpbnlbhfhkhcaa

namespace Go.Proofs.Ytkpbnlbhfhkhcaa
open Go
set_option linter.unusedVariables false
set_option linter.unusedSectionVars false
set_option linter.unusedSimpArgs false

def slot (a : Act) : Option Tmp → Value
  | some t => a.tmps.getD t undef
  | none => undef

section
variable (P : Program) (ops : Array Oper) (C : World → Prop) (G : Option Tmp → Value → World → Prop) (R : World → World → Prop)

/-- What an operation waits for lies there. -/
def Deps (o : Oper) (a : Act) (w : World) : Prop := ∀ e ∈ o.after, Region.binds .any e = true → ∀ oe, ops[e.on]? = some oe → G oe.dst (slot a oe.dst) w
def goodUpon (d : Option Tmp) (w : World) : Result Next → Prop
  | .ok (.value u) w' => G d u w' ∧ C w' ∧ R w w'
  | .ok .skip w' => G d undef w' ∧ C w' ∧ R w w'
  | .ok (.enter f args) w' => Calls P f args w' fun e w'' => ∃ u, e = .returned u ∧ G d u w'' ∧ C w'' ∧ R w w''
  | _ => False
def Good (o : Oper) (a : Act) (w : World) : Prop := goodUpon P C G R o.dst w ((execOp a.eval o).run P w)
def mayUpon (u : Value) : Result Next → Prop
  | .ok (.value x) _ => u = x
  | .ok .skip _ => u = undef
  | .ok (.enter _ _) _ => True
  | _ => False
def StepOk (o : Oper) (a : Act) : Prop :=
  if Region.wanted o (yielded ops a.tmps) = true then ∀ w, C w → Deps ops G o a w → Good P C G R o a w else ∀ w, C w → G o.dst undef w
def May (o : Oper) (a : Act) (u : Value) : Prop :=
  if Region.wanted o (yielded ops a.tmps) = true then ∃ w, C w ∧ Deps ops G o a w ∧ mayUpon u ((execOp a.eval o).run P w) else u = undef
/-- Some world has all that is done so far. -/
def Inh (S : Array Bool) (k : Nat) (a : Act) : Prop := ∃ w, C w ∧ ∀ j oj, ops[j]? = some oj → (S.getD j false = true ∨ j < k) → G oj.dst (slot a oj.dst) w
/-- The walk in the order of the text, over what is still to come (S: what has come up). -/
def Wk (S : Array Bool) (F : Act → Prop) : Nat → Nat → Act → Prop
  | 0, k, a => Inh ops C G S k a → F a
  | m + 1, k, a => Inh ops C G S k a → match ops[k]? with
    | none => False
    | some o => if S.getD k false = true then Wk S F m (k + 1) a else StepOk P ops C G R o a ∧ ∀ u, May P ops C G o a u → Inh ops C G S (k + 1) (a.put o.dst u) → Wk S F m (k + 1) (a.put o.dst u)
def Inv (S : Array Bool) (a : Act) (w : World) : Prop := C w ∧ ∀ j oj, ops[j]? = some oj → S.getD j false = true → G oj.dst (slot a oj.dst) w
end

section
variable {P : Program} {ops : Array Oper} {C : World → Prop} {G : Option Tmp → Value → World → Prop} {R : World → World → Prop}

/-- no two operations of the region fill one slot; each slot lies in the frame -/
def dstsB (ops : Array Oper) (n : Nat) : Bool :=
  (List.range ops.size).all fun i => match (ops[i]?).bind (·.dst) with
    | none => true
    | some d => decide (d < n) && (List.range ops.size).all fun j => j == i || (ops[j]?).bind (·.dst) != some d
theorem dstsB_in {n i : Nat} {o : Oper} {d : Tmp} (h : dstsB ops n = true) (hi : ops[i]? = some o) (hd : o.dst = some d) : d < n := by
  have h1 := List.all_eq_true.1 h i (List.mem_range.2 (Array.getElem?_eq_some_iff.1 hi).1)
  simp only [hi, Option.bind_some, hd, Bool.and_eq_true, decide_eq_true_eq] at h1
  exact h1.1
theorem dstsB_ne {n i j : Nat} {o o' : Oper} {d : Tmp} (h : dstsB ops n = true) (hi : ops[i]? = some o) (hj : ops[j]? = some o') (hd : o.dst = some d) (hij : j ≠ i) : o'.dst ≠ some d := by
  have h1 := List.all_eq_true.1 h i (List.mem_range.2 (Array.getElem?_eq_some_iff.1 hi).1)
  simp only [hi, Option.bind_some, hd, Bool.and_eq_true] at h1
  have h2 := List.all_eq_true.1 h1.2 j (List.mem_range.2 (Array.getElem?_eq_some_iff.1 hj).1)
  simp only [hj, Option.bind_some, Bool.or_eq_true, beq_iff_eq, bne_iff_ne, ne_eq] at h2
  exact h2.resolve_left hij

theorem slot_put_ne {a : Act} {x y : Option Tmp} {v : Value} (h : ∀ d, x = some d → y ≠ some d) : slot (a.put x v) y = slot a y := by
  cases x with
  | none => rfl
  | some d =>
    cases y with
    | none => rfl
    | some t =>
      have hne : d ≠ t := fun e => h d rfl (by rw [e])
      simp only [Act.put, slot, Array.getD_eq_getD_getElem?, Array.getElem?_setIfInBounds_ne hne]
theorem slot_put_same {a : Act} {d : Tmp} {v : Value} (h : d < a.tmps.size) : slot (a.put (some d) v) (some d) = v := by
  simp [Act.put, slot, h]
theorem size_put {a : Act} {x : Option Tmp} {v : Value} : (a.put x v).tmps.size = a.tmps.size := by
  cases x <;> simp [Act.put]

/-- o' is apart from o: its coming up makes no difference to o -/
structure Aside (ops : Array Oper) (o o' : Oper) : Prop where
  sel : ∀ cs b, o.op ≠ .select cs b
  look : ∀ d, o'.dst = some d → d ∉ o.looksAt ops
  deps : ∀ e ∈ o.after, Region.binds .any e = true → ∀ oe, ops[e.on]? = some oe → ∀ d, o'.dst = some d → oe.dst ≠ some d

theorem Aside.wanted {o o' : Oper} (h : Aside ops o o') (a : Act) (v : Value) : Region.wanted o (yielded ops (a.put o'.dst v).tmps) = Region.wanted o (yielded ops a.tmps) := wanted_put o a o'.dst v h.look
theorem Aside.exec {o o' : Oper} (h : Aside ops o o') (a : Act) (v : Value) : execOp (a.put o'.dst v).eval o = execOp a.eval o := execOp_put (ops := ops) o h.sel a o'.dst v h.look
theorem Aside.deps_ {o o' : Oper} (h : Aside ops o o') (a : Act) (v : Value) (w : World) : Deps ops G o (a.put o'.dst v) w ↔ Deps ops G o a w := by
  constructor
  · intro k e he hb oe hoe
    have := k e he hb oe hoe
    rwa [slot_put_ne (h.deps e he hb oe hoe)] at this
  · intro k e he hb oe hoe
    rw [slot_put_ne (h.deps e he hb oe hoe)]
    exact k e he hb oe hoe
theorem Aside.step {o o' : Oper} (h : Aside ops o o') (a : Act) (v : Value) : StepOk P ops C G R o (a.put o'.dst v) ↔ StepOk P ops C G R o a := by
  unfold StepOk Good
  rw [h.wanted, h.exec]
  simp only [h.deps_]
theorem Aside.may {o o' : Oper} (h : Aside ops o o') (a : Act) (v u : Value) : May P ops C G o (a.put o'.dst v) u ↔ May P ops C G o a u := by
  unfold May
  rw [h.wanted, h.exec]
  simp only [h.deps_]

variable {n N : Nat} {F : Act → Prop}

/-- What is known of the region by looking. -/
structure Shape (ops : Array Oper) (n N : Nat) : Prop where
  dsts : dstsB ops N = true
  le : n ≤ ops.size
  /-- a head waits for earlier operations alone, and what comes behind it waits for it or is apart from it -/
  back : ∀ k o, ops[k]? = some o → k < n → ∀ e ∈ o.after, Region.binds .any e = true → e.on < k
  aside : ∀ k i ok oi, k < i → i < n → ops[k]? = some ok → ops[i]? = some oi → (∀ e ∈ oi.after, Region.binds .any e = true → e.on ≠ k) → ok.apart ops oi = true
  sel : ∀ (j : Nat) (o : Oper) cs b, ops[j]? = some o → o.op ≠ .select cs b

theorem Shape.aside_of (h : Shape ops n N) {k i : Nat} {ok oi : Oper} (hki : k < i) (hi : i < n) (hk' : ops[k]? = some ok) (hi' : ops[i]? = some oi) (hno : ∀ e ∈ oi.after, Region.binds .any e = true → e.on ≠ k) : Aside ops oi ok ∧ Aside ops ok oi := by
  obtain ⟨h1, h2, h3⟩ := Oper.apart_spec (h.aside k i ok oi hki hi hk' hi' hno)
  refine ⟨⟨fun cs b => h.sel i oi cs b hi', h1, fun e he hb oe hoe d hd => ?_⟩, ⟨fun cs b => h.sel k ok cs b hk', h3, fun e he hb oe hoe d hd => ?_⟩⟩
  · exact dstsB_ne h.dsts hk' hoe hd (hno e he hb)
  · have := h.back k ok hk' (by omega) e he hb
    exact dstsB_ne h.dsts hi' hoe hd (by omega)

section
variable (sh : Shape ops n N) (hmono : ∀ d u w w', R w w' → G d u w → G d u w')
include sh hmono

theorem slots_keep {S : Array Bool} {i : Nat} {oi : Oper} {a : Act} {u : Value} (hi : ops[i]? = some oi) {j : Nat} {oj : Oper} (hj : ops[j]? = some oj) (hji : j ≠ i) : slot (a.put oi.dst u) oj.dst = slot a oj.dst :=
  slot_put_ne fun d hd => dstsB_ne sh.dsts hi hj hd hji
theorem slots_new {i : Nat} {oi : Oper} {a : Act} {u : Value} (hN : a.tmps.size = N) (hi : ops[i]? = some oi) {w : World} (h : G oi.dst u w) (hu : oi.dst = none → G none undef w) : G oi.dst (slot (a.put oi.dst u) oi.dst) w := by
  cases hd : oi.dst with
  | none => simpa [slot] using hu hd
  | some d =>
    rw [slot_put_same (by rw [hN]; exact dstsB_in sh.dsts hi hd), ← hd]
    exact h

/-- Some result comes, and a world that has it. -/
theorem StepOk.some_ {k : Nat} {o : Oper} {a : Act} {w : World} (h : StepOk P ops C G R o a) (hC : C w) (hD : Deps ops G o a w) (hR : R w w) : ∃ u w', May P ops C G o a u ∧ C w' ∧ R w w' ∧ G o.dst u w' := by
  unfold StepOk at h
  unfold May
  split at h
  · rename_i hw
    simp only [hw, if_true]
    have hg := h w hC hD
    unfold Good at hg
    have key : ∀ r, (execOp a.eval o).run P w = r → goodUpon P C G R o.dst w r → ∃ u w', (∃ w, C w ∧ Deps ops G o a w ∧ mayUpon u ((execOp a.eval o).run P w)) ∧ C w' ∧ R w w' ∧ G o.dst u w' := by
      intro r hr hg
      cases r with
      | ok nx w' =>
        cases nx <;> simp only [goodUpon] at hg
        case value u => exact ⟨u, w', ⟨w, hC, hD, by rw [hr]; rfl⟩, hg.2.1, hg.2.2, hg.1⟩
        case skip => exact ⟨undef, w', ⟨w, hC, hD, by rw [hr]; rfl⟩, hg.2.1, hg.2.2, hg.1⟩
        case enter f args =>
          obtain ⟨e, w2, fr, ⟨u, _, h1, h2, h3⟩, _⟩ := hg []
          exact ⟨u, w2, ⟨w, hC, hD, by rw [hr]; trivial⟩, h2, h3, h1⟩
      | halt x w' => simp only [goodUpon] at hg
    exact key _ rfl hg
  · rename_i hw
    simp only [hw, if_false]
    exact ⟨undef, w, rfl, hC, hR, h w hC⟩

/-- Behind operation i the walk is as it was. -/
theorem Wk.past {S : Array Bool} {i : Nat} : ∀ (m k : Nat) (a : Act), i < k → i < S.size → Wk P ops C G R S F m k a → Wk P ops C G R (S.setIfInBounds i true) F m k a
  | 0, k, a, hk, hS, h => fun ⟨w, hw, hg⟩ => h ⟨w, hw, fun j oj hj hs => hg j oj hj (hs.imp (getD_set_true ·) id)⟩
  | m + 1, k, a, hk, hS, h => fun hI => by
    obtain ⟨w, hw, hg⟩ := hI
    have hI' : Inh ops C G S k a := ⟨w, hw, fun j oj hj hs => hg j oj hj (hs.imp (getD_set_true ·) id)⟩
    have h1 := h hI'
    cases ho : ops[k]? with
    | none => simp only [ho] at h1
    | some o =>
      simp only [ho] at h1 ⊢
      rw [getD_set_ne false (by omega : i ≠ k)]
      split at h1
      · rename_i hs
        simp only [hs, if_true]
        exact Wk.past m (k + 1) a (by omega) hS h1
      · rename_i hs
        simp only [hs, if_false]
        refine ⟨h1.1, fun u hu hI2 => Wk.past m (k + 1) _ (by omega) hS (h1.2 u hu ?_)⟩
        obtain ⟨w, hw, hg⟩ := hI2
        exact ⟨w, hw, fun j oj hj hs => hg j oj hj (hs.imp (getD_set_true ·) id)⟩

/-- Operation i comes up first. -/
theorem Wk.front {S : Array Bool} {i : Nat} {oi : Oper} (hi : ops[i]? = some oi) (hin : i < n) (hS : S.size = ops.size) (hun : S.getD i false = false) (hw : ∀ e ∈ oi.after, Region.binds .any e = true → S.getD e.on false = true) {u : Value} :
    ∀ (m k : Nat) (a : Act), k ≤ i → k + m = n → a.tmps.size = N → May P ops C G oi a u → Wk P ops C G R S F m k a → Wk P ops C G R (S.setIfInBounds i true) F m k (a.put oi.dst u)
  | 0, k, a, hk, hkm, _, _, h => by omega
  | m + 1, k, a, hk, hkm, hN, hu, h => fun hI => by
    have hiS : i < S.size := by rw [hS]; exact (Array.getElem?_eq_some_iff.1 hi).1
    obtain ⟨w, hw', hg⟩ := hI
    have hI' : Inh ops C G S k a := ⟨w, hw', fun j oj hj hs => by
      have hji : j ≠ i := by rintro rfl; rcases hs with hs | hs; · rw [hun] at hs; cases hs
                             · omega
      have := hg j oj hj (hs.imp (getD_set_true ·) id)
      rwa [slots_keep sh hmono (S := S) hi hj hji] at this⟩
    have h1 := h hI'
    by_cases hki : k = i
    · subst hki
      simp only [hi, hun, if_false, Bool.false_eq_true] at h1
      simp only [hi]
      have hst : (S.setIfInBounds k true).getD k false = true := by simp [hiS]
      simp only [hst, if_true]
      refine Wk.past sh hmono m (k + 1) _ (by omega) hiS (h1.2 u hu ⟨w, hw', fun j oj hj hs => hg j oj hj ?_⟩)
      by_cases hjk : j = k
      · subst hjk; exact .inl hst
      · rcases hs with hs | hs
        · exact .inl (getD_set_true hs)
        · exact .inr (by omega)
    · cases ho : ops[k]? with
      | none => simp only [ho] at h1
      | some o =>
        simp only [ho] at h1 ⊢
        rw [getD_set_ne false (Ne.symm hki)]
        split at h1
        · rename_i hs
          simp only [hs, if_true]
          exact Wk.front hi hin hS hun hw m (k + 1) a (by omega) (by omega) hN hu h1
        · rename_i hs
          simp only [hs, if_false]
          have hno : ∀ e ∈ oi.after, Region.binds .any e = true → e.on ≠ k := fun e he hb hek => by
            have := hw e he hb
            rw [hek] at this
            exact hs this
          obtain ⟨as1, as2⟩ := sh.aside_of (show k < i by omega) hin ho hi hno
          refine ⟨(as2.step a u).2 h1.1, fun v hv hI2 => ?_⟩
          rw [as2.may] at hv
          have hdd : ∀ d, o.dst = some d → oi.dst ≠ some d := fun d hd => dstsB_ne sh.dsts ho hi hd (Ne.symm hki)
          have hcomm : (a.put oi.dst u).put o.dst v = (a.put o.dst v).put oi.dst u := (Act.put_comm a v u hdd).symm
          rw [hcomm] at hI2 ⊢
          refine Wk.front hi hin hS hun hw m (k + 1) _ (by omega) (by omega) (by rw [size_put]; exact hN) ((as1.may a v u).2 hu) (h1.2 v hv ?_)
          obtain ⟨w2, hw2, hg2⟩ := hI2
          refine ⟨w2, hw2, fun j oj hj hs2 => ?_⟩
          have hji : j ≠ i := by rintro rfl; rcases hs2 with hs2 | hs2; · rw [hun] at hs2; cases hs2
                                 · omega
          have := hg2 j oj hj (hs2.imp (getD_set_true ·) id)
          rwa [slots_keep sh hmono (S := S) hi hj hji] at this

/-- An operation that is ready is good. -/
theorem Wk.ready {S : Array Bool} {i : Nat} {oi : Oper} (hR : ∀ w, C w → R w w) (hu : ∀ w, C w → G none undef w) (hi : ops[i]? = some oi) (hin : i < n) (hun : S.getD i false = false) (hw : ∀ e ∈ oi.after, Region.binds .any e = true → S.getD e.on false = true) :
    ∀ (m k : Nat) (a : Act) (w : World), k ≤ i → k + m = n → a.tmps.size = N → C w → (∀ j oj, ops[j]? = some oj → (S.getD j false = true ∨ j < k) → G oj.dst (slot a oj.dst) w) → Wk P ops C G R S F m k a → StepOk P ops C G R oi a
  | 0, k, a, w, hk, hkm, _, _, _, h => by omega
  | m + 1, k, a, w, hk, hkm, hN, hC, hg, h => by
    have h1 := h ⟨w, hC, hg⟩
    by_cases hki : k = i
    · subst hki
      simp only [hi, hun, if_false, Bool.false_eq_true] at h1
      exact h1.1
    · cases ho : ops[k]? with
      | none => simp only [ho] at h1
      | some o =>
        simp only [ho] at h1
        split at h1
        · rename_i hs
          exact Wk.ready hR hu hi hin hun hw m (k + 1) a w (by omega) (by omega) hN hC (fun j oj hj hs2 => hg j oj hj (by
            rcases hs2 with hs2 | hs2
            · exact .inl hs2
            · rcases Nat.lt_or_ge j k with h' | h'
              · exact .inr h'
              · obtain rfl : j = k := by omega
                exact .inl hs)) h1
        · rename_i hs
          have hno : ∀ e ∈ oi.after, Region.binds .any e = true → e.on ≠ k := fun e he hb hek => by
            have := hw e he hb
            rw [hek] at this
            exact hs this
          obtain ⟨as1, as2⟩ := sh.aside_of (show k < i by omega) hin ho hi hno
          have hD : Deps ops G o a w := fun e he hb oe hoe => hg e.on oe hoe (.inr (sh.back k o ho (by omega) e he hb))
          obtain ⟨u, w', hm, hC', hR', hG'⟩ := StepOk.some_ sh hmono (k := k) h1.1 hC hD (hR w hC)
          have hg' : ∀ j oj, ops[j]? = some oj → (S.getD j false = true ∨ j < k + 1) → G oj.dst (slot (a.put o.dst u) oj.dst) w' := fun j oj hj hs2 => by
            by_cases hjk : j = k
            · subst hjk
              obtain rfl : o = oj := Option.some.inj (ho.symm.trans hj)
              exact slots_new sh hmono hN hj hG' (fun _ => hu w' hC')
            · rw [slots_keep sh hmono (S := S) ho hj hjk]
              exact hmono _ _ _ _ hR' (hg j oj hj (hs2.imp id (by omega)))
          have := Wk.ready hR hu hi hin hun hw m (k + 1) (a.put o.dst u) w' (by omega) (by omega) (by rw [size_put]; exact hN) hC' hg' (h1.2 u hm ⟨w', hC', hg'⟩)
          exact (as1.step a u).1 this
/-- All has come up. -/
theorem Wk.done {S : Array Bool} : ∀ (m k : Nat) (a : Act) (w : World), k + m = n → (∀ j, j < n → S.getD j false = true) → C w → (∀ j oj, ops[j]? = some oj → (S.getD j false = true ∨ j < k) → G oj.dst (slot a oj.dst) w) → Wk P ops C G R S F m k a → F a
  | 0, k, a, w, hkm, hall, hC, hg, h => h ⟨w, hC, hg⟩
  | m + 1, k, a, w, hkm, hall, hC, hg, h => by
    have h1 := h ⟨w, hC, hg⟩
    have hk := hall k (by omega)
    cases ho : ops[k]? with
    | none => simp only [ho] at h1
    | some o =>
      simp only [ho, hk, if_true] at h1
      exact Wk.done m (k + 1) a w (by omega) hall hC (fun j oj hj hs2 => hg j oj hj (by
        rcases hs2 with hs2 | hs2
        · exact .inl hs2
        · exact .inl (hall j (by omega)))) h1
end

/-! ### Every order -/
theorem count_one {i : Nat} {p q : Nat → Bool} (hp : p i = true) (hq : q i = false) (he : ∀ j, j ≠ i → q j = p j) : ∀ l : List Nat, l.Nodup → (i ∈ l → l.countP p = l.countP q + 1) ∧ (i ∉ l → l.countP p = l.countP q)
  | [], _ => ⟨(fun h => nomatch h), fun _ => rfl⟩
  | x :: l, h => by
    obtain ⟨h1, h2⟩ := List.nodup_cons.1 h
    obtain ⟨i1, i2⟩ := count_one hp hq he l h2
    by_cases hx : x = i
    · subst hx
      refine ⟨fun _ => ?_, fun hn => absurd (List.mem_cons_self ..) hn⟩
      have := i2 h1
      simp [List.countP_cons, hp, hq, this]
    · refine ⟨fun hm => ?_, fun hn => ?_⟩
      · have := i1 ((List.mem_cons.1 hm).resolve_left (Ne.symm hx))
        simp only [List.countP_cons, he x hx, this]
        omega
      · have := i2 fun hm => hn (List.mem_cons_of_mem _ hm)
        simp only [List.countP_cons, he x hx, this]
def unl (n : Nat) (S : Array Bool) : Nat := (List.range n).countP fun i => S.getD i true == false
theorem unl_set {n i : Nat} {S : Array Bool} (hi : i < n) (hun : S.getD i true = false) : unl n S = unl n (S.setIfInBounds i true) + 1 := by
  refine ((count_one (i := i) (by simp [hun]) ?_ fun j hj => ?_) (List.range n) List.nodup_range).1 (List.mem_range.2 hi)
  · rcases Nat.lt_or_ge i S.size with h | h
    · simp [h]
    · simp [Array.getElem?_eq_none h] at hun
  · rw [getD_set_ne true (Ne.symm hj)]
theorem unl_zero {n : Nat} {S : Array Bool} (h : unl n S = 0) (hs : n ≤ S.size) : ∀ j, j < n → S.getD j false = true := fun j hj => by
  have := List.countP_eq_zero.1 h j (List.mem_range.2 hj)
  have hl : j < S.size := by omega
  simpa [hl] using this
theorem unl_pos {n m : Nat} {S : Array Bool} (h : unl n S = m + 1) : ∃ j, j < n ∧ S.getD j true = false := by
  have : 0 < (List.range n).countP fun i => S.getD i true == false := by unfold unl at h; omega
  obtain ⟨j, hj, hp⟩ := List.countP_pos_iff.1 this
  exact ⟨j, List.mem_range.1 hj, by simpa using hp⟩
theorem least {p : Nat → Prop} : ∀ k, p k → ∃ j, p j ∧ ∀ i, i < j → ¬ p i := fun k h => by
  induction k using Nat.strongRecOn with
  | _ k ih =>
    by_cases hh : ∃ i, i < k ∧ p i
    · obtain ⟨i, hi, hp⟩ := hh; exact ih i hi hp
    · exact ⟨k, h, fun i hi hp => hh ⟨i, hi, hp⟩⟩

theorem good_wp {o : Oper} {a : Act} {w : World} {K : Act → World → Prop} {Q : Exit → Act → World → Prop} (hC : C w) (hD : Deps ops G o a w) (hw : Region.wanted o (yielded ops a.tmps) = true) (h : Good P C G R o a w)
    (hK : ∀ u w', May P ops C G o a u → C w' → R w w' → G o.dst u w' → K (a.put o.dst u) w') : o.wp P a w K Q := by
  unfold Good at h
  unfold May at hK
  simp only [hw, if_true] at hK
  unfold Oper.wp
  have key : ∀ r, (execOp a.eval o).run P w = r → goodUpon P C G R o.dst w r → Oper.upon P o a K Q r := by
    intro r hr hg
    cases r with
    | ok nx w' =>
      cases nx <;> simp only [goodUpon] at hg
      case value u => exact hK u w' ⟨w, hC, hD, by rw [hr]; rfl⟩ hg.2.1 hg.2.2 hg.1
      case skip => exact hK undef w' ⟨w, hC, hD, by rw [hr]; rfl⟩ hg.2.1 hg.2.2 hg.1
      case enter f args =>
        exact Calls.mono hg fun e w2 ⟨u, he, h1, h2, h3⟩ => by subst he; exact hK u w2 ⟨w, hC, hD, by rw [hr]; trivial⟩ h2 h3 h1
    | halt x w' => simp only [goodUpon] at hg
  exact key _ rfl h

theorem wpAny_of_wk (sh : Shape ops n N) (hmono : ∀ d u w w', R w w' → G d u w → G d u w') (hR : ∀ w, C w → R w w) (hu : ∀ w, C w → G none undef w) {g : Nat} {Q : Exit → Act → World → Prop} (S0 : Array Bool)
    (htail : ∀ S, HeadInv .any ops n S → (∀ j, S0.getD j false = true → S.getD j false = true) → (∃ i, i < n ∧ S.getD i true = false) → ∀ t, n ≤ t → t ∉ Region.ready .any ops S)
    (hend : ∀ S a w, HeadInv .any ops n S → (∀ j, j < n → S.getD j false = true) → C w → (∀ j oj, ops[j]? = some oj → j < n → G oj.dst (slot a oj.dst) w) → F a → wpAny P .any ops Q g S a w) :
    ∀ (f : Nat) (S : Array Bool) (a : Act) (w : World), HeadInv .any ops n S → (∀ j, S0.getD j false = true → S.getD j false = true) → unl n S = f → a.tmps.size = N → Inv ops C G S a w → Wk P ops C G R S F n 0 a → wpAny P .any ops Q (f + g) S a w
  | 0, S, a, w, hd, h0s, hf, hN, hI, h => by
    have hall := unl_zero hf (by rw [hd.size]; exact sh.le)
    rw [Nat.zero_add]
    exact hend S a w hd hall hI.1 (fun j oj hj hjn => hI.2 j oj hj (hall j hjn)) (Wk.done sh hmono n 0 a w (by omega) hall hI.1 (fun j oj hj hs => hI.2 j oj hj (hs.resolve_right (by omega))) h)
  | f + 1, S, a, w, hd, h0s, hf, hN, hI, h => by
    obtain ⟨k0, hk0, hun0⟩ := unl_pos hf
    obtain ⟨k, ⟨hk, hun⟩, hmin⟩ := least (p := fun j => j < n ∧ S.getD j true = false) k0 ⟨hk0, hun0⟩
    have hrk : k ∈ Region.ready .any ops S := by
      have hks : k < ops.size := by have := sh.le; omega
      refine mem_ready.2 ⟨hun, ops[k], Array.getElem?_eq_getElem hks, fun e he hb => ?_⟩
      have hlt := sh.back k _ (Array.getElem?_eq_getElem hks) hk e he hb
      cases hS : S.getD e.on false with
      | true => rfl
      | false => exact absurd ⟨by omega, getD_in (by rw [hd.size]; have := sh.le; omega) hS⟩ (hmin e.on hlt)
    rw [show f + 1 + g = (f + g) + 1 by omega]
    refine ⟨fun h0 => (by rw [h0] at hrk; cases hrk), fun i hi => ?_⟩
    have hin : i < n := by
      rcases Nat.lt_or_ge i n with h' | h'
      · exact h'
      · exact absurd hi (htail S hd h0s ⟨k, hk, hun⟩ i h')
    obtain ⟨huni, oi, hoi, hall⟩ := mem_ready.1 hi
    have hunf : S.getD i false = false := getD_both huni
    have hst := Wk.ready sh hmono hR hu hoi hin hunf hall n 0 a w (by omega) (by omega) hN hI.1 (fun j oj hj hs => hI.2 j oj hj (hs.resolve_right (by omega))) h
    have hD : Deps ops G oi a w := fun e he hb oe hoe => hI.2 e.on oe hoe (hall e he hb)
    have hnext : ∀ u w', May P ops C G oi a u → C w' → R w w' → G oi.dst u w' → wpAny P .any ops Q (f + g) (S.setIfInBounds i true) (a.put oi.dst u) w' := fun u w' hm hC' hR' hG' => by
      refine wpAny_of_wk sh hmono hR hu S0 htail hend f _ _ w' (hd.set hi hin) (fun j hj => getD_set_true (h0s j hj)) ?_ (by rw [size_put]; exact hN) ⟨hC', fun j oj hj hs => ?_⟩ (Wk.front sh hmono hoi hin (by rw [hd.size]) hunf hall n 0 a (by omega) (by omega) hN hm h)
      · have := unl_set hin huni; omega
      · by_cases hji : j = i
        · subst hji
          obtain rfl : oi = oj := Option.some.inj (hoi.symm.trans hj)
          exact slots_new sh hmono hN hj hG' (fun _ => hu w' hC')
        · rw [slots_keep sh hmono (S := S) hoi hj hji]
          rw [getD_set_ne false (Ne.symm hji)] at hs
          exact hmono _ _ _ _ hR' (hI.2 j oj hj hs)
    unfold wpOp
    simp only [hoi]
    split
    · rename_i hw
      refine .inl (good_wp hI.1 hD hw ?_ hnext)
      unfold StepOk at hst
      simp only [hw, if_true] at hst
      exact hst w hI.1 hD
    · rename_i hw
      unfold StepOk at hst
      rw [if_neg hw] at hst
      exact hnext undef w (by unfold May; rw [if_neg hw]) hI.1 (hR w hI.1) (hst w hI.1)

/-! ### What is looked at, as a Bool -/
def headList (n m : Nat) : Array Bool := (List.replicate n true ++ List.replicate (m - n) false).toArray
def backB (ops : Array Oper) (n : Nat) : Bool := (List.range n).all fun k => match ops[k]? with
  | some o => o.after.all fun e => !Region.binds .any e || decide (e.on < k)
  | none => true
def asideB (ops : Array Oper) (n : Nat) : Bool := (List.range n).all fun i => (List.range i).all fun k => match ops[i]?, ops[k]? with
  | some oi, some ok => oi.after.any (fun e => Region.binds .any e && e.on == k) || ok.apart ops oi
  | _, _ => true
/-- every operation below n, but those of S0, is waited for by a later one up to n -/
def sinkS (ops : Array Oper) (S0 : Array Bool) (n : Nat) : Bool := (List.range n).all fun i => S0.getD i false || (List.range (n + 1)).any fun j => decide (i < j) && Region.waitsFor .any ops j i
/-- S0 holds what its operations wait for, and nothing from n on -/
def closedB (ops : Array Oper) (S0 : Array Bool) (n : Nat) : Bool := decide (S0.size = ops.size) && (List.range ops.size).all fun j => !S0.getD j false || (decide (j < n) && match ops[j]? with
  | some o => o.after.all fun e => !Region.binds .any e || S0.getD e.on false
  | none => true)
/-- what comes behind n waits for something from n on -/
def laterB (ops : Array Oper) (n : Nat) : Bool := (List.range ops.size).all fun t => decide (t ≤ n) || (List.range ops.size).any fun j => decide (n ≤ j) && Region.waitsFor .any ops t j
def relC (ops : Array Oper) (S0 : Array Bool) (n N : Nat) : Bool :=
  Region.noSelect ops && dstsB ops N && decide (n ≤ ops.size) && backB ops n && asideB ops n && (decide (n = ops.size) || (decide (n < ops.size) && sinkS ops S0 n && laterB ops n)) && closedB ops S0 n
def relB (ops : Array Oper) (S0 : Array Bool) (n N : Nat) : Bool := relC ops S0 n N && Region.seqB .any ops (ops.size - n) n (headList n ops.size)
theorem closedB_head {S0 : Array Bool} {n : Nat} (h : closedB ops S0 n = true) : HeadInv .any ops n S0 := by
  simp only [closedB, Bool.and_eq_true, decide_eq_true_eq] at h
  have key : ∀ j, S0.getD j false = true → j < ops.size ∧ j < n ∧ ∀ o, ops[j]? = some o → ∀ e ∈ o.after, Region.binds .any e = true → S0.getD e.on false = true := fun j hj => by
    have hjs : j < ops.size := by
      rcases Nat.lt_or_ge j S0.size with h' | h'
      · rw [← h.1]; exact h'
      · simp [Array.getElem?_eq_none h'] at hj
    have h1 := List.all_eq_true.1 h.2 j (List.mem_range.2 hjs)
    simp only [hj, Bool.not_true, Bool.false_or, Bool.and_eq_true, decide_eq_true_eq] at h1
    refine ⟨hjs, h1.1, fun o ho e he hb => ?_⟩
    have h2 := h1.2
    simp only [ho] at h2
    have h3 := Array.all_eq_true'.1 h2 e he
    simpa only [hb, Bool.not_true, Bool.false_or] using h3
  refine ⟨h.1, fun j oj hj hl e he hb => (key j hl).2.2 oj hj e he hb, fun t ht htl => ?_⟩
  cases hS : S0.getD t true with
  | false => rfl
  | true =>
    have : S0.getD t false = true := by
      have hl : t < S0.size := by rw [h.1]; exact htl
      simpa [hl] using hS
    have := (key t this).2.1
    omega
theorem tail_waitsS {n : Nat} {S0 listed : Array Bool} (hs : sinkS ops S0 n = true) (hc : laterB ops n = true) (hn : n < ops.size) (inv : HeadInv .any ops n listed) (h0 : ∀ j, S0.getD j false = true → listed.getD j false = true) :
    ∀ (d i : Nat), n - i = d → i < n → listed.getD i true = false → ∀ t, n ≤ t → t ∉ Region.ready .any ops listed := by
  intro d
  induction d using Nat.strongRecOn with
  | _ d ih =>
    intro i hd hi hun t ht hr
    obtain ⟨_, ot, hot, hall⟩ := mem_ready.1 hr
    have htlt : t < ops.size := (Array.getElem?_eq_some_iff.1 hot).1
    by_cases htn : t = n
    · subst htn
      have h1 := List.all_eq_true.1 hs i (List.mem_range.2 hi)
      have hnot : S0.getD i false = false := by
        cases hS : S0.getD i false with
        | false => rfl
        | true => have := h0 i hS; rw [getD_both hun] at this; cases this
      rw [hnot, Bool.false_or] at h1
      obtain ⟨j, hj, hj2⟩ := List.any_eq_true.1 h1
      simp only [Bool.and_eq_true, decide_eq_true_eq] at hj2
      obtain ⟨oj, hoj, e, he, hb, hon⟩ := Region.waitsFor_spec hj2.2
      have hjle : j ≤ t := by have := List.mem_range.1 hj; omega
      by_cases hjt : j = t
      · subst hjt
        have : oj = ot := Option.some.inj (hoj.symm.trans hot)
        subst this
        have h2 := hall e he hb
        rw [hon, getD_both hun] at h2
        cases h2
      · cases hl : listed.getD j false with
        | true =>
          have h2 := inv.closed j oj hoj hl e he hb
          rw [hon, getD_both hun] at h2
          cases h2
        | false =>
          have hjs : j < listed.size := by rw [inv.size]; omega
          exact ih (t - j) (by omega) j rfl (by omega) (getD_in hjs hl) t (Nat.le_refl _) hr
    · have h1 := List.all_eq_true.1 hc t (List.mem_range.2 htlt)
      simp only [Bool.or_eq_true, decide_eq_true_eq] at h1
      rcases h1 with h1 | h1
      · omega
      · obtain ⟨j, hj, hj2⟩ := List.any_eq_true.1 h1
        simp only [Bool.and_eq_true, decide_eq_true_eq] at hj2
        obtain ⟨o', ho', e, he, hb, hon⟩ := Region.waitsFor_spec hj2.2
        have : o' = ot := Option.some.inj (ho'.symm.trans hot)
        subst this
        have h2 := hall e he hb
        rw [hon, getD_both (inv.tail j hj2.1 (List.mem_range.1 hj))] at h2
        cases h2
theorem relC_shape {S0 : Array Bool} {n N : Nat} (h : relC ops S0 n N = true) : Shape ops n N := by
  simp only [relC, Bool.and_eq_true, decide_eq_true_eq] at h
  obtain ⟨⟨⟨⟨⟨⟨hsel, hd⟩, hn⟩, hb⟩, ha⟩, _⟩, _⟩ := h
  refine ⟨hd, hn, fun k o hk hkn e he hbd => ?_, fun k i ok oi hki hin hk hi hno => ?_, Region.noSelect_spec hsel⟩
  · have h1 := List.all_eq_true.1 hb k (List.mem_range.2 hkn)
    simp only [hk] at h1
    have h2 := Array.all_eq_true'.1 h1 e he
    simp only [hbd, Bool.not_true, Bool.false_or, decide_eq_true_eq] at h2
    exact h2
  · have h1 := List.all_eq_true.1 (List.all_eq_true.1 ha i (List.mem_range.2 hin)) k (List.mem_range.2 hki)
    simp only [hk, hi, Bool.or_eq_true] at h1
    refine h1.resolve_left fun h2 => ?_
    obtain ⟨e, he, hb2⟩ := Array.any_eq_true'.1 h2
    simp only [Bool.and_eq_true, beq_iff_eq] at hb2
    exact hno e he hb2.1 hb2.2
theorem headList_eq {S : Array Bool} (hs : S.size = ops.size) (hn : n ≤ ops.size) (h1 : ∀ j, j < n → S.getD j false = true) (h2 : ∀ t, n ≤ t → t < ops.size → S.getD t true = false) : S = headList n ops.size := by
  apply Array.ext
  · simp [headList, hs]; omega
  · intro j hj hj'
    rcases Nat.lt_or_ge j n with h | h
    · have := h1 j h
      simp [hj] at this
      simp [headList, List.getElem_append, h, this]
    · have := h2 j h (by omega)
      simp [hj] at this
      simp [headList, List.getElem_append, Nat.not_lt.2 h, this]

/-- The walk in the order of the text. -/
def InhL (ops : Array Oper) (C : World → Prop) (G : Option Tmp → Value → World → Prop) (k : Nat) (a : Act) : Prop := ∃ w, C w ∧ ∀ j oj, ops[j]? = some oj → j < k → G oj.dst (slot a oj.dst) w
def wpRel (P : Program) (ops : Array Oper) (C : World → Prop) (G : Option Tmp → Value → World → Prop) (R : World → World → Prop) (S0 : Array Bool) (F : Act → Prop) : Nat → List Oper → Act → Prop
  | k, [], a => InhL ops C G k a → F a
  | k, o :: rest, a => if S0.getD k false = true then wpRel P ops C G R S0 F (k + 1) rest a else StepOk P ops C G R o a ∧ ∀ u, May P ops C G o a u → (∀ d, o.dst = some d → ∃ w, C w ∧ G (some d) u w) → wpRel P ops C G R S0 F (k + 1) rest (a.put o.dst u)
theorem wk_of_rel {S0 : Array Bool} (sh : Shape ops n N) : ∀ (l : List Oper) (k : Nat) (a : Act), (∀ j, j < l.length → l[j]? = ops[k + j]?) → k + l.length = n → a.tmps.size = N → wpRel P ops C G R S0 F k l a → Wk P ops C G R S0 F l.length k a
  | [], k, a, _, hk, hN, h => fun ⟨w, hw, hg⟩ => h ⟨w, hw, fun j oj hj hjk => hg j oj hj (.inr hjk)⟩
  | o :: l, k, a, hl, hk, hN, h => fun _ => by
    have h0 : ops[k]? = some o := by simpa using (hl 0 (by simp)).symm
    simp only [h0]
    unfold wpRel at h
    split at h
    · rename_i hs
      simp only [hs, if_true]
      exact wk_of_rel sh l (k + 1) a (fun j hj => by have := hl (j + 1) (by simp; omega); simpa [Nat.add_assoc, Nat.add_comm 1 j] using this) (by simp only [List.length_cons] at hk; omega) hN h
    · rename_i hs
      rw [if_neg hs]
      refine ⟨h.1, fun u hu hI => wk_of_rel sh l (k + 1) _ (fun j hj => by have := hl (j + 1) (by simp; omega); simpa [Nat.add_assoc, Nat.add_comm 1 j] using this) (by simp only [List.length_cons] at hk; omega) (by rw [size_put]; exact hN) (h.2 u hu fun d hd => ?_)⟩
      obtain ⟨w, hw, hg⟩ := hI
      refine ⟨w, hw, ?_⟩
      have h1 := hg k o h0 (.inr (by omega))
      rw [hd, slot_put_same (by rw [hN]; exact dstsB_in sh.dsts h0 hd)] at h1
      exact h1

/-- A region that draws its order, the operations of S0 done: the first n operations in any order; then the others. -/
theorem wpAny_relC {Q : Exit → Act → World → Prop} {a : Act} {w : World} {l : List Oper} (S0 : Array Bool) (n N : Nat) (C : World → Prop) (G : Option Tmp → Value → World → Prop) (R : World → World → Prop) {fuel : Nat}
    (hB : relC l.toArray S0 n N = true) (hf : fuel = unl n S0 + (l.length - n)) (hN : a.tmps.size = N) (hmono : ∀ d u w w', R w w' → G d u w → G d u w') (hR : ∀ w, C w → R w w) (hu : ∀ w, C w → G none undef w) (hC : C w)
    (h0 : ∀ j oj, l[j]? = some oj → S0.getD j false = true → G oj.dst (slot a oj.dst) w)
    (h : wpRel P l.toArray C G R S0 (fun a' => ∀ w', C w' → (∀ j oj, l[j]? = some oj → j < n → G oj.dst (slot a' oj.dst) w') → wpAny P .any l.toArray Q (l.length - n) (headList n l.length) a' w') 0 (l.take n) a) : wpAny P .any l.toArray Q fuel S0 a w := by
  have sh := relC_shape hB
  have hB' := hB
  simp only [relC, Bool.and_eq_true, Bool.or_eq_true, decide_eq_true_eq] at hB'
  obtain ⟨⟨⟨⟨⟨⟨hsel, hd⟩, hn⟩, hb⟩, ha⟩, hsc⟩, hcl⟩ := hB'
  have hnl : n ≤ l.length := by simpa using hn
  have htl : (l.take n).length = n := by simp; omega
  have hw := wk_of_rel sh (l.take n) 0 a (fun j hj => by
    have hj' : j < n := by rw [htl] at hj; exact hj
    simp [hj']) (by simpa using htl) hN h
  rw [htl] at hw
  have := wpAny_of_wk (Q := Q) (g := l.length - n) sh hmono hR hu S0 (fun S hI h0s hex t ht hr => ?_) (fun S a' w' hI hall hC' hg hF => ?_) _ S0 a w
    (closedB_head hcl) (fun _ h => h) rfl hN ⟨hC, fun j oj hj hs => h0 j oj (by simpa using hj) hs⟩ hw
  · rw [hf]; exact this
  · obtain ⟨i, hi, hun⟩ := hex
    rcases hsc with hsc | ⟨⟨hlt, hs⟩, hc⟩
    · have := (mem_ready.1 hr).2
      obtain ⟨o, ho, _⟩ := this
      have := (Array.getElem?_eq_some_iff.1 ho).1
      omega
    · exact tail_waitsS hs hc hlt hI h0s _ i rfl hi hun t ht hr
  · have hSeq := headList_eq hI.size hn hall hI.tail
    rw [show l.toArray.size = l.length from by simp] at hSeq
    rw [hSeq]
    exact hF w' hC' fun j oj hj hjn => hg j oj (by simpa using hj) hjn
theorem wpRel_mono {F F' : Act → Prop} (hF : ∀ a, F a → F' a) {S0 : Array Bool} : ∀ (l' : List Oper) (k : Nat) (a : Act), wpRel P ops C G R S0 F k l' a → wpRel P ops C G R S0 F' k l' a
  | [], k, a, h => fun hI => hF a (h hI)
  | o :: l', k, a, h => by
    unfold wpRel at h ⊢
    split
    · rename_i hs; rw [if_pos hs] at h; exact wpRel_mono hF l' _ _ h
    · rename_i hs; rw [if_neg hs] at h; exact ⟨h.1, fun u hu hd => wpRel_mono hF l' _ _ (h.2 u hu hd)⟩
/-- The others as they stand. -/
theorem wpAny_rel {Q : Exit → Act → World → Prop} {a : Act} {w : World} {l : List Oper} (S0 : Array Bool) (n N : Nat) (C : World → Prop) (G : Option Tmp → Value → World → Prop) (R : World → World → Prop) {fuel : Nat}
    (hB : relB l.toArray S0 n N = true) (hf : fuel = unl n S0 + (l.length - n)) (hN : a.tmps.size = N) (hmono : ∀ d u w w', R w w' → G d u w → G d u w') (hR : ∀ w, C w → R w w) (hu : ∀ w, C w → G none undef w) (hC : C w)
    (h0 : ∀ j oj, l[j]? = some oj → S0.getD j false = true → G oj.dst (slot a oj.dst) w)
    (h : wpRel P l.toArray C G R S0 (fun a' => ∀ w', C w' → (∀ j oj, l[j]? = some oj → j < n → G oj.dst (slot a' oj.dst) w') → wpList P l.toArray Q (l.drop n) a' w') 0 (l.take n) a) : wpAny P .any l.toArray Q fuel S0 a w := by
  simp only [relB, Bool.and_eq_true] at hB
  have hdl : (l.drop n).length = l.length - n := by simp
  refine wpAny_relC S0 n N C G R hB.1 hf hN hmono hR hu hC h0 (wpRel_mono (fun a' hF w' hC' hg => ?_) _ _ _ h)
  have := wpAny_of_seq (md := .any) (Q' := Q) (ops := l.toArray) (l.drop n) n (headList n l.length) a' w' (fun j => by simp [List.getElem?_drop]) (by rw [hdl]; simpa using hB.2) (hF w' hC' hg)
  rwa [hdl] at this

/-! ### The steps of the walk -/
section
variable {o : Oper} {rest : List Oper} {a : Act} {k : Nat} {S0 : Array Bool}
theorem rel_nil (h : F a) : wpRel P ops C G R S0 F k [] a := fun _ => h
theorem rel_skip (hS : S0.getD k false = false) (hw : Region.wanted o (yielded ops a.tmps) = false) (hG : ∀ w, C w → G o.dst undef w) (hn : wpRel P ops C G R S0 F (k + 1) rest (a.put o.dst undef)) : wpRel P ops C G R S0 F k (o :: rest) a := by
  unfold wpRel
  rw [hS, if_neg (by simp)]
  refine ⟨by unfold StepOk; simp only [hw, if_false, Bool.false_eq_true]; exact hG, fun u hu _ => ?_⟩
  unfold May at hu
  simp only [hw, if_false, Bool.false_eq_true] at hu
  subst hu
  exact hn
/-- it hands back one value, and leaves the world -/
theorem rel_val (hR : ∀ w, C w → R w w) (hS : S0.getD k false = false) (hw : Region.wanted o (yielded ops a.tmps) = true) (u : Value) (hrun : ∀ w, C w → Deps ops G o a w → (execOp a.eval o).run P w = .ok (.value u) w) (hG : ∀ w, C w → Deps ops G o a w → G o.dst u w) (hn : wpRel P ops C G R S0 F (k + 1) rest (a.put o.dst u)) : wpRel P ops C G R S0 F k (o :: rest) a := by
  unfold wpRel
  rw [hS, if_neg (by simp)]
  refine ⟨by unfold StepOk; simp only [hw, if_true]; intro w hC hD; unfold Good; rw [hrun w hC hD]; exact ⟨hG w hC hD, hC, hR w hC⟩, fun x hx _ => ?_⟩
  unfold May at hx
  simp only [hw, if_true] at hx
  obtain ⟨w, hC, hD, hm⟩ := hx
  rw [hrun w hC hD] at hm
  obtain rfl : x = u := hm
  exact hn
/-- a call: any value that its slot lets in -/
theorem rel_call (hS : S0.getD k false = false) (hw : Region.wanted o (yielded ops a.tmps) = true) (f : FuncId) (args : Array Value) (d : Tmp) (hd : o.dst = some d) (hrun : ∀ w, C w → Deps ops G o a w → (execOp a.eval o).run P w = .ok (.enter f args) w)
    (hc : ∀ w, C w → Deps ops G o a w → Calls P f args w fun e w' => ∃ u, e = .returned u ∧ G (some d) u w' ∧ C w' ∧ R w w') (hn : ∀ u w, C w → G (some d) u w → wpRel P ops C G R S0 F (k + 1) rest (a.put (some d) u)) : wpRel P ops C G R S0 F k (o :: rest) a := by
  unfold wpRel
  rw [hS, if_neg (by simp)]
  refine ⟨by unfold StepOk; simp only [hw, if_true]; intro w hC hD; unfold Good; rw [hrun w hC hD, hd]; exact hc w hC hD, fun x _ hx => ?_⟩
  obtain ⟨w, hC, hg⟩ := hx d hd
  rw [hd]
  exact hn x w hC hg
/-- a new block -/
theorem rel_new (hS : S0.getD k false = false) (hw : Region.wanted o (yielded ops a.tmps) = true) (ob : Obj) (d : Tmp) (hd : o.dst = some d) (mk : Nat → Value) (hrun : ∀ w, C w → Deps ops G o a w → (execOp a.eval o).run P w = .ok (.value (mk w.heap.size)) (w.alloc ob))
    (hc : ∀ w, C w → Deps ops G o a w → G (some d) (mk w.heap.size) (w.alloc ob) ∧ C (w.alloc ob) ∧ R w (w.alloc ob)) (hn : ∀ g w, C w → G (some d) (mk g) w → wpRel P ops C G R S0 F (k + 1) rest (a.put (some d) (mk g))) : wpRel P ops C G R S0 F k (o :: rest) a := by
  unfold wpRel
  rw [hS, if_neg (by simp)]
  refine ⟨by unfold StepOk; simp only [hw, if_true]; intro w hC hD; unfold Good; rw [hrun w hC hD, hd]; exact hc w hC hD, fun x hm hx => ?_⟩
  obtain ⟨w, hC, hg⟩ := hx d hd
  unfold May at hm
  simp only [hw, if_true] at hm
  obtain ⟨w', hC', hD', hm⟩ := hm
  rw [hrun w' hC' hD'] at hm
  obtain rfl : x = mk w'.heap.size := hm
  rw [hd]
  exact hn _ w hC hg
end
end
end Go.Proofs.Ytkpbnlbhfhkhcaa

namespace Go.Proofs.Ytkpbnlbhfhkhcaa
open Go
set_option linter.unusedVariables false
set_option linter.unusedSimpArgs false

abbrev Sp := Tmp → Option (Value → Prop)
section
variable {P : Program} {C : World → Prop} {sp : Sp} {F : Act → Prop} {S0 : Array Bool}
variable {ops : Array Oper} {o : Oper} {rest : List Oper} {a : Act} {k : Nat}
end
end Go.Proofs.Ytkpbnlbhfhkhcaa

namespace Go.Proofs.Ytkpbnlbhfhkhcaa
open Go.RowKit
set_option linter.unusedVariables false
set_option linter.unusedSimpArgs false
section
variable {sp : Sp} {F : Act → Prop} {S0 : Array Bool} {ops : Array Oper} {o : Oper} {rest : List Oper} {a : Act} {k : Nat} {M : Nat → Prop} {row : Option Nat} {w0 : World} {L : List Hp} {T : Nat}
end
end Go.Proofs.Ytkpbnlbhfhkhcaa

namespace Go.Proofs.Ytkpbnlbhfhkhcaa
open Go.RowKit
set_option linter.unusedVariables false
set_option linter.unusedSimpArgs false

abbrev SpW := Tmp → Option (Value → World → Prop)
def GW (sp : SpW) (d : Option Tmp) (u : Value) (w : World) : Prop := match d.bind sp with | some V => V u w | none => True
/-- from w to w' nothing but new blocks and those of M turned -/
def RM (M : Nat → Prop) (w w' : World) : Prop := w.heap.size ≤ w'.heap.size ∧ ∀ b, b < w.heap.size → ¬ M b → w'.heap[b]? = w.heap[b]?
theorem RM.refl (M : Nat → Prop) (w : World) : RM M w w := ⟨Nat.le_refl _, fun _ _ _ => rfl⟩
theorem RM.trans {M : Nat → Prop} {a b c : World} (h : RM M a b) (k : RM M b c) : RM M a c := ⟨Nat.le_trans h.1 k.1, fun x hx hn => (k.2 x (Nat.lt_of_lt_of_le hx h.1) hn).trans (h.2 x hx hn)⟩
theorem RM.below {M : Nat → Prop} {w w' : World} (h : Below w.heap.size w w') : RM M w w' := ⟨h.size, fun b hb _ => h.block b hb⟩
theorem RM.alloc (M : Nat → Prop) (w : World) (o : Obj) : RM M w (w.alloc o) := ⟨by simp, fun b hb _ => Below.heap_alloc w o b hb⟩
theorem RM.ro {M : Nat → Prop} {w w' : World} (h : RM M w w') {S : World → Prop} (hs : Ro w M S) : Ro w' M S := hs.step h.1 h.2 (fun _ _ h => h)
/-- each class of values stays as the world goes on -/
def Stays (M : Nat → Prop) (sp : SpW) : Prop := ∀ d V, sp d = some V → ∀ u w w', RM M w w' → V u w → V u w'
/-- the classes as a list -/
def spL (l : List (Tmp × (Value → World → Prop))) : SpW := fun d => (l.find? fun p => p.1 == d).map (·.2)
theorem stays_nil (M : Nat → Prop) : Stays M (spL []) := fun d V h => nomatch h
theorem stays_cons {M : Nat → Prop} {d : Tmp} {V : Value → World → Prop} {l : List (Tmp × (Value → World → Prop))} (h : ∀ u w w', RM M w w' → V u w → V u w') (hl : Stays M (spL l)) : Stays M (spL ((d, V) :: l)) := fun t V' hV => by
  unfold spL at hV
  rw [List.find?_cons] at hV
  split at hV
  · simp only [Option.map_some, Option.some.injEq] at hV
    subst hV
    exact h
  · exact hl t V' hV
theorem GW_off {sp : SpW} {d : Option Tmp} {u : Value} {w : World} (h : d.bind sp = none) : GW sp d u w := by unfold GW; rw [h]; trivial
theorem GW_on {sp : SpW} {d : Tmp} {V : Value → World → Prop} (h : sp d = some V) {u : Value} {w : World} : GW sp (some d) u w ↔ V u w := by unfold GW; simp only [Option.bind_some, h]
def offW (ops : Array Oper) (S0 : Array Bool) (sp : SpW) : Bool := (List.range ops.size).all fun j => !S0.getD j false || (((ops[j]?).bind (·.dst)).bind sp).isNone
theorem offW_h {ops : Array Oper} {S0 : Array Bool} {sp : SpW} (h : offW ops S0 sp = true) {j : Nat} {o : Oper} (ho : ops[j]? = some o) (hs : S0.getD j false = true) {u : Value} {w : World} : GW sp o.dst u w := by
  have h1 := List.all_eq_true.1 h j (List.mem_range.2 (Array.getElem?_eq_some_iff.1 ho).1)
  simp only [hs, Bool.not_true, Bool.false_or, ho, Option.bind_some] at h1
  exact GW_off (Option.isNone_iff_eq_none.1 h1)

/-- the class: the items hold, and from the region's start w1 nothing but them and new blocks turned -/
def HC (M : Nat → Prop) (row : Option Nat) (w0 w1 : World) (L : List Hp) (w : World) : Prop := Hold M row w0 w L ∧ RM (Mut M L) w1 w
section
variable {P : Program} {M : Nat → Prop} {row : Option Nat} {w0 w1 : World} {L : List Hp} {sp : SpW} {F : Act → Prop} {S0 : Array Bool}
theorem wpAny_hold {Q : Exit → Act → World → Prop} {a : Act} {w : World} {l : List Oper} (n N : Nat) (L : List Hp) (sp : SpW) {fuel : Nat}
    (hB : relB l.toArray S0 n N = true) (hO : offW l.toArray S0 sp = true) (hf : fuel = unl n S0 + (l.length - n)) (hN : a.tmps.size = N) (hs : Stays (Mut M L) sp) (hC : Hold M row w0 w L)
    (h : wpRel P l.toArray (HC M row w0 w L) (GW sp) (RM (Mut M L)) S0 (fun a' => ∀ w', Hold M row w0 w' L → RM (Mut M L) w w' → (∀ j oj, l[j]? = some oj → j < n → GW sp oj.dst (slot a' oj.dst) w') → wpList P l.toArray Q (l.drop n) a' w') 0 (l.take n) a) : wpAny P .any l.toArray Q fuel S0 a w := by
  refine wpAny_rel S0 n N (HC M row w0 w L) (GW sp) (RM (Mut M L)) hB hf hN (fun d u w w' hr hg => ?_) (fun w _ => RM.refl _ w) (fun _ _ => trivial) ⟨hC, RM.refl _ _⟩ (fun j oj hj hs => offW_h hO (by simpa using hj) hs) (wpRel_mono (fun a' hF w' hC' hg => hF w' hC'.1 hC'.2 hg) _ _ _ h)
  unfold GW at hg ⊢
  cases hd : d.bind sp with
  | none => trivial
  | some V =>
    rw [hd] at hg
    obtain ⟨t, rfl, ht⟩ := Option.bind_eq_some_iff.1 hd
    exact hs t V ht u w w' hr hg

variable {ops : Array Oper} {o : Oper} {rest : List Oper} {a : Act} {k : Nat}
theorem dw_val (hS : S0.getD k false = false) (hw : Region.wanted o (yielded ops a.tmps) = true) (hoff : o.dst.bind sp = none) (h : ∃ u, (∀ w, Hold M row w0 w L → (execOp a.eval o).run P w = .ok (.value u) w) ∧ wpRel P ops (HC M row w0 w1 L) (GW sp) (RM (Mut M L)) S0 F (k + 1) rest (a.put o.dst u)) : wpRel P ops (HC M row w0 w1 L) (GW sp) (RM (Mut M L)) S0 F k (o :: rest) a :=
  let ⟨u, h1, h2⟩ := h
  rel_val (fun w _ => RM.refl _ w) hS hw u (fun w hC _ => h1 w hC.1) (fun _ _ _ => GW_off hoff) h2
theorem dw_skip (hS : S0.getD k false = false) (hw : Region.wanted o (yielded ops a.tmps) = false) (hoff : o.dst.bind sp = none) (hn : wpRel P ops (HC M row w0 w1 L) (GW sp) (RM (Mut M L)) S0 F (k + 1) rest (a.put o.dst undef)) : wpRel P ops (HC M row w0 w1 L) (GW sp) (RM (Mut M L)) S0 F k (o :: rest) a :=
  rel_skip hS hw (fun _ _ => GW_off hoff) hn
/-- a new block: its cells -/
theorem dw_new (cs : Array Value) (t : TypeId) (d : Tmp) (V : Value → World → Prop) (mk : Nat → Value) (hS : S0.getD k false = false) (hw : Region.wanted o (yielded ops a.tmps) = true) (hd : o.dst = some d) (hsp : sp d = some V) (hrun : ∀ w, (execOp a.eval o).run P w = .ok (.value (mk w.heap.size)) (w.alloc (.cells cs t)))
    (hc : ∀ w, Hold M row w0 w L → RM (Mut M L) w1 w → Deps ops (GW sp) o a w → (∀ M', (∀ b, M' b → b < w.heap.size) → Ro (w.alloc (.cells cs t)) M' (fun w' => w'.heap[w.heap.size]? = some (.cells cs t (0, 0)))) → V (mk w.heap.size) (w.alloc (.cells cs t))) (hn : ∀ g w, Hold M row w0 w L → V (mk g) w → wpRel P ops (HC M row w0 w1 L) (GW sp) (RM (Mut M L)) S0 F (k + 1) rest (a.put (some d) (mk g))) : wpRel P ops (HC M row w0 w1 L) (GW sp) (RM (Mut M L)) S0 F k (o :: rest) a :=
  rel_new hS hw (.cells cs t) d hd mk (fun w _ _ => hrun w) (fun w hC hD => ⟨(GW_on hsp).2 (hc w hC.1 hC.2 hD fun M' hM' w2 h1 h2 => (h2 w.heap.size (by simp) (fun hm => Nat.lt_irrefl _ (hM' _ hm))).trans (heap_alloc_new w _)), ⟨(hC.1.alloc_cst cs t).drop (List.sublist_cons_self _ _), hC.2.trans (RM.alloc _ w _)⟩, RM.alloc _ w _⟩) fun g w hC hg => hn g w hC.1 ((GW_on hsp).1 hg)
theorem deps_at {w : World} (h : Deps ops (GW sp) o a w) (j : Nat) {oj : Oper} (hj : ops[j]? = some oj) (he : (o.after.any fun e => Region.binds .any e && e.on == j) = true) {d : Tmp} (hd : oj.dst = some d) {V : Value → World → Prop} (hsp : sp d = some V) : V (slot a (some d)) w := by
  obtain ⟨e, hm, hb⟩ := Array.any_eq_true'.1 he
  simp only [Bool.and_eq_true, beq_iff_eq] at hb
  have := h e hm hb.1 oj (by rw [hb.2]; exact hj)
  rw [hd] at this
  exact (GW_on hsp).1 this
end
section
variable {M : Nat → Prop} {row : Option Nat} {w0 w1 : World} {L : List Hp} {sp : SpW} {F : Act → Prop} {S0 : Array Bool} {ops : Array Oper} {o : Oper} {rest : List Oper} {a : Act} {k : Nat} {T : Nat}
end
end Go.Proofs.Ytkpbnlbhfhkhcaa

namespace Go.Proofs.Ytkpbnlbhfhkhcaa
open Go.RowKit
set_option linter.unusedVariables false
set_option linter.unusedSimpArgs false
section
variable {P : Program} {M : Nat → Prop} {row : Option Nat} {w0 w1 : World} {L : List Hp} {sp : SpW} {F : Act → Prop} {S0 : Array Bool}
variable {ops : Array Oper} {o : Oper} {rest : List Oper} {a : Act} {k : Nat}
/-- a call of any kind; what came since the region's start is at hand -/
theorem dw_callR {f : FuncId} {args : Array Value} (d : Tmp) (V : Value → World → Prop) (hS : S0.getD k false = false) (hw : Region.wanted o (yielded ops a.tmps) = true) (hd : o.dst = some d) (hsp : sp d = some V) (hrun : ∀ w, (execOp a.eval o).run P w = .ok (.enter f args) w)
    (hc : ∀ w, Hold M row w0 w L → RM (Mut M L) w1 w → Deps ops (GW sp) o a w → Calls P f args w fun e w' => ∃ u, e = .returned u ∧ V u w' ∧ Hold M row w0 w' L ∧ RM (Mut M L) w w') (hn : ∀ u w, Hold M row w0 w L → V u w → wpRel P ops (HC M row w0 w1 L) (GW sp) (RM (Mut M L)) S0 F (k + 1) rest (a.put (some d) u)) : wpRel P ops (HC M row w0 w1 L) (GW sp) (RM (Mut M L)) S0 F k (o :: rest) a :=
  rel_call hS hw f args d hd (fun w _ _ => hrun w) (fun w hC hD => (hc w hC.1 hC.2 hD).mono fun e' w' ⟨u, h1, h2, h3, h4⟩ => ⟨u, h1, (GW_on hsp).2 h2, ⟨h3, hC.2.trans h4⟩, h4⟩) fun u w hC hu => hn u w hC.1 ((GW_on hsp).1 hu)
end
theorem own_RM {M : Nat → Prop} {b0 : Nat} (hM : ∀ b, M b → b < b0) {w w' : World} (hr : RM M w w') {e : TypeId} {size n : Nat} {v : Value} {xs : List Value} (h : w.ownsRow b0 e size v n xs) : w'.ownsRow b0 e size v n xs := by
  refine ⟨h.1, ?_⟩
  rcases h.2 with hn | ⟨g, cap, cur, hv, hg, hh, rest⟩
  · exact .inl hn
  · exact .inr ⟨g, cap, cur, hv, hg, (hr.2 g (Blk.lt (t := e) (cs := cur) hh) (fun hm => by have := hM g hm; omega)).trans hh, rest⟩
theorem own_base {w : World} {b0 b1 : Nat} (h01 : b0 ≤ b1) {e : TypeId} {size n : Nat} {v : Value} {xs : List Value} (h : w.ownsRow b1 e size v n xs) : w.ownsRow b0 e size v n xs := by
  refine ⟨h.1, ?_⟩
  rcases h.2 with hn | ⟨g, cap, cur, hv, hg, rest⟩
  · exact .inl hn
  · exact .inr ⟨g, cap, cur, hv, Nat.le_trans h01 hg, rest⟩
/-- just that value -/
def IsV (x : Value) (u : Value) (_ : World) : Prop := u = x
theorem isV_mono {M : Nat → Prop} {x : Value} (u : Value) (w w' : World) (_ : RM M w w') (h : IsV x u w) : IsV x u w' := h
end Go.Proofs.Ytkpbnlbhfhkhcaa

namespace Go.Proofs.Ytkpbnlbhfhkhcaa
open Go.RowKit
set_option linter.unusedVariables false
set_option linter.unusedSimpArgs false

def Se.val (s : Se) : Value := .agg #[.string s.col, .int .i64 s.e.kind, .int .i64 s.e.op, .bool s.e.nt, .int .i64 s.e.v.k, .int .i64 s.e.v.i, .string s.e.v.s, .string s.e.tab, .string s.e.nm, .slice s.e.A s.e.n s.e.c, .slice s.e.B s.e.m s.e.d]
def stepR (s : Se) (tab : ByteArray) : Int × Bool := match stepS s tab with | some m => (m, true) | none => (0, false)
theorem ba_eqb (a b : ByteArray) : (a.toList == b.toList) = decide (a = b) := by
  by_cases h : a = b
  · subst h; simp
  · have : a.toList ≠ b.toList := fun e => h (bytesEq e)
    simp [h, this]
set_option maxRecDepth 100000 in
set_option maxHeartbeats 2000000 in
/-- where the form of the expression is another one -/
theorem step0_any (w : World) (s : Se) (t : ByteArray) (h : ¬ (s.e.kind = 5 ∧ (s.e.op = 9 ∨ s.e.op = 10) ∧ s.e.n = 2)) : Calls Try.prog 33 #[s.val, .string t] w fun r w' => r = .returned (.tuple #[.int .i64 0, .bool false]) ∧ Below w.heap.size w w' := by
  obtain ⟨col, k, op, nt, ⟨vk, vi, vs⟩, tab, nm, A, n, c, args, B, m, d2, sub⟩ := s
  simp only [Se.val] at h ⊢
  have K0 := ((Hold.begin_ w).alloc_cst #[.string col, .int .i64 k, .int .i64 op, .bool nt, .int .i64 vk, .int .i64 vi, .string vs, .string tab, .string nm, .slice A n c, .slice B m d2] 45).alloc_cst #[.int .i64 k, .int .i64 op, .bool nt, .int .i64 vk, .int .i64 vi, .string vs, .string tab, .string nm, .slice A n c, .slice B m d2] 38
  simp only [World.size_alloc] at K0
  have F := K0.facts
  simp only [World.size_alloc, World.size_drew, factsL, cellsF, Nat.reduceAdd, List.toList_toArray, List.set_cons_zero, List.set_cons_succ, List.setIfInBounds_toArray, and_true, true_and] at F
  have HB := hid K0.below
  clear K0
  have HC : ¬ k = 5 ∨ (k = 5 ∧ ¬ op = 9 ∧ ¬ op = 10) ∨ (k = 5 ∧ op = 9 ∧ ¬ (n : Int) = 2) ∨ (k = 5 ∧ op = 10 ∧ ¬ (n : Int) = 2) := by omega
  clear h
  rcases HC with q1 | ⟨rfl, q2, q3⟩ | ⟨rfl, rfl, q4⟩ | ⟨rfl, rfl, q4⟩
  all_goals
    go_enter Try.func33, Try.ntmps33
    go_wp2_with fail
    all_goals first
      | (exfalso; omega)
      | (refine bodyPost_ret (results_tmp2 rfl _ _ _) rfl ?_; exact ⟨rfl, HB.out⟩)
set_option maxRecDepth 100000 in
set_option maxHeartbeats 2000000 in
/-- a sum or a difference of two expressions -/
theorem step1_any (M : Nat → Prop) (w : World) (hM : ∀ b, M b → b < w.heap.size) (s : Se) (t : ByteArray) (x y : Ex) (d : Nat) (he : Ro w M (ExIn (d + 1) s.e)) (h : s.e.kind = 5) (ho : s.e.op = 9 ∨ s.e.op = 10) (ha : s.e.args = [x, y]) : Calls Try.prog 33 #[s.val, .string t] w fun r w' => r = .returned (.tuple #[.int .i64 (stepR s t).1, .bool (stepR s t).2]) ∧ Below w.heap.size w w' := by
  have HS := hid (show stepR s t = if x.kind = 2 ∧ x.nm.toList = s.col.toList ∧ (x.tab.toList = [] ∨ x.tab.toList = t.toList) ∧ y.kind = 1 ∧ (y.v.k != 1) = false then ((if s.e.op = 9 then 3 else 4), true) else (0, false) by
    have e1 : x.nm.toList = s.col.toList ↔ x.nm = s.col := ⟨bytesEq, fun h => by rw [h]⟩
    have e2 : x.tab.toList = [] ↔ x.tab = ⟨#[]⟩ := ⟨fun h => bytesEq (by rw [h, ByteArray.toList_eq]), fun h => by rw [h, ByteArray.toList_eq]⟩
    have e3 : x.tab.toList = t.toList ↔ x.tab = t := ⟨bytesEq, fun h => by rw [h]⟩
    have e4 : (y.v.k != 1) = false ↔ y.v.k = 1 := by simp
    simp only [stepR, stepS, ha, h, true_and, ho, e1, e2, e3, e4]
    split <;> rename_i q <;> split at q <;> simp_all)
  generalize stepR s t = R at *
  obtain ⟨col, k, op, nt, ⟨vk, vi, vs⟩, tab, nm, A, n, c, args, B, m, d2, sub⟩ := s
  obtain ⟨xk, xop, xnt, ⟨xvk, xvi, xvs⟩, xtab, xnm, xA, xn, xc, xargs, xB, xm, xd, xsub⟩ := x
  obtain ⟨yk, yop, ynt, ⟨yvk, yvi, yvs⟩, ytab, ynm, yA, yn, yc, yargs, yB, ym, yd, ysub⟩ := y
  simp only [Se.val] at h ho ha HS ⊢
  subst h
  subst ha
  have K0 := (((Hold.start M w hM).add (he.less (by simp [Mut]))).alloc_cst #[.string col, .int .i64 5, .int .i64 op, .bool nt, .int .i64 vk, .int .i64 vi, .string vs, .string tab, .string nm, .slice A n c, .slice B m d2] 45).alloc_cst #[.int .i64 5, .int .i64 op, .bool nt, .int .i64 vk, .int .i64 vi, .string vs, .string tab, .string nm, .slice A n c, .slice B m d2] 38
  simp only [World.size_alloc] at K0
  have hx := ExIn.succ.1 (K0.ro 2 rfl).now
  have hlen : 2 = n := hx.1.len
  subst hlen
  obtain ⟨b2, o2, rfl, hb2, hc, -⟩ := hx.1.at_ (k := 0) (x := ⟨xk, xop, xnt, ⟨xvk, xvi, xvs⟩, xtab, xnm, xA, xn, xc, xargs, xB, xm, xd, xsub⟩) rfl
  obtain ⟨b3, o3, e3, hb3, hc3, -⟩ := hx.1.at_ (k := 1) (x := ⟨yk, yop, ynt, ⟨yvk, yvi, yvs⟩, ytab, ynm, yA, yn, yc, yargs, yB, ym, yd, ysub⟩) rfl
  simp only [Option.some.injEq, Addr.mk.injEq, and_true] at e3
  obtain ⟨rfl, rfl⟩ := e3
  have x0 := hc 0 _ (by omega) rfl
  have y0 := hc3 0 _ (by omega) rfl
  have x1 := hc 1 _ (by omega) rfl
  have y1 := hc3 1 _ (by omega) rfl
  have x2 := hc 2 _ (by omega) rfl
  have y2 := hc3 2 _ (by omega) rfl
  have x3 := hc 3 _ (by omega) rfl
  have y3 := hc3 3 _ (by omega) rfl
  have x4 := hc 4 _ (by omega) rfl
  have y4 := hc3 4 _ (by omega) rfl
  have x5 := hc 5 _ (by omega) rfl
  have y5 := hc3 5 _ (by omega) rfl
  have x6 := hc 6 _ (by omega) rfl
  have y6 := hc3 6 _ (by omega) rfl
  have x7 := hc 7 _ (by omega) rfl
  have y7 := hc3 7 _ (by omega) rfl
  have x8 := hc 8 _ (by omega) rfl
  have y8 := hc3 8 _ (by omega) rfl
  have x9 := hc 9 _ (by omega) rfl
  have y9 := hc3 9 _ (by omega) rfl
  simp only [Nat.zero_mul, Nat.one_mul, Nat.add_zero] at x0 x1 x2 x3 x4 x5 x6 x7 x8 x9 y0 y1 y2 y3 y4 y5 y6 y7 y8 y9
  clear hc hc3 hx
  have F := K0.facts
  simp only [World.size_alloc, World.size_drew, factsL, cellsF, Nat.reduceAdd, List.toList_toArray, List.set_cons_zero, List.set_cons_succ, List.setIfInBounds_toArray, and_true, true_and] at F
  rcases ho with rfl | rfl
  · go_enter Try.func33, Try.ntmps33
    go_wp2_with fail
    clear F
    generalize (w.alloc (.cells #[.string col, .int .i64 5, .int .i64 9, .bool nt, .int .i64 vk, .int .i64 vi, .string vs, .string tab, .string nm, .slice (some ⟨b2, o2, none⟩) 2 c, .slice B m d2] 45)).alloc (.cells #[.int .i64 5, .int .i64 9, .bool nt, .int .i64 vk, .int .i64 vi, .string vs, .string tab, .string nm, .slice (some ⟨b2, o2, none⟩) 2 c, .slice B m d2] 38) = wk at *
    have F := K0.facts
    simp only [World.size_alloc, World.size_drew, factsL, cellsF, Nat.reduceAdd, List.toList_toArray, List.set_cons_zero, List.set_cons_succ, List.setIfInBounds_toArray, and_true, true_and] at F
    go_cut [7, 8] (fun s7 s8 wx => ∃ (g7 g8 : Nat), s7 = .pointer (some ⟨g7, 0, none⟩) ∧ s8 = .pointer (some ⟨g8, 0, none⟩) ∧ ∃ L, Hold M none w wx (.blk g7 38 #[.int .i64 xk, .int .i64 xop, .bool xnt, .int .i64 xvk, .int .i64 xvi, .string xvs, .string xtab, .string xnm, .slice xA xn xc, .slice xB xm xd] :: .blk g8 38 #[.int .i64 yk, .int .i64 yop, .bool ynt, .int .i64 yvk, .int .i64 yvi, .string yvs, .string ytab, .string ynm, .slice yA yn yc, .slice yB ym yd] :: .cst (w.heap.size + 1) 38 #[.int .i64 5, .int .i64 9, .bool nt, .int .i64 vk, .int .i64 vi, .string vs, .string tab, .string nm, .slice (some ⟨b2, o2, none⟩) 2 c, .slice B m d2] :: .cst w.heap.size 45 #[.string col, .int .i64 5, .int .i64 9, .bool nt, .int .i64 vk, .int .i64 vi, .string vs, .string tab, .string nm, .slice (some ⟨b2, o2, none⟩) 2 c, .slice B m d2] :: L))
    case first =>
      go_region
      · go_wp2_with fail
        go_meet
        have KA := ((K0.alloc #[.int .i64 xk, .int .i64 xop, .bool xnt, .int .i64 xvk, .int .i64 xvi, .string xvs, .string xtab, .string xnm, .slice xA xn xc, .slice xB xm xd] 38).alloc #[.int .i64 yk, .int .i64 yop, .bool ynt, .int .i64 yvk, .int .i64 yvi, .string yvs, .string ytab, .string ynm, .slice yA yn yc, .slice yB ym yd] 38).drew
        rw [World.size_alloc] at KA
        exact ⟨_, _, rfl, rfl, _, KA.perm (List.Perm.swap _ _ _)⟩
      · go_wp2_with fail
        go_meet
        have KA := ((K0.alloc #[.int .i64 yk, .int .i64 yop, .bool ynt, .int .i64 yvk, .int .i64 yvi, .string yvs, .string ytab, .string ynm, .slice yA yn yc, .slice yB ym yd] 38).alloc #[.int .i64 xk, .int .i64 xop, .bool xnt, .int .i64 xvk, .int .i64 xvi, .string xvs, .string xtab, .string xnm, .slice xA xn xc, .slice xB xm xd] 38).drew
        rw [World.size_alloc] at KA
        exact ⟨_, _, rfl, rfl, _, KA⟩
    case rest =>
      obtain ⟨g7, g8, rfl, rfl, L, K⟩ := hcut
      clear F x0 x1 x2 x3 x4 x5 x6 x7 x8 x9 y0 y1 y2 y3 y4 y5 y6 y7 y8 y9 K0 hb2 hb3
      have F := K.facts
      simp only [World.size_alloc, World.size_drew, factsL, cellsF, Nat.reduceAdd, List.toList_toArray, List.set_cons_zero, List.set_cons_succ, List.setIfInBounds_toArray, and_true, true_and] at F
      have HB := hid K.below
      clear K
      go_wp2_with fail
      all_goals
        clear F
        refine bodyPost_ret (results_tmp2 rfl _ _ _) rfl ⟨?_, HB.out⟩
        rw [HS.out]
        simp [*]
  · go_enter Try.func33, Try.ntmps33
    go_wp2_with fail
    clear F
    generalize (w.alloc (.cells #[.string col, .int .i64 5, .int .i64 10, .bool nt, .int .i64 vk, .int .i64 vi, .string vs, .string tab, .string nm, .slice (some ⟨b2, o2, none⟩) 2 c, .slice B m d2] 45)).alloc (.cells #[.int .i64 5, .int .i64 10, .bool nt, .int .i64 vk, .int .i64 vi, .string vs, .string tab, .string nm, .slice (some ⟨b2, o2, none⟩) 2 c, .slice B m d2] 38) = wk at *
    have F := K0.facts
    simp only [World.size_alloc, World.size_drew, factsL, cellsF, Nat.reduceAdd, List.toList_toArray, List.set_cons_zero, List.set_cons_succ, List.setIfInBounds_toArray, and_true, true_and] at F
    go_cut [7, 8] (fun s7 s8 wx => ∃ (g7 g8 : Nat), s7 = .pointer (some ⟨g7, 0, none⟩) ∧ s8 = .pointer (some ⟨g8, 0, none⟩) ∧ ∃ L, Hold M none w wx (.blk g7 38 #[.int .i64 xk, .int .i64 xop, .bool xnt, .int .i64 xvk, .int .i64 xvi, .string xvs, .string xtab, .string xnm, .slice xA xn xc, .slice xB xm xd] :: .blk g8 38 #[.int .i64 yk, .int .i64 yop, .bool ynt, .int .i64 yvk, .int .i64 yvi, .string yvs, .string ytab, .string ynm, .slice yA yn yc, .slice yB ym yd] :: .cst (w.heap.size + 1) 38 #[.int .i64 5, .int .i64 10, .bool nt, .int .i64 vk, .int .i64 vi, .string vs, .string tab, .string nm, .slice (some ⟨b2, o2, none⟩) 2 c, .slice B m d2] :: .cst w.heap.size 45 #[.string col, .int .i64 5, .int .i64 10, .bool nt, .int .i64 vk, .int .i64 vi, .string vs, .string tab, .string nm, .slice (some ⟨b2, o2, none⟩) 2 c, .slice B m d2] :: L))
    case first =>
      go_region
      · go_wp2_with fail
        go_meet
        have KA := ((K0.alloc #[.int .i64 xk, .int .i64 xop, .bool xnt, .int .i64 xvk, .int .i64 xvi, .string xvs, .string xtab, .string xnm, .slice xA xn xc, .slice xB xm xd] 38).alloc #[.int .i64 yk, .int .i64 yop, .bool ynt, .int .i64 yvk, .int .i64 yvi, .string yvs, .string ytab, .string ynm, .slice yA yn yc, .slice yB ym yd] 38).drew
        rw [World.size_alloc] at KA
        exact ⟨_, _, rfl, rfl, _, KA.perm (List.Perm.swap _ _ _)⟩
      · go_wp2_with fail
        go_meet
        have KA := ((K0.alloc #[.int .i64 yk, .int .i64 yop, .bool ynt, .int .i64 yvk, .int .i64 yvi, .string yvs, .string ytab, .string ynm, .slice yA yn yc, .slice yB ym yd] 38).alloc #[.int .i64 xk, .int .i64 xop, .bool xnt, .int .i64 xvk, .int .i64 xvi, .string xvs, .string xtab, .string xnm, .slice xA xn xc, .slice xB xm xd] 38).drew
        rw [World.size_alloc] at KA
        exact ⟨_, _, rfl, rfl, _, KA⟩
    case rest =>
      obtain ⟨g7, g8, rfl, rfl, L, K⟩ := hcut
      clear F x0 x1 x2 x3 x4 x5 x6 x7 x8 x9 y0 y1 y2 y3 y4 y5 y6 y7 y8 y9 K0 hb2 hb3
      have F := K.facts
      simp only [World.size_alloc, World.size_drew, factsL, cellsF, Nat.reduceAdd, List.toList_toArray, List.set_cons_zero, List.set_cons_succ, List.setIfInBounds_toArray, and_true, true_and] at F
      have HB := hid K.below
      clear K
      go_wp2_with fail
      all_goals
        clear F
        refine bodyPost_ret (results_tmp2 rfl _ _ _) rfl ⟨?_, HB.out⟩
        rw [HS.out]
        simp [*]
theorem step_any (M : Nat → Prop) (w : World) (hM : ∀ b, M b → b < w.heap.size) (s : Se) (t : ByteArray) (d : Nat) (he : Ro w M (ExIn (d + 1) s.e)) : Calls Try.prog 33 #[s.val, .string t] w fun r w' => r = .returned (.tuple #[.int .i64 (stepR s t).1, .bool (stepR s t).2]) ∧ Below w.heap.size w w' := by
  have hlen := (ExIn.succ.1 he.now).1.len
  by_cases h : s.e.kind = 5 ∧ (s.e.op = 9 ∨ s.e.op = 10) ∧ s.e.n = 2
  · obtain ⟨x, y, hxy⟩ : ∃ x y, s.e.args = [x, y] := by
      match hm : s.e.args with
      | [] => rw [hm] at hlen; simp at hlen; omega
      | [_] => rw [hm] at hlen; simp at hlen; omega
      | [x, y] => exact ⟨x, y, rfl⟩
      | _ :: _ :: _ :: _ => rw [hm] at hlen; simp at hlen; omega
    exact step1_any M w hM s t x y d he h.1 h.2.1 hxy
  · have hs : stepR s t = (0, false) := by
      have : stepS s t = none := by
        unfold stepS
        split
        · rename_i c k hm
          rw [hm] at hlen
          simp at hlen
          rw [if_neg]
          exact fun hc => h ⟨hc.1, hc.2.1, by omega⟩
        · rfl
      simp [stepR, this]
    rw [hs]
    exact step0_any w s t h
end Go.Proofs.Ytkpbnlbhfhkhcaa

namespace Go.Proofs.Ytkpbnlbhfhkhcaa
open Go.RowKit
set_option linter.unusedVariables false
set_option linter.unusedSimpArgs false

def Ac.val (a : Ac) : Value := .agg #[.int .i64 a.kind, .string a.tab, .slice a.rows.A a.rows.n a.rows.c, .slice a.qs.A a.qs.n a.qs.c, .slice a.sets.A a.sets.n a.sets.c, .slice a.wh.A a.wh.n a.wh.c, .string a.text]
def lowR (a : Ac) (col : ByteArray) : Int × Bool := match lowersA a col with | some k => (k, true) | none => (0, false)
def SesIn (d : Nat) (A : Option Addr) (n : Nat) (l : List Se) (w : World) : Prop := SlR 11 A n (l.flatMap Se.cells) w ∧ ∀ x ∈ l, SeIn d x w
theorem SesIn.of {d : Nat} {s : SlP Se} {w : World} (h : s.In 11 Se.cells (SeIn d) w) : SesIn d s.A s.n s.l w := h
theorem SesIn.len {d : Nat} {A : Option Addr} {n : Nat} {l : List Se} {w : World} (h : SesIn d A n l w) : l.length = n := SlP.In.len (s := ⟨A, n, 0, l⟩) (k := 11) (cel := Se.cells) (P := SeIn d) h (by omega) (fun _ => rfl)
theorem SesIn.at_ {d : Nat} {w : World} {A : Option Addr} {n : Nat} {l : List Se} (h : SesIn d A n l w) {k : Nat} {x : Se} (hx : l[k]? = some x) :
    ∃ b o, A = some ⟨b, o, none⟩ ∧ b < w.heap.size ∧ (∀ j u, j < 11 → x.cells[j]? = some u → w.cell? ⟨b, o + k * 11 + j, none⟩ = some u) ∧ SeIn d x w := SlP.In.at_ (s := ⟨A, n, 0, l⟩) (k := 11) (cel := Se.cells) (P := SeIn d) h (by omega) (fun _ => rfl) hx
theorem get_any {α : Type} {l : List α} {n k : Nat} (h : l.length = n) (hk : k < n) : ∃ c, l[k]? = some c := ⟨l[k]'(by omega), List.getElem?_eq_getElem _⟩
theorem findSome_next {α β : Type} {f : α → Option β} {l : List α} {k : Nat} {x : α} (hx : l[k]? = some x) (hf : f x = none) (h : l.findSome? f = (l.drop k).findSome? f) : l.findSome? f = (l.drop (k + 1)).findSome? f := by
  have hk : k < l.length := (List.getElem?_eq_some_iff.1 hx).1
  rw [h, List.drop_eq_getElem_cons hk]
  have : l[k] = x := (List.getElem?_eq_some_iff.1 hx).2
  simp [this, hf]
theorem findSome_here {α β : Type} {f : α → Option β} {l : List α} {k : Nat} {x : α} {y : β} (hx : l[k]? = some x) (hf : f x = some y) (h : l.findSome? f = (l.drop k).findSome? f) : l.findSome? f = some y := by
  have hk : k < l.length := (List.getElem?_eq_some_iff.1 hx).1
  rw [h, List.drop_eq_getElem_cons hk]
  have : l[k] = x := (List.getElem?_eq_some_iff.1 hx).2
  simp [this, hf]
set_option maxRecDepth 100000 in
set_option maxHeartbeats 2000000 in
theorem lowers_any (M : Nat → Prop) (w : World) (hM : ∀ b, M b → b < w.heap.size) (a : Ac) (col : ByteArray) (d : Nat) (ha : Ro w M (AcIn (d + 1) a)) (hn : a.sets.n ≤ 9223372036854775807) : Calls Try.prog 26 #[a.val, .string col] w fun r w' => r = .returned (.tuple #[.int .i64 (lowR a col).1, .bool (lowR a col).2]) ∧ Below w.heap.size w w' := by
  have hD : Ro w M (SesIn (d + 1) a.sets.A a.sets.n a.sets.l) := ha.imp fun w2 h2 => h2.2.2.1
  obtain ⟨ak, atab, ⟨rA, rn, rc, rl⟩, ⟨qA, qn, qc, ql⟩, ⟨sA, sn, sc, sl⟩, ⟨wA, wn, wc, wl⟩, text⟩ := a
  simp only [Ac.val] at hD hn ⊢
  clear ha
  by_cases hk : ak = 2
  · subst hk
    have HR := hid (show lowR ⟨2, atab, ⟨rA, rn, rc, rl⟩, ⟨qA, qn, qc, ql⟩, ⟨sA, sn, sc, sl⟩, ⟨wA, wn, wc, wl⟩, text⟩ col = match sl.findSome? (lowS atab col) with | some k => (k, true) | none => (0, false) by simp [lowR, lowersA])
    generalize lowR ⟨2, atab, ⟨rA, rn, rc, rl⟩, ⟨qA, qn, qc, ql⟩, ⟨sA, sn, sc, sl⟩, ⟨wA, wn, wc, wl⟩, text⟩ col = R at *
    have HL := hid hD.now.len
    have K0 := ((Hold.start M w hM).add (hD.less (by simp [Mut]))).alloc_cst #[.int .i64 2, .string atab, .slice rA rn rc, .slice qA qn qc, .slice sA sn sc, .slice wA wn wc, .string text] 43
    have F := K0.facts
    simp only [World.size_alloc, World.size_drew, factsL, cellsF, Nat.reduceAdd, List.toList_toArray, List.set_cons_zero, List.set_cons_succ, List.setIfInBounds_toArray, and_true, true_and] at F
    go_enter Try.func26, Try.ntmps26
    go_wp2_with fail
    clear F
    go_loopw [16] (fun i wr => ∃ k : Nat, k ≤ sn ∧ i = .int .i64 k ∧ Hid (sl.findSome? (lowS atab col) = (sl.drop k).findSome? (lowS atab col)) ∧ Hold M none w wr [.cst w.heap.size 43 #[.int .i64 2, .string atab, .slice rA rn rc, .slice qA qn qc, .slice sA sn sc, .slice wA wn wc, .string text], .ro (SesIn (d + 1) sA sn sl)]) (fun i _ => sn - (intOf i).toNat)
    case atStart => exact ⟨0, by omega, rfl, hid rfl, K0⟩
    case round =>
      clear K0
      obtain ⟨k, hk, rfl, HF, H⟩ := hrel
      by_cases hlt : k < sn
      · obtain ⟨⟨xcol, ⟨xk, xop, xnt, ⟨xvk, xvi, xvs⟩, xtab, xnm, xA, xn, xc, xargs, xB, xm, xd, xsub⟩⟩, hc⟩ := get_any HL.out hlt
        obtain ⟨b, o, rfl, hb, hcl, -⟩ := (H.ro 1 rfl).now.at_ hc
        have c0 := hcl 0 _ (by omega) rfl
        have c1 := hcl 1 _ (by omega) rfl
        have c2 := hcl 2 _ (by omega) rfl
        have c3 := hcl 3 _ (by omega) rfl
        have c4 := hcl 4 _ (by omega) rfl
        have c5 := hcl 5 _ (by omega) rfl
        have c6 := hcl 6 _ (by omega) rfl
        have c7 := hcl 7 _ (by omega) rfl
        have c8 := hcl 8 _ (by omega) rfl
        have c9 := hcl 9 _ (by omega) rfl
        have c10 := hcl 10 _ (by omega) rfl
        simp only [Nat.add_zero] at c0
        clear hcl
        have HC := hid hc; clear hc
        have F := H.facts
        simp only [World.size_alloc, World.size_drew, factsL, cellsF, Nat.reduceAdd, List.toList_toArray, List.set_cons_zero, List.set_cons_succ, List.setIfInBounds_toArray, and_true, true_and] at F
        by_cases hcol : xcol = col
        · subst hcol
          have K1 := (H.add (S := ExIn (d + 1) ⟨xk, xop, xnt, ⟨xvk, xvi, xvs⟩, xtab, xnm, xA, xn, xc, xargs, xB, xm, xd, xsub⟩) ((H.ro 1 rfl).imp fun w2 h2 => h2.2 _ (List.mem_of_getElem? HC.out))).alloc_cst #[.string xcol, .int .i64 xk, .int .i64 xop, .bool xnt, .int .i64 xvk, .int .i64 xvi, .string xvs, .string xtab, .string xnm, .slice xA xn xc, .slice xB xm xd] 45
          have F1 := K1.facts
          simp only [World.size_alloc, World.size_drew, factsL, cellsF, Nat.reduceAdd, List.toList_toArray, List.set_cons_zero, List.set_cons_succ, List.setIfInBounds_toArray, and_true, true_and] at F1
          have hce := step_any _ _ K1.mutLt ⟨xcol, ⟨xk, xop, xnt, ⟨xvk, xvi, xvs⟩, xtab, xnm, xA, xn, xc, xargs, xB, xm, xd, xsub⟩⟩ atab d (K1.ro 1 rfl)
          rcases hst : stepS ⟨xcol, ⟨xk, xop, xnt, ⟨xvk, xvi, xvs⟩, xtab, xnm, xA, xn, xc, xargs, xB, xm, xd, xsub⟩⟩ atab with _ | m
          · rw [show stepR ⟨xcol, ⟨xk, xop, xnt, ⟨xvk, xvi, xvs⟩, xtab, xnm, xA, xn, xc, xargs, xB, xm, xd, xsub⟩⟩ atab = (0, false) by simp [stepR, hst]] at hce
            have HST := hid hst; clear hst
            go_wp2_with fail
            refine hce.mono ?_
            rintro e w1 ⟨rfl, b1⟩
            have K2 := K1.call b1
            clear K1 F1 F b1
            go_wp2_with fail
            go_roundw
            case rel => exact ⟨k + 1, by omega, by go_num, hid (findSome_next HC.out (by simp [lowS, HST.out]) HF.out), K2.drop (List.Sublist.cons _ (List.Sublist.cons _ (List.Sublist.refl _)))⟩
            case measure => simp [intOf]; omega
          · rw [show stepR ⟨xcol, ⟨xk, xop, xnt, ⟨xvk, xvi, xvs⟩, xtab, xnm, xA, xn, xc, xargs, xB, xm, xd, xsub⟩⟩ atab = (m, true) by simp [stepR, hst]] at hce
            by_cases hm : m = 4
            · subst hm
              obtain ⟨x0, ⟨yk, yop, ynt, ⟨yvk, yvi, yvs⟩, ytab, ynm, yA, yn, yc, yargs, yB, ym, yd, ysub⟩, rfl⟩ : ∃ x y, xargs = [x, y] := by
                unfold stepS at hst
                split at hst
                · rename_i c k h; exact ⟨_, _, h⟩
                · cases hst
              have HST := hid hst; clear hst
              go_wp2_with fail
              refine hce.mono ?_
              rintro e w1 ⟨rfl, b1⟩
              have K2 := K1.call b1
              have F2 := K2.facts
              simp only [World.size_alloc, World.size_drew, factsL, cellsF, Nat.reduceAdd, List.toList_toArray, List.set_cons_zero, List.set_cons_succ, List.setIfInBounds_toArray, and_true, true_and] at F2
              clear K1 F1 F b1 c0 c1 c2 c3 c4 c5 c6 c7 c8 c9 c10
              have hx := (ExIn.succ.1 (K2.ro 1 rfl).now).1
              have hlen : 2 = xn := hx.len
              subst hlen
              obtain ⟨b2, o2, rfl, hb2, hcl, -⟩ := hx.at_ (k := 1) (x := ⟨yk, yop, ynt, ⟨yvk, yvi, yvs⟩, ytab, ynm, yA, yn, yc, yargs, yB, ym, yd, ysub⟩) rfl
              have y4 := hcl 4 _ (by omega) rfl
              simp only [Nat.one_mul] at y4
              clear hcl hx
              go_wp2_with fail
              refine bodyPost_ret (results_tmp2 rfl _ _ _) rfl ⟨?_, K2.below⟩
              rw [HR.out, findSome_here HC.out (y := yvi) (by simp [lowS, HST.out]) HF.out]
              rfl
            · have HST := hid hst; clear hst
              go_wp2_with fail
              refine hce.mono ?_
              rintro e w1 ⟨rfl, b1⟩
              have K2 := K1.call b1
              clear K1 F1 F b1
              go_wp2_with fail
              go_roundw
              case rel => exact ⟨k + 1, by omega, by go_num, hid (findSome_next HC.out (by simp [lowS, HST.out, hm]) HF.out), K2.drop (List.Sublist.cons _ (List.Sublist.cons _ (List.Sublist.refl _)))⟩
              case measure => simp [intOf]; omega
        · have e1 : ¬ xcol.toList = col.toList := fun h => hcol (bytesEq h)
          have e2 : (xcol.toList == col.toList) = false := by simpa using e1
          have K1 := H.alloc #[.string xcol, .int .i64 xk, .int .i64 xop, .bool xnt, .int .i64 xvk, .int .i64 xvi, .string xvs, .string xtab, .string xnm, .slice xA xn xc, .slice xB xm xd] 45
          have F1 := K1.facts
          simp only [World.size_alloc, World.size_drew, factsL, cellsF, Nat.reduceAdd, List.toList_toArray, List.set_cons_zero, List.set_cons_succ, List.setIfInBounds_toArray, and_true, true_and] at F1
          go_wp2_with fail
          go_roundw
          case rel => exact ⟨k + 1, by omega, by go_num, hid (findSome_next HC.out (by simp [lowS, hcol]) HF.out), K1.drop (List.sublist_cons_self _ _)⟩
          case measure => simp [intOf]; omega
      · have F := H.facts
        simp only [World.size_alloc, World.size_drew, factsL, cellsF, Nat.reduceAdd, List.toList_toArray, List.set_cons_zero, List.set_cons_succ, List.setIfInBounds_toArray, and_true, true_and] at F
        have hks : k = sn := by omega
        go_wp2_with fail
        refine bodyPost_ret (results_tmp2 rfl _ _ _) rfl ⟨?_, H.below⟩
        rw [HR.out, HF.out, List.drop_eq_nil_of_le (by rw [HL.out]; omega)]
        rfl
  · have K0 := (Hold.begin_ w).alloc_cst #[.int .i64 ak, .string atab, .slice rA rn rc, .slice qA qn qc, .slice sA sn sc, .slice wA wn wc, .string text] 43
    have F := K0.facts
    simp only [World.size_alloc, World.size_drew, factsL, cellsF, Nat.reduceAdd, List.toList_toArray, List.set_cons_zero, List.set_cons_succ, List.setIfInBounds_toArray, and_true, true_and] at F
    have HB := hid K0.below
    clear K0
    rw [show lowR ⟨ak, atab, ⟨rA, rn, rc, rl⟩, ⟨qA, qn, qc, ql⟩, ⟨sA, sn, sc, sl⟩, ⟨wA, wn, wc, wl⟩, text⟩ col = (0, false) by simp [lowR, lowersA, hk]]
    go_enter Try.func26, Try.ntmps26
    go_wp2_with fail
    all_goals first
      | (exfalso; omega)
      | (refine bodyPost_ret (results_tmp2 rfl _ _ _) rfl ?_; exact ⟨rfl, HB.out⟩)
end Go.Proofs.Ytkpbnlbhfhkhcaa

namespace Go.Proofs.Ytkpbnlbhfhkhcaa
open Go.RowKit
set_option linter.unusedVariables false
set_option linter.unusedSimpArgs false

set_option maxRecDepth 100000 in
set_option maxHeartbeats 2000000 in
/-- where the expression is no minus sign -/
theorem const0_any (w : World) (e : Ex) (h : e.kind ≠ 4) : Calls Try.prog 36 #[e.val] w fun r w' => r = .returned (.tuple #[.int .i64 e.v.i, .bool ((e.kind == 1) && (e.v.k == 1))]) ∧ Below w.heap.size w w' := by
  obtain ⟨k, op, nt, ⟨vk, vi, vs⟩, tab, nm, A, n, c, args, B, m, d, sub⟩ := e
  simp only [Ex.val] at h ⊢
  have hq : (k == 4) = false := by simpa using h
  have K0 := (Hold.begin_ w).alloc_cst #[.int .i64 k, .int .i64 op, .bool nt, .int .i64 vk, .int .i64 vi, .string vs, .string tab, .string nm, .slice A n c, .slice B m d] 38
  have F := K0.facts
  simp only [World.size_alloc, World.size_drew, factsL, cellsF, Nat.reduceAdd, List.toList_toArray, List.set_cons_zero, List.set_cons_succ, List.setIfInBounds_toArray, and_true, true_and] at F
  have hB := fun q => (K0.drewN q).below
  have HB := hid hB
  clear hB K0
  cases hk : (k == 1)
  · go_enter Try.func36, Try.ntmps36
    go_wp2_with fail
    go_quiet (fail)
    go_wp2_with fail
    refine bodyPost_ret (results_tmp2 rfl _ _ _) rfl ?_
    exact ⟨by simp [hk], HB.out _⟩
  · go_enter Try.func36, Try.ntmps36
    go_wp2_with fail
    go_quiet (fail)
    go_wp2_with fail
    refine bodyPost_ret (results_tmp2 rfl _ _ _) rfl ?_
    exact ⟨by simp [hk], HB.out _⟩
set_option maxRecDepth 100000 in
set_option maxHeartbeats 2000000 in
/-- a minus sign before a literal -/
theorem const1_any (M : Nat → Prop) (w : World) (hM : ∀ b, M b → b < w.heap.size) (e a : Ex) (d : Nat) (he : Ro w M (ExIn (d + 1) e)) (h : e.kind = 4) (ha : e.args = [a]) (hk : a.kind = 1) : Calls Try.prog 36 #[e.val] w fun r w' => r = .returned (.tuple #[.int .i64 (IntKind.i64.wrap (-a.v.i)), .bool (a.v.k == 1)]) ∧ Below w.heap.size w w' := by
  obtain ⟨k, op, nt, ⟨vk, vi, vs⟩, tab, nm, A, n, c, args, B, m, d2, sub⟩ := e
  obtain ⟨ak, aop, ant, ⟨avk, avi, avs⟩, atab, anm, aA, an, ac, aargs, aB, am, ad, asub⟩ := a
  simp only [Ex.val] at h ha hk ⊢
  subst h
  subst ha
  subst hk
  have K0 := ((Hold.start M w hM).add (he.less (by simp [Mut]))).alloc_cst #[.int .i64 4, .int .i64 op, .bool nt, .int .i64 vk, .int .i64 vi, .string vs, .string tab, .string nm, .slice A n c, .slice B m d2] 38
  have hx := ExIn.succ.1 (K0.ro 1 rfl).now
  have hlen : 1 = n := hx.1.len
  subst hlen
  obtain ⟨b2, o2, rfl, hb2, hc, hal⟩ := hx.1.at_ (k := 0) (x := ⟨1, aop, ant, ⟨avk, avi, avs⟩, atab, anm, aA, an, ac, aargs, aB, am, ad, asub⟩) rfl
  have y0 := hc 0 _ (by omega) rfl
  have y1 := hc 1 _ (by omega) rfl
  have y2 := hc 2 _ (by omega) rfl
  have y3 := hc 3 _ (by omega) rfl
  have y4 := hc 4 _ (by omega) rfl
  have y5 := hc 5 _ (by omega) rfl
  have y6 := hc 6 _ (by omega) rfl
  have y7 := hc 7 _ (by omega) rfl
  have y8 := hc 8 _ (by omega) rfl
  have y9 := hc 9 _ (by omega) rfl
  simp only [Nat.zero_mul, Nat.add_zero] at y0 y1 y2 y3 y4 y5 y6 y7 y8 y9
  clear hc hx hal
  have F := K0.facts
  simp only [World.size_alloc, World.size_drew, factsL, cellsF, Nat.reduceAdd, List.toList_toArray, List.set_cons_zero, List.set_cons_succ, List.setIfInBounds_toArray, and_true, true_and] at F
  go_enter Try.func36, Try.ntmps36
  go_wp2_with fail
  refine (const0_any _ ⟨1, aop, ant, ⟨avk, avi, avs⟩, atab, anm, aA, an, ac, aargs, aB, am, ad, asub⟩ (show (1 : Int) ≠ 4 by decide)).mono ?_
  rintro r w1 ⟨rfl, b1⟩
  have K1 := K0.call b1
  clear K0 b1
  have HB := hid K1.below
  rw [show (((1 : Int) == 1) && (avk == 1)) = (avk == 1) from rfl]
  go_wp2_with fail
  refine bodyPost_ret (results_tmp2 rfl _ _ _) rfl ?_
  exact ⟨by first | rfl | (simp; (first | (simp [wrap64, IntKind.wrap_i64]; done) | (rw [IntKind.wrap_i64]; rfl) | (rw [IntKind.wrap_i64]; unfold wrap64; omega))), HB.out⟩
end Go.Proofs.Ytkpbnlbhfhkhcaa

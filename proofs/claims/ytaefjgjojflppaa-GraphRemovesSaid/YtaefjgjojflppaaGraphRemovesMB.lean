/- RClos: the contract of the closure, of order's reference. -/
import Derived.Test.YtaefjgjojflppaaGraphRemovesMA
import Derived.StillTailTactics
import Derived.IntWalk
import Derived.Defers
import Derived.Deep.LoopGhost
import Derived.WalkLawsBesides
import Derived.WideShapes
namespace Go.Proofs.Ytaefjgjojflppaa
open Go
set_option linter.unusedVariables false
set_option linter.unusedSimpArgs false

abbrev Sp := Tmp → Option (Value → Prop)
def GV (sp : Sp) (d : Option Tmp) (u : Value) (_ : World) : Prop := match d.bind sp with | some V => V u | none => True
def RT (_ _ : World) : Prop := True
/-- the operations of S fill no slot that is spoken of -/
def offB (ops : Array Oper) (S0 : Array Bool) (sp : Sp) : Bool := (List.range ops.size).all fun j => !S0.getD j false || (((ops[j]?).bind (·.dst)).bind sp).isNone
theorem GV_off {sp : Sp} {d : Option Tmp} {u : Value} {w : World} (h : d.bind sp = none) : GV sp d u w := by unfold GV; rw [h]; trivial
theorem offB_h {ops : Array Oper} {S0 : Array Bool} {sp : Sp} (h : offB ops S0 sp = true) {j : Nat} {o : Oper} (ho : ops[j]? = some o) (hs : S0.getD j false = true) {u : Value} {w : World} : GV sp o.dst u w := by
  have h1 := List.all_eq_true.1 h j (List.mem_range.2 (Array.getElem?_eq_some_iff.1 ho).1)
  simp only [hs, Bool.not_true, Bool.false_or, ho, Option.bind_some] at h1
  exact GV_off (Option.isNone_iff_eq_none.1 h1)

section
variable {P : Program} {C : World → Prop} {sp : Sp} {F : Act → Prop} {S0 : Array Bool}
theorem wpAny_draws {Q : Exit → Act → World → Prop} {a : Act} {w : World} {l : List Oper} (n N : Nat) (C : World → Prop) (sp : Sp) {fuel : Nat}
    (hB : relB l.toArray S0 n N = true) (hO : offB l.toArray S0 sp = true) (hf : fuel = unl n S0 + (l.length - n)) (hN : a.tmps.size = N) (hC : C w)
    (h : wpRel P l.toArray C (GV sp) RT S0 (fun a' => ∀ w', C w' → wpList P l.toArray Q (l.drop n) a' w') 0 (l.take n) a) : wpAny P .any l.toArray Q fuel S0 a w := by
  refine wpAny_rel S0 n N C (GV sp) RT hB hf hN (fun _ _ _ _ _ h => h) (fun _ _ => trivial) (fun _ _ => trivial) hC (fun j oj hj hs => offB_h hO (by simpa using hj) hs) ?_
  have key : ∀ (l' : List Oper) (k : Nat) (a : Act), wpRel P l.toArray C (GV sp) RT S0 (fun a' => ∀ w', C w' → wpList P l.toArray Q (l.drop n) a' w') k l' a →
      wpRel P l.toArray C (GV sp) RT S0 (fun a' => ∀ w', C w' → (∀ j oj, l[j]? = some oj → j < n → GV sp oj.dst (slot a' oj.dst) w') → wpList P l.toArray Q (l.drop n) a' w') k l' a := by
    intro l'
    induction l' with
    | nil => intro k a h hI w' hw' _; exact h hI w' hw'
    | cons o l' ih =>
      intro k a h
      unfold wpRel at h ⊢
      split
      · rename_i hs; rw [if_pos hs] at h; exact ih _ _ h
      · rename_i hs; rw [if_neg hs] at h; exact ⟨h.1, fun u hu hd => ih _ _ (h.2 u hu hd)⟩
  exact key _ _ _ h

variable {ops : Array Oper} {o : Oper} {rest : List Oper} {a : Act} {k : Nat}
/-- one value, the world left -/
theorem dr_val {u : Value} (hS : S0.getD k false = false) (hw : Region.wanted o (yielded ops a.tmps) = true) (hoff : o.dst.bind sp = none) (hrun : ∀ w, C w → (execOp a.eval o).run P w = .ok (.value u) w) (hn : wpRel P ops C (GV sp) RT S0 F (k + 1) rest (a.put o.dst u)) : wpRel P ops C (GV sp) RT S0 F k (o :: rest) a :=
  rel_val (fun _ _ => trivial) hS hw u (fun w hC _ => hrun w hC) (fun _ _ _ => GV_off hoff) hn
theorem dr_val' (hS : S0.getD k false = false) (hw : Region.wanted o (yielded ops a.tmps) = true) (hoff : o.dst.bind sp = none) (h : ∃ u, (∀ w, C w → (execOp a.eval o).run P w = .ok (.value u) w) ∧ wpRel P ops C (GV sp) RT S0 F (k + 1) rest (a.put o.dst u)) : wpRel P ops C (GV sp) RT S0 F k (o :: rest) a :=
  let ⟨_, h1, h2⟩ := h
  dr_val hS hw hoff h1 h2
theorem dr_skip (hS : S0.getD k false = false) (hw : Region.wanted o (yielded ops a.tmps) = false) (hoff : o.dst.bind sp = none) (hn : wpRel P ops C (GV sp) RT S0 F (k + 1) rest (a.put o.dst undef)) : wpRel P ops C (GV sp) RT S0 F k (o :: rest) a :=
  rel_skip hS hw (fun _ _ => GV_off hoff) hn
/-- a call -/
theorem dr_call {f : FuncId} {args : Array Value} (d : Tmp) (V : Value → Prop) (hS : S0.getD k false = false) (hw : Region.wanted o (yielded ops a.tmps) = true) (hd : o.dst = some d) (hsp : sp d = some V) (hrun : ∀ w, C w → (execOp a.eval o).run P w = .ok (.enter f args) w)
    (hc : ∀ w, C w → Calls P f args w fun e w' => ∃ u, e = .returned u ∧ V u ∧ C w') (hn : ∀ u, V u → wpRel P ops C (GV sp) RT S0 F (k + 1) rest (a.put (some d) u)) : wpRel P ops C (GV sp) RT S0 F k (o :: rest) a := by
  have e : ∀ u w, GV sp (some d) u w ↔ V u := fun u w => by unfold GV; simp only [Option.bind_some, hsp]
  exact rel_call hS hw f args d hd (fun w hC _ => hrun w hC) (fun w hC _ => (hc w hC).mono fun e' w' ⟨u, h1, h2, h3⟩ => ⟨u, h1, (e u w').2 h2, h3, trivial⟩) fun u w _ hu => hn u ((e u w).1 hu)
end
end Go.Proofs.Ytaefjgjojflppaa

namespace Go.Proofs.Ytaefjgjojflppaa
open Go.RowKit
set_option linter.unusedVariables false
set_option linter.unusedSimpArgs false
/-- a number below n -/
def NatB (n : Nat) (u : Value) : Prop := ∃ r : Nat, r < n ∧ u = .int .i64 r
section
variable {sp : Sp} {F : Act → Prop} {S0 : Array Bool} {ops : Array Oper} {o : Oper} {rest : List Oper} {a : Act} {k : Nat} {M : Nat → Prop} {row : Option Nat} {w0 : World} {L : List Hp} {T : Nat}
theorem dr_next (n : Nat) (i : Nat) (hi : L[i]? = some (.tp T)) (d : Tmp) (hS : S0.getD k false = false) (hw : Region.wanted o (yielded ops a.tmps) = true) (hd : o.dst = some d) (hsp : sp d = some (NatB n))
    (hrun : ∀ w, (execOp a.eval o).run Try.prog w = .ok (.enter 28 #[.pointer (some ⟨T, 0, none⟩), .int .i64 n]) w) (hn : ∀ r : Nat, r < n → wpRel Try.prog ops (fun w' => Hold M row w0 w' L) (GV sp) RT S0 F (k + 1) rest (a.put (some d) (.int .i64 r)))
    (hpos : 0 < n := by omega) (hmax : n ≤ 9223372036854775807 := by omega) : wpRel Try.prog ops (fun w' => Hold M row w0 w' L) (GV sp) RT S0 F k (o :: rest) a := by
  refine dr_call d (NatB n) hS hw hd hsp (fun w _ => hrun w) (fun w HC => ?_) (fun u ⟨r, hr, hu⟩ => by subst hu; exact hn r hr)
  refine (next_any T n w (HC.tp_ i hi) (by omega) (by omega)).mono ?_
  rintro e w5 ⟨r, rfl, r0, r1, t5, g5⟩
  exact ⟨_, rfl, ⟨r.toNat, by omega, by rw [Int.toNat_of_nonneg r0]⟩, Hold.callT HC i hi g5 t5⟩
end
end Go.Proofs.Ytaefjgjojflppaa

namespace Go.Proofs.Ytaefjgjojflppaa
open Go.RowKit
set_option linter.unusedVariables false
set_option linter.unusedSimpArgs false

abbrev SpW := Tmp → Option (Value → World → Prop)
def GW (sp : SpW) (d : Option Tmp) (u : Value) (w : World) : Prop := match d.bind sp with | some V => V u w | none => True
/-- from w to w' nothing but new blocks and those of M turned -/
def RM (M : Nat → Prop) (w w' : World) : Prop := w.heap.size ≤ w'.heap.size ∧ ∀ b, b < w.heap.size → ¬ M b → w'.heap[b]? = w.heap[b]?
theorem RM.refl (M : Nat → Prop) (w : World) : RM M w w := ⟨Nat.le_refl _, fun _ _ _ => rfl⟩
theorem RM.trans {M : Nat → Prop} {a b c : World} (h : RM M a b) (k : RM M b c) : RM M a c := ⟨Nat.le_trans h.1 k.1, fun x hx hn => (k.2 x (Nat.lt_of_lt_of_le hx h.1) hn).trans (h.2 x hx hn)⟩
theorem RM.below {M : Nat → Prop} {w w' : World} (h : Below w.heap.size w w') : RM M w w' := ⟨h.size, fun b hb _ => h.block b hb⟩
theorem RM.grown {M : Nat → Prop} {w w' : World} {T : Nat} (h : w.grownBy w' (some T)) (hT : M T) : RM M w w' := ⟨h.size, fun b hb hn => h.block b hb (fun e => by injection e with e; subst e; exact hn hT)⟩
theorem RM.alloc (M : Nat → Prop) (w : World) (o : Obj) : RM M w (w.alloc o) := ⟨by simp, fun b hb _ => Below.heap_alloc w o b hb⟩
theorem RM.ro {M : Nat → Prop} {w w' : World} (h : RM M w w') {S : World → Prop} (hs : Ro w M S) : Ro w' M S := hs.step h.1 h.2 (fun _ _ h => h)
/-- each class of values stays as the world goes on -/
def Stays (M : Nat → Prop) (sp : SpW) : Prop := ∀ d V, sp d = some V → ∀ u w w', RM M w w' → V u w → V u w'
/-- the classes as a list -/
def spL (l : List (Tmp × (Value → World → Prop))) : SpW := fun d => (l.find? fun p => p.1 == d).map (·.2)
theorem stays_nil (M : Nat → Prop) : Stays M (spL []) := fun d V h => nomatch h
theorem stays_cons {M : Nat → Prop} {d : Tmp} {V : Value → World → Prop} {l : List (Tmp × (Value → World → Prop))} (h : ∀ u w w', RM M w w' → V u w → V u w') (hl : Stays M (spL l)) : Stays M (spL ((d, V) :: l)) := fun t V' hV => by
  unfold spL at hV
  rw [List.find?_cons] at hV
  split at hV
  · simp only [Option.map_some, Option.some.injEq] at hV
    subst hV
    exact h
  · exact hl t V' hV
theorem GW_off {sp : SpW} {d : Option Tmp} {u : Value} {w : World} (h : d.bind sp = none) : GW sp d u w := by unfold GW; rw [h]; trivial
theorem GW_on {sp : SpW} {d : Tmp} {V : Value → World → Prop} (h : sp d = some V) {u : Value} {w : World} : GW sp (some d) u w ↔ V u w := by unfold GW; simp only [Option.bind_some, h]
def offW (ops : Array Oper) (S0 : Array Bool) (sp : SpW) : Bool := (List.range ops.size).all fun j => !S0.getD j false || (((ops[j]?).bind (·.dst)).bind sp).isNone
theorem offW_h {ops : Array Oper} {S0 : Array Bool} {sp : SpW} (h : offW ops S0 sp = true) {j : Nat} {o : Oper} (ho : ops[j]? = some o) (hs : S0.getD j false = true) {u : Value} {w : World} : GW sp o.dst u w := by
  have h1 := List.all_eq_true.1 h j (List.mem_range.2 (Array.getElem?_eq_some_iff.1 ho).1)
  simp only [hs, Bool.not_true, Bool.false_or, ho, Option.bind_some] at h1
  exact GW_off (Option.isNone_iff_eq_none.1 h1)

/-- the class: the items hold, and from the region's start w1 nothing but them and new blocks turned -/
def HC (M : Nat → Prop) (row : Option Nat) (w0 w1 : World) (L : List Hp) (w : World) : Prop := Hold M row w0 w L ∧ RM (Mut M L) w1 w
section
variable {P : Program} {M : Nat → Prop} {row : Option Nat} {w0 w1 : World} {L : List Hp} {sp : SpW} {F : Act → Prop} {S0 : Array Bool}
theorem wpAny_hold {Q : Exit → Act → World → Prop} {a : Act} {w : World} {l : List Oper} (n N : Nat) (L : List Hp) (sp : SpW) {fuel : Nat}
    (hB : relB l.toArray S0 n N = true) (hO : offW l.toArray S0 sp = true) (hf : fuel = unl n S0 + (l.length - n)) (hN : a.tmps.size = N) (hs : Stays (Mut M L) sp) (hC : Hold M row w0 w L)
    (h : wpRel P l.toArray (HC M row w0 w L) (GW sp) (RM (Mut M L)) S0 (fun a' => ∀ w', Hold M row w0 w' L → RM (Mut M L) w w' → (∀ j oj, l[j]? = some oj → j < n → GW sp oj.dst (slot a' oj.dst) w') → wpList P l.toArray Q (l.drop n) a' w') 0 (l.take n) a) : wpAny P .any l.toArray Q fuel S0 a w := by
  refine wpAny_rel S0 n N (HC M row w0 w L) (GW sp) (RM (Mut M L)) hB hf hN (fun d u w w' hr hg => ?_) (fun w _ => RM.refl _ w) (fun _ _ => trivial) ⟨hC, RM.refl _ _⟩ (fun j oj hj hs => offW_h hO (by simpa using hj) hs) (wpRel_mono (fun a' hF w' hC' hg => hF w' hC'.1 hC'.2 hg) _ _ _ h)
  unfold GW at hg ⊢
  cases hd : d.bind sp with
  | none => trivial
  | some V =>
    rw [hd] at hg
    obtain ⟨t, rfl, ht⟩ := Option.bind_eq_some_iff.1 hd
    exact hs t V ht u w w' hr hg

theorem wpAny_holdC {Q : Exit → Act → World → Prop} {a : Act} {w : World} {l : List Oper} (n N : Nat) (L : List Hp) (sp : SpW) {fuel : Nat}
    (hB : relC l.toArray S0 n N = true) (hO : offW l.toArray S0 sp = true) (hf : fuel = unl n S0 + (l.length - n)) (hN : a.tmps.size = N) (hs : Stays (Mut M L) sp) (hC : Hold M row w0 w L)
    (h : wpRel P l.toArray (HC M row w0 w L) (GW sp) (RM (Mut M L)) S0 (fun a' => ∀ w', Hold M row w0 w' L → RM (Mut M L) w w' → (∀ j oj, l[j]? = some oj → j < n → GW sp oj.dst (slot a' oj.dst) w') → wpAny P .any l.toArray Q (l.length - n) (headList n l.length) a' w') 0 (l.take n) a) : wpAny P .any l.toArray Q fuel S0 a w := by
  refine wpAny_relC S0 n N (HC M row w0 w L) (GW sp) (RM (Mut M L)) hB hf hN (fun d u w w' hr hg => ?_) (fun w _ => RM.refl _ w) (fun _ _ => trivial) ⟨hC, RM.refl _ _⟩ (fun j oj hj hs => offW_h hO (by simpa using hj) hs) (wpRel_mono (fun a' hF w' hC' hg => hF w' hC'.1 hC'.2 hg) _ _ _ h)
  unfold GW at hg ⊢
  cases hd : d.bind sp with
  | none => trivial
  | some V =>
    rw [hd] at hg
    obtain ⟨t, rfl, ht⟩ := Option.bind_eq_some_iff.1 hd
    exact hs t V ht u w w' hr hg

variable {ops : Array Oper} {o : Oper} {rest : List Oper} {a : Act} {k : Nat}
theorem dw_val (hS : S0.getD k false = false) (hw : Region.wanted o (yielded ops a.tmps) = true) (hoff : o.dst.bind sp = none) (h : ∃ u, (∀ w, Hold M row w0 w L → (execOp a.eval o).run P w = .ok (.value u) w) ∧ wpRel P ops (HC M row w0 w1 L) (GW sp) (RM (Mut M L)) S0 F (k + 1) rest (a.put o.dst u)) : wpRel P ops (HC M row w0 w1 L) (GW sp) (RM (Mut M L)) S0 F k (o :: rest) a :=
  let ⟨u, h1, h2⟩ := h
  rel_val (fun w _ => RM.refl _ w) hS hw u (fun w hC _ => h1 w hC.1) (fun _ _ _ => GW_off hoff) h2
theorem dw_skip (hS : S0.getD k false = false) (hw : Region.wanted o (yielded ops a.tmps) = false) (hoff : o.dst.bind sp = none) (hn : wpRel P ops (HC M row w0 w1 L) (GW sp) (RM (Mut M L)) S0 F (k + 1) rest (a.put o.dst undef)) : wpRel P ops (HC M row w0 w1 L) (GW sp) (RM (Mut M L)) S0 F k (o :: rest) a :=
  rel_skip hS hw (fun _ _ => GW_off hoff) hn
/-- a call of any kind -/
theorem dw_call {f : FuncId} {args : Array Value} (d : Tmp) (V : Value → World → Prop) (hS : S0.getD k false = false) (hw : Region.wanted o (yielded ops a.tmps) = true) (hd : o.dst = some d) (hsp : sp d = some V) (hrun : ∀ w, (execOp a.eval o).run P w = .ok (.enter f args) w)
    (hc : ∀ w, Hold M row w0 w L → Deps ops (GW sp) o a w → Calls P f args w fun e w' => ∃ u, e = .returned u ∧ V u w' ∧ Hold M row w0 w' L ∧ RM (Mut M L) w w') (hn : ∀ u w, Hold M row w0 w L → V u w → wpRel P ops (HC M row w0 w1 L) (GW sp) (RM (Mut M L)) S0 F (k + 1) rest (a.put (some d) u)) : wpRel P ops (HC M row w0 w1 L) (GW sp) (RM (Mut M L)) S0 F k (o :: rest) a :=
  rel_call hS hw f args d hd (fun w _ _ => hrun w) (fun w hC hD => (hc w hC.1 hD).mono fun e' w' ⟨u, h1, h2, h3, h4⟩ => ⟨u, h1, (GW_on hsp).2 h2, ⟨h3, hC.2.trans h4⟩, h4⟩) fun u w hC hu => hn u w hC.1 ((GW_on hsp).1 hu)
/-- a new block: its cells -/
theorem dw_new (cs : Array Value) (t : TypeId) (d : Tmp) (V : Value → World → Prop) (mk : Nat → Value) (hS : S0.getD k false = false) (hw : Region.wanted o (yielded ops a.tmps) = true) (hd : o.dst = some d) (hsp : sp d = some V) (hrun : ∀ w, (execOp a.eval o).run P w = .ok (.value (mk w.heap.size)) (w.alloc (.cells cs t)))
    (hc : ∀ w, Hold M row w0 w L → RM (Mut M L) w1 w → Deps ops (GW sp) o a w → (∀ M', (∀ b, M' b → b < w.heap.size) → Ro (w.alloc (.cells cs t)) M' (fun w' => w'.heap[w.heap.size]? = some (.cells cs t (0, 0)))) → V (mk w.heap.size) (w.alloc (.cells cs t))) (hn : ∀ g w, Hold M row w0 w L → V (mk g) w → wpRel P ops (HC M row w0 w1 L) (GW sp) (RM (Mut M L)) S0 F (k + 1) rest (a.put (some d) (mk g))) : wpRel P ops (HC M row w0 w1 L) (GW sp) (RM (Mut M L)) S0 F k (o :: rest) a :=
  rel_new hS hw (.cells cs t) d hd mk (fun w _ _ => hrun w) (fun w hC hD => ⟨(GW_on hsp).2 (hc w hC.1 hC.2 hD fun M' hM' w2 h1 h2 => (h2 w.heap.size (by simp) (fun hm => Nat.lt_irrefl _ (hM' _ hm))).trans (heap_alloc_new w _)), ⟨(hC.1.alloc_cst cs t).drop (List.sublist_cons_self _ _), hC.2.trans (RM.alloc _ w _)⟩, RM.alloc _ w _⟩) fun g w hC hg => hn g w hC.1 ((GW_on hsp).1 hg)
theorem deps_at {w : World} (h : Deps ops (GW sp) o a w) (j : Nat) {oj : Oper} (hj : ops[j]? = some oj) (he : (o.after.any fun e => Region.binds .any e && e.on == j) = true) {d : Tmp} (hd : oj.dst = some d) {V : Value → World → Prop} (hsp : sp d = some V) : V (slot a (some d)) w := by
  obtain ⟨e, hm, hb⟩ := Array.any_eq_true'.1 he
  simp only [Bool.and_eq_true, beq_iff_eq] at hb
  have := h e hm hb.1 oj (by rw [hb.2]; exact hj)
  rw [hd] at this
  exact (GW_on hsp).1 this
end
section
variable {M : Nat → Prop} {row : Option Nat} {w0 w1 : World} {L : List Hp} {sp : SpW} {F : Act → Prop} {S0 : Array Bool} {ops : Array Oper} {o : Oper} {rest : List Oper} {a : Act} {k : Nat} {T : Nat}
theorem dw_next (n : Nat) (i : Nat) (hi : L[i]? = some (.tp T)) (d : Tmp) (hS : S0.getD k false = false) (hw : Region.wanted o (yielded ops a.tmps) = true) (hd : o.dst = some d) (hsp : sp d = some (fun u _ => NatB n u))
    (hrun : ∀ w, (execOp a.eval o).run Try.prog w = .ok (.enter 28 #[.pointer (some ⟨T, 0, none⟩), .int .i64 n]) w) (hn : ∀ r : Nat, r < n → wpRel Try.prog ops (HC M row w0 w1 L) (GW sp) (RM (Mut M L)) S0 F (k + 1) rest (a.put (some d) (.int .i64 r)))
    (hpos : 0 < n := by omega) (hmax : n ≤ 9223372036854775807 := by omega) : wpRel Try.prog ops (HC M row w0 w1 L) (GW sp) (RM (Mut M L)) S0 F k (o :: rest) a := by
  refine dw_call d (fun u _ => NatB n u) hS hw hd hsp hrun (fun w HC _ => ?_) (fun u _ _ ⟨r, hr, hu⟩ => by subst hu; exact hn r hr)
  refine (next_any T n w (HC.tp_ i hi) (by omega) (by omega)).mono ?_
  rintro e w5 ⟨r, rfl, r0, r1, t5, g5⟩
  exact ⟨_, rfl, ⟨r.toNat, by omega, by rw [Int.toNat_of_nonneg r0]⟩, Hold.callT HC i hi g5 t5, RM.grown g5 (.inr ⟨_, List.mem_of_getElem? hi, rfl⟩)⟩
end
/-- A block that came since w1, taken for an own row. -/
theorem Hold.addFresh {M : Nat → Prop} {row : Option Nat} {w0 w1 w : World} {L : List Hp} (K1 : Hold M row w0 w1 L) (K : Hold M row w0 w L) (hr : RM (Mut M L) w1 w) {g n : Nat} {t : TypeId} {cs : Array Value} (size : Nat) (hg : w1.heap.size ≤ g) (hb : w.heap[g]? = some (.cells cs t (0, 0))) (hm : n ≤ maxLen) (hs : cs.size = n * size) :
    Hold M row w0 w (.own t size (.slice (some ⟨g, 0, none⟩) n n) n cs.toList :: L) := by
  have hgl : g < w.heap.size := Blk.lt (t := t) (cs := cs) hb
  have hno : ∀ k ∈ L, k.foot ≠ some g := fun k hk hf => by have := (K1.fresh k hk g hf).2; omega
  have ee : ∀ b, b < w1.heap.size → Mut M (.own t size (.slice (some ⟨g, 0, none⟩) n n) n cs.toList :: L) b → Mut M L b := fun b hl hb => by
    rcases mut_cons.1 hb with hf | hm
    · have : some g = some b := hf
      injection this with this
      omega
    · exact hm
  refine ⟨K.grow, K.low, fun k hk => ?_, fun k hk b hf => ?_, ⟨fun b hf k hk he => ?_, K.sep⟩⟩
  · rcases List.mem_cons.1 hk with rfl | hk
    · exact ⟨by simpa using hs, .inr ⟨g, n, cs, rfl, Nat.le_trans K1.grow.size hg, hb, Nat.le_refl _, hm, hs, by rw [List.take_of_length_le (by simp [hs])]⟩⟩
    · have h1 := K1.sat k hk
      have h2 := K.sat k hk
      cases k with
      | blk g' t' cs' => exact h2
      | own e s v n' xs => exact h2
      | tp T =>
        refine ⟨h2.1, fun b hb' => ?_⟩
        have hT : T < w1.heap.size := (K1.fresh _ hk T rfl).2
        rcases mut_cons.1 hb' with hf | hm'
        · have : some g = some b := hf
          injection this with this
          omega
        · exact h2.2 b hm'
      | ro S => exact Ro.step h1 hr.1 hr.2 ee
      | cst g' t' cs' => exact Ro.step h1 hr.1 hr.2 ee
  · rcases List.mem_cons.1 hk with rfl | hk
    · have : some g = some b := hf
      injection this with this
      subst this
      exact ⟨.inl (Nat.le_trans K1.grow.size hg), hgl⟩
    · exact K.fresh k hk b hf
  · have : some g = some b := hf
    injection this with this
    subst this
    exact hno k hk he
end Go.Proofs.Ytaefjgjojflppaa

namespace Go.Proofs.Ytaefjgjojflppaa
open Go.RowKit
set_option linter.unusedVariables false
set_option linter.unusedSimpArgs false

/-- all sequences that begin with the present one -/
def extS (f : Nat → Nat → Bool) (n : Nat) : Nat → List Bool → List Int → List (List Int)
  | 0, _, _ => []
  | fuel + 1, us, nw => if nw.length = n then [nw] else (List.range n).flatMap fun i => if freeU f us n i then extS f n fuel (us.set i true) (nw ++ [(i : Int)]) else []
def extB (f : Nat → Nat → Bool) (n fuel : Nat) (us : List Bool) (nw : List Int) (i : Nat) : List (List Int) := if freeU f us n i then extS f n fuel (us.set i true) (nw ++ [(i : Int)]) else []
def extP (f : Nat → Nat → Bool) (n fuel : Nat) (us : List Bool) (nw : List Int) (k : Nat) : List (List Int) := (List.range k).flatMap (extB f n fuel us nw)
theorem extP_succ (f : Nat → Nat → Bool) (n fuel : Nat) (us : List Bool) (nw : List Int) (k : Nat) : extP f n fuel us nw (k + 1) = extP f n fuel us nw k ++ extB f n fuel us nw k := by
  simp [extP, List.range_succ]
theorem extS_full {f : Nat → Nat → Bool} {n fuel : Nat} {us : List Bool} {nw : List Int} (h : nw.length = n) : extS f n (fuel + 1) us nw = [nw] := by simp [extS, h]
theorem extS_part {f : Nat → Nat → Bool} {n fuel : Nat} {us : List Bool} {nw : List Int} (h : nw.length ≠ n) : extS f n (fuel + 1) us nw = extP f n fuel us nw n := by
  unfold extS; rw [if_neg h]; rfl
theorem extP_split (f : Nat → Nat → Bool) (n fuel : Nat) (us : List Bool) (nw : List Int) : ∀ k d, ∃ r, extP f n fuel us nw (k + d) = extP f n fuel us nw k ++ r
  | k, 0 => ⟨[], by simp⟩
  | k, d + 1 => by
    obtain ⟨r, hr⟩ := extP_split f n fuel us nw k d
    exact ⟨r ++ extB f n fuel us nw (k + d), by rw [← Nat.add_assoc, extP_succ, hr, List.append_assoc]⟩
/-- what has been found: as many as are wanted -/
def outP (mo : Nat) (outs l : List (List Int)) : List (List Int) := outs ++ l.take (mo - outs.length)
theorem outP_nil (mo : Nat) (outs : List (List Int)) : outP mo outs [] = outs := by simp [outP]
theorem outP_one {mo : Nat} {outs : List (List Int)} (h : outs.length < mo) (x : List Int) : outP mo outs [x] = outs ++ [x] := by
  unfold outP; rw [List.take_of_length_le (by simp; omega)]
theorem outP_app {mo : Nat} {outs l r : List (List Int)} (h : (outP mo outs l).length < mo) : outP mo (outP mo outs l) r = outP mo outs (l ++ r) := by
  unfold outP at *
  simp only [List.length_append, List.length_take] at h
  have hl : l.length < mo - outs.length := by omega
  rw [List.take_of_length_le (l := l) (by omega), List.take_append, List.take_of_length_le (l := l) (by omega), List.append_assoc, List.length_append]
  congr 3
  omega
theorem outP_stop {mo : Nat} {outs l r : List (List Int)} (h : ¬ (outP mo outs l).length < mo) (h0 : outs.length < mo) : outP mo outs (l ++ r) = outP mo outs l := by
  unfold outP at *
  simp only [List.length_append, List.length_take] at h
  rw [List.take_append_of_le_length (by omega)]
theorem Try.elInt : ElemT Try.prog 33 3 1 8 (.int .i64 0) := ⟨Try.underlying33, by kernel_rfl, rfl, by omega⟩
theorem Try.elInts : ElemT Try.prog 31 33 1 24 (.slice none 0 0) := ⟨Try.underlying31, by kernel_rfl, rfl, by omega⟩

/-- a list handed back by Clone, in its slot -/
def ListSlot (M : Nat → Prop) (xs : List Int) (u : Value) (w : World) : Prop := ∃ (A : Option Addr) (n c : Nat), u = .slice A n c ∧ n ≤ c ∧ c ≤ 9223372036854775807 ∧ Ro w M (IsIn A n xs)
def BoxSlot (M : Nat → Prop) (xs : List Int) (u : Value) (w : World) : Prop := ∃ (g : Nat) (A : Option Addr) (n c : Nat), u = .slice (some ⟨g, 0, none⟩) 1 1 ∧ n ≤ c ∧ c ≤ 9223372036854775807 ∧ Ro w M (IsIn A n xs) ∧ Ro w M (SlR 1 (some ⟨g, 0, none⟩) 1 [.slice A n c])
theorem listSlot_mono {M : Nat → Prop} {xs : List Int} (u : Value) (w w' : World) (hr : RM M w w') (h : ListSlot M xs u w) : ListSlot M xs u w' := by
  obtain ⟨A, n, c, h1, h2, h3, h4⟩ := h
  exact ⟨A, n, c, h1, h2, h3, hr.ro h4⟩
theorem boxSlot_mono {M : Nat → Prop} {xs : List Int} (u : Value) (w w' : World) (hr : RM M w w') (h : BoxSlot M xs u w) : BoxSlot M xs u w' := by
  obtain ⟨g, A, n, c, h1, h2, h3, h4, h5⟩ := h
  exact ⟨g, A, n, c, h1, h2, h3, hr.ro h4, hr.ro h5⟩

theorem outs_snoc {w : World} {ovs : List Value} {outs : List (List Int)} {A : Option Addr} {n c : Nat} {xs : List Int} (h : OutsIn ovs outs w) (k : IsIn A n xs w) (hn : n ≤ c) (hc : c ≤ 9223372036854775807) : OutsIn (ovs ++ [.slice A n c]) (outs ++ [xs]) w := by
  refine ⟨by simp [h.1], fun i v ys hv hy => ?_⟩
  have hl := h.1
  rcases Nat.lt_or_ge i ovs.length with hlt | hge
  · rw [List.getElem?_append_left hlt] at hv
    rw [List.getElem?_append_left (by omega)] at hy
    exact h.2 i v ys hv hy
  · rw [List.getElem?_append_right hge] at hv
    rw [List.getElem?_append_right (by omega)] at hy
    have hi : i - ovs.length = 0 := by
      have := (List.getElem?_eq_some_iff.1 hv).1
      simpa using this
    rw [hi] at hv
    rw [← hl, hi] at hy
    simp at hv hy
    subst hv hy
    exact ⟨A, n, c, rfl, hn, hc, k⟩
/-- What extend leaves. -/
def ExtRet (M : Nat → Prop) (w0 : World) (g u n mo : Nat) (Bv : Option Addr) (bc : Nat) (f : Nat → Nat → Bool) (us : List Bool) (nw : List Int) (outs : List (List Int)) (e : Ending) (w' : World) : Prop :=
  ∃ (Nw : Option Addr) (q nc : Nat) (O : Option Addr) (m oc : Nat) (ovs : List Value), e = .returned (.tuple #[]) ∧ Hold M none w0 w' (SL g u n mo Bv bc f us Nw q nc nw O m oc ovs outs)

set_option maxHeartbeats 8000000 in
set_option maxRecDepth 100000 in
theorem extend_any (M : Nat → Prop) (w0 : World) (g u n mo : Nat) (Bv : Option Addr) (bc : Nat) (f : Nat → Nat → Bool) (hn : n ≤ 1000) (hmo : mo ≤ 1000000) : ∀ (fuel : Nat) (w : World) (us : List Bool) (Nw : Option Addr) (q nc : Nat) (nw : List Int) (O : Option Addr) (m oc : Nat) (ovs : List Value) (outs : List (List Int))
    (K : Hold M none w0 w (SL g u n mo Bv bc f us Nw q nc nw O m oc ovs outs)) (hf : nw.length + fuel = n) (ho : outs.length < mo),
    Calls Try.prog 37 #[.pointer (some ⟨g, 0, none⟩)] w fun e w' => ExtRet M w0 g u n mo Bv bc f us nw (outP mo outs (extS f n (fuel + 1) us nw)) e w' := by
  intro fuel
  induction fuel with
  | zero =>
    intro w us Nw q nc nw O m oc ovs outs K hf ho
    have hq : q = n := by have := (K.get 2 rfl).1; simp [iCells] at this; omega
    have hm : m = outs.length := by have h1 := (K.get 3 rfl).1; have h2 := (K.ro 5 rfl).now.1; omega
    have hmm : m < mo := by omega
    have HMM := hid hm; clear hm
    have HN := hid (show nw.length = n by omega)
    subst hq
    have F := K.facts
    simp only [SL, factsL, cellsF, Nat.reduceAdd, List.toList_toArray, and_true, true_and] at F
    have hbeq : ((q : Int) == (q : Int)) = true := by simp
    have hcq := own_caps (K.get 2 rfl)
    have HX0 := hid (extS_full (f := f) (fuel := 0) (us := us) HN.out)
    go_enter Try.func37, Try.ntmps37
    go_wp2_with fail
    go_quiet (fail)
    have K' := K.drewN nq
    clear K
    generalize w.drewN nq = w1 at *
    go_wp2_with fail
    refine wp_region_any (by kernel_rfl) ?_
    refine wpAny_take (i := 0) (v := .pointer (some ⟨g, 0, none⟩)) rfl (by kernel_rfl) (by kernel_rfl) (by kernel_rfl) (fun _ _ _ h => h) (Or.inl ⟨by rfl, fun w => ?_⟩) ?_
    · go_simp
    refine wpAny_hold 11 89 (SL g u q mo Bv bc f us Nw q nc nw O m oc ovs outs) (spL [(23, ListSlot (Mut M (SL g u q mo Bv bc f us Nw q nc nw O m oc ovs outs)) nw), (24, BoxSlot (Mut M (SL g u q mo Bv bc f us Nw q nc nw O m oc ovs outs)) nw)]) (by kernel_rfl) (by kernel_rfl) (by kernel_rfl) rfl ?_ (K'.drew) ?_
    · exact stays_cons listSlot_mono (stays_cons boxSlot_mono (stays_nil _))
    simp only [List.take_succ_cons, List.take_zero, List.drop_succ_cons, List.drop_zero, Act.put, List.getElem_toArray, List.getElem_cons_zero, List.getElem_cons_succ, List.setIfInBounds_toArray, List.set_cons_succ, List.set_cons_zero]
    refine rel_done rfl ?_
    refine dw_val rfl rfl rfl ?_; apply Exists.intro; refine ⟨fun wv HC => ?_, ?_⟩
    ·  go_simp <;> rfl
    simp only [Act.put, List.setIfInBounds_toArray, List.set_cons_succ, List.set_cons_zero]
    refine dw_val rfl rfl rfl ?_; apply Exists.intro; refine ⟨fun wv HC => ?_, ?_⟩
    ·  go_simp <;> rfl
    simp only [Act.put, List.setIfInBounds_toArray, List.set_cons_succ, List.set_cons_zero]
    refine dw_val rfl rfl rfl ?_; apply Exists.intro; refine ⟨fun wv HC => ?_, ?_⟩
    ·  go_simp <;> rfl
    simp only [Act.put, List.setIfInBounds_toArray, List.set_cons_succ, List.set_cons_zero]
    refine dw_val rfl rfl rfl ?_; apply Exists.intro; refine ⟨fun wv HC => ?_, ?_⟩
    · have FC := HC.facts; simp only [SL, factsL, cellsF, Nat.reduceAdd, List.toList_toArray, and_true, true_and] at FC; go_simp <;> rfl
    simp only [Act.put, List.setIfInBounds_toArray, List.set_cons_succ, List.set_cons_zero]
    refine dw_val rfl rfl rfl ?_; apply Exists.intro; refine ⟨fun wv HC => ?_, ?_⟩
    ·  go_simp <;> rfl
    simp only [Act.put, List.setIfInBounds_toArray, List.set_cons_succ, List.set_cons_zero]
    refine dw_val rfl rfl rfl ?_; apply Exists.intro; refine ⟨fun wv HC => ?_, ?_⟩
    ·  go_simp <;> rfl
    simp only [Act.put, List.setIfInBounds_toArray, List.set_cons_succ, List.set_cons_zero]
    refine dw_val rfl rfl rfl ?_; apply Exists.intro; refine ⟨fun wv HC => ?_, ?_⟩
    ·  go_simp <;> rfl
    simp only [Act.put, List.setIfInBounds_toArray, List.set_cons_succ, List.set_cons_zero]
    refine dw_val rfl rfl rfl ?_; apply Exists.intro; refine ⟨fun wv HC => ?_, ?_⟩
    · have FC := HC.facts; simp only [SL, factsL, cellsF, Nat.reduceAdd, List.toList_toArray, and_true, true_and] at FC; go_simp <;> rfl
    simp only [Act.put, List.setIfInBounds_toArray, List.set_cons_succ, List.set_cons_zero]
    refine dw_call 23 (ListSlot (Mut M (SL g u q mo Bv bc f us Nw q nc nw O m oc ovs outs)) nw) (f := 20) (args := #[.slice Nw q nc]) rfl rfl rfl rfl (fun wv => ?_) (fun wv HC hD => ?_) ?_
    · go_simp <;> rfl
    · have hIn : IsIn Nw q nw wv := Rd.of_own (HC.get 2 rfl)
      refine (cloneInts_any wv Nw q nc nw hIn (by omega)).mono ?_
      rintro e w5 ⟨A5, n5, c5, rfl, h51, h52, b5⟩
      obtain ⟨h53, h54, h55, h56, h57⟩ := OwnInts.chosen HC.mutLt h51 h52 b5
      exact ⟨_, rfl, ⟨A5, n5, c5, rfl, h54, h55, h56⟩, HC.call b5, RM.below b5⟩
    rintro x wx HCx ⟨A5, n5, c5, rfl, h54, h55, h56⟩
    simp only [Act.put, List.setIfInBounds_toArray, List.set_cons_succ, List.set_cons_zero]
    clear HCx h56
    refine dw_new #[.slice A5 n5 c5] 33 24 (BoxSlot (Mut M (SL g u q mo Bv bc f us Nw q nc nw O m oc ovs outs)) nw) (fun g => .slice (some ⟨g, 0, none⟩) 1 1) rfl rfl rfl rfl (fun wv => ?_) (fun wv HC _hrm hD hro => ?_) ?_
    · go_simp <;> rfl
    · have hsl : ListSlot _ nw (.slice A5 n5 c5) wv := deps_at hD 9 rfl (by kernel_rfl) rfl rfl
      obtain ⟨A6, n6, c6, e6, h1, h2, h3⟩ := hsl
      obtain ⟨rfl, rfl, rfl⟩ := Value.slice.inj e6
      exact ⟨_, A5, n5, c5, rfl, h1, h2, h3.step (by simp) (fun b hb _ => Below.heap_alloc wv _ b hb) (fun _ _ h => h), ro_block (hro _ HC.mutLt) rfl⟩
    rintro g2 wg HCg hsl
    simp only [Act.put, List.setIfInBounds_toArray, List.set_cons_succ, List.set_cons_zero]
    clear hsl HCg
    refine rel_nil ?_
    rintro wx2 HX
    rintro _hrm HG
    have hb2 : BoxSlot (Mut M (SL g u q mo Bv bc f us Nw q nc nw O m oc ovs outs)) nw (.slice (some ⟨g2, 0, none⟩) 1 1) wx2 := (GW_on (d := 24) rfl).1 (HG 10 _ rfl (by omega))
    clear HG
    obtain ⟨g3, A6, n6, c6, e6, k1, k2, k3, k4⟩ := hb2
    obtain rfl : g2 = g3 := by injection e6 with e6; injection e6 with e6; injection e6
    clear e6
    have K1 := HX.add k3
    have k5 := hid k4.now
    clear k4
    go_wp2_with (at_builtin; go_must (refine wpList_appAllH K1 4 rfl Try.elInts k5.out rfl (.tmp 18) (.tmp 24) rfl rfl rfl (by intro y hy; simp at hy; subst hy; rfl) (by omega) (by omega) ?_); intro C' cap' w6 hc6 hm6 K2; (have F2 := K2.facts); simp only [World.size_alloc, World.size_drew, factsL, cellsF, Nat.reduceAdd, List.toList_toArray, List.set_cons_zero, List.set_cons_succ, and_true, true_and] at F2)
    have K3 := K2.store 1 rfl 4 (.slice C' (m + 1) cap')
    refine bodyPost_ret (results_none rfl _ _ _) rfl ?_
    have K4 := (K3.swapRo 6 rfl (((K3.ro 6 rfl).and (K3.ro 0 rfl)).imp fun w ⟨a1, a2⟩ => outs_snoc a1 a2 k1 k2)).drop (List.sublist_cons_self _ _)
    refine ⟨Nw, q, nc, C', m + 1, cap', ovs ++ [.slice A6 n6 c6], rfl, ?_⟩
    rw [HX0.out, outP_one ho]
    exact K4
  | succ fuel ih =>
    have IH := hid ih; clear ih
    intro w us Nw q nc nw O m oc ovs outs K hf ho
    have hq : q < n := by have := (K.get 2 rfl).1; simp [iCells] at this; omega
    have hm : m = outs.length := by have h1 := (K.get 3 rfl).1; have h2 := (K.ro 5 rfl).now.1; omega
    have hmm : m < mo := by omega
    have HMM := hid hm; clear hm
    have HN := hid (show nw.length = q by have := (K.get 2 rfl).1; simp [iCells] at this; omega)
    have HLU := hid (show us.length = n by have := (K.get 1 rfl).1; simpa [bCells] using this)
    have HX0 := hid (extS_part (f := f) (n := n) (fuel := fuel + 1) (us := us) (nw := nw) (by rw [HN.out]; omega))
    have HF := hid hf; clear hf
    have F := K.facts
    simp only [SL, factsL, cellsF, Nat.reduceAdd, List.toList_toArray, and_true, true_and] at F
    have hbeq : ((q : Int) == (n : Int)) = false := by simp; omega
    have hcq := own_caps (K.get 2 rfl)
    go_enter Try.func37, Try.ntmps37
    go_wp2_with fail
    go_quiet (fail)
    have K' := K.drewN nq
    clear K
    generalize w.drewN nq = w1 at *
    clear F
    have F := K'.facts
    simp only [SL, factsL, cellsF, Nat.reduceAdd, List.toList_toArray, and_true, true_and] at F
    go_wp2_with fail
    go_loopw [33] (fun i wr => ∃ (k : Nat) (Nw : Option Addr) (nc : Nat) (O : Option Addr) (m oc : Nat) (ovs : List Value), k ≤ n ∧ i = .int .i64 k ∧ Hold M none w0 wr (SL g u n mo Bv bc f us Nw q nc nw O m oc ovs (outP mo outs (extP f n (fuel + 1) us nw k)))) (fun i _ => n - (intOf i).toNat)
    case atStart => exact ⟨0, Nw, nc, O, m, oc, ovs, by omega, rfl, by rw [show extP f n (fuel + 1) us nw 0 = [] from rfl, outP_nil]; exact K'⟩
    case round =>
      clear F K' hcq hmm HMM
      obtain ⟨k, Nw, nc, O, m, oc, ovs, hk, rfl, H⟩ := hrel
      have hm : m = (outP mo outs (extP f n (fuel + 1) us nw k)).length := by have h1 := (H.get 3 rfl).1; have h2 := (H.ro 5 rfl).now.1; omega
      have HMM := hid hm; clear hm
      have F := H.facts
      simp only [SL, factsL, cellsF, Nat.reduceAdd, List.toList_toArray, and_true, true_and] at F
      have hcq := own_caps (H.get 2 rfl)
      by_cases hlt : k < n
      · have hd : decide ((k : Int) < (n : Int)) = true := by simp; omega
        have i0 : (0 : Int) ≤ (k : Int) := by omega
        have i1 : (k : Int) < (n : Int) := by omega
        obtain ⟨d, hd⟩ : ∃ d, n = k + d := ⟨n - k, by omega⟩
        have HSP := hid (extP_split f n (fuel + 1) us nw k d)
        rw [← hd] at HSP
        clear hd
        by_cases hmo2 : m < mo
        · have hg : decide ((mo : Int) ≤ (m : Int)) = false := by simp; omega
          cases hfr : freeU f us n k
          · have HFR := hid hfr; clear hfr
            go_wp2_with fail
            go_quiet (fail)
            have H' := H.drewN nq
            clear H F
            generalize wr.drewN nq = w2 at *
            go_wp2_with fail
            refine (sfree_any M w0 w2 g u n mo Bv bc f us Nw q nc nw O m oc ovs _ H' k hlt (by omega)).mono ?_
            rintro e w3 ⟨rfl, rfl⟩
            rw [HFR.out]
            go_wp2_with fail
            go_roundw
            case rel => exact ⟨k + 1, Nw, nc, O, m, oc, ovs, by omega, by go_num, by rw [extP_succ]; unfold extB; rw [HFR.out]; simpa using H'⟩
            case measure => simp [intOf]; omega
          · have HFR := hid hfr; clear hfr
            go_wp2_with fail
            go_quiet (fail)
            have H' := H.drewN nq
            clear H F
            generalize wr.drewN nq = w2 at *
            have F := H'.facts
            simp only [SL, factsL, cellsF, Nat.reduceAdd, List.toList_toArray, and_true, true_and] at F
            go_wp2_with fail
            refine (sfree_any M w0 w2 g u n mo Bv bc f us Nw q nc nw O m oc ovs _ H' k hlt (by omega)).mono ?_
            rintro e w3 ⟨rfl, rfl⟩
            rw [HFR.out]
            have hgu : ¬ g = u := H'.apart_ 0 1 rfl rfl (by omega) rfl rfl
            have hug : ¬ u = g := fun e => hgu e.symm
            have hcell : ∃ x, w2.cell? ⟨u, k, none⟩ = some x := by
              have := (H'.get 1 rfl).cellAt k (by omega)
              exact ⟨_, this.trans (List.getElem?_eq_getElem (by rw [bCells_len, HLU.out]; omega))⟩
            obtain ⟨x, hcx⟩ := hcell
            have hfx := (H'.get 1 rfl).frozenAt k
            have H1 := H'.put_ 1 rfl k (.bool true)
            rw [bCells_set] at H1
            go_wp2_with (at_builtin; go_must (refine wpList_appH H1 2 rfl Try.elInt #[.int .i64 k] rfl (.tmp 60) (.tmp 62) rfl rfl w2.heap.size (by simp) rfl rfl (by intro y hy; simp at hy; subst hy; rfl) (by omega) (by omega) ?_); intro nb cap3 w3 hc3 hm3 H2; (have F2 := H2.facts); simp only [World.size_alloc, World.size_drew, factsL, cellsF, Nat.reduceAdd, List.toList_toArray, List.set_cons_zero, List.set_cons_succ, and_true, true_and] at F2)
            have e1 : iCells nw ++ (#[Value.int .i64 (k : Int)]).toList = iCells (nw ++ [(k : Int)]) := by simp [iCells]
            rw [e1] at H2
            clear e1
            have H3 := H2.store 0 rfl 3 (.slice (some ⟨nb, 0, none⟩) (q + 1) cap3)
            simp only [SL, List.set_cons_zero, List.set_cons_succ] at H3
            go_wp2_with fail
            refine (IH.out _ (us.set k true) (some ⟨nb, 0, none⟩) (q + 1) cap3 (nw ++ [(k : Int)]) O m oc ovs _ H3 (by have := HF.out; simp; omega) (by rw [← HMM.out]; exact hmo2)).mono ?_
            rintro e w4 ⟨Nw4, q4, nc4, O4, m4, oc4, ovs4, rfl, H4⟩
            clear H1 H2 H3 F2 hcx hfx F
            have hq4 : q4 = q + 1 := by have := (H4.get 2 rfl).1; simp [iCells] at this; have := HN.out; omega
            subst hq4
            have hc4 := own_caps (H4.get 2 rfl)
            obtain ⟨nb4, rfl⟩ : ∃ nb4, Nw4 = some ⟨nb4, 0, none⟩ := by
              rcases own_addr (H4.get 2 rfl) with ⟨_, h, _⟩ | ⟨x, h, _⟩
              · omega
              · exact ⟨x, h⟩
            have F4 := H4.facts
            simp only [SL, factsL, cellsF, Nat.reduceAdd, List.toList_toArray, and_true, true_and] at F4
            have s1 : IntKind.i64.wrap (q : Int) = (q : Int) := IntWalk.i64_in _ (by omega)
            have s2 : (0 : Int) ≤ (q : Int) := by omega
            have s3 : (q : Int) ≤ (nc4 : Int) := by omega
            obtain ⟨x, hcx⟩ : ∃ x, w4.cell? ⟨u, k, none⟩ = some x := by
              have := (H4.get 1 rfl).cellAt k (by omega)
              exact ⟨_, this.trans (List.getElem?_eq_getElem (by rw [bCells_len, List.length_set, HLU.out]; omega))⟩
            have hfx := (H4.get 1 rfl).frozenAt k
            have H5 := (H4.drew.cutRow 2 (n := q) rfl (by omega)).store 0 rfl 3 (.slice (some ⟨nb4, 0, none⟩) q nc4)
            have H6 := H5.put_ 1 rfl k (.bool false)
            rw [bCells_set] at H6
            go_wp2_with fail
            go_still_tail 12, (by kernel_rfl)
            change wpList _ _ _ _ _ (World.drew _)
            go_wp2_with fail
            go_roundw
            case rel =>
              refine ⟨k + 1, some ⟨nb4, 0, none⟩, nc4, O4, m4, oc4, ovs4, by omega, by go_num, ?_⟩
              have huk : us.getD k false = false := by
                have := HFR.out
                unfold freeU at this
                simp only [Bool.and_eq_true, Bool.not_eq_true'] at this
                exact this.1
              have e2 : (us.set k true).set k false = us := by
                rw [List.set_set]
                apply List.ext_getElem?
                intro j
                rw [List.getElem?_set]
                split
                · rename_i hkj; subst hkj
                  have hl : k < us.length := by rw [HLU.out]; exact hlt
                  rw [if_pos hl, List.getElem?_eq_getElem hl]
                  simp only [List.getD, List.getElem?_eq_getElem hl, Option.getD_some] at huk
                  rw [huk]
                · rfl
              have e3 : (iCells (nw ++ [(k : Int)])).take (q * 1) = iCells nw := by
                have hl : (iCells nw).length = q := by rw [iCells_len, HN.out]
                rw [Nat.mul_one, show iCells (nw ++ [(k : Int)]) = iCells nw ++ [Value.int .i64 k] by simp [iCells], List.take_append_of_le_length (by omega), List.take_of_length_le (by omega)]
              have e4 : outP mo (outP mo outs (extP f n (fuel + 1) us nw k)) (extS f n (fuel + 1) (us.set k true) (nw ++ [(k : Int)])) = outP mo outs (extP f n (fuel + 1) us nw (k + 1)) := by
                rw [outP_app (by rw [← HMM.out]; exact hmo2), extP_succ]
                unfold extB
                rw [HFR.out]
                rfl
              rw [← e4]
              rw [e2] at H6
              simp only [List.set_cons_zero, List.set_cons_succ] at H6
              rw [e3] at H6
              exact H6
            case measure => simp [intOf]; omega
        · have hg : decide ((mo : Int) ≤ (m : Int)) = true := by simp; omega
          go_wp2_with fail
          go_quiet (fail)
          have H' := H.drewN nq
          clear H F
          generalize wr.drewN nq = w2 at *
          go_wp2_with fail
          refine bodyPost_ret (results_none rfl _ _ _) rfl ?_
          obtain ⟨r, hr⟩ := HSP.out
          refine ⟨Nw, q, nc, O, m, oc, ovs, rfl, ?_⟩
          rw [HX0.out, hr, outP_stop (by rw [← HMM.out]; exact hmo2) ho]
          exact H'
      · obtain rfl : n = k := by omega
        go_wp2_with fail
        refine bodyPost_ret (results_none rfl _ _ _) rfl ?_
        refine ⟨Nw, q, nc, O, m, oc, ovs, rfl, ?_⟩
        rw [HX0.out]
        exact H
end Go.Proofs.Ytaefjgjojflppaa

namespace Go.Proofs.Ytaefjgjojflppaa
open Go.RowKit
set_option linter.unusedVariables false
set_option linter.unusedSimpArgs false

/-- not all are used, and none that is left is free -/
def Stuck (f : Nat → Nat → Bool) (n : Nat) (us : List Bool) : Prop := us.length = n ∧ (∃ i, i < n ∧ us.getD i false = false) ∧ ∀ i, i < n → freeU f us n i = false
theorem Try.elBool : ElemT Try.prog 66 4 1 1 (.bool false) := ⟨Try.underlying66, by kernel_rfl, rfl, by omega⟩
theorem made_false (n : Nat) : (madeCells (Value.bool false).cells (n * 1)).toList = bCells (List.replicate n false) := by
  rw [upB_zero]; simp [upB]
theorem count_set {us : List Bool} {k : Nat} (hk : k < us.length) (h : us.getD k false = false) : (us.set k true).countP id = us.countP id + 1 := by
  induction us generalizing k with
  | nil => simp at hk
  | cons x l ih =>
    cases k with
    | zero =>
      simp [List.getD] at h
      subst h
      simp [List.countP_cons]
    | succ k =>
      simp only [List.set_cons_succ, List.countP_cons]
      rw [ih (by simpa using hk) (by simpa [List.getD] using h)]
      omega
theorem unused_of {us : List Bool} {n : Nat} (hl : us.length = n) (h : us.countP id < n) : ∃ i, i < n ∧ us.getD i false = false := by
  refine Classical.byContradiction fun hn => ?_
  have : us.countP id = us.length := List.countP_eq_length.2 fun x hx => by
    obtain ⟨i, hi⟩ := List.getElem?_of_mem hx
    have hil := (List.getElem?_eq_some_iff.1 hi).1
    cases x with
    | true => rfl
    | false => exact absurd ⟨i, by omega, by simp [List.getD, hi]⟩ hn
  omega

theorem below_succ {p : Nat → Prop} {k : Nat} (h : ∀ i, i < k → p i) (hk : p k) : ∀ i, i < k + 1 → p i := fun i hi => by
  rcases Nat.lt_succ_iff_lt_or_eq.1 hi with h' | rfl
  · exact h i h'
  · exact hk
/-- the new list of marks, in its slot -/
def MarkSlot (M : Nat → Prop) (H n : Nat) (u : Value) (w : World) : Prop := ∃ g2 : Nat, u = .slice (some ⟨g2, 0, none⟩) n n ∧ H ≤ g2 ∧ Ro w M (fun w => w.heap[g2]? = some (.cells (madeCells (Value.bool false).cells (n * 1)) 4 (0, 0)))
theorem markSlot_mono {M : Nat → Prop} {H n : Nat} (u : Value) (w w' : World) (hr : RM M w w') (h : MarkSlot M H n u w) : MarkSlot M H n u w' := by
  obtain ⟨g2, h1, h2, h3⟩ := h
  exact ⟨g2, h1, h2, hr.ro h3⟩

set_option maxHeartbeats 4000000 in
set_option maxRecDepth 100000 in
theorem unmark_any (M : Nat → Prop) (w0 w : World) (b0 g u n : Nat) (most : Int) (Bv : Option Addr) (bc : Nat) (f : Nat → Nat → Bool) (us : List Bool) (Nw : Option Addr) (q nc : Nat) (nw : List Int) (O : Option Addr) (m oc : Nat) (ovs : List Value) (outs : List (List Int)) (um : FrameMode)
    (K : Hold M none w0 w (.cst b0 65 #[.pointer (some ⟨g, 0, none⟩)] :: SL g u n most Bv bc f us Nw q nc nw O m oc ovs outs)) (hn : n ≤ 1000) :
    CallsD Try.prog 54 #[.pointer (some ⟨b0, 0, none⟩)] um w fun e u' w' => u' = um ∧ e = .returned (.tuple #[]) ∧ ∃ u2, Hold M none w0 w' (SL g u2 n most Bv bc f (List.replicate n false) Nw q nc nw O m oc ovs outs) := by
  have hmk := fun W => run_make_n (P := Try.prog) Try.elBool n (by omega) (by omega) W
  go_enter_d Try.func54, Try.ntmps54
  go_wp2_with fail
  refine wp_region_any (by kernel_rfl) ?_
  refine wpAny_hold 7 10 (.cst b0 65 #[.pointer (some ⟨g, 0, none⟩)] :: SL g u n most Bv bc f us Nw q nc nw O m oc ovs outs) (spL [(7, MarkSlot (Mut M (.cst b0 65 #[.pointer (some ⟨g, 0, none⟩)] :: SL g u n most Bv bc f us Nw q nc nw O m oc ovs outs)) w.heap.size n)]) (by kernel_rfl) (by kernel_rfl) (by kernel_rfl) rfl ?_ (K.drew) ?_
  · exact stays_cons markSlot_mono (stays_nil _)
  simp only [List.take_succ_cons, List.take_zero, List.drop_succ_cons, List.drop_zero, Act.put, List.getElem_toArray, List.getElem_cons_zero, List.getElem_cons_succ, List.setIfInBounds_toArray, List.set_cons_succ, List.set_cons_zero]
  refine dw_val rfl rfl rfl ?_; apply Exists.intro; refine ⟨fun wv HC => ?_, ?_⟩
  · have FC := HC.facts; simp only [SL, factsL, cellsF, Nat.reduceAdd, List.toList_toArray, and_true, true_and] at FC; go_simp <;> rfl
  simp only [Act.put, List.setIfInBounds_toArray, List.set_cons_succ, List.set_cons_zero]
  refine dw_val rfl rfl rfl ?_; apply Exists.intro; refine ⟨fun wv HC => ?_, ?_⟩
  · have FC := HC.facts; simp only [SL, factsL, cellsF, Nat.reduceAdd, List.toList_toArray, and_true, true_and] at FC; go_simp <;> rfl
  simp only [Act.put, List.setIfInBounds_toArray, List.set_cons_succ, List.set_cons_zero]
  refine dw_val rfl rfl rfl ?_; apply Exists.intro; refine ⟨fun wv HC => ?_, ?_⟩
  ·  go_simp <;> rfl
  simp only [Act.put, List.setIfInBounds_toArray, List.set_cons_succ, List.set_cons_zero]
  refine dw_val rfl rfl rfl ?_; apply Exists.intro; refine ⟨fun wv HC => ?_, ?_⟩
  ·  go_simp <;> rfl
  simp only [Act.put, List.setIfInBounds_toArray, List.set_cons_succ, List.set_cons_zero]
  refine dw_val rfl rfl rfl ?_; apply Exists.intro; refine ⟨fun wv HC => ?_, ?_⟩
  · have FC := HC.facts; simp only [SL, factsL, cellsF, Nat.reduceAdd, List.toList_toArray, and_true, true_and] at FC; go_simp <;> rfl
  simp only [Act.put, List.setIfInBounds_toArray, List.set_cons_succ, List.set_cons_zero]
  refine dw_val rfl rfl rfl ?_; apply Exists.intro; refine ⟨fun wv HC => ?_, ?_⟩
  ·  go_simp <;> rfl
  simp only [Act.put, List.setIfInBounds_toArray, List.set_cons_succ, List.set_cons_zero]
  refine dw_new (madeCells (Value.bool false).cells (n * 1)) 4 7 (MarkSlot (Mut M (.cst b0 65 #[.pointer (some ⟨g, 0, none⟩)] :: SL g u n most Bv bc f us Nw q nc nw O m oc ovs outs)) w.heap.size n) (fun g => .slice (some ⟨g, 0, none⟩) n n) rfl rfl rfl rfl (fun wv => ?_) (fun wv HC hrm hD hro => ⟨_, rfl, hrm.1, hro _ HC.mutLt⟩) ?_
  · go_simp <;> rfl
  rintro g2 wg HCg hsl
  simp only [Act.put, List.setIfInBounds_toArray, List.set_cons_succ, List.set_cons_zero]
  clear hsl HCg
  refine rel_nil ?_
  rintro wx HX
  rintro hrm HG
  have hb2 : MarkSlot (Mut M (.cst b0 65 #[.pointer (some ⟨g, 0, none⟩)] :: SL g u n most Bv bc f us Nw q nc nw O m oc ovs outs)) w.heap.size n (.slice (some ⟨g2, 0, none⟩) n n) wx := (GW_on (d := 7) rfl).1 (HG 6 _ rfl (by omega))
  clear HG
  obtain ⟨g3, e6, k1, k2⟩ := hb2
  obtain rfl : g2 = g3 := by injection e6 with e6; injection e6 with e6; injection e6
  clear e6
  have K2 := Hold.addFresh K.drew HX hrm (n := n) 1 k1 k2.now (by unfold maxLen; omega) (by simp [madeCells])
  rw [made_false] at K2
  have F2 := HX.facts
  simp only [SL, factsL, cellsF, Nat.reduceAdd, List.toList_toArray, and_true, true_and] at F2
  have K3 := K2.store 2 rfl 2 (.slice (some ⟨g2, 0, none⟩) n n)
  clear K2 k2 hmk hrm
  go_wp2_with fail
  have K4 := (K3.sinkN 3).drop (List.Sublist.cons _ (List.Sublist.cons_cons _ (List.sublist_cons_self _ _)))
  go_end0
  exact ⟨rfl, g2, K4⟩

def PossRet (M : Nat → Prop) (w0 : World) (g n : Nat) (most : Int) (Bv : Option Addr) (bc : Nat) (f : Nat → Nat → Bool) (Nw : Option Addr) (q nc : Nat) (nw : List Int) (O : Option Addr) (m oc : Nat) (ovs : List Value) (outs : List (List Int)) (e : Ending) (w' : World) : Prop :=
  ∃ (b : Bool) (u2 : Nat), e = .returned (.bool b) ∧ Hold M none w0 w' (SL g u2 n most Bv bc f (List.replicate n false) Nw q nc nw O m oc ovs outs) ∧ (b = false → ∃ us, Stuck f n us)
set_option maxHeartbeats 8000000 in
set_option maxRecDepth 100000 in
theorem possible_any (M : Nat → Prop) (w0 w : World) (g u n : Nat) (most : Int) (Bv : Option Addr) (bc : Nat) (f : Nat → Nat → Bool) (Nw : Option Addr) (q nc : Nat) (nw : List Int) (O : Option Addr) (m oc : Nat) (ovs : List Value) (outs : List (List Int))
    (K : Hold M none w0 w (SL g u n most Bv bc f (List.replicate n false) Nw q nc nw O m oc ovs outs)) (hn : n ≤ 1000) :
    Calls Try.prog 36 #[.pointer (some ⟨g, 0, none⟩)] w fun e w' => PossRet M w0 g n most Bv bc f Nw q nc nw O m oc ovs outs e w' := by
  have hmf : ∀ (fn : Fn) (first cap : Array Value) (w : World), (Instr.makeFunc fn first cap).run Try.prog w = .ok (.func fn first cap) w := fun _ _ _ _ => rfl
  have K0 := K.alloc_cst #[.pointer (some ⟨g, 0, none⟩)] 65
  obtain ⟨b0, hb0⟩ : ∃ b0, w.heap.size = b0 := ⟨_, rfl⟩
  rw [hb0] at K0
  have F := K0.facts
  simp only [SL, factsL, cellsF, Nat.reduceAdd, List.toList_toArray, and_true, true_and] at F
  clear K
  go_enter_defers Try.func36, Try.ntmps36
  go_wp2
  go_step3
  go_wp2
  go_step3
  go_wp2
  have HB0 := hid hb0
  clear hb0 F hmf
  go_loopg [10] n (fun gh i wr => ∃ (k : Nat) (us : List Bool), k + gh = n ∧ i = .int .i64 k ∧ Hid (us.countP id = k) ∧ Hold M none w0 wr (.cst b0 65 #[.pointer (some ⟨g, 0, none⟩)] :: SL g u n most Bv bc f us Nw q nc nw O m oc ovs outs))
  case atStart => exact ⟨0, List.replicate n false, by omega, rfl, hid (by rw [List.countP_eq_zero]; intro x hx; rw [List.eq_of_mem_replicate hx]; simp), K0⟩
  case round =>
    clear K0
    obtain ⟨k, us, hk, rfl, HC, H⟩ := hrel
    have F := H.facts
    simp only [SL, factsL, cellsF, Nat.reduceAdd, List.toList_toArray, and_true, true_and] at F
    have HLU := hid (show us.length = n by have := (H.get 2 rfl).1; simpa [bCells] using this)
    cases gk with
    | succ go =>
      have hlt : k < n := by omega
      have hd : decide ((k : Int) < (n : Int)) = true := by simp; omega
      go_wp2_with fail
      clear F
      go_loopg [17] n (fun gh j wq => ∃ p : Nat, p + gh = n ∧ j = .int .i64 p ∧ Hid (∀ i, i < p → freeU f us n i = false) ∧ Hold M none w0 wq (.cst b0 65 #[.pointer (some ⟨g, 0, none⟩)] :: SL g u n most Bv bc f us Nw q nc nw O m oc ovs outs))
      case atStart => exact ⟨0, by omega, rfl, hid (fun i hi => absurd hi (by omega)), H⟩
      case round =>
        clear H
        obtain ⟨p, hp, rfl, HNF, H⟩ := hrel
        have F := H.facts
        simp only [SL, factsL, cellsF, Nat.reduceAdd, List.toList_toArray, and_true, true_and] at F
        cases gk with
        | succ gi =>
          have hlt2 : p < n := by omega
          have hd2 : decide ((p : Int) < (n : Int)) = true := by simp; omega
          have i0 : (0 : Int) ≤ (p : Int) := by omega
          have i1 : (p : Int) < (n : Int) := by omega
          cases hfr : freeU f us n p
          · have HFR := hid hfr; clear hfr
            go_wp2_with (go_at_call 55; refine (sfree_any M w0 wr g u n most Bv bc f us Nw q nc nw O m oc ovs outs (H.drop (List.sublist_cons_self _ _)) p hlt2 (by omega)).mono ?_; rintro e w3 ⟨rfl, rfl⟩; rw [HFR.out])
            go_roundg gi
            case measure => omega
            case rel => exact ⟨p + 1, by omega, by go_num, hid (below_succ HNF.out HFR.out), H⟩
          · have HFR := hid hfr; clear hfr
            have hgu : ¬ g = u := H.apart_ 1 2 rfl rfl (by omega) rfl rfl
            have hug : ¬ u = g := fun e => hgu e.symm
            obtain ⟨x, hcx⟩ : ∃ x, wr.cell? ⟨u, p, none⟩ = some x := by
              have := (H.get 2 rfl).cellAt p (by omega)
              exact ⟨_, this.trans (List.getElem?_eq_getElem (by rw [bCells_len, HLU.out]; omega))⟩
            have hfx := (H.get 2 rfl).frozenAt p
            have H1 := H.put_ 2 rfl p (.bool true)
            rw [bCells_set] at H1
            go_wp2_with (go_at_call 55; refine (sfree_any M w0 wr g u n most Bv bc f us Nw q nc nw O m oc ovs outs (H.drop (List.sublist_cons_self _ _)) p hlt2 (by omega)).mono ?_; rintro e w3 ⟨rfl, rfl⟩; rw [HFR.out])
            go_roundg go
            case measure => omega
            case rel =>
              have huk : us.getD p false = false := by
                have := HFR.out
                unfold freeU at this
                simp only [Bool.and_eq_true, Bool.not_eq_true'] at this
                exact this.1
              exact ⟨k + 1, us.set p true, by omega, by go_num, hid (by rw [count_set (by rw [HLU.out]; exact hlt2) huk, HC.out]), H1⟩
        | zero =>
          obtain rfl : n = p := by omega
          have HST := hid (show Stuck f n us from ⟨HLU.out, unused_of HLU.out (by rw [HC.out]; exact hlt), HNF.out⟩)
          go_wp2_with fail
          rw [Exit.noGoto_ret]
          go_wp2_with fail
          refine leaves_cons (f := 54) (args := #[.pointer (some ⟨b0, 0, none⟩)]) (by simp) (by simp [go_sem]) ?_
          refine (unmark_any M w0 wr b0 g u n most Bv bc f us Nw q nc nw O m oc ovs outs .returning H hn).mono ?_
          rintro e u' w'' ⟨rfl, rfl, u2, H2⟩
          exact ⟨_, results_tmp rfl _ _ _, false, u2, rfl, H2, fun _ => ⟨us, HST.out⟩⟩
    | zero =>
      obtain rfl : n = k := by omega
      go_wp2_with fail
      (try rw [Exit.noGoto_ret])
      (try go_wp2_with fail)
      refine leaves_cons (f := 54) (args := #[.pointer (some ⟨b0, 0, none⟩)]) (by simp) (by simp [go_sem]) ?_
      refine (unmark_any M w0 wr b0 g u n most Bv bc f us Nw q nc nw O m oc ovs outs .returning H hn).mono ?_
      rintro e u' w'' ⟨rfl, rfl, u2, H2⟩
      exact ⟨_, results_tmp rfl _ _ _, true, u2, rfl, H2, fun h => (by cases h)⟩
end Go.Proofs.Ytaefjgjojflppaa

namespace Go.Proofs.Ytaefjgjojflppaa
open Go.RowKit
set_option linter.unusedVariables false
set_option linter.unusedSimpArgs false

theorem blkU_less {f : Nat → Nat → Bool} {us us' : List Bool} {i : Nat} (h : ∀ k, us'.getD k false = true → us.getD k false = true) : ∀ m, blkU f us' i m = false → blkU f us i m = false
  | 0, _ => rfl
  | m + 1, hb => by
    rw [blkU_succ] at hb ⊢
    simp only [Bool.or_eq_false_iff] at hb ⊢
    refine ⟨blkU_less h m hb.1, ?_⟩
    have h2 := hb.2
    cases hm : (m != i)
    · simp
    · rw [hm] at h2
      simp only [Bool.true_and] at h2 ⊢
      cases hu : us.getD m false
      · cases hu' : us'.getD m false
        · rw [hu'] at h2; exact h2
        · rw [h m hu'] at hu; cases hu
      · simp
theorem getD_set_same {us : List Bool} {i : Nat} (hi : i < us.length) : (us.set i true).getD i false = true := by simp [List.getD, hi]
theorem getD_set_other {us : List Bool} {i k : Nat} (h : i ≠ k) : (us.set i true).getD k false = us.getD k false := by simp [List.getD, List.getElem?_set_ne h]
theorem all_used {us : List Bool} (h : us.countP id = us.length) : ∀ i, i < us.length → us.getD i false = true := fun i hi => by
  have := List.countP_eq_length.1 h us[i] (List.getElem_mem hi)
  simpa [List.getD, hi] using this
theorem stuck_none {f : Nat → Nat → Bool} {n : Nat} {us : List Bool} (hs : Stuck f n us) : ∀ (fuel : Nat) (us' : List Bool) (nw : List Int), us'.length = n → us'.countP id = nw.length → (∀ k, us'.getD k false = true → us.getD k false = true) → extS f n fuel us' nw = []
  | 0, _, _, _, _, _ => rfl
  | fuel + 1, us', nw, hl, hc, hsub => by
    obtain ⟨hul, ⟨i0, hi0, hu0⟩, hfr⟩ := hs
    by_cases hn : nw.length = n
    · have := all_used (us := us') (by omega) i0 (by omega)
      rw [hsub i0 this] at hu0; cases hu0
    · rw [extS_part hn]
      unfold extP
      rw [List.flatMap_eq_nil_iff]
      intro i hi
      have hin : i < n := List.mem_range.1 hi
      unfold extB
      split
      · rename_i hf
        unfold freeU at hf
        simp only [Bool.and_eq_true, Bool.not_eq_true'] at hf
        have hui : us.getD i false = true := by
          have := hfr i hin
          unfold freeU at this
          cases hu : us.getD i false
          · rw [hu, blkU_less hsub n hf.2] at this; simp at this
          · rfl
        refine stuck_none ⟨hul, ⟨i0, hi0, hu0⟩, hfr⟩ fuel _ _ (by simpa using hl) (by rw [count_set (by omega) hf.1, hc]; simp) fun k hk => ?_
        by_cases hik : i = k
        · subst hik; exact hui
        · rw [getD_set_other hik] at hk; exact hsub k hk
      · rfl
/-- the answer of Orders -/
def ordL (f : Nat → Nat → Bool) (n : Nat) (most : Int) : List (List Int) := if most < 1 then [] else (extS f n (n + 1) (List.replicate n false) []).take most.toNat
theorem ordL_low {f : Nat → Nat → Bool} {n : Nat} {most : Int} (h : most < 1) : ordL f n most = [] := by simp [ordL, h]
theorem ordL_stuck {f : Nat → Nat → Bool} {n : Nat} {most : Int} (h : ∃ us, Stuck f n us) : ordL f n most = [] := by
  obtain ⟨us, hs⟩ := h
  unfold ordL
  rw [stuck_none hs _ _ _ (by simp) (by rw [List.countP_eq_zero.2]; · rfl
                                        · intro x hx; rw [List.eq_of_mem_replicate hx]; simp) fun k hk => by
    have : (List.replicate n false).getD k false = false := by
      simp only [List.getD, List.getElem?_replicate]; split <;> rfl
    rw [this] at hk; cases hk]
  simp
theorem ordL_out {f : Nat → Nat → Bool} {n mo : Nat} (h : 0 < mo) : outP mo [] (extS f n (n + 1) (List.replicate n false) []) = ordL f n mo := by
  unfold ordL outP
  rw [if_neg (by omega)]
  simp
end Go.Proofs.Ytaefjgjojflppaa

namespace Go.Proofs.Ytaefjgjojflppaa
open Go.RowKit
set_option linter.unusedVariables false
set_option linter.unusedSimpArgs false

theorem Try.elBools : ElemT Try.prog 67 66 1 24 (.slice none 0 0) := ⟨Try.underlying67, by kernel_rfl, rfl, by omega⟩
/-- the first k rows of a square -/
def RowsIn (rows : List Value) (f : Nat → Nat → Bool) (n k : Nat) (w : World) : Prop :=
  rows.length = k ∧ ∀ j, j < k → ∃ (A : Option Addr) (c : Nat), rows[j]? = some (.slice A n c) ∧ n ≤ c ∧ SlR 1 A n (bCells ((List.range n).map (f j))) w
theorem rows_snoc {rows : List Value} {f : Nat → Nat → Bool} {n k : Nat} {w : World} {A : Option Addr} {c : Nat} (h : RowsIn rows f n k w) (hc : n ≤ c) (hr : SlR 1 A n (bCells ((List.range n).map (f k))) w) : RowsIn (rows ++ [.slice A n c]) f n (k + 1) w := by
  refine ⟨by simp [h.1], fun j hj => ?_⟩
  rcases Nat.lt_succ_iff_lt_or_eq.1 hj with hj | rfl
  · obtain ⟨A', c', h1, h2, h3⟩ := h.2 j hj
    exact ⟨A', c', by rw [List.getElem?_append_left (by rw [h.1]; exact hj)]; exact h1, h2, h3⟩
  · exact ⟨A, c, by rw [List.getElem?_append_right (by rw [h.1]; exact Nat.le_refl _), h.1]; simp, hc, hr⟩
theorem mat_of {rows : List Value} {f : Nat → Nat → Bool} {n : Nat} {w : World} {B : Option Addr} (h : SlR 1 B n rows w) (hr : RowsIn rows f n n w) : MatIn B n f w := fun k hk => by
  obtain ⟨A, c, h1, h2, h3⟩ := hr.2 k hk
  obtain ⟨b, o, rfl, hb, hc⟩ := (show Rd w w.heap.size 1 B n rows from h).2 (by omega)
  obtain ⟨rb, ro, rfl, hrb, hrc⟩ := (show Rd w w.heap.size 1 A n _ from h3).2 (by omega)
  refine ⟨b, o, rb, ro, c, rfl, hb, hc k _ h1, hrb, h2, fun i hi => hrc i _ ?_⟩
  rw [bCells_get, List.getElem?_map, List.getElem?_range hi]
  rfl
/-- Lists of numbers handed back, in memory that nobody writes. -/
def ListsRet (w : World) (M : Nat → Prop) (outs : List (List Int)) (e : Ending) (w' : World) : Prop :=
  ∃ (O : Option Addr) (m oc : Nat) (ovs : List Value), e = .returned (.slice O m oc) ∧ m = outs.length ∧ m ≤ oc ∧ oc ≤ 9223372036854775807 ∧ Ro w' M (SlR 1 O m ovs) ∧ Ro w' M (OutsIn ovs outs) ∧ Below w.heap.size w w'
theorem listsRet_nil {w w' : World} {M : Nat → Prop} (hb : Below w.heap.size w w') : ListsRet w M [] (.returned (.slice none 0 0)) w' :=
  ⟨none, 0, 0, [], rfl, rfl, by omega, by omega, ro_nil, fun _ _ _ => ⟨rfl, fun k v xs hv _ => by simp at hv⟩, hb⟩
/-- which item comes before which -/
def ordF (its : List It) (l : List Lk) (k i : Nat) : Bool := precB l (trAt its k) (trAt its i)

set_option maxHeartbeats 8000000 in
set_option maxRecDepth 100000 in
theorem porders_any (M : Nat → Prop) (w : World) (hM : ∀ b, M b → b < w.heap.size) (A : Option Addr) (n c : Nat) (its : List It) (B : Option Addr) (m d : Nat) (l : List Lk) (most : Int) (hD : Ro w M (ItsIn A n its)) (hE : Ro w M (LksIn B m l)) (hn : n ≤ 1000) (hm : m ≤ 9223372036854775807) (hmo : most ≤ 1000000) (hI : I64 most) :
    Calls Try.prog 11 #[.slice A n c, .slice B m d, .int .i64 most] w fun e w' => ListsRet w M (ordL (ordF its l) n most) e w' := by
  have HL := hid hD.now.len
  have K0 := (((Hold.start M w hM).add (hE.less (by simp [Mut]))).add (hD.less (by simp [Mut, Hp.foot]))).add (S := RowsIn [] (ordF its l) n 0) (fun _ _ _ => ⟨rfl, fun j hj => absurd hj (by omega)⟩)
  go_enter Try.func11, Try.ntmps11
  go_wp2_with (at_make; go_must (refine wpList_makeH K0 Try.elBool rfl (.tmp 15) (.tmp 15) rfl n rfl rfl (by omega) (by unfold maxLen; omega) ?_); intro u w1 hu K1; (have HU := hid hu); clear hu)
  rw [made_false] at K1
  have K2 := (K1.nil 66 1).alloc #[.slice none 0 0, .int .i64 most, .slice (some ⟨u, 0, none⟩) n n, .slice none 0 0, .slice none 0 0] 69
  obtain ⟨g, hg⟩ : ∃ g, g = w1.heap.size := ⟨_, rfl⟩
  rw [← hg] at K2 ⊢
  have HG := hid hg
  clear hg K0 K1
  go_loopw [21] (fun i wr => ∃ (k bc : Nat) (Bv : Option Addr) (rows : List Value), k ≤ n ∧ i = .int .i64 k ∧ Hold M none w wr [.blk g 69 #[.slice Bv k bc, .int .i64 most, .slice (some ⟨u, 0, none⟩) n n, .slice none 0 0, .slice none 0 0], .own 66 1 (.slice Bv k bc) k rows, .own 4 1 (.slice (some ⟨u, 0, none⟩) n n) n (bCells (List.replicate n false)), .ro (RowsIn rows (ordF its l) n k), .ro (ItsIn A n its), .ro (LksIn B m l)]) (fun i _ => n - (intOf i).toNat)
  case atStart => exact ⟨0, 0, none, [], by omega, rfl, K2⟩
  case round =>
    clear K2
    obtain ⟨k, bc, Bv, rows, hk, rfl, H⟩ := hrel
    by_cases hlt : k < n
    · have hd : decide ((k : Int) < (n : Int)) = true := by simp; omega
      obtain ⟨x, hx⟩ := get_of HL.out hlt
      obtain ⟨ga, oa, rfl, hb, x0, x1, x2, x3⟩ := (H.ro 4 rfl).now.at_ hx
      have HX := hid (trAt_of hx); clear hx
      obtain ⟨wo, rfl⟩ : ∃ wo : World, wo = wr := ⟨_, rfl⟩
      have KA := (H.alloc_cst #[.string x.tr, .int .i64 x.row, .slice x.oa x.on x.oc, .slice x.na x.nn x.nc] 27).nil 4 1
      go_wp2_with fail
      go_loopw [10, 27] (fun v j wq => ∃ (p rc : Nat) (RA : Option Addr), p ≤ n ∧ v = .slice RA p rc ∧ j = .int .i64 p ∧ Hold M none w wq [.own 4 1 (.slice RA p rc) p (bCells ((List.range p).map (ordF its l k))), .cst wo.heap.size 27 #[.string x.tr, .int .i64 x.row, .slice x.oa x.on x.oc, .slice x.na x.nn x.nc], .blk g 69 #[.slice Bv k bc, .int .i64 most, .slice (some ⟨u, 0, none⟩) n n, .slice none 0 0, .slice none 0 0], .own 66 1 (.slice Bv k bc) k rows, .own 4 1 (.slice (some ⟨u, 0, none⟩) n n) n (bCells (List.replicate n false)), .ro (RowsIn rows (ordF its l) n k), .ro (ItsIn (some ⟨ga, oa, none⟩) n its), .ro (LksIn B m l)]) (fun _ j _ => n - (intOf j).toNat)
      case atStart => exact ⟨0, 0, none, by omega, rfl, rfl, KA⟩
      case round =>
        clear KA
        obtain ⟨p, rc, RA, hp, rfl, rfl, H2⟩ := hrel
        have F2 := H2.facts
        simp only [World.size_alloc, World.size_drew, factsL, cellsF, Nat.reduceAdd, List.toList_toArray, and_true, true_and] at F2
        by_cases hlt2 : p < n
        · have hd2 : decide ((p : Int) < (n : Int)) = true := by simp; omega
          obtain ⟨y, hy⟩ := get_of HL.out hlt2
          obtain ⟨g', o', ho', hb', e0, e1, e2, e3⟩ := (H2.ro 6 rfl).now.at_ hy
          obtain ⟨rfl, rfl⟩ : ga = g' ∧ oa = o' := by injection ho' with ho'; injection ho' with a1 a2; exact ⟨a1, a2⟩
          clear ho'
          have HY := hid (trAt_of hy); clear hy
          have KB := H2.alloc_cst #[.string y.tr, .int .i64 y.row, .slice y.oa y.on y.oc, .slice y.na y.nn y.nc] 27
          go_wp2_with fail
          refine (prec_any (Mut M _) _ KB.mutLt B m d l x.tr y.tr (KB.ro 8 rfl) hm).mono ?_
          rintro e w5 ⟨rfl, b5⟩
          have K5 := KB.call b5
          have HP := hid (show precB l x.tr y.tr = ordF its l k p by unfold ordF; rw [HX.out, HY.out])
          rw [HP.out]
          clear b5 KB F2
          go_wp2_with (at_builtin; go_must (refine wpList_appH K5 1 rfl Try.elBool #[.bool (ordF its l k p)] rfl (.tmp 31) (.tmp 38) rfl rfl w5.heap.size rfl rfl rfl (by intro z hz; simp at hz; subst hz; rfl) (by omega) (by omega) ?_); intro g2 cap2 w6 hc2 hm2 K6)
          go_roundw
          case rel =>
            have e : bCells ((List.range p).map (ordF its l k)) ++ (#[Value.bool (ordF its l k p)]).toList = bCells ((List.range (p + 1)).map (ordF its l k)) := by simp [bCells, List.range_succ]
            rw [e] at K6
            exact ⟨p + 1, cap2, _, by omega, rfl, by go_num, K6.drop (List.sublist_cons_self _ _)⟩
          case measure => simp [intOf]; omega
        · obtain rfl : n = p := by omega
          have hcr := own_caps (H2.get 0 rfl)
          have KS := H2.sealRow 0 rfl
          simp only [List.set_cons_zero] at KS
          go_wp2_with (at_builtin; go_must (refine wpList_appH KS 3 rfl Try.elBools #[.slice RA n rc] rfl (.tmp 45) (.tmp 47) rfl rfl wr.heap.size rfl rfl rfl (by intro z hz; simp at hz; subst hz; rfl) (by omega) (by omega) ?_); intro g2 cap2 w6 hc2 hm2 K6; (have F6 := K6.facts); simp only [World.size_alloc, World.size_drew, factsL, cellsF, Nat.reduceAdd, List.toList_toArray, List.set_cons_zero, List.set_cons_succ, and_true, true_and] at F6)
          have K7 := K6.store 2 rfl 0 (.slice (some ⟨g2, 0, none⟩) (k + 1) cap2)
          have K8 := K7.swapRo 5 rfl (((K7.ro 5 rfl).and (K7.ro 0 rfl)).imp fun w ⟨a1, a2⟩ => rows_snoc a1 hcr.1 a2)
          simp only [List.set_cons_zero, List.set_cons_succ] at K8
          go_wp2_with fail
          go_roundw
          case rel => exact ⟨k + 1, cap2, _, _, by omega, by go_num, K8.drop (List.Sublist.cons _ (List.sublist_cons_self _ _))⟩
          case measure => simp [intOf]; omega
    · obtain rfl : n = k := by omega
      have K1 := H.sealRow 1 rfl
      have K2 := K1.swapRo 1 (S' := MatIn Bv n (ordF its l)) rfl (((K1.ro 1 rfl).and (K1.ro 3 rfl)).imp fun w ⟨a1, a2⟩ => mat_of a1 a2)
      simp only [List.set_cons_zero, List.set_cons_succ] at K2
      have K3 := (K2.drop (L' := [.blk g 69 #[.slice Bv n bc, .int .i64 most, .slice (some ⟨u, 0, none⟩) n n, .slice none 0 0, .slice none 0 0], .ro (MatIn Bv n (ordF its l)), .own 4 1 (.slice (some ⟨u, 0, none⟩) n n) n (bCells (List.replicate n false))]) (List.Sublist.cons_cons _ (List.Sublist.cons_cons _ (List.Sublist.cons_cons _ (List.nil_sublist _))))).perm (List.Perm.cons _ (List.Perm.swap _ _ _))
      have K4 := (((K3.add (S := OutsIn [] []) (fun _ _ _ => ⟨rfl, fun k v xs hv _ => by simp at hv⟩)).sinkN 3).nil 33 1).sinkN 2
      have K5 : Hold M none w wr (SL g u n most Bv bc (ordF its l) (List.replicate n false) none 0 0 [] none 0 0 [] []) := (K4.nil 3 1).sinkN 2
      clear K1 K2 K3 K4 H
      by_cases hlo : most < 1
      · have hd : decide (most < 1) = true := by simpa using hlo
        have HZ := hid (ordL_low (f := ordF its l) (n := n) hlo)
        go_wp2_with fail
        go_ret
        rw [HZ.out]
        exact listsRet_nil K5.below
      · have hd : decide (most < 1) = false := by simpa using hlo
        obtain ⟨mo, rfl⟩ := Int.eq_ofNat_of_zero_le (show 0 ≤ most by omega)
        go_wp2_with fail
        refine (possible_any M w wr g u n mo Bv bc _ none 0 0 [] none 0 0 [] [] K5 hn).mono ?_
        rintro e w2 ⟨b, u2, rfl, H2, hst⟩
        have HST := hid hst; clear hst
        cases b
        · have HZ := hid (ordL_stuck (most := (mo : Int)) (HST.out rfl))
          go_wp2_with fail
          go_ret
          rw [HZ.out]
          exact listsRet_nil H2.below
        · go_wp2_with fail
          refine (extend_any M w g u2 n mo Bv bc (ordF its l) hn (by omega) n w2 (List.replicate n false) none 0 0 [] none 0 0 [] [] H2 (by simp) (by simp; omega)).mono ?_
          rintro e w3 ⟨Nw3, q3, nc3, O3, m3, oc3, ovs3, rfl, H3⟩
          have F3 := H3.facts
          simp only [SL, factsL, cellsF, Nat.reduceAdd, List.toList_toArray, and_true, true_and] at F3
          have hoc := own_caps (H3.get 3 rfl)
          have HM3 := hid (show m3 = (outP mo [] (extS (ordF its l) n (n + 1) (List.replicate n false) [])).length by have h1 := (H3.get 3 rfl).1; have h2 := (H3.ro 5 rfl).now.1; omega)
          have KS := H3.sealRow 3 rfl
          have HO := hid (ordL_out (f := ordF its l) (n := n) (mo := mo) (by omega))
          go_wp2_with fail
          go_ret
          rw [← HO.out]
          exact ⟨O3, m3, oc3, ovs3, rfl, HM3.out, hoc.1, hoc.2.1, KS.roOut 3 rfl, KS.roOut 5 rfl, KS.below⟩
end Go.Proofs.Ytaefjgjojflppaa

namespace Go.Proofs.Ytaefjgjojflppaa
open Go.RowKit
set_option linter.unusedVariables false
set_option linter.unusedSimpArgs false

/-- what is used, of what is left -/
def usOf (lf : List Bool) : List Bool := lf.map (!·)
theorem usOf_get (lf : List Bool) (k : Nat) (h : k < lf.length) : (usOf lf).getD k false = !lf.getD k false := by simp [usOf, List.getD, h]
theorem usOf_set (lf : List Bool) (k : Nat) : usOf (lf.set k false) = (usOf lf).set k true := by simp [usOf, List.map_set]
theorem lef_blk (its : List It) (lf : List Bool) (l : List Lk) (i : Nat) : ∀ m, m ≤ lf.length → lefB its lf l i m = blkU (ordF its l) (usOf lf) i m
  | 0, _ => rfl
  | m + 1, h => by
    rw [lefB_succ, blkU_succ, lef_blk its lf l i m (by omega), usOf_get lf m (by omega), Bool.not_not, Bool.and_assoc]
    rfl
theorem free_eq {its : List It} {lf : List Bool} {l : List Lk} {i : Nat} (h : lf.length = its.length) (hi : i < its.length) : freeB its lf l i = freeU (ordF its l) (usOf lf) its.length i := by
  unfold freeB freeU
  rw [lef_blk _ _ _ _ _ (by omega), usOf_get lf i (by omega), Bool.not_not]
theorem take_step {P E : List (List Int)} {mo : Nat} : P.take mo ++ E.take (mo - (P.take mo).length) = (P ++ E).take mo := by
  rw [List.take_append]
  congr 2
  rw [List.length_take]
  omega
theorem outs_app {w : World} {ovs ovs' : List Value} {outs outs' : List (List Int)} (h : OutsIn ovs outs w) (k : OutsIn ovs' outs' w) : OutsIn (ovs ++ ovs') (outs ++ outs') w := by
  refine ⟨by simp [h.1, k.1], fun i v ys hv hy => ?_⟩
  have hl := h.1
  rcases Nat.lt_or_ge i ovs.length with hlt | hge
  · rw [List.getElem?_append_left hlt] at hv
    rw [List.getElem?_append_left (by omega)] at hy
    exact h.2 i v ys hv hy
  · rw [List.getElem?_append_right hge] at hv
    rw [List.getElem?_append_right (by omega)] at hy
    rw [← hl] at hy
    exact k.2 _ v ys hv hy
/-- the answer: as many as are wanted -/
def extT (f : Nat → Nat → Bool) (n fuel : Nat) (us : List Bool) (nw : List Int) (most : Int) : List (List Int) := if most < 1 then [] else (extS f n fuel us nw).take most.toNat
theorem extT_nat {f : Nat → Nat → Bool} {n fuel : Nat} {us : List Bool} {nw : List Int} {mo m2 : Nat} (h : m2 ≤ mo) : extT f n fuel us nw ((mo : Int) - (m2 : Int)) = (extS f n fuel us nw).take (mo - m2) := by
  unfold extT
  split
  · rw [show mo - m2 = 0 by omega, List.take_zero]
  · rw [show ((mo : Int) - (m2 : Int)).toNat = mo - m2 by omega]
theorem extT_len (f : Nat → Nat → Bool) (n fuel : Nat) (us : List Bool) (nw : List Int) (most : Int) : (extT f n fuel us nw most).length ≤ most.toNat := by
  unfold extT
  split
  · simp
  · rw [List.length_take]; omega
theorem outs_one {ovs : List Value} {outs : List (List Int)} {w : World} (h : OutsIn ovs outs w) : ∀ u ∈ ovs, u.oneCell' = true := fun u hu => by
  obtain ⟨k, hk⟩ := List.getElem?_of_mem hu
  have hkl := (List.getElem?_eq_some_iff.1 hk).1
  obtain ⟨A, n, c, rfl, _⟩ := h.2 k u (outs[k]'(by rw [← h.1]; exact hkl)) hk (List.getElem?_eq_getElem (by rw [← h.1]; exact hkl))
  rfl
abbrev RL (u n : Nat) (lf : List Bool) (A : Option Addr) (its : List It) (B : Option Addr) (m : Nat) (l : List Lk) (Q : Option Addr) (q : Nat) (nw : List Int) (F : List Hp) : List Hp :=
  .own 4 1 (.slice (some ⟨u, 0, none⟩) n n) n (bCells lf) :: .ro (ItsIn A n its) :: .ro (LksIn B m l) :: .ro (IsIn Q q nw) :: F
/-- What extend of the reference leaves. -/
def RExtRet (M : Nat → Prop) (w0 : World) (L : List Hp) (outs : List (List Int)) (e : Ending) (w' : World) : Prop :=
  ∃ (O : Option Addr) (m oc : Nat) (ovs : List Value), e = .returned (.slice O m oc) ∧ m = outs.length ∧ m ≤ oc ∧ oc ≤ 9223372036854775807 ∧ Hold M none w0 w' (.ro (SlR 1 O m ovs) :: .ro (OutsIn ovs outs) :: L)

set_option maxHeartbeats 8000000 in
set_option maxRecDepth 100000 in
theorem rextend_any (M : Nat → Prop) (w0 : World) (u n : Nat) (A : Option Addr) (c : Nat) (its : List It) (B : Option Addr) (m d : Nat) (l : List Lk) (hn : n ≤ 1000) (hm : m ≤ 9223372036854775807) : ∀ (fuel : Nat) (w : World) (lf : List Bool) (Q : Option Addr) (q qc : Nat) (nw : List Int) (most : Int) (F : List Hp)
    (K : Hold M none w0 w (RL u n lf A its B m l Q q nw F)) (hf : nw.length + fuel = n) (hmo : most ≤ 1000000) (hI : I64 most),
    Calls Try.prog 41 #[.slice A n c, .slice B m d, .int .i64 most, .slice (some ⟨u, 0, none⟩) n n, .slice Q q qc] w fun e w' => RExtRet M w0 (RL u n lf A its B m l Q q nw F) (extT (ordF its l) n (fuel + 1) (usOf lf) nw most) e w' := by
  intro fuel
  induction fuel with
  | zero =>
    intro w lf Q q qc nw most F K hf hmo hI
    have hq : q = n := by have := (K.ro 3 rfl).now.len; omega
    subst hq
    have hbeq : ((q : Int) == (q : Int)) = true := by simp
    by_cases hlo : most < 1
    · have hd : decide (most < 1) = true := by simpa using hlo
      have HZ := hid (show extT (ordF its l) q (0 + 1) (usOf lf) nw most = [] by simp [extT, hlo])
      go_enter Try.func41, Try.ntmps41
      go_wp2_with fail
      go_ret
      rw [HZ.out]
      exact ⟨none, 0, 0, [], rfl, rfl, by omega, by omega, (K.add (S := OutsIn [] []) (fun _ _ _ => ⟨rfl, fun k v xs hv _ => by simp at hv⟩)).add ro_nil⟩
    · have hd : decide (most < 1) = false := by simpa using hlo
      have HZ := hid (show extT (ordF its l) q (0 + 1) (usOf lf) nw most = [nw] by
        unfold extT; rw [if_neg hlo, extS_full (by omega), List.take_of_length_le (by simp; omega)])
      have K1 := K.nil 3 1
      have r1 := hid (K.ro 3 rfl).now
      go_enter Try.func41, Try.ntmps41
      go_wp2_with (at_builtin; go_must (refine wpList_appAllH K1 0 rfl Try.elInt r1.out rfl (.const (.slice none 0 0)) (.tmp 20) rfl rfl rfl (iCells_one _) (by omega) (by omega) ?_); intro C' cap' w2 hc1 hm1 K2)
      have K3 := (K2.sealRow 0 rfl).alloc_cst #[.slice C' (0 + q) cap'] 33
      simp only [Nat.zero_add, List.nil_append, List.set_cons_zero] at K3 hc1
      have k4 := ro_block (n := 1) (size := 1) (K3.get 0 rfl) rfl
      have k5 : Ro _ _ (OutsIn [.slice C' q cap'] [nw]) := (K3.ro 1 rfl).imp fun w hw => by
        have := outs_snoc (ovs := []) (outs := []) ⟨rfl, fun k v xs hv _ => by simp at hv⟩ (show IsIn C' q nw w from hw) hc1 hm1
        simpa using this
      have K6 := (K3.add k5).add (k4.less (mut_none rfl))
      have K7 := K6.drop (List.Sublist.cons_cons _ (List.Sublist.cons_cons _ (List.Sublist.cons _ (List.sublist_cons_self _ _))))
      go_ret
      rw [HZ.out]
      exact ⟨_, 1, 1, _, by first | rfl | simp, rfl, by omega, by omega, K7⟩
  | succ fuel ih =>
    have IH := hid ih; clear ih
    intro w lf Q q qc nw most F K hf hmo hI
    have hq : q < n := by have := (K.ro 3 rfl).now.len; omega
    have hbeq : ((q : Int) == (n : Int)) = false := by simp; omega
    have HQ := hid (show nw.length = q from (K.ro 3 rfl).now.len)
    have HLI := hid (show its.length = n from (K.ro 1 rfl).now.len)
    have HLF := hid (show lf.length = n by have := (K.get 0 rfl).1; simpa [bCells] using this)
    have HF := hid hf; clear hf
    by_cases hlo : most < 1
    · have hd : decide (most < 1) = true := by simpa using hlo
      have HZ := hid (show extT (ordF its l) n (fuel + 1 + 1) (usOf lf) nw most = [] by simp [extT, hlo])
      go_enter Try.func41, Try.ntmps41
      go_wp2_with fail
      go_ret
      rw [HZ.out]
      exact ⟨none, 0, 0, [], rfl, rfl, by omega, by omega, (K.add (S := OutsIn [] []) (fun _ _ _ => ⟨rfl, fun k v xs hv _ => by simp at hv⟩)).add ro_nil⟩
    · have hd : decide (most < 1) = false := by simpa using hlo
      obtain ⟨mo, rfl⟩ := Int.eq_ofNat_of_zero_le (show 0 ≤ most by omega)
      have HZ := hid (show extT (ordF its l) n (fuel + 1 + 1) (usOf lf) nw mo = (extP (ordF its l) n (fuel + 1) (usOf lf) nw n).take mo by
        unfold extT; rw [if_neg hlo, extS_part (by rw [HQ.out]; omega)]; rfl)
      have K1 := (K.add (S := OutsIn [] []) (fun _ _ _ => ⟨rfl, fun k v xs hv _ => by simp at hv⟩)).nil 33 1
      go_enter Try.func41, Try.ntmps41
      go_wp2_with fail
      go_loopw [11, 25] (fun v i wr => ∃ (k : Nat) (O : Option Addr) (m2 oc : Nat) (ovs : List Value), k ≤ n ∧ i = .int .i64 k ∧ v = .slice O m2 oc ∧ Hold M none w0 wr (.own 33 1 (.slice O m2 oc) m2 ovs :: .ro (OutsIn ovs ((extP (ordF its l) n (fuel + 1) (usOf lf) nw k).take mo))   :: RL u n lf A its B m l Q q nw F)) (fun _ i _ => n - (intOf i).toNat)
      case atStart => exact ⟨0, none, 0, 0, [], by omega, rfl, rfl, by rw [show extP (ordF its l) n (fuel + 1) (usOf lf) nw 0 = [] from rfl, List.take_nil]; exact K1⟩
      case round =>
        clear K1 K
        obtain ⟨k, O, m2, oc, ovs, hk, rfl, rfl, H⟩ := hrel
        have HM2 := hid (show m2 = ((extP (ordF its l) n (fuel + 1) (usOf lf) nw k).take mo).length by have h1 := (H.get 0 rfl).1; have h2 := (H.ro 1 rfl).now.1; omega)
        have hm2 : m2 ≤ mo := by have := HM2.out; rw [List.length_take] at this; omega
        have hcO := own_caps (H.get 0 rfl)
        by_cases hlt : k < n
        · have hd : decide ((k : Int) < (n : Int)) = true := by simp; omega
          have i0 : (0 : Int) ≤ (k : Int) := by omega
          have i1 : (k : Int) < (n : Int) := by omega
          have HFE := hid (free_eq (l := l) (show lf.length = its.length by rw [HLF.out, HLI.out]) (show k < its.length by rw [HLI.out]; exact hlt))
          rw [HLI.out] at HFE
          have hRl : Ro wr None_ (BsIn (some ⟨u, 0, none⟩) n lf) := (Rd.of_own (H.get 2 rfl)).ro (Nat.le_refl _) (fun _ _ h => h)
          cases hfr : freeU (ordF its l) (usOf lf) n k
          · have HFR := hid hfr; clear hfr
            go_wp2_with fail
            refine (rfree_any None_ wr (fun _ h => h.elim) A n c its (some ⟨u, 0, none⟩) n lf B m d l k hlt ((H.ro 3 rfl).less (fun _ h => h.elim)) hRl ((H.ro 4 rfl).less (fun _ h => h.elim)) (by omega) hm).mono ?_
            rintro e w4 ⟨rfl, b4⟩
            rw [HFE.out, HFR.out]
            have K4 := H.call b4
            clear b4 H hRl
            go_wp2_with fail
            go_roundw
            case rel => exact ⟨k + 1, O, m2, oc, ovs, by omega, by go_num, rfl, by rw [extP_succ]; unfold extB; rw [HFR.out]; simpa using K4⟩
            case measure => simp [intOf]; omega
          · have HFR := hid hfr; clear hfr
            go_wp2_with fail
            refine (rfree_any None_ wr (fun _ h => h.elim) A n c its (some ⟨u, 0, none⟩) n lf B m d l k hlt ((H.ro 3 rfl).less (fun _ h => h.elim)) hRl ((H.ro 4 rfl).less (fun _ h => h.elim)) (by omega) hm).mono ?_
            rintro e w4 ⟨rfl, b4⟩
            rw [HFE.out, HFR.out]
            have K4 := H.call b4
            clear b4 H hRl
            obtain ⟨x, hcx⟩ : ∃ x, w4.cell? ⟨u, k, none⟩ = some x := by
              have := (K4.get 2 rfl).cellAt k (by omega)
              exact ⟨_, this.trans (List.getElem?_eq_getElem (by rw [bCells_len, HLF.out]; omega))⟩
            have hfx := (K4.get 2 rfl).frozenAt k
            have K5 := K4.put_ 2 rfl k (.bool false)
            rw [bCells_set] at K5
            have K6 := K5.nil 3 1
            have r1 := hid (K6.ro 6 rfl).now
            have s1 : IntKind.i64.wrap ((mo : Int) - (m2 : Int)) = (mo : Int) - (m2 : Int) := IntWalk.i64_in _ (by omega)
            go_wp2_with (first
              | (at_builtin; refine wpList_appAllH K6 0 rfl Try.elInt r1.out rfl (.const (.slice none 0 0)) (.tmp 45) rfl rfl rfl (iCells_one _) (by omega) (by omega) ?_; intro C' cap' w5 hc1 hm1 K7; simp only [Nat.zero_add, List.nil_append, List.set_cons_zero] at K7 hc1)
              | (at_builtin; refine wpList_appH K7 0 rfl Try.elInt #[.int .i64 k] rfl (.tmp 46) (.tmp 48) rfl rfl w5.heap.size rfl rfl rfl (by intro z hz; simp at hz; subst hz; rfl) (by omega) (by omega) ?_; intro g8 cap8 w8 hc8 hm8 K8)
              | fail)
            have e1 : iCells nw ++ (#[Value.int .i64 (k : Int)]).toList = iCells (nw ++ [(k : Int)]) := by simp [iCells]
            rw [e1] at K8
            clear e1
            simp only [List.set_cons_zero, List.set_cons_succ] at K8
            have K9 := K8.sealRow 0 rfl
            simp only [List.set_cons_zero, List.set_cons_succ] at K9
            have K10 : Hold M none w0 w8 (RL u n (lf.set k false) A its B m l (some ⟨g8, 0, none⟩) (q + 1) (nw ++ [(k : Int)]) (.own 33 1 (.slice O m2 oc) m2 ovs :: .ro (OutsIn ovs ((extP (ordF its l) n (fuel + 1) (usOf lf) nw k).take mo)) :: .ro (IsIn Q q nw) :: F)) := ((K9.sinkN 5).sinkN 5).sinkN 5
            clear K4 K5 K6 K7 K8 K9 hcx hfx
            refine (IH.out _ (lf.set k false) _ (q + 1) cap8 (nw ++ [(k : Int)]) ((mo : Int) - (m2 : Int)) _ K10 (by have := HF.out; simp; omega) (by omega) (by have h1 := hI; unfold I64 at h1 ⊢; omega)).mono ?_
            rintro e w11 ⟨O', m', oc', ovs', rfl, hm', hoc', hoc2, K11⟩
            have hm3 : m' ≤ 1000000 := by have := extT_len (ordF its l) n (fuel + 1) (usOf (lf.set k false)) (nw ++ [(k : Int)]) ((mo : Int) - (m2 : Int)); omega
            have HM' := hid hm'; clear hm'
            clear K10
            have r11 := hid (K11.ro 0 rfl).now
            have o11 := hid (outs_one (K11.ro 1 rfl).now)
            go_wp2_with (first
              | (at_builtin; refine wpList_appAllH K11 6 rfl Try.elInts r11.out rfl (.tmp 37) (.tmp 50) rfl rfl rfl o11.out (by omega) (by omega) ?_; intro C' cap' w13 hc13 hm13 K13; obtain ⟨x, hcx⟩ : ∃ x, w13.cell? ⟨u, k, none⟩ = some x := ⟨_, ((K13.get 2 rfl).cellAt k (by omega)).trans (List.getElem?_eq_getElem (by rw [bCells_len, List.length_set, HLF.out]; omega))⟩; have hfx := (K13.get 2 rfl).frozenAt k)
              | fail)
            have K14 := K13.put_ 2 rfl k (.bool true)
            rw [bCells_set] at K14
            have K15 := K14.swapRo 7 rfl (((K14.ro 7 rfl).and (K14.ro 1 rfl)).imp fun w ⟨a1, a2⟩ => outs_app a1 a2)
            simp only [RL, List.set_cons_zero, List.set_cons_succ] at K15
            have K16 := K15.drop (List.Sublist.cons _ (List.Sublist.cons _ (List.Sublist.cons_cons _ (List.Sublist.cons_cons _ (List.Sublist.cons_cons _ (List.sublist_cons_self _ _))))))
            have K17 := ((K16.sinkN 4).sinkN 4).sinkN 4
            have htk : lf.getD k false = true := by
              have := HFR.out
              unfold freeU at this
              simp only [Bool.and_eq_true, Bool.not_eq_true'] at this
              have h2 := usOf_get lf k (by rw [HLF.out]; exact hlt)
              rw [this.1] at h2
              simpa using h2.symm
            have e2 : (lf.set k false).set k true = lf := by
              rw [List.set_set]
              apply List.ext_getElem?
              intro j
              rw [List.getElem?_set]
              split
              · rename_i hkj; subst hkj
                have hl : k < lf.length := by rw [HLF.out]; exact hlt
                rw [if_pos hl, List.getElem?_eq_getElem hl]
                simp only [List.getD, List.getElem?_eq_getElem hl, Option.getD_some] at htk
                rw [htk]
              · rfl
            have e4 : (extP (ordF its l) n (fuel + 1) (usOf lf) nw k).take mo ++ extT (ordF its l) n (fuel + 1) (usOf (lf.set k false)) (nw ++ [(k : Int)]) ((mo : Int) - (m2 : Int)) = (extP (ordF its l) n (fuel + 1) (usOf lf) nw (k + 1)).take mo := by
              rw [extT_nat hm2, HM2.out, take_step, extP_succ, usOf_set]
              unfold extB
              rw [HFR.out]
              rfl
            rw [e2, e4] at K17
            clear K11 K13 K14 K15 K16 HFR HFE HM' hcx hfx r11 o11
            refine ⟨⟨k + 1, C', m2 + m', cap', _, by omega, by go_num, rfl, K17⟩, ?_⟩
            simp [intOf]; omega
        · obtain rfl : n = k := by omega
          go_wp2_with fail
          go_ret
          have K5 := H.sealRow 0 rfl
          rw [HZ.out]
          exact ⟨_, _, _, _, by first | rfl | simp, HM2.out, hcO.1, hcO.2.1, K5⟩

set_option maxHeartbeats 4000000 in
theorem rorders_any (M : Nat → Prop) (w : World) (hM : ∀ b, M b → b < w.heap.size) (A : Option Addr) (n c : Nat) (its : List It) (B : Option Addr) (m d : Nat) (l : List Lk) (most : Int) (hD : Ro w M (ItsIn A n its)) (hE : Ro w M (LksIn B m l)) (hn : n ≤ 1000) (hm : m ≤ 9223372036854775807) (hmo : most ≤ 1000000) (hI : I64 most) :
    Calls Try.prog 23 #[.slice A n c, .slice B m d, .int .i64 most] w fun e w' => ListsRet w M (ordL (ordF its l) n most) e w' := by
  have HL := hid hD.now.len
  have K0 := ((((Hold.start M w hM).add (S := IsIn none 0 []) (fun _ _ _ => Rd.none_)).add (hE.less (by simp [Mut, Hp.foot]))).add (hD.less (by simp [Mut, Hp.foot])))
  go_enter Try.func23, Try.ntmps23
  go_wp2_with fail
  refine (rfull_any _ n (by omega)).mono ?_
  rintro e w1 ⟨rfl, ho, hg⟩
  obtain ⟨u, hu⟩ : ∃ u, u = w.heap.size := ⟨_, rfl⟩
  have K1 := K0.callOwn (w' := w1) ⟨hg.os, hg.tape, hg.output, hg.size, fun k hk => hg.block k hk (by simp)⟩ ho
  rw [← hu] at K1 ⊢
  have HU := hid hu
  clear hu ho hg
  go_wp2_with fail
  refine (rextend_any M w u n A c its B m d l hn hm n w1 (List.replicate n true) none 0 0 [] most [] K1 (by simp) hmo hI).mono ?_
  rintro e w2 ⟨O, m2, oc, ovs, rfl, hm2, hoc, hoc2, K2⟩
  have HM2 := hid hm2; clear hm2
  go_wp2_with fail
  go_ret
  have e1 : extT (ordF its l) n (n + 1) (usOf (List.replicate n true)) [] most = ordL (ordF its l) n most := by
    unfold extT ordL usOf
    simp
  rw [e1] at K2 HM2
  exact ⟨O, m2, oc, ovs, rfl, HM2.out, hoc, hoc2, K2.roOut 0 rfl, K2.roOut 1 rfl, K2.below⟩
end Go.Proofs.Ytaefjgjojflppaa

namespace Go.Proofs.Ytaefjgjojflppaa
open Go.RowKit
set_option linter.unusedVariables false
set_option linter.unusedSimpArgs false

theorem extS_len (f : Nat → Nat → Bool) (n : Nat) : ∀ (fuel : Nat) (us : List Bool) (nw : List Int), ∀ x ∈ extS f n fuel us nw, x.length = n
  | 0, _, _, x, h => by simp [extS] at h
  | fuel + 1, us, nw, x, h => by
    unfold extS at h
    split at h
    · rename_i hl; simp at h; rw [h]; exact hl
    · obtain ⟨i, hi, hx⟩ := List.mem_flatMap.1 h
      split at hx
      · exact extS_len f n fuel _ _ x hx
      · cases hx
theorem ordL_lens (f : Nat → Nat → Bool) (n : Nat) (most : Int) : ∀ x ∈ ordL f n most, x.length = n := fun x hx => by
  unfold ordL at hx
  split at hx
  · cases hx
  · exact extS_len f n _ _ _ x (List.mem_of_mem_take hx)
theorem ordL_le (f : Nat → Nat → Bool) (n : Nat) (most : Int) : (ordL f n most).length ≤ most.toNat := by
  unfold ordL
  split
  · simp
  · rw [List.length_take]; omega
theorem same_any (w : World) (A : Option Addr) (n c : Nat) (xs : List Int) (B : Option Addr) (m d : Nat) (ys : List Int) (hD : IsIn A n xs w) (hE : IsIn B m ys w) (hn : n ≤ 17592186044416) (hm : m ≤ 17592186044416) :
    Calls Try.prog 24 #[.slice A n c, .slice B m d] w fun e w' => e = .returned (.bool (xs == ys)) ∧ ∃ q, w' = w.drewN q := by
  go_enter Try.func24, Try.ntmps24
  go_wp2_with fail
  refine (eqInts_any w A n c xs B m d ys hD hE hn hm).mono ?_
  rintro e w1 ⟨rfl, q, rfl⟩
  go_wp2_with fail
  go_ret
  exact ⟨rfl, q, rfl⟩
/-- the list of lists at a place -/
theorem outs_at {w : World} {O : Option Addr} {m k : Nat} {ovs : List Value} {outs : List (List Int)} (h : SlR 1 O m ovs w) (ho : OutsIn ovs outs w) (hk : k < m) :
    ∃ (b o : Nat) (A : Option Addr) (n c : Nat) (xs : List Int), O = some ⟨b, o, none⟩ ∧ outs[k]? = some xs ∧ w.cell? ⟨b, o + k, none⟩ = some (.slice A n c) ∧ n = xs.length ∧ IsIn A n xs w := by
  have h1 : Rd w w.heap.size 1 O m ovs := h
  have hl := h1.1
  obtain ⟨b, o, e, _, hc⟩ := h1.at1 hk
  have hko : k < outs.length := by have := ho.1; omega
  have hkv : k < ovs.length := by omega
  obtain ⟨A, n, c, hv, _, _, hin⟩ := ho.2 k ovs[k] outs[k] (List.getElem?_eq_getElem hkv) (List.getElem?_eq_getElem hko)
  rw [List.getD, List.getElem?_eq_getElem hkv, Option.getD_some, hv] at hc
  exact ⟨b, o, A, n, c, _, e, List.getElem?_eq_getElem hko, hc, hin.len.symm, hin⟩
theorem take_eq_succ {α} {xs ys : List α} {k : Nat} {x y : α} (hx : xs[k]? = some x) (hy : ys[k]? = some y) (h : xs.take k = ys.take k) (he : x = y) : xs.take (k + 1) = ys.take (k + 1) := by
  rw [List.take_add_one, List.take_add_one, hx, hy, h, he]
theorem beq_no {xs ys : List (List Int)} {k : Nat} {x y : List Int} (hx : xs[k]? = some x) (hy : ys[k]? = some y) (h : (x == y) = false) : (xs == ys) = false := by
  rw [beq_eq_false_iff_ne] at h ⊢
  rintro rfl
  rw [hx] at hy
  exact h (by injection hy)
set_option maxHeartbeats 4000000 in
theorem eqFunc_any (w : World) (O : Option Addr) (m c : Nat) (ovs : List Value) (outs : List (List Int)) (O' : Option Addr) (m' c' : Nat) (ovs' : List Value) (outs' : List (List Int)) (h1 : SlR 1 O m ovs w) (h2 : OutsIn ovs outs w) (h3 : SlR 1 O' m' ovs' w) (h4 : OutsIn ovs' outs' w)
    (hl : ∀ x ∈ outs, x.length ≤ 17592186044416) (hl' : ∀ x ∈ outs', x.length ≤ 17592186044416) (hm : m ≤ 17592186044416) :
    Calls Try.prog 22 #[.slice O m c, .slice O' m' c', .func (.func 24) #[] #[]] w fun e w' => e = .returned (.bool (outs == outs')) ∧ ∃ q, w' = w.drewN q := by
  have HM := hid (show m = outs.length by have := (show Rd w w.heap.size 1 O m ovs from h1).1; have := h2.1; omega)
  have HM' := hid (show m' = outs'.length by have := (show Rd w w.heap.size 1 O' m' ovs' from h3).1; have := h4.1; omega)
  by_cases hmm : m = m'
  · subst hmm
    go_enter Try.func22, Try.ntmps22
    have hb : ((m : Int) != (m : Int)) = false := by simp
    go_wp2_with fail
    go_loopw [17] (fun i wr => ∃ (k q : Nat), k ≤ m ∧ i = .int .i64 k ∧ wr = w.drewN q ∧ outs.take k = outs'.take k) (fun i _ => m - (intOf i).toNat)
    case atStart => exact ⟨0, 0, by omega, rfl, rfl, by simp⟩
    case round =>
      obtain ⟨k, q, hk, rfl, rfl, htk⟩ := hrel
      have HTK := hid htk; clear htk
      by_cases hlt : k < m
      · have hd : decide ((k : Int) < (m : Int)) = true := by simp; omega
        obtain ⟨b, o, A, n, cc, xs, rfl, hx, hcell, hn, hin⟩ := outs_at h1 h2 hlt
        obtain ⟨b', o', A', n', cc', ys, rfl, hy, hcell', hn', hin'⟩ := outs_at h3 h4 hlt
        have hnb := hl _ (List.mem_of_getElem? hx)
        have hnb' := hl' _ (List.mem_of_getElem? hy)
        rw [← hn] at hnb
        rw [← hn'] at hnb'
        have HX := hid hx; have HY := hid hy; clear hx hy hn hn'
        go_wp2_with fail
        refine (same_any (w.drewN q) A n cc xs A' n' cc' ys hin hin' hnb hnb').mono ?_
        rintro e w3 ⟨rfl, q2, rfl⟩
        cases hb : (xs == ys)
        · have HB := hid (beq_no HX.out HY.out hb); clear hb
          go_wp2_with fail
          go_ret
          exact ⟨by rw [HB.out]; rfl, q + q2, rfl ⟩
        · have HB := hid (take_eq_succ HX.out HY.out HTK.out (eq_of_beq hb)); clear hb
          go_wp2_with fail
          go_roundw
          case rel => exact ⟨k + 1, q + q2, by omega, by go_num, rfl, HB.out⟩
          case measure => simp [intOf]; omega
      · obtain rfl : m = k := by omega
        have hE : outs = outs' := by
          have h := HTK.out
          rwa [List.take_of_length_le (by have := HM.out; omega), List.take_of_length_le (by have := HM'.out; omega)] at h
        have HB := hid (show (outs == outs') = true by rw [hE]; simp); clear hE
        go_wp2_with fail
        go_ret
        exact ⟨by rw [HB.out]; rfl, q, rfl⟩
  · have hb : ((m : Int) != (m' : Int)) = true := by simp; omega
    have HB := hid (show (outs == outs') = false by
      rw [beq_eq_false_iff_ne]; intro h; have := HM.out; have := HM'.out; rw [h] at *; omega)
    go_enter Try.func22, Try.ntmps22
    go_wp2_with fail
    go_ret
    exact ⟨by rw [HB.out]; rfl, 0, rfl⟩
/-- the items and the order of the check -/
def kIts : List It := [⟨⟨#[98]⟩, 0, none, 0, 0, none, 0, 0⟩, ⟨⟨#[97]⟩, 0, none, 0, 0, none, 0, 0⟩, ⟨⟨#[98]⟩, 0, none, 0, 0, none, 0, 0⟩]
def kLks : List Lk := [⟨⟨#[97]⟩, ⟨#[98]⟩⟩]
theorem kElig : eligL kIts kLks kIts.length = [.int .i64 1] := by kernel_rfl
theorem kOrd : (ordL (ordF kIts kLks) 3 9).length = 2 := by kernel_rfl
abbrev kCells : Array Value := #[.string ⟨#[98]⟩, .int .i64 0, .slice none 0 0, .slice none 0 0, .string ⟨#[97]⟩, .int .i64 0, .slice none 0 0, .slice none 0 0, .string ⟨#[98]⟩, .int .i64 0, .slice none 0 0, .slice none 0 0]
set_option maxHeartbeats 4000000 in
theorem known_any (w : World) : Calls Try.prog 13 #[] w fun e w' => e = .returned (.bool true) ∧ Below w.heap.size w w' := by
  have K1 := ((Hold.begin_ w).alloc_cst kCells 27).alloc_cst #[.string ⟨#[97]⟩, .string ⟨#[98]⟩] 30
  rw [World.size_alloc] at K1
  have k1 : Ro _ _ (ItsIn (some ⟨w.heap.size, 0, none⟩) 3 kIts) := ro_block (t := 27) (cs := kCells) (n := 3) (size := 4) (K1.get 1 rfl) rfl
  have k2 : Ro _ _ (LksIn (some ⟨w.heap.size + 1, 0, none⟩) 1 kLks) := ro_block (t := 30) (cs := #[.string ⟨#[97]⟩, .string ⟨#[98]⟩]) (n := 1) (size := 2) (K1.get 0 rfl) rfl
  have K2 := (K1.add k2).add (k1.less (mut_none rfl))
  go_enter Try.func13, Try.ntmps13
  go_wp2_with fail
  refine (elig_any _ _ K2.mutLt (some ⟨w.heap.size, 0, none⟩) 3 3 kIts (some ⟨w.heap.size + 1, 0, none⟩) 1 1 kLks (K2.ro 0 rfl) (K2.ro 1 rfl) (by omega) (by omega)).mono ?_
  rintro e w3 ⟨A3, n3, c3, rfl, hn3, hc3, hc32, r3, b3⟩
  rw [kElig] at hn3 r3
  obtain rfl : n3 = 1 := hn3
  have K3 := (((K2.call b3).add r3).alloc_cst #[.int .i64 1] 3)
  have k4 : Ro _ _ (IsIn (some ⟨w3.heap.size, 0, none⟩) 1 [1]) := ro_block (t := 3) (cs := #[.int .i64 1]) (n := 1) (size := 1) (K3.get 0 rfl) rfl
  have i3 := hid (show IsIn A3 1 [1] _ from (K3.ro 1 rfl).now)
  have i4 := hid k4.now
  clear b3 r3 k4 K1 K2 k1 k2
  go_wp2_with fail
  refine (eqInts_any _ A3 1 c3 [1] _ 1 1 [1] i3.out i4.out (by omega) (by omega)).mono ?_
  rintro e w4 ⟨rfl, q, rfl⟩
  have K4 := K3.drewN q
  rw [show ([(1 : Int)] == [1]) = true from by decide]
  clear K3 i3 i4
  go_wp2_with fail
  refine (porders_any _ _ K4.mutLt (some ⟨w.heap.size, 0, none⟩) 3 3 kIts (some ⟨w.heap.size + 1, 0, none⟩) 1 1 kLks 9 (K4.ro 2 rfl) (K4.ro 3 rfl) (by omega) (by omega) (by omega) (by unfold I64; omega)).mono ?_
  rintro e w5 ⟨O, m5, c5, ovs, rfl, hm5, hc5, hc52, r5, o5, b5⟩
  rw [kOrd] at hm5
  subst hm5
  have K5 := K4.call b5
  clear r5 o5 b5 K4
  go_wp2_with fail
  go_ret
  exact ⟨by first | rfl | simp, K5.below⟩
end Go.Proofs.Ytaefjgjojflppaa

namespace Go.Proofs.Ytaefjgjojflppaa
open Go.RowKit
set_option linter.unusedVariables false
set_option linter.unusedSimpArgs false
section
variable {P : Program} {M : Nat → Prop} {row : Option Nat} {w0 w1 : World} {L : List Hp} {sp : SpW} {F : Act → Prop} {S0 : Array Bool}
variable {ops : Array Oper} {o : Oper} {rest : List Oper} {a : Act} {k : Nat}
/-- a call of any kind; what came since the region's start is at hand -/
theorem dw_callR {f : FuncId} {args : Array Value} (d : Tmp) (V : Value → World → Prop) (hS : S0.getD k false = false) (hw : Region.wanted o (yielded ops a.tmps) = true) (hd : o.dst = some d) (hsp : sp d = some V) (hrun : ∀ w, (execOp a.eval o).run P w = .ok (.enter f args) w)
    (hc : ∀ w, Hold M row w0 w L → RM (Mut M L) w1 w → Deps ops (GW sp) o a w → Calls P f args w fun e w' => ∃ u, e = .returned u ∧ V u w' ∧ Hold M row w0 w' L ∧ RM (Mut M L) w w') (hn : ∀ u w, Hold M row w0 w L → V u w → wpRel P ops (HC M row w0 w1 L) (GW sp) (RM (Mut M L)) S0 F (k + 1) rest (a.put (some d) u)) : wpRel P ops (HC M row w0 w1 L) (GW sp) (RM (Mut M L)) S0 F k (o :: rest) a :=
  rel_call hS hw f args d hd (fun w _ _ => hrun w) (fun w hC hD => (hc w hC.1 hC.2 hD).mono fun e' w' ⟨u, h1, h2, h3, h4⟩ => ⟨u, h1, (GW_on hsp).2 h2, ⟨h3, hC.2.trans h4⟩, h4⟩) fun u w hC hu => hn u w hC.1 ((GW_on hsp).1 hu)
end
/-- a row of numbers of the region's own -/
def OwnSlot (b0 : Nat) (xs : List Int) (u : Value) (w : World) : Prop := ∃ (A : Option Addr) (n c : Nat), u = .slice A n c ∧ n = xs.length ∧ w.ownsRow b0 3 1 (.slice A n c) n (iCells xs)
theorem own_RM {M : Nat → Prop} {b0 : Nat} (hM : ∀ b, M b → b < b0) {w w' : World} (hr : RM M w w') {e : TypeId} {size n : Nat} {v : Value} {xs : List Value} (h : w.ownsRow b0 e size v n xs) : w'.ownsRow b0 e size v n xs := by
  refine ⟨h.1, ?_⟩
  rcases h.2 with hn | ⟨g, cap, cur, hv, hg, hh, rest⟩
  · exact .inl hn
  · exact .inr ⟨g, cap, cur, hv, hg, (hr.2 g (Blk.lt (t := e) (cs := cur) hh) (fun hm => by have := hM g hm; omega)).trans hh, rest⟩
theorem own_base {w : World} {b0 b1 : Nat} (h01 : b0 ≤ b1) {e : TypeId} {size n : Nat} {v : Value} {xs : List Value} (h : w.ownsRow b1 e size v n xs) : w.ownsRow b0 e size v n xs := by
  refine ⟨h.1, ?_⟩
  rcases h.2 with hn | ⟨g, cap, cur, hv, hg, rest⟩
  · exact .inl hn
  · exact .inr ⟨g, cap, cur, hv, Nat.le_trans h01 hg, rest⟩
theorem ownSlot_mono {M : Nat → Prop} {b0 : Nat} {xs : List Int} (hM : ∀ b, M b → b < b0) (u : Value) (w w' : World) (hr : RM M w w') (h : OwnSlot b0 xs u w) : OwnSlot b0 xs u w' := by
  obtain ⟨A, n, c, h1, h2, h3⟩ := h
  exact ⟨A, n, c, h1, h2, own_RM hM hr h3⟩
/-- A row that came since w1, taken in. -/
theorem Hold.addOwn {M : Nat → Prop} {row : Option Nat} {w0 w1 w : World} {L : List Hp} (K1 : Hold M row w0 w1 L) (K : Hold M row w0 w L) (hr : RM (Mut M L) w1 w) {e : TypeId} {size n : Nat} {v : Value} {xs : List Value} (ho : w.ownsRow w1.heap.size e size v n xs) :
    Hold M row w0 w (.own e size v n xs :: L) := by
  have hbase : ∀ b, v.ownBlock = some b → w1.heap.size ≤ b ∧ b < w.heap.size := fun b hf => ho.lt b hf
  have ee : ∀ b, b < w1.heap.size → Mut M (.own e size v n xs :: L) b → Mut M L b := fun b hl hb => by
    rcases mut_cons.1 hb with hf | hm
    · have := (hbase b hf).1; omega
    · exact hm
  refine ⟨K.grow, K.low, fun k hk => ?_, fun k hk b hf => ?_, ⟨fun b hf k hk he => ?_, K.sep⟩⟩
  · rcases List.mem_cons.1 hk with rfl | hk
    · exact own_base K1.grow.size ho
    · have h1 := K1.sat k hk
      have h2 := K.sat k hk
      cases k with
      | blk g' t' cs' => exact h2
      | own e s v n' xs => exact h2
      | tp T =>
        refine ⟨h2.1, fun b hb' => ?_⟩
        have hT : T < w1.heap.size := (K1.fresh _ hk T rfl).2
        rcases mut_cons.1 hb' with hf | hm'
        · have := (hbase b hf).1
          omega
        · exact h2.2 b hm'
      | ro S => exact Ro.step h1 hr.1 hr.2 ee
      | cst g' t' cs' => exact Ro.step h1 hr.1 hr.2 ee
  · rcases List.mem_cons.1 hk with rfl | hk
    · have := hbase b hf
      exact ⟨.inl (Nat.le_trans K1.grow.size this.1), this.2⟩
    · exact K.fresh k hk b hf
  · have h1 := (hbase b hf).1
    have h2 := (K1.fresh k hk b he).2
    omega
end Go.Proofs.Ytaefjgjojflppaa

namespace Go.Proofs.Ytaefjgjojflppaa
open Go.RowKit
set_option linter.unusedVariables false
set_option linter.unusedSimpArgs false

structure Ed where
  f : Int
  t : Int
deriving DecidableEq
def Ed.cells (x : Ed) : List Value := [.int .i64 x.f, .int .i64 x.t]
def edCells (l : List Ed) : List Value := l.flatMap Ed.cells
theorem edCells_len (l : List Ed) : (edCells l).length = l.length * 2 := flat_len _ 2 (fun _ => rfl) l
def EdsIn (A : Option Addr) (n : Nat) (l : List Ed) : World → Prop := SlR 2 A n (edCells l)
theorem EdsIn.len {w : World} {A : Option Addr} {n : Nat} {l : List Ed} (h : EdsIn A n l w) : l.length = n := by
  have := (show Rd w w.heap.size 2 A n (edCells l) from h).1
  rw [edCells_len] at this
  omega
theorem EdsIn.at_ {w : World} {A : Option Addr} {n : Nat} {l : List Ed} (h : EdsIn A n l w) {k : Nat} {x : Ed} (hx : l[k]? = some x) :
    ∃ b o, A = some ⟨b, o, none⟩ ∧ b < w.heap.size ∧ w.cell? ⟨b, o + k * 2, none⟩ = some (.int .i64 x.f) ∧ w.cell? ⟨b, o + k * 2 + 1, none⟩ = some (.int .i64 x.t) := by
  have hk : k < n := by rw [← h.len]; exact (List.getElem?_eq_some_iff.1 hx).1
  obtain ⟨b, o, e, hb, hc⟩ := (show Rd w w.heap.size 2 A n (edCells l) from h).2 (by omega)
  exact ⟨b, o, e, hb, hc _ _ (flat_get Ed.cells 2 (fun _ => rfl) l k 0 x (by omega) hx), hc _ _ (flat_get Ed.cells 2 (fun _ => rfl) l k 1 x (by omega) hx)⟩
theorem Try.elEd : ElemT Try.prog 49 53 2 16 (.agg #[.int .i64 0, .int .i64 0]) := ⟨Try.underlying49, by kernel_rfl, rfl, by omega⟩
theorem one_eds (l : List Ed) : ∀ u ∈ edCells l, u.oneCell' = true := fun u hu => by
  unfold edCells Ed.cells at hu
  simp at hu
  obtain ⟨_, _, rfl | rfl⟩ := hu <;> rfl
/-- the first that is not zero -/
def orI (a b : Int) : Int := if a = 0 then b else a
set_option maxHeartbeats 4000000 in
theorem or_any (w : World) (g : Nat) (a b : Int) (h : IsIn (some ⟨g, 0, none⟩) 2 [a, b] w) :
    Calls Try.prog 64 #[.slice (some ⟨g, 0, none⟩) 2 2] w fun e w' => e = .returned (.int .i64 (orI a b)) ∧ Below w.heap.size w w' := by
  obtain ⟨b', o', e', _, hc⟩ := h.cells (by omega)
  obtain ⟨rfl, rfl⟩ : g = b' ∧ 0 = o' := by injection e' with e'; injection e' with a1 a2; exact ⟨a1, a2⟩
  have c0 : w.cell? ⟨g, 0, none⟩ = some (.int .i64 a) := by simpa using hc 0 (by simp)
  have c1 : w.cell? ⟨g, 1, none⟩ = some (.int .i64 b) := by simpa using hc 1 (by simp)
  clear hc h e'
  go_enter Try.func64, Try.ntmps64
  go_wp2_with fail
  go_loopw [8] (fun i wr => ∃ k : Nat, k ≤ 2 ∧ i = .int .i64 k ∧ wr = w ∧ Hid ((1 ≤ k → a = 0) ∧ (2 ≤ k → b = 0))) (fun i _ => 2 - (intOf i).toNat)
  case atStart => exact ⟨0, by omega, rfl, rfl, hid ⟨fun h => absurd h (by omega), fun h => absurd h (by omega)⟩⟩
  case round =>
    obtain ⟨k, hk, rfl, rfl, HR⟩ := hrel
    rcases (show k = 0 ∨ k = 1 ∨ k = 2 by omega) with rfl | rfl | rfl
    · by_cases ha : a = 0
      · have HA := hid ha
        have hb0 : (a != 0) = false := by simp [ha]
        clear ha
        go_wp2_with fail
        go_roundw
        case rel => exact ⟨1, by omega, by first | trivial | rfl, by first | trivial | rfl, hid ⟨fun _ => HA.out, fun h => absurd h (by omega)⟩⟩
        case measure => simp [intOf]
      · have hb0 : (a != 0) = true := by simp [ha]
        have HA := hid ha; clear ha
        go_wp2_with fail
        go_ret
        exact ⟨by rw [show orI a b = a from if_neg HA.out] <;> rfl, Below.refl _ _⟩
    · have HA := hid (HR.out.1 (by omega))
      by_cases ha : b = 0
      · have HB := hid ha
        have hb0 : (b != 0) = false := by simp [ha]
        clear ha
        go_wp2_with fail
        go_roundw
        case rel => exact ⟨2, by omega, by first | trivial | rfl, by first | trivial | rfl, hid ⟨fun _ => HA.out, fun _ => HB.out⟩⟩
        case measure => simp [intOf]
      · have hb0 : (b != 0) = true := by simp [ha]
        clear ha
        go_wp2_with fail
        go_ret
        exact ⟨by rw [show orI a b = b from if_pos HA.out] <;> rfl, Below.refl _ _⟩
    · have HX := hid (show orI a b = 0 from by unfold orI; rw [if_pos (HR.out.1 (by omega)), HR.out.2 (by omega)])
      go_wp2_with fail
      go_ret
      exact ⟨by rw [HX.out] <;> rfl, Below.refl _ _⟩
def cmpE (x y : Ed) : Int := orI (Lib.compareInt x.f y.f) (Lib.compareInt x.t y.t)
/-- the built pair of numbers -/
def PairSlot (M : Nat → Prop) (xs : List Int) (u : Value) (w : World) : Prop := ∃ g : Nat, u = .slice (some ⟨g, 0, none⟩) 2 2 ∧ Ro w M (IsIn (some ⟨g, 0, none⟩) 2 xs)
theorem pairSlot_mono {M : Nat → Prop} {xs : List Int} (u : Value) (w w' : World) (hr : RM M w w') (h : PairSlot M xs u w) : PairSlot M xs u w' := by
  obtain ⟨g, h1, h2⟩ := h
  exact ⟨g, h1, hr.ro h2⟩
def IsV (x : Value) (u : Value) (_ : World) : Prop := u = x
theorem isV_mono {M : Nat → Prop} {x : Value} (u : Value) (w w' : World) (_ : RM M w w') (h : IsV x u w) : IsV x u w' := h
set_option maxHeartbeats 4000000 in
set_option maxRecDepth 100000 in
theorem compare_any (x y : Ed) (w : World) :
    Calls Try.prog 59 #[.agg #[.int .i64 x.f, .int .i64 x.t], .agg #[.int .i64 y.f, .int .i64 y.t]] w fun e w' => e = .returned (.int .i64 (cmpE x y)) ∧ Below w.heap.size w w' := by
  have K0 := ((Hold.start None_ w (fun b hb => hb.elim)).alloc_cst #[.int .i64 x.f, .int .i64 x.t] 53).alloc_cst #[.int .i64 y.f, .int .i64 y.t] 53
  rw [World.size_alloc] at K0
  go_enter Try.func59, Try.ntmps59
  go_wp2_with fail
  obtain ⟨KL, hKL⟩ : ∃ KL : List Hp, KL = [Hp.cst (w.heap.size + 1) 53 #[.int .i64 y.f, .int .i64 y.t], Hp.cst w.heap.size 53 #[.int .i64 x.f, .int .i64 x.t]] := ⟨_, rfl⟩
  rw [← hKL] at K0
  generalize hw1 : (w.alloc (.cells #[.int .i64 x.f, .int .i64 x.t] 53)).alloc (.cells #[.int .i64 y.f, .int .i64 y.t] 53) = w1 at *
  clear hw1
  obtain ⟨g, hg⟩ : ∃ g, g = w.heap.size := ⟨_, rfl⟩
  rw [← hg] at hKL ⊢
  have HG := hid hg
  clear hg
  have HF : Hid (∀ wv, Hold None_ none w wv KL → wv.cell? ⟨g, 0, none⟩ = some (.int .i64 x.f) ∧ wv.cell? ⟨g, 1, none⟩ = some (.int .i64 x.t) ∧ wv.cell? ⟨g + 1, 0, none⟩ = some (.int .i64 y.f) ∧ wv.cell? ⟨g + 1, 1, none⟩ = some (.int .i64 y.t)) := hid fun wv HC => by
    rw [hKL] at HC
    have b0 := HC.cst_ 0 rfl
    have b1 := HC.cst_ 1 rfl
    exact ⟨cell_of_row _ _ 0 _ _ _ b1, cell_of_row _ _ 1 _ _ _ b1, cell_of_row _ _ 0 _ _ _ b0, cell_of_row _ _ 1 _ _ _ b0⟩
  have HFA : Hid (∀ wv, Hold None_ none w wv KL → g < wv.heap.size ∧ g + 1 < wv.heap.size) := hid fun wv HC => by
    rw [hKL] at HC
    exact ⟨Blk.lt (HC.cst_ 1 rfl), Blk.lt (HC.cst_ 0 rfl)⟩
  clear hKL
  refine wp_region_any (by kernel_rfl) ?_
  refine wpAny_hold 11 17 (KL) (spL [(9, IsV (.int .i64 (Lib.compareInt x.f y.f))), (14, IsV (.int .i64 (Lib.compareInt x.t y.t))), (15, PairSlot (Mut None_ KL) [Lib.compareInt x.f y.f, Lib.compareInt x.t y.t])]) (by kernel_rfl) (by kernel_rfl) (by kernel_rfl) rfl ?_ (K0.drew) ?_
  · exact stays_cons isV_mono (stays_cons isV_mono (stays_cons pairSlot_mono (stays_nil _)))
  simp only [List.take_succ_cons, List.take_zero, List.drop_succ_cons, List.drop_zero, Act.put, List.getElem_toArray, List.getElem_cons_zero, List.getElem_cons_succ, List.setIfInBounds_toArray, List.set_cons_succ, List.set_cons_zero]
  refine dw_val rfl rfl rfl ?_; apply Exists.intro; refine ⟨fun wv HC => ?_, ?_⟩
  ·  go_simp <;> rfl
  simp only [Act.put, List.setIfInBounds_toArray, List.set_cons_succ, List.set_cons_zero]
  refine dw_val rfl rfl rfl ?_; apply Exists.intro; refine ⟨fun wv HC => ?_, ?_⟩
  · obtain ⟨f0, f1, f2, f3⟩ := HF.out _ HC; go_simp <;> rfl
  simp only [Act.put, List.setIfInBounds_toArray, List.set_cons_succ, List.set_cons_zero]
  refine dw_val rfl rfl rfl ?_; apply Exists.intro; refine ⟨fun wv HC => ?_, ?_⟩
  ·  go_simp <;> rfl
  simp only [Act.put, List.setIfInBounds_toArray, List.set_cons_succ, List.set_cons_zero]
  refine dw_val rfl rfl rfl ?_; apply Exists.intro; refine ⟨fun wv HC => ?_, ?_⟩
  · obtain ⟨f0, f1, f2, f3⟩ := HF.out _ HC; go_simp <;> rfl
  simp only [Act.put, List.setIfInBounds_toArray, List.set_cons_succ, List.set_cons_zero]
  refine dw_callR 9 (IsV (.int .i64 (Lib.compareInt x.f y.f))) (f := 65) (args := #[.int .i64 x.f, .int .i64 y.f]) rfl rfl rfl rfl (fun wv => ?_) (fun wv HC hrm hD => ?_) ?_
  · go_simp <;> rfl
  · refine (Try.cmp_Compare_int x.f y.f wv).mono ?_
    rintro e w5 ⟨rfl, rfl⟩
    exact ⟨_, rfl, rfl, HC, RM.refl _ _⟩
  rintro u wx HCx hu
  obtain rfl : u = _ := hu
  clear HCx
  simp only [Act.put, List.setIfInBounds_toArray, List.set_cons_succ, List.set_cons_zero]
  refine dw_val rfl rfl rfl ?_; apply Exists.intro; refine ⟨fun wv HC => ?_, ?_⟩
  ·  go_simp <;> rfl
  simp only [Act.put, List.setIfInBounds_toArray, List.set_cons_succ, List.set_cons_zero]
  refine dw_val rfl rfl rfl ?_; apply Exists.intro; refine ⟨fun wv HC => ?_, ?_⟩
  · obtain ⟨f0, f1, f2, f3⟩ := HF.out _ HC; go_simp <;> rfl
  simp only [Act.put, List.setIfInBounds_toArray, List.set_cons_succ, List.set_cons_zero]
  refine dw_val rfl rfl rfl ?_; apply Exists.intro; refine ⟨fun wv HC => ?_, ?_⟩
  ·  go_simp <;> rfl
  simp only [Act.put, List.setIfInBounds_toArray, List.set_cons_succ, List.set_cons_zero]
  refine dw_val rfl rfl rfl ?_; apply Exists.intro; refine ⟨fun wv HC => ?_, ?_⟩
  · obtain ⟨f0, f1, f2, f3⟩ := HF.out _ HC; go_simp <;> rfl
  simp only [Act.put, List.setIfInBounds_toArray, List.set_cons_succ, List.set_cons_zero]
  refine dw_callR 14 (IsV (.int .i64 (Lib.compareInt x.t y.t))) (f := 65) (args := #[.int .i64 x.t, .int .i64 y.t]) rfl rfl rfl rfl (fun wv => ?_) (fun wv HC hrm hD => ?_) ?_
  · go_simp <;> rfl
  · refine (Try.cmp_Compare_int x.t y.t wv).mono ?_
    rintro e w5 ⟨rfl, rfl⟩
    exact ⟨_, rfl, rfl, HC, RM.refl _ _⟩
  rintro u wx HCx hu
  obtain rfl : u = _ := hu
  clear HCx
  simp only [Act.put, List.setIfInBounds_toArray, List.set_cons_succ, List.set_cons_zero]
  refine dw_new #[.int .i64 (Lib.compareInt x.f y.f), .int .i64 (Lib.compareInt x.t y.t)] 3 15 (PairSlot (Mut None_ KL) [Lib.compareInt x.f y.f, Lib.compareInt x.t y.t]) (fun g => .slice (some ⟨g, 0, none⟩) 2 2) rfl rfl rfl rfl (fun wv => ?_) (fun wv HC _hrm hD hro => ?_) ?_
  · go_simp <;> rfl
  · exact ⟨_, rfl, ro_block (t := 3) (cs := #[.int .i64 (Lib.compareInt x.f y.f), .int .i64 (Lib.compareInt x.t y.t)]) (n := 2) (size := 1) (hro _ HC.mutLt) rfl⟩
  rintro g2 wg HCg hsl
  simp only [Act.put, List.setIfInBounds_toArray, List.set_cons_succ, List.set_cons_zero]
  clear hsl HCg
  refine rel_nil ?_
  rintro wx2 HX
  rintro _hrm HGG
  obtain ⟨g3, e3, k3⟩ : PairSlot (Mut None_ KL) _ (.slice (some ⟨g2, 0, none⟩) 2 2) wx2 := (GW_on (d := 15) rfl).1 (HGG 10 _ rfl (by omega))
  obtain rfl : g2 = g3 := by injection e3 with e3; injection e3 with e3; injection e3
  have HI := hid k3.now
  clear e3 k3 HGG _hrm
  go_wp2_with fail
  refine (or_any wx2 g2 _ _ HI.out).mono ?_
  rintro e w6 ⟨rfl, b6⟩
  have K6 := HX.call b6
  have HE := hid (show orI (Lib.compareInt x.f y.f) (Lib.compareInt x.t y.t) = cmpE x y from rfl)
  rw [HE.out]
  go_wp2_with fail
  go_ret
  exact ⟨rfl, K6.below⟩
end Go.Proofs.Ytaefjgjojflppaa

namespace Go.Proofs.Ytaefjgjojflppaa
open Go.RowKit
set_option linter.unusedVariables false
set_option linter.unusedSimpArgs false

def edAt (l : List Ed) (i : Nat) : Ed := l.getD i ⟨0, 0⟩
theorem edAt_of {l : List Ed} {i : Nat} {x : Ed} (h : l[i]? = some x) : edAt l i = x := by simp [edAt, List.getD, h]
def edLt (x y : Ed) : Bool := decide (x.f < y.f) || (decide (x.f = y.f) && decide (x.t < y.t))
def inE (n : Int) (x : Ed) : Bool := decide (0 ≤ x.f) && decide (x.f < n) && decide (0 ≤ x.t) && decide (x.t < n)
def okE (n : Int) (l : List Ed) (i : Nat) : Bool := inE n (edAt l i) && (i == 0 || edLt (edAt l (i - 1)) (edAt l i))
def validG (n : Int) (l : List Ed) : Bool := decide (0 ≤ n) && decide (n ≤ 64) && (List.range l.length).all (okE n l)
theorem validG_low {n : Int} {l : List Ed} (h : n < 0) : validG n l = false := by
  unfold validG; rw [show decide (0 ≤ n) = false by simp; omega]; rfl
theorem validG_high {n : Int} {l : List Ed} (h : 64 < n) : validG n l = false := by
  unfold validG; rw [show decide (n ≤ 64) = false by simp; omega]; simp
theorem validG_no {n : Int} {l : List Ed} {k : Nat} (hk : k < l.length) (h : okE n l k = false) : validG n l = false := by
  unfold validG
  rw [show (List.range l.length).all (okE n l) = false by rw [List.all_eq_false]; exact ⟨k, by simpa using hk, by simp [h]⟩]
  simp
theorem validG_yes {n : Int} {l : List Ed} (h0 : 0 ≤ n) (h1 : n ≤ 64) (h : (List.range l.length).all (okE n l) = true) : validG n l = true := by
  unfold validG; rw [h]; simp; omega
theorem all_up {p : Nat → Bool} {k : Nat} (h : (List.range k).all p = true) (hp : p k = true) : (List.range (k + 1)).all p = true := by
  rw [List.range_succ, List.all_append, h]; simpa using hp
theorem cmpE_lt (x y : Ed) : decide (0 ≤ cmpE x y) = !edLt x y := by
  unfold cmpE orI edLt Lib.compareInt
  rcases Int.lt_trichotomy x.f y.f with h | h | h
  · have h1 : ¬ x.f = y.f := by omega
    simp [h]
  · have h1 : ¬ x.f < y.f := by omega
    have h2 : ¬ x.f > y.f := by omega
    simp only [h1, h2, if_false, if_true, h]
    rcases Int.lt_trichotomy x.t y.t with k | k | k
    · simp [k]
    · have k1 : ¬ x.t < y.t := by omega
      have k2 : ¬ x.t > y.t := by omega
      simp [k1, k2]
    · have k1 : ¬ x.t < y.t := by omega
      simp [k1, k]
  · have h1 : ¬ x.f < y.f := by omega
    have h2 : ¬ x.f = y.f := by omega
    simp [h1, h2, h]
theorem okE_in {n : Int} {l : List Ed} {k : Nat} {x : Ed} (hx : edAt l k = x) (h : inE n x = false) : okE n l k = false := by unfold okE; rw [hx, h]; rfl

set_option maxHeartbeats 4000000 in
set_option maxRecDepth 100000 in
theorem rgvalid_any (M : Nat → Prop) (w : World) (hM : ∀ b, M b → b < w.heap.size) (N : Int) (A : Option Addr) (n c : Nat) (l : List Ed) (hD : Ro w M (EdsIn A n l)) (hn : n ≤ 9223372036854775807) :
    Calls Try.prog 45 #[.int .i64 N, .slice A n c] w fun e w' => e = .returned (.bool (validG N l)) ∧ Below w.heap.size w w' := by
  have HL := hid hD.now.len
  have K0 := (Hold.start M w hM).add (hD.less (by simp [Mut]))
  by_cases hN0 : N < 0
  · have d0 : decide (N < 0) = true := by simpa using hN0
    have HV := hid (validG_low (l := l) hN0)
    go_enter Try.func45, Try.ntmps45
    go_wp2_with fail
    go_ret
    exact ⟨by rw [HV.out] <;> rfl, Below.refl _ _⟩
  · have d0 : decide (N < 0) = false := by simpa using hN0
    by_cases hN1 : 64 < N
    · have d1 : decide (N > 64) = true := by simpa using hN1
      have HV := hid (validG_high (l := l) hN1)
      go_enter Try.func45, Try.ntmps45
      go_wp2_with fail
      go_ret
      exact ⟨by rw [HV.out] <;> rfl, Below.refl _ _⟩
    · have d1 : decide (N > 64) = false := by simpa using hN1
      go_enter Try.func45, Try.ntmps45
      go_wp2_with fail
      go_loopw [15] (fun i wr => ∃ (k : Nat), k ≤ n ∧ i = .int .i64 k ∧ Hid ((List.range k).all (okE N l) = true) ∧ Hold M none w wr [.ro (EdsIn A n l)]) (fun i _ => n - (intOf i).toNat)
      case atStart => exact ⟨0, by omega, rfl, hid rfl, K0⟩
      case round =>
        obtain ⟨k, hk, rfl, HV, H⟩ := hrel
        obtain ⟨wo, rfl⟩ : ∃ wo : World, wo = wr := ⟨_, rfl⟩
        by_cases hlt : k < n
        · have hd : decide ((k : Int) < (n : Int)) = true := by simp; omega
          obtain ⟨x, hx⟩ := get_of HL.out hlt
          obtain ⟨g, o, rfl, hb, c0, c1⟩ := (H.ro 0 rfl).now.at_ hx
          have HX := hid (edAt_of hx); clear hx
          have K1 := H.alloc_cst #[.int .i64 x.f, .int .i64 x.t] 53
          have F1 := K1.facts
          simp only [World.size_alloc, World.size_drew, factsL, cellsF, Nat.reduceAdd, List.toList_toArray, and_true, true_and] at F1
          have i0 : (0 : Int) ≤ (k : Int) := by omega
          have i1 : (k : Int) < (n : Int) := by omega
          by_cases h1 : x.f < 0
          · have e1 : decide (x.f < 0) = true := by simpa using h1
            have HO := hid (show inE N x = false by unfold inE; rw [show decide (0 ≤ x.f) = false by simp; omega]; rfl)
            go_wp2_with fail
            go_ret
            exact ⟨by rw [validG_no (n := N) (l := l) (k := k) (by rw [HL.out]; exact hlt) (okE_in HX.out HO.out)] <;> rfl, by first | exact (K1).below | exact (K1).drew.below | exact ((K1).drewN _).below⟩
          · have e1 : decide (x.f < 0) = false := by simpa using h1
            by_cases h2 : N ≤ x.f
            · have e2 : decide (N ≤ x.f) = true := by simpa using h2
              have HO := hid (show inE N x = false by unfold inE; rw [show decide (x.f < N) = false by simp; omega]; simp)
              go_wp2_with fail
              go_ret
              exact ⟨by rw [validG_no (n := N) (l := l) (k := k) (by rw [HL.out]; exact hlt) (okE_in HX.out HO.out)] <;> rfl, by first | exact (K1).below | exact (K1).drew.below | exact ((K1).drewN _).below⟩
            · have e2 : decide (N ≤ x.f) = false := by simpa using h2
              by_cases h3 : x.t < 0
              · have e3 : decide (x.t < 0) = true := by simpa using h3
                have HO := hid (show inE N x = false by unfold inE; rw [show decide (0 ≤ x.t) = false by simp; omega]; simp)
                go_wp2_with fail
                go_ret
                exact ⟨by rw [validG_no (n := N) (l := l) (k := k) (by rw [HL.out]; exact hlt) (okE_in HX.out HO.out)] <;> rfl, by first | exact (K1).below | exact (K1).drew.below | exact ((K1).drewN _).below⟩
              · have e3 : decide (x.t < 0) = false := by simpa using h3
                by_cases h4 : N ≤ x.t
                · have e4 : decide (N ≤ x.t) = true := by simpa using h4
                  have HO := hid (show inE N x = false by unfold inE; rw [show decide (x.t < N) = false by simp; omega]; simp)
                  go_wp2_with fail
                  go_ret
                  exact ⟨by rw [validG_no (n := N) (l := l) (k := k) (by rw [HL.out]; exact hlt) (okE_in HX.out HO.out)] <;> rfl, by first | exact (K1).below | exact (K1).drew.below | exact ((K1).drewN _).below⟩
                · have e4 : decide (N ≤ x.t) = false := by simpa using h4
                  have HO := hid (show inE N x = true by unfold inE; simp; omega)
                  by_cases hk0 : k = 0
                  · have HK0 := hid hk0
                    have hkd : decide (0 < k) = false := by simp; omega
                    clear hk0
                    go_wp2_with fail
                    go_quiet (fail)
                    go_wp2_with fail
                    go_roundw
                    case rel => exact ⟨k + 1, by omega, by go_num, hid (all_up HV.out (by unfold okE; rw [HX.out, HO.out, HK0.out]; rfl)), (K1.drewN _).drop (List.sublist_cons_self _ _)⟩
                    case measure => simp [intOf]; omega
                  · obtain ⟨k, rfl⟩ : ∃ m, k = m + 1 := ⟨k - 1, by omega⟩
                    have hw : IntKind.i64.wrap (k : Int) = (k : Int) := IntWalk.i64_in _ (by omega)
                    have i0 : (0 : Int) ≤ (k : Int) := by omega
                    have i1 : (k : Int) < (n : Int) := by omega
                    have hkd : decide ((0 : Int) < (k : Int) + 1) = true := by simp
                    clear hk0
                    obtain ⟨z, hz⟩ := get_of HL.out (show k < n by omega)
                    obtain ⟨g', o', ho', hb', y0, y1⟩ := (K1.ro 1 rfl).now.at_ hz
                    obtain ⟨rfl, rfl⟩ : g = g' ∧ o = o' := by injection ho' with ho'; injection ho' with a1 a2; exact ⟨a1, a2⟩
                    clear ho'
                    have HZ := hid (edAt_of hz); clear hz
                    by_cases a1 : x.f < z.f
                    · have a2 : decide (x.f < z.f) = true := by simpa using a1
                      have HLT := hid (show edLt z x = false by unfold edLt; simp; omega)
                      clear a1
                      go_wp2_with fail
                      go_quiet (fail)
                      go_wp2_with fail
                      go_ret
                      exact ⟨by rw [validG_no (n := N) (l := l) (k := (k + 1)) (by rw [HL.out]; exact hlt) (by unfold okE; rw [HX.out, HO.out, Nat.add_sub_cancel, HZ.out, HLT.out]; simp)] <;> rfl, by first | exact (K1).below | exact (K1).drew.below | exact ((K1).drewN _).below⟩
                    · have a2 : decide (x.f < z.f) = false := by simpa using a1
                      by_cases a3 : z.f = x.f
                      · have a4 : (z.f == x.f) = true := by simpa using a3
                        by_cases a5 : x.t ≤ z.t
                        · have a6 : decide (x.t ≤ z.t) = true := by simpa using a5
                          have HLT := hid (show edLt z x = false by unfold edLt; simp; omega)
                          clear a1 a3 a5
                          go_wp2_with fail
                          go_quiet (fail)
                          go_wp2_with fail
                          go_ret
                          exact ⟨by rw [validG_no (n := N) (l := l) (k := (k + 1)) (by rw [HL.out]; exact hlt) (by unfold okE; rw [HX.out, HO.out, Nat.add_sub_cancel, HZ.out, HLT.out]; simp)] <;> rfl, by first | exact (K1).below | exact (K1).drew.below | exact ((K1).drewN _).below⟩
                        · have a6 : decide (x.t ≤ z.t) = false := by simpa using a5
                          have HLT := hid (show edLt z x = true by unfold edLt; simp; omega)
                          clear a1 a3 a5
                          go_wp2_with fail
                          go_quiet (fail)
                          go_wp2_with fail
                          go_roundw
                          case rel => exact ⟨k + 1 + 1, by omega, by go_num, hid (all_up HV.out (by unfold okE; rw [HX.out, HO.out, Nat.add_sub_cancel, HZ.out, HLT.out]; simp)), (K1.drewN _).drop (List.sublist_cons_self _ _)⟩
                          case measure => simp [intOf]; omega
                      · have a4 : (z.f == x.f) = false := by simpa using a3
                        have HLT := hid (show edLt z x = true by unfold edLt; simp; omega)
                        clear a1 a3
                        go_wp2_with fail
                        go_quiet (fail)
                        go_wp2_with fail
                        go_roundw
                        case rel => exact ⟨k + 1 + 1, by omega, by go_num, hid (all_up HV.out (by unfold okE; rw [HX.out, HO.out, Nat.add_sub_cancel, HZ.out, HLT.out]; simp)), (K1.drewN _).drop (List.sublist_cons_self _ _)⟩
                        case measure => simp [intOf]; omega
        · obtain rfl : k = n := by omega
          have hd : decide ((k : Int) < (k : Int)) = false := by simp
          go_wp2_with fail
          go_ret
          exact ⟨by rw [show validG N l = true from validG_yes (by omega) (by omega) (by rw [HL.out]; exact HV.out)] <;> rfl, H.below⟩
end Go.Proofs.Ytaefjgjojflppaa

namespace Go.Proofs.Ytaefjgjojflppaa
open Go.RowKit
set_option linter.unusedVariables false
set_option linter.unusedSimpArgs false
set_option maxHeartbeats 4000000 in
set_option maxRecDepth 100000 in
theorem gvalid_any (M : Nat → Prop) (w : World) (hM : ∀ b, M b → b < w.heap.size) (N : Int) (A : Option Addr) (n c : Nat) (l : List Ed) (hD : Ro w M (EdsIn A n l)) (hn : n ≤ 9223372036854775807) :
    Calls Try.prog 44 #[.int .i64 N, .slice A n c] w fun e w' => e = .returned (.bool (validG N l)) ∧ Below w.heap.size w w' := by
  have HL := hid hD.now.len
  have K0 := (Hold.start M w hM).add (hD.less (by simp [Mut]))
  by_cases hN0 : N < 0
  · have d0 : decide (N < 0) = true := by simpa using hN0
    have HV := hid (validG_low (l := l) hN0)
    go_enter Try.func44, Try.ntmps44
    go_wp2_with fail
    go_ret
    exact ⟨by rw [HV.out] <;> rfl, Below.refl _ _⟩
  · have d0 : decide (N < 0) = false := by simpa using hN0
    by_cases hN1 : 64 < N
    · have d1 : decide (N > 64) = true := by simpa using hN1
      have HV := hid (validG_high (l := l) hN1)
      go_enter Try.func44, Try.ntmps44
      go_wp2_with fail
      go_ret
      exact ⟨by rw [HV.out] <;> rfl, Below.refl _ _⟩
    · have d1 : decide (N > 64) = false := by simpa using hN1
      go_enter Try.func44, Try.ntmps44
      go_wp2_with fail
      go_loopw [15] (fun i wr => ∃ (k : Nat), k ≤ n ∧ i = .int .i64 k ∧ Hid ((List.range k).all (okE N l) = true) ∧ Hold M none w wr [.ro (EdsIn A n l)]) (fun i _ => n - (intOf i).toNat)
      case atStart => exact ⟨0, by omega, rfl, hid rfl, K0⟩
      case round =>
        obtain ⟨k, hk, rfl, HV, H⟩ := hrel
        obtain ⟨wo, rfl⟩ : ∃ wo : World, wo = wr := ⟨_, rfl⟩
        by_cases hlt : k < n
        · have hd : decide ((k : Int) < (n : Int)) = true := by simp; omega
          obtain ⟨x, hx⟩ := get_of HL.out hlt
          obtain ⟨g, o, rfl, hb, c0, c1⟩ := (H.ro 0 rfl).now.at_ hx
          have HX0 := hid (edAt_of hx); clear hx
          have K1 := H.alloc_cst #[.int .i64 x.f, .int .i64 x.t] 53
          have F1 := K1.facts
          simp only [World.size_alloc, World.size_drew, factsL, cellsF, Nat.reduceAdd, List.toList_toArray, and_true, true_and] at F1
          have i0 : (0 : Int) ≤ (k : Int) := by omega
          have i1 : (k : Int) < (n : Int) := by omega
          by_cases h1 : x.f < 0
          · have e1 : decide (x.f < 0) = true := by simpa using h1
            have HO := hid (show inE N x = false by unfold inE; rw [show decide (0 ≤ x.f) = false by simp; omega]; rfl)
            go_wp2_with fail
            go_quiet (fail)
            go_wp2_with fail
            go_ret
            exact ⟨by rw [validG_no (n := N) (l := l) (k := k) (by rw [HL.out]; exact hlt) (okE_in HX0.out HO.out)] <;> rfl, by first | exact (K1).below | exact (K1).drew.below | exact ((K1).drewN _).below⟩
          · have e1 : decide (x.f < 0) = false := by simpa using h1
            by_cases h2 : N ≤ x.f
            · have e2 : decide (N ≤ x.f) = true := by simpa using h2
              have HO := hid (show inE N x = false by unfold inE; rw [show decide (x.f < N) = false by simp; omega]; simp)
              go_wp2_with fail
              go_quiet (fail)
              go_wp2_with fail
              go_ret
              exact ⟨by rw [validG_no (n := N) (l := l) (k := k) (by rw [HL.out]; exact hlt) (okE_in HX0.out HO.out)] <;> rfl, by first | exact (K1).below | exact (K1).drew.below | exact ((K1).drewN _).below⟩
            · have e2 : decide (N ≤ x.f) = false := by simpa using h2
              by_cases h3 : x.t < 0
              · have e3 : decide (x.t < 0) = true := by simpa using h3
                have HO := hid (show inE N x = false by unfold inE; rw [show decide (0 ≤ x.t) = false by simp; omega]; simp)
                go_wp2_with fail
                go_quiet (fail)
                go_wp2_with fail
                go_ret
                exact ⟨by rw [validG_no (n := N) (l := l) (k := k) (by rw [HL.out]; exact hlt) (okE_in HX0.out HO.out)] <;> rfl, by first | exact (K1).below | exact (K1).drew.below | exact ((K1).drewN _).below⟩
              · have e3 : decide (x.t < 0) = false := by simpa using h3
                by_cases h4 : N ≤ x.t
                · have e4 : decide (N ≤ x.t) = true := by simpa using h4
                  have HO := hid (show inE N x = false by unfold inE; rw [show decide (x.t < N) = false by simp; omega]; simp)
                  go_wp2_with fail
                  go_quiet (fail)
                  go_wp2_with fail
                  go_ret
                  exact ⟨by rw [validG_no (n := N) (l := l) (k := k) (by rw [HL.out]; exact hlt) (okE_in HX0.out HO.out)] <;> rfl, by first | exact (K1).below | exact (K1).drew.below | exact ((K1).drewN _).below⟩
                · have e4 : decide (N ≤ x.t) = false := by simpa using h4
                  have HO := hid (show inE N x = true by unfold inE; simp; omega)
                  by_cases hk0 : k = 0
                  · have HK0 := hid hk0
                    have hkd : decide (0 < k) = false := by simp; omega
                    clear hk0
                    go_wp2_with fail
                    go_quiet (fail)
                    go_wp2_with fail
                    go_roundw
                    case rel => exact ⟨k + 1, by omega, by go_num, hid (all_up HV.out (by unfold okE; rw [HX0.out, HO.out, HK0.out]; rfl)), (K1.drewN _).drop (List.sublist_cons_self _ _)⟩
                    case measure => simp [intOf]; omega
                  · obtain ⟨k, rfl⟩ : ∃ m, k = m + 1 := ⟨k - 1, by omega⟩
                    have hw : IntKind.i64.wrap (k : Int) = (k : Int) := IntWalk.i64_in _ (by omega)
                    have i0 : (0 : Int) ≤ (k : Int) := by omega
                    have i1 : (k : Int) < (n : Int) := by omega
                    have hkd : decide ((0 : Int) < (k : Int) + 1) = true := by simp
                    clear hk0
                    obtain ⟨z, hz⟩ := get_of HL.out (show k < n by omega)
                    have HZ0 := hid hz
                    have HZ := hid (edAt_of hz); clear hz
                    have HCF : Hid (∀ wv, EdsIn (some ⟨g, o, none⟩) n l wv → wv.cell? ⟨g, o + k * 2, none⟩ = some (.int .i64 z.f) ∧ wv.cell? ⟨g, o + k * 2 + 1, none⟩ = some (.int .i64 z.t)) := hid fun wv hv => by
                      obtain ⟨g', o', ho', _, y0, y1⟩ := hv.at_ HZ0.out
                      obtain ⟨rfl, rfl⟩ : g = g' ∧ o = o' := by injection ho' with ho'; injection ho' with a1 a2; exact ⟨a1, a2⟩
                      exact ⟨y0, y1⟩
                    obtain ⟨gb, hgb⟩ : ∃ gb, gb = wo.heap.size := ⟨_, rfl⟩
                    rw [← hgb] at K1 F1
                    have HCB : Hid (∀ wv, Blk wv gb 53 #[.int .i64 x.f, .int .i64 x.t] → gb < wv.heap.size ∧ wv.cell? ⟨gb, 0, none⟩ = some (.int .i64 x.f) ∧ wv.cell? ⟨gb, 1, none⟩ = some (.int .i64 x.t)) := hid fun wv hv => ⟨Blk.lt hv, cell_of_row _ _ 0 _ _ _ hv, cell_of_row _ _ 1 _ _ _ hv⟩
                    obtain ⟨v, hv⟩ : ∃ v, v = cmpE z x := ⟨_, rfl⟩
                    have HV2 := hid hv
                    have hlt3 : decide (0 ≤ v) = !edLt z x := by rw [hv]; exact cmpE_lt z x
                    clear hv
                    go_wp2_with fail
                    rw [← hgb]
                    have HGB := hid hgb
                    clear hgb c0 c1 F1
                    generalize wo.alloc (.cells #[.int .i64 x.f, .int .i64 x.t] 53) = w1 at *
                    refine wp_region_any (by kernel_rfl) ?_
                    refine wpAny_hold 33 55 ([Hp.cst gb 53 #[.int .i64 x.f, .int .i64 x.t], Hp.ro (EdsIn (some ⟨g, o, none⟩) n l)]) (spL [(50, IsV (.int .i64 v))]) (by kernel_rfl) (by kernel_rfl) (by kernel_rfl) rfl ?_ (K1.drew) ?_
                    · exact stays_cons isV_mono (stays_nil _)
                    simp only [List.take_succ_cons, List.take_zero, List.drop_succ_cons, List.drop_zero, Act.put, List.getElem_toArray, List.getElem_cons_zero, List.getElem_cons_succ, List.setIfInBounds_toArray, List.set_cons_succ, List.set_cons_zero]
                    refine dw_val rfl rfl rfl ?_; apply Exists.intro; refine ⟨fun wv HC => ?_, ?_⟩
                    · obtain ⟨f0, f1, f2⟩ := HCB.out _ (HC.cst_ 0 rfl); go_simp <;> rfl
                    simp only [Act.put, List.setIfInBounds_toArray, List.set_cons_succ, List.set_cons_zero]
                    refine dw_val rfl rfl rfl ?_; apply Exists.intro; refine ⟨fun wv HC => ?_, ?_⟩
                    · obtain ⟨f0, f1, f2⟩ := HCB.out _ (HC.cst_ 0 rfl); go_simp <;> rfl
                    simp only [Act.put, List.setIfInBounds_toArray, List.set_cons_succ, List.set_cons_zero]
                    refine dw_val rfl rfl rfl ?_; apply Exists.intro; refine ⟨fun wv HC => ?_, ?_⟩
                    ·  go_simp <;> rfl
                    simp only [Act.put, List.setIfInBounds_toArray, List.set_cons_succ, List.set_cons_zero]
                    refine dw_val rfl rfl rfl ?_; apply Exists.intro; refine ⟨fun wv HC => ?_, ?_⟩
                    ·  go_simp <;> rfl
                    simp only [Act.put, List.setIfInBounds_toArray, List.set_cons_succ, List.set_cons_zero]
                    refine dw_val rfl rfl rfl ?_; apply Exists.intro; refine ⟨fun wv HC => ?_, ?_⟩
                    · obtain ⟨f0, f1, f2⟩ := HCB.out _ (HC.cst_ 0 rfl); go_simp <;> rfl
                    simp only [Act.put, List.setIfInBounds_toArray, List.set_cons_succ, List.set_cons_zero]
                    refine dw_val rfl rfl rfl ?_; apply Exists.intro; refine ⟨fun wv HC => ?_, ?_⟩
                    · obtain ⟨f0, f1, f2⟩ := HCB.out _ (HC.cst_ 0 rfl); go_simp <;> rfl
                    simp only [Act.put, List.setIfInBounds_toArray, List.set_cons_succ, List.set_cons_zero]
                    refine dw_val rfl rfl rfl ?_; apply Exists.intro; refine ⟨fun wv HC => ?_, ?_⟩
                    ·  go_simp <;> rfl
                    simp only [Act.put, List.setIfInBounds_toArray, List.set_cons_succ, List.set_cons_zero]
                    refine dw_val rfl rfl rfl ?_; apply Exists.intro; refine ⟨fun wv HC => ?_, ?_⟩
                    ·  go_simp <;> rfl
                    simp only [Act.put, List.setIfInBounds_toArray, List.set_cons_succ, List.set_cons_zero]
                    refine dw_val rfl rfl rfl ?_; apply Exists.intro; refine ⟨fun wv HC => ?_, ?_⟩
                    ·  go_simp <;> rfl
                    simp only [Act.put, List.setIfInBounds_toArray, List.set_cons_succ, List.set_cons_zero]
                    refine dw_val rfl rfl rfl ?_; apply Exists.intro; refine ⟨fun wv HC => ?_, ?_⟩
                    ·  go_simp <;> rfl
                    simp only [Act.put, List.setIfInBounds_toArray, List.set_cons_succ, List.set_cons_zero]
                    refine dw_val rfl rfl rfl ?_; apply Exists.intro; refine ⟨fun wv HC => ?_, ?_⟩
                    · obtain ⟨f0, f1, f2⟩ := HCB.out _ (HC.cst_ 0 rfl); go_simp <;> rfl
                    simp only [Act.put, List.setIfInBounds_toArray, List.set_cons_succ, List.set_cons_zero]
                    refine dw_val rfl rfl rfl ?_; apply Exists.intro; refine ⟨fun wv HC => ?_, ?_⟩
                    · obtain ⟨f0, f1, f2⟩ := HCB.out _ (HC.cst_ 0 rfl); go_simp <;> rfl
                    simp only [Act.put, List.setIfInBounds_toArray, List.set_cons_succ, List.set_cons_zero]
                    refine dw_val rfl rfl rfl ?_; apply Exists.intro; refine ⟨fun wv HC => ?_, ?_⟩
                    ·  go_simp <;> rfl
                    simp only [Act.put, List.setIfInBounds_toArray, List.set_cons_succ, List.set_cons_zero]
                    refine dw_val rfl rfl rfl ?_; apply Exists.intro; refine ⟨fun wv HC => ?_, ?_⟩
                    ·  go_simp <;> rfl
                    simp only [Act.put, List.setIfInBounds_toArray, List.set_cons_succ, List.set_cons_zero]
                    refine dw_val rfl rfl rfl ?_; apply Exists.intro; refine ⟨fun wv HC => ?_, ?_⟩
                    ·  go_simp <;> rfl
                    simp only [Act.put, List.setIfInBounds_toArray, List.set_cons_succ, List.set_cons_zero]
                    refine dw_val rfl rfl rfl ?_; apply Exists.intro; refine ⟨fun wv HC => ?_, ?_⟩
                    · obtain ⟨f0, f1, f2⟩ := HCB.out _ (HC.cst_ 0 rfl); go_simp <;> rfl
                    simp only [Act.put, List.setIfInBounds_toArray, List.set_cons_succ, List.set_cons_zero]
                    refine dw_val rfl rfl rfl ?_; apply Exists.intro; refine ⟨fun wv HC => ?_, ?_⟩
                    · obtain ⟨f0, f1, f2⟩ := HCB.out _ (HC.cst_ 0 rfl); go_simp <;> rfl
                    simp only [Act.put, List.setIfInBounds_toArray, List.set_cons_succ, List.set_cons_zero]
                    refine dw_val rfl rfl rfl ?_; apply Exists.intro; refine ⟨fun wv HC => ?_, ?_⟩
                    ·  go_simp <;> rfl
                    simp only [Act.put, List.setIfInBounds_toArray, List.set_cons_succ, List.set_cons_zero]
                    refine dw_val rfl rfl rfl ?_; apply Exists.intro; refine ⟨fun wv HC => ?_, ?_⟩
                    ·  go_simp <;> rfl
                    simp only [Act.put, List.setIfInBounds_toArray, List.set_cons_succ, List.set_cons_zero]
                    refine dw_val rfl rfl rfl ?_; apply Exists.intro; refine ⟨fun wv HC => ?_, ?_⟩
                    ·  go_simp <;> rfl
                    simp only [Act.put, List.setIfInBounds_toArray, List.set_cons_succ, List.set_cons_zero]
                    refine dw_val rfl rfl rfl ?_; apply Exists.intro; refine ⟨fun wv HC => ?_, ?_⟩
                    ·  go_simp <;> rfl
                    simp only [Act.put, List.setIfInBounds_toArray, List.set_cons_succ, List.set_cons_zero]
                    refine dw_val rfl rfl rfl ?_; apply Exists.intro; refine ⟨fun wv HC => ?_, ?_⟩
                    ·  go_simp <;> rfl
                    simp only [Act.put, List.setIfInBounds_toArray, List.set_cons_succ, List.set_cons_zero]
                    refine dw_val rfl rfl rfl ?_; apply Exists.intro; refine ⟨fun wv HC => ?_, ?_⟩
                    ·  go_simp <;> rfl
                    simp only [Act.put, List.setIfInBounds_toArray, List.set_cons_succ, List.set_cons_zero]
                    refine dw_val rfl rfl rfl ?_; apply Exists.intro; refine ⟨fun wv HC => ?_, ?_⟩
                    ·  go_simp <;> rfl
                    simp only [Act.put, List.setIfInBounds_toArray, List.set_cons_succ, List.set_cons_zero]
                    refine dw_val rfl rfl rfl ?_; apply Exists.intro; refine ⟨fun wv HC => ?_, ?_⟩
                    ·  go_simp <;> rfl
                    simp only [Act.put, List.setIfInBounds_toArray, List.set_cons_succ, List.set_cons_zero]
                    refine dw_val rfl rfl rfl ?_; apply Exists.intro; refine ⟨fun wv HC => ?_, ?_⟩
                    ·  go_simp <;> rfl
                    simp only [Act.put, List.setIfInBounds_toArray, List.set_cons_succ, List.set_cons_zero]
                    refine dw_val rfl rfl rfl ?_; apply Exists.intro; refine ⟨fun wv HC => ?_, ?_⟩
                    ·  go_simp <;> rfl
                    simp only [Act.put, List.setIfInBounds_toArray, List.set_cons_succ, List.set_cons_zero]
                    refine dw_val rfl rfl rfl ?_; apply Exists.intro; refine ⟨fun wv HC => ?_, ?_⟩
                    ·  go_simp <;> rfl
                    simp only [Act.put, List.setIfInBounds_toArray, List.set_cons_succ, List.set_cons_zero]
                    refine dw_val rfl rfl rfl ?_; apply Exists.intro; refine ⟨fun wv HC => ?_, ?_⟩
                    · obtain ⟨f4, f5⟩ := HCF.out _ (HC.ro 1 rfl).now; go_simp <;> rfl
                    simp only [Act.put, List.setIfInBounds_toArray, List.set_cons_succ, List.set_cons_zero]
                    refine dw_val rfl rfl rfl ?_; apply Exists.intro; refine ⟨fun wv HC => ?_, ?_⟩
                    · obtain ⟨f0, f1, f2⟩ := HCB.out _ (HC.cst_ 0 rfl); go_simp <;> rfl
                    simp only [Act.put, List.setIfInBounds_toArray, List.set_cons_succ, List.set_cons_zero]
                    refine dw_callR 50 (IsV (.int .i64 v)) (f := 59) (args := #[.agg #[.int .i64 z.f, .int .i64 z.t], .agg #[.int .i64 x.f, .int .i64 x.t]]) rfl rfl rfl rfl (fun wv => ?_) (fun wv HC hrm hD => ?_) ?_
                    · go_simp <;> rfl
                    · refine (compare_any z x wv).mono ?_
                      rintro e w5 ⟨rfl, b5⟩
                      exact ⟨_, rfl, by rw [HV2.out]; rfl, HC.call b5, RM.below b5⟩
                    rintro u wx HCx hu
                    obtain rfl : u = _ := hu
                    clear HCx
                    simp only [Act.put, List.setIfInBounds_toArray, List.set_cons_succ, List.set_cons_zero]
                    refine dw_val rfl rfl rfl ?_; apply Exists.intro; refine ⟨fun wv HC => ?_, ?_⟩
                    ·  go_simp <;> rfl
                    simp only [Act.put, List.setIfInBounds_toArray, List.set_cons_succ, List.set_cons_zero]
                    refine dw_val rfl rfl rfl ?_; apply Exists.intro; refine ⟨fun wv HC => ?_, ?_⟩
                    ·  go_simp <;> rfl
                    simp only [Act.put, List.setIfInBounds_toArray, List.set_cons_succ, List.set_cons_zero]
                    refine rel_nil ?_
                    rintro wx2 HX
                    rintro _hrm HGG
                    clear HGG _hrm
                    cases hl : edLt z x
                    · have HLT := hid hl; clear hl
                      go_wp2_with fail
                      go_ret
                      exact ⟨by rw [validG_no (n := N) (l := l) (k := (k + 1)) (by rw [HL.out]; exact hlt) (by unfold okE; rw [HX0.out, HO.out, Nat.add_sub_cancel, HZ.out, HLT.out]; simp)] <;> rfl, by first | exact (HX).below | exact (HX).drew.below | exact ((HX).drewN _).below⟩
                    · have HLT := hid hl; clear hl
                      go_wp2_with fail
                      go_roundw
                      case rel => exact ⟨k + 1 + 1, by omega, by go_num, hid (all_up HV.out (by unfold okE; rw [HX0.out, HO.out, Nat.add_sub_cancel, HZ.out, HLT.out]; simp)), HX.drop (List.sublist_cons_self _ _)⟩
                      case measure => simp [intOf]; omega
        · obtain rfl : k = n := by omega
          have hd : decide ((k : Int) < (k : Int)) = false := by simp
          go_wp2_with fail
          go_ret
          exact ⟨by rw [show validG N l = true from validG_yes (by omega) (by omega) (by rw [HL.out]; exact HV.out)] <;> rfl, H.below⟩
end Go.Proofs.Ytaefjgjojflppaa

namespace Go.Proofs.Ytaefjgjojflppaa
open Go.RowKit
set_option linter.unusedVariables false
set_option linter.unusedSimpArgs false

def stepE (a : Int) (out : List Bool) (e : Ed) : List Bool := if e.f == a || out.getD e.f.toNat false then out.set e.t.toNat true else out
def rnd (l : List Ed) (a : Int) (n : Nat) : Nat → List Bool
  | 0 => List.replicate n false
  | r + 1 => l.foldl (stepE a) (rnd l a n r)
def reachL (n : Nat) (l : List Ed) (a : Int) : List Bool := rnd l a n (n + 1)
theorem stepE_len (a : Int) (out : List Bool) (e : Ed) : (stepE a out e).length = out.length := by unfold stepE; split <;> simp
theorem foldE_len (a : Int) : ∀ (l : List Ed) (out : List Bool), (l.foldl (stepE a) out).length = out.length
  | [], _ => rfl
  | e :: l, out => by rw [List.foldl_cons, foldE_len a l, stepE_len]
theorem rnd_len (l : List Ed) (a : Int) (n : Nat) : ∀ r, (rnd l a n r).length = n
  | 0 => by simp [rnd]
  | r + 1 => by rw [rnd, foldE_len, rnd_len l a n r]
theorem fold_snoc {l : List Ed} {k : Nat} {x : Ed} (a : Int) (out : List Bool) (hx : l[k]? = some x) : (l.take (k + 1)).foldl (stepE a) out = stepE a ((l.take k).foldl (stepE a) out) x := by
  rw [List.take_add_one, hx, List.foldl_append]; rfl
theorem valid_in {n : Int} {l : List Ed} (h : validG n l = true) {x : Ed} (hx : x ∈ l) : 0 ≤ x.f ∧ x.f < n ∧ 0 ≤ x.t ∧ x.t < n := by
  obtain ⟨i, hi, rfl⟩ := List.getElem_of_mem hx
  unfold validG at h
  simp only [Bool.and_eq_true, List.all_eq_true] at h
  have := h.2 i (List.mem_range.2 hi)
  unfold okE at this
  rw [show edAt l i = l[i] by simp [edAt, List.getD, hi]] at this
  simp only [inE, Bool.and_eq_true, decide_eq_true_eq] at this
  exact ⟨this.1.1.1.1, this.1.1.1.2, this.1.1.2, this.1.2⟩
/-- A list of marks handed back. -/
def BsRet (w : World) (M : Nat → Prop) (xs : List Bool) (e : Ending) (w' : World) : Prop :=
  ∃ (A : Option Addr) (n c : Nat), e = .returned (.slice A n c) ∧ n = xs.length ∧ Ro w' M (SlR 1 A n (bCells xs)) ∧ Below w.heap.size w w'
set_option maxHeartbeats 4000000 in
set_option maxRecDepth 100000 in
theorem rreach_any (M : Nat → Prop) (w : World) (hM : ∀ b, M b → b < w.heap.size) (N : Nat) (A : Option Addr) (n c : Nat) (l : List Ed) (a : Int) (hD : Ro w M (EdsIn A n l)) (hv : validG N l = true) (hN : N ≤ 64) (hn : n ≤ 1000000) :
    Calls Try.prog 60 #[.int .i64 N, .slice A n c, .int .i64 a] w fun e w' => BsRet w M (reachL N l a) e w' := by
  have HL := hid hD.now.len
  have HVV := hid hv; clear hv
  have K0 := (Hold.start M w hM).add (hD.less (by simp [Mut]))
  go_enter Try.func60, Try.ntmps60
  go_wp2_with (at_make; go_must (refine wpList_makeH K0 Try.elBool rfl (.tmp 11) (.tmp 11) rfl N rfl rfl (by omega) (by unfold maxLen; omega) ?_); intro u w1 hu K1; (have HU := hid hu); clear hu)
  rw [made_false] at K1
  clear K0
  go_loopw [8] (fun i wr => ∃ r : Nat, r ≤ N + 1 ∧ i = .int .i64 r ∧ Hold M none w wr [.own 4 1 (.slice (some ⟨u, 0, none⟩) N N) N (bCells (rnd l a N r)), .ro (EdsIn A n l)]) (fun i _ => N + 1 - (intOf i).toNat)
  case atStart => exact ⟨0, by omega, rfl, K1⟩
  case round =>
    clear K1
    obtain ⟨r, hr, rfl, H⟩ := hrel
    by_cases hlt : r < N + 1
    · have hd : decide ((r : Int) ≤ (N : Int)) = true := by simp; omega
      go_wp2_with fail
      go_loopw [20] (fun i wr => ∃ j : Nat, j ≤ n ∧ i = .int .i64 j ∧ Hold M none w wr [.own 4 1 (.slice (some ⟨u, 0, none⟩) N N) N (bCells ((l.take j).foldl (stepE a) (rnd l a N r))), .ro (EdsIn A n l)]) (fun i _ => n - (intOf i).toNat)
      case atStart => exact ⟨0, by omega, rfl, H⟩
      case round =>
        clear H
        obtain ⟨j, hj, rfl, H⟩ := hrel
        by_cases hlt2 : j < n
        · have hd2 : decide ((j : Int) < (n : Int)) = true := by simp; omega
          obtain ⟨x, hx⟩ := get_of HL.out hlt2
          obtain ⟨v1, v2, v3, v4⟩ := valid_in HVV.out (List.mem_of_getElem? hx)
          obtain ⟨g, o, rfl, hb, c0, c1⟩ := (H.ro 1 rfl).now.at_ hx
          have HS := hid (fold_snoc a (rnd l a N r) hx)
          clear hx
          obtain ⟨f, t⟩ := x
          simp only at v1 v2 v3 v4 c0 c1
          obtain ⟨f, rfl⟩ := Int.eq_ofNat_of_zero_le v1
          obtain ⟨t, rfl⟩ := Int.eq_ofNat_of_zero_le v3
          have hof : f < N := by omega
          have hot : t < N := by omega
          generalize hcu : (l.take j).foldl (stepE a) (rnd l a N r) = cur at *
          have HCL := hid (show cur.length = N by rw [← hcu, foldE_len, rnd_len])
          clear hcu
          have K1 := H.alloc_cst #[.int .i64 (f : Int), .int .i64 (t : Int)] 53
          have cf : wr.cell? ⟨u, f, none⟩ = some (.bool (cur.getD f false)) := by
            rw [(H.get 0 rfl).cellAt f (by omega)]
            simp [bCells, List.getD, HCL.out, hof]
          obtain ⟨y, ct⟩ : ∃ y, wr.cell? ⟨u, t, none⟩ = some y := ⟨_, ((H.get 0 rfl).cellAt t (by omega)).trans (List.getElem?_eq_getElem (by rw [bCells_len, HCL.out]; omega))⟩
          have ft := (H.get 0 rfl).frozenAt t
          have hul : u < wr.heap.size := (H.fresh _ (List.mem_cons_self ..) u rfl).2
          have K2 := (H.put_ 0 rfl t (.bool true)).alloc_cst #[.int .i64 (f : Int), .int .i64 (t : Int)] 53
          rw [bCells_set] at K2
          cases h1 : ((f : Int) == a)
          · cases h2 : cur.getD f false
            · rw [h2] at cf
              have HS2 := hid (show stepE a cur ⟨f, t⟩ = cur by show (if ((f : Int) == a || cur.getD ((f : Int).toNat) false) = true then _ else _) = _; rw [Int.toNat_natCast, h1, h2]; rfl)
              clear h2
              go_wp2_with fail
              go_roundw
              case rel => exact ⟨j + 1, by omega, by go_num, by rw [HS.out, HS2.out]; exact K1.drop (List.sublist_cons_self _ _)⟩
              case measure => simp [intOf]; omega
            · rw [h2] at cf
              have HS2 := hid (show stepE a cur ⟨f, t⟩ = cur.set t true by show (if ((f : Int) == a || cur.getD ((f : Int).toNat) false) = true then _ else _) = _; rw [Int.toNat_natCast, h1, h2]; rfl)
              clear h2
              go_wp2_with fail
              go_roundw
              case rel => exact ⟨j + 1, by omega, by go_num, by rw [HS.out, HS2.out]; exact K2.drop (List.sublist_cons_self _ _)⟩
              case measure => simp [intOf]; omega
          · have HS2 := hid (show stepE a cur ⟨f, t⟩ = cur.set t true by show (if ((f : Int) == a || cur.getD ((f : Int).toNat) false) = true then _ else _) = _; rw [Int.toNat_natCast, h1]; rfl)
            go_wp2_with fail
            go_roundw
            case rel => exact ⟨j + 1, by omega, by go_num, by rw [HS.out, HS2.out]; exact K2.drop (List.sublist_cons_self _ _)⟩
            case measure => simp [intOf]; omega
        · obtain rfl : n = j := by omega
          have hd2 : decide ((n : Int) < (n : Int)) = false := by simp
          rw [List.take_of_length_le (show l.length ≤ n by rw [HL.out]; exact Nat.le_refl _)] at H
          go_wp2_with fail
          go_roundw
          case rel => exact ⟨r + 1, by omega, by go_num, H⟩
          case measure => simp [intOf]; omega
    · obtain rfl : r = N + 1 := by omega
      have hd : decide (((N + 1 : Nat) : Int) ≤ (N : Int)) = false := by simp; omega
      have KS := H.sealRow 0 rfl
      go_wp2_with fail
      go_ret
      exact ⟨_, N, N, by first | rfl | simp, (rnd_len l a N (N + 1)).symm, KS.roOut 0 rfl, KS.below⟩
end Go.Proofs.Ytaefjgjojflppaa

namespace Go.Proofs.Ytaefjgjojflppaa
open Go.RowKit
set_option linter.unusedVariables false
set_option linter.unusedSimpArgs false

def befB (x y : Lk) : Bool := Op.bytesLess x.a.toList y.a.toList || (x.a.toList == y.a.toList && Op.bytesLess x.b.toList y.b.toList)
def lkEq (x y : Lk) : Bool := x.a.toList == y.a.toList && x.b.toList == y.b.toList
theorem Try.elLink : ElemT Try.prog 24 30 2 32 (.agg #[.string ⟨#[]⟩, .string ⟨#[]⟩]) := ⟨Try.underlying24, by kernel_rfl, rfl, by omega⟩
theorem one_lk (a b : ByteArray) : ∀ u ∈ (#[Value.string a, Value.string b]).toList, u.oneCell' = true := by intro u hu; simp at hu; rcases hu with rfl | rfl <;> rfl
theorem lkCells_snoc (l : List Lk) (x : Lk) : lkCells l ++ (#[Value.string x.a, Value.string x.b]).toList = lkCells (l ++ [x]) := by simp [lkCells, Lk.cells]

set_option maxHeartbeats 1000000 in
theorem before_any (x y : Lk) (w : World) :
    Calls Try.prog 63 #[.agg #[.string x.a, .string x.b], .agg #[.string y.a, .string y.b]] w fun e w' => e = .returned (.bool (befB x y)) ∧ Below w.heap.size w w' := by
  obtain ⟨xa, xb⟩ := x
  obtain ⟨ya, yb⟩ := y
  cases h1 : Op.bytesLess xa.toList ya.toList <;> cases h2 : (xa.toList == ya.toList) <;> cases h3 : Op.bytesLess xb.toList yb.toList
  all_goals
    go_enter Try.func63, Try.ntmps63
    go_wp2_with fail
    go_ret
    exact ⟨by simp only [befB, h1, h2, h3] <;> rfl, ext2 _ _ _⟩

def insStep (x : Lk) (s : List Lk × Bool) (y : Lk) : List Lk × Bool := ((if s.2 || befB y x then s.1 else s.1 ++ [x]) ++ (if lkEq y x then [] else [y]), s.2 || !befB y x)
def insS (x : Lk) (l : List Lk) (k : Nat) : List Lk × Bool := (l.take k).foldl (insStep x) ([], false)
def insL (x : Lk) (l : List Lk) : List Lk := if (insS x l l.length).2 then (insS x l l.length).1 else (insS x l l.length).1 ++ [x]
theorem insS_succ (x : Lk) {l : List Lk} {k : Nat} {y : Lk} (hy : l[k]? = some y) : insS x l (k + 1) = insStep x (insS x l k) y := by
  obtain ⟨hk, rfl⟩ := List.getElem?_eq_some_iff.1 hy
  unfold insS
  rw [List.take_succ_eq_append_getElem hk, List.foldl_append]
  rfl
theorem insS_le (x : Lk) (l : List Lk) : ∀ k, (insS x l k).1.length ≤ 2 * k
  | 0 => by simp [insS]
  | k + 1 => by
    by_cases h : k < l.length
    · rw [insS_succ x (List.getElem?_eq_getElem h)]
      have := insS_le x l k
      unfold insStep
      split <;> split <;> simp <;> omega
    · have : insS x l (k + 1) = insS x l k := by unfold insS; rw [List.take_of_length_le (by omega), List.take_of_length_le (by omega)]
      rw [this]; have := insS_le x l k; omega

/-- A list of links handed back, in memory that nobody writes. -/
def LksRet (w : World) (M : Nat → Prop) (l : List Lk) (e : Ending) (w' : World) : Prop :=
  ∃ (A : Option Addr) (n c : Nat), e = .returned (.slice A n c) ∧ n = l.length ∧ n ≤ c ∧ c ≤ 9223372036854775807 ∧ Ro w' M (LksIn A n l) ∧ Below w.heap.size w w'

set_option maxHeartbeats 4000000 in
theorem insert_any (M : Nat → Prop) (w : World) (hM : ∀ b, M b → b < w.heap.size) (A : Option Addr) (n c : Nat) (l : List Lk) (x : Lk) (hD : Ro w M (LksIn A n l)) (hn : n ≤ 1000000) :
    Calls Try.prog 57 #[.slice A n c, .agg #[.string x.a, .string x.b]] w fun e w' => LksRet w M (insL x l) e w' := by
  have HL := hid hD.now.len
  have K0 := ((((Hold.start M w hM).add (hD.less (by simp [Mut]))).nil 30 2)).alloc_cst #[.string x.a, .string x.b] 30
  go_enter Try.func57, Try.ntmps57
  go_wp2_with fail
  go_loopw [5, 6, 11] (fun out d i wr => ∃ (k cap q : Nat) (C : Option Addr) (o : List Lk) (dn : Bool), k ≤ n ∧ i = .int .i64 k ∧ out = .slice C q cap ∧ d = .bool dn ∧ Hid (q = o.length) ∧ Hid (insS x l k = (o, dn)) ∧
    Hold M none w wr [.cst w.heap.size 30 #[.string x.a, .string x.b], .own 30 2 (.slice C q cap) q (lkCells o), .ro (LksIn A n l)]) (fun _ _ i _ => n - (intOf i).toNat)
  case atStart => exact ⟨0, 0, 0, none, [], false, by omega, rfl, rfl, rfl, hid rfl, hid rfl, K0⟩
  case round =>
    obtain ⟨k, cap, q, C, o, dn, hk, rfl, rfl, rfl, HQ, HS, H⟩ := hrel
    have hqk : q ≤ 2 * k := by have := insS_le x l k; rw [HS.out] at this; have := HQ.out; simp at *; omega
    by_cases hlt : k < n
    · have hd : decide ((k : Int) < (n : Int)) = true := by simp; omega
      obtain ⟨y, hy⟩ := get_of HL.out hlt
      obtain ⟨g, oo, rfl, hb, c0, c1⟩ := (H.ro 2 rfl).now.at_ hy
      have HN := hid (insS_succ x hy); clear hy
      have F := H.facts
      simp only [World.size_alloc, World.size_drew, factsL, cellsF, Nat.reduceAdd, List.toList_toArray, and_true, true_and] at F
      have K1 := H.alloc_cst #[.string y.a, .string y.b] 30
      have F1 := K1.facts
      simp only [World.size_alloc, World.size_drew, factsL, cellsF, Nat.reduceAdd, List.toList_toArray, and_true, true_and] at F1
      cases h1 : (y.a.toList == x.a.toList) <;> cases h2 : (y.b.toList == x.b.toList)
      all_goals
        have heq : lkEq y x = (y.a.toList == x.a.toList && y.b.toList == x.b.toList) := rfl
        rw [h1, h2] at heq
        simp only [Bool.and_true, Bool.and_false, Bool.and_self] at heq
        have HE := hid heq
        clear heq
        cases dn
        · cases hbf : befB y x
          all_goals
            have HBF := hid hbf
            go_wp2_with fail
            refine (before_any y x _).mono ?_
            rintro e wb ⟨rfl, bb⟩
            rw [HBF.out]
            have KB := K1.call bb
            clear bb F F1
            have FB := KB.facts
            simp only [World.size_alloc, World.size_drew, factsL, cellsF, Nat.reduceAdd, List.toList_toArray, List.set_cons_zero, List.set_cons_succ, List.setIfInBounds_toArray, and_true, true_and] at FB
            clear hbf
            first
              | (go_wp2_with (first
                  | (at_builtin; refine wpList_appH KB 2 rfl Try.elLink #[.string x.a, .string x.b] rfl (.tmp 23) (.tmp 25) rfl rfl wb.heap.size rfl rfl rfl (one_lk _ _) (by omega) (by omega) ?_; intro g2 cap2 w2 hc2 hm2 K2; (have F2 := K2.facts); simp only [World.size_alloc, World.size_drew, factsL, cellsF, Nat.reduceAdd, List.toList_toArray, List.set_cons_zero, List.set_cons_succ, and_true, true_and] at F2)
                  | (at_builtin; refine wpList_appH KB 2 rfl Try.elLink #[.string y.a, .string y.b] rfl (.tmp 30) (.tmp 32) rfl rfl wb.heap.size rfl rfl rfl (one_lk _ _) (by omega) (by omega) ?_; intro g3 cap3 w3 hc3 hm3 K3)
                  | (at_builtin; refine wpList_appH K2 2 rfl Try.elLink #[.string y.a, .string y.b] rfl (.tmp 30) (.tmp 32) rfl rfl w2.heap.size rfl rfl rfl (one_lk _ _) (by omega) (by omega) ?_; intro g3 cap3 w3 hc3 hm3 K3)))
            go_roundw
            case measure => simp [intOf]; omega
            case rel =>
              first
                | (refine ⟨k + 1, _, _, _, o ++ [x] ++ [y], true, by omega, by go_num, rfl, rfl, hid (by simp [HQ.out]), hid (by rw [HN.out, HS.out]; simp [insStep, HBF.out, HE.out]), ?_⟩; rw [← lkCells_snoc, ← lkCells_snoc]; exact K3.drop (List.sublist_cons_self _ _))
                | (refine ⟨k + 1, _, _, _, o ++ [x], true, by omega, by go_num, rfl, rfl, hid (by simp [HQ.out]), hid (by rw [HN.out, HS.out]; simp [insStep, HBF.out, HE.out]), ?_⟩; rw [← lkCells_snoc]; exact K2.drop (List.sublist_cons_self _ _))
                | (refine ⟨k + 1, _, _, _, o ++ [y], false, by omega, by go_num, rfl, rfl, hid (by simp [HQ.out]), hid (by rw [HN.out, HS.out]; simp [insStep, HBF.out, HE.out]), ?_⟩; rw [← lkCells_snoc]; exact K3.drop (List.sublist_cons_self _ _))
                | (refine ⟨k + 1, _, _, _, o, false, by omega, by go_num, rfl, rfl, hid (by simp [HQ.out]), hid (by rw [HN.out, HS.out]; simp [insStep, HBF.out, HE.out]), ?_⟩; exact KB.drop (List.sublist_cons_self _ _))
        · go_wp2_with (at_builtin; refine wpList_appH K1 2 rfl Try.elLink #[.string y.a, .string y.b] rfl (.tmp 30) (.tmp 32) rfl rfl (wr.heap.size + 1) (by simp) rfl rfl (one_lk _ _) (by omega) (by omega) ?_; intro g3 cap3 w3 hc3 hm3 K3)
          go_roundw
          case measure => simp [intOf]; omega
          case rel =>
            first
              | (refine ⟨k + 1, _, _, _, o ++ [y], true, by omega, by go_num, rfl, rfl, hid (by simp [HQ.out]), hid (by rw [HN.out, HS.out]; simp [insStep, HE.out]), ?_⟩; rw [← lkCells_snoc]; exact K3.drop (List.sublist_cons_self _ _))
              | (refine ⟨k + 1, _, _, _, o, true, by omega, by go_num, rfl, rfl, hid (by simp [HQ.out]), hid (by rw [HN.out, HS.out]; simp [insStep, HE.out]), ?_⟩; exact K1.drop (List.sublist_cons_self _ _))
    · obtain rfl : k = n := by omega
      have HI : Hid (insL x l = if dn then o else o ++ [x]) := by unfold Hid insL; rw [HL.out, HS.out]
      have F := H.facts
      simp only [World.size_alloc, World.size_drew, factsL, cellsF, Nat.reduceAdd, List.toList_toArray, and_true, true_and] at F
      have hcap := own_caps (H.get 1 rfl)
      cases dn
      · go_wp2_with (at_builtin; refine wpList_appH H 1 rfl Try.elLink #[.string x.a, .string x.b] rfl (.tmp 37) (.tmp 39) rfl rfl wr.heap.size rfl rfl rfl (one_lk _ _) (by omega) (by omega) ?_; intro g3 cap3 w3 hc3 hm3 K3)
        have KS := K3.sealRow 1 rfl
        go_ret
        have e : insL x l = o ++ [x] := HI.out
        exact ⟨_, _, _, rfl, by rw [e, HQ.out]; simp, hc3, hm3, by rw [e]; unfold LksIn; rw [← lkCells_snoc]; exact KS.roOut 1 rfl, KS.below⟩
      · have KS := H.sealRow 1 rfl
        go_wp2_with fail
        go_ret
        have e : insL x l = o := HI.out
        exact ⟨_, _, _, rfl, by rw [e]; exact HQ.out, hcap.1, hcap.2.1, by rw [e]; exact KS.roOut 1 rfl, KS.below⟩
end Go.Proofs.Ytaefjgjojflppaa

namespace Go.Proofs.Ytaefjgjojflppaa
open Go.RowKit
set_option linter.unusedVariables false
set_option linter.unusedSimpArgs false

def lkAt (l : List Lk) (i : Nat) : Lk := l.getD i ⟨⟨#[]⟩, ⟨#[]⟩⟩
theorem lkAt_of {l : List Lk} {i : Nat} {x : Lk} (h : l[i]? = some x) : lkAt l i = x := by simp [lkAt, List.getD, h]
/-- the link x follows on y, or the link that it asks is there -/
def trB (l : List Lk) (x y : Lk) : Bool := !(x.b.toList == y.a.toList) || precB l x.a y.b
def okAt (l : List Lk) (i : Nat) : Bool := !((lkAt l i).a.toList == (lkAt l i).b.toList) && (i == 0 || befB (lkAt l (i - 1)) (lkAt l i)) && l.all (trB l (lkAt l i))
def validB (l : List Lk) : Bool := (List.range l.length).all (okAt l)
theorem all_succ {p : Nat → Bool} {k : Nat} (h : (List.range k).all p = true) (hp : p k = true) : (List.range (k + 1)).all p = true := by
  rw [List.range_succ, List.all_append, h]; simpa using hp
theorem all_no {p : Nat → Bool} {k n : Nat} (hk : k < n) (hp : p k = false) : (List.range n).all p = false := by
  rw [List.all_eq_false]; exact ⟨k, by simpa using hk, by simp [hp]⟩
theorem take_all {α : Type} {p : α → Bool} {l : List α} {k : Nat} {x : α} (h : (l.take k).all p = true) (hx : l[k]? = some x) (hp : p x = true) : (l.take (k + 1)).all p = true := by
  obtain ⟨hk, rfl⟩ := List.getElem?_eq_some_iff.1 hx
  rw [List.take_succ_eq_append_getElem hk, List.all_append, h]; simpa using hp
theorem all_miss {α : Type} {p : α → Bool} {l : List α} {k : Nat} {x : α} (hx : l[k]? = some x) (hp : p x = false) : l.all p = false := by
  rw [List.all_eq_false]; exact ⟨x, List.mem_of_getElem? hx, by simp [hp]⟩

set_option maxHeartbeats 4000000 in
set_option maxRecDepth 100000 in
theorem rvalid_any (M : Nat → Prop) (w : World) (hM : ∀ b, M b → b < w.heap.size) (A : Option Addr) (n c : Nat) (l : List Lk) (hD : Ro w M (LksIn A n l)) (hn : n ≤ 1000000) :
    Calls Try.prog 56 #[.slice A n c] w fun e w' => e = .returned (.bool (validB l)) ∧ Below w.heap.size w w' := by
  have HL := hid hD.now.len
  have K0 := (Hold.start M w hM).add (hD.less (by simp [Mut]))
  go_enter Try.func56, Try.ntmps56
  go_wp2_with fail
  go_loopw [9] (fun i wr => ∃ (k : Nat), k ≤ n ∧ i = .int .i64 k ∧ Hid ((List.range k).all (okAt l) = true) ∧ Hold M none w wr [.ro (LksIn A n l)]) (fun i _ => n - (intOf i).toNat)
  case atStart => exact ⟨0, by omega, rfl, hid rfl, K0⟩
  case round =>
    obtain ⟨k, hk, rfl, HV, H⟩ := hrel
    obtain ⟨wo, rfl⟩ : ∃ wo : World, wo = wr := ⟨_, rfl⟩
    by_cases hlt : k < n
    · have hd : decide ((k : Int) < (n : Int)) = true := by simp; omega
      obtain ⟨x, hx⟩ := get_of HL.out hlt
      obtain ⟨g, o, rfl, hb, c0, c1⟩ := (H.ro 0 rfl).now.at_ hx
      have HX := hid (lkAt_of hx); clear hx
      have K1 := H.alloc_cst #[.string x.a, .string x.b] 30
      have F1 := K1.facts
      simp only [World.size_alloc, World.size_drew, factsL, cellsF, Nat.reduceAdd, List.toList_toArray, and_true, true_and] at F1
      have HB0 := hid (And.intro c0 c1)
      cases hs : (x.a.toList == x.b.toList)
      · by_cases hk0 : k = 0
        · have hkd : decide (0 < k) = false := by simp; omega
          have HK0 := hid hk0
          have HSF := hid hs
          clear hk0
          go_wp2_with fail
          go_quiet (fail)
          go_wp2_with fail
          go_loopw [35] (fun j wq => ∃ p : Nat, p ≤ n ∧ j = .int .i64 p ∧ Hid ((l.take p).all (trB l x) = true) ∧ Hold M none w wq [.cst wo.heap.size 30 #[.string x.a, .string x.b], .ro (LksIn (some ⟨g, o, none⟩) n l)]) (fun j _ => n - (intOf j).toNat)
          case atStart => exact ⟨0, by omega, rfl, hid rfl, K1.drewN _⟩
          case round =>
            obtain ⟨p, hp, rfl, HP, H2⟩ := hrel
            by_cases hlt2 : p < n
            · have hd2 : decide ((p : Int) < (n : Int)) = true := by simp; omega
              obtain ⟨y, hy⟩ := get_of HL.out hlt2
              obtain ⟨g', o', ho', hb', e0, e1⟩ := (H2.ro 1 rfl).now.at_ hy
              obtain ⟨rfl, rfl⟩ : g = g' ∧ o = o' := by injection ho' with ho'; injection ho' with a1 a2; exact ⟨a1, a2⟩
              clear ho'
              have HY := hid hy; clear hy
              have K2 := H2.alloc_cst #[.string y.a, .string y.b] 30
              have F2 := H2.facts
              simp only [World.size_alloc, World.size_drew, factsL, cellsF, Nat.reduceAdd, List.toList_toArray, and_true, true_and] at F2
              cases h4 : (x.b.toList == y.a.toList)
              · have HT := hid (show trB l x y = true by simp only [trB, h4]; rfl)
                go_wp2_with fail
                go_roundw
                case rel => exact ⟨p + 1, by omega, by go_num, hid (take_all HP.out HY.out HT.out), K2.drop (List.sublist_cons_self _ _)⟩
                case measure => simp [intOf]; omega
              · cases hpr : precB l x.a y.b
                · have HT := hid (show trB l x y = false by simp only [trB, h4, hpr]; rfl)
                  go_wp2_with (go_at_call 21; refine (rprec_any (Mut M _) _ K2.mutLt _ n c l x.a y.b (K2.ro 2 rfl) (by omega)).mono ?_; rintro e w5 ⟨rfl, b5⟩; have K5 := K2.call b5; rw [hpr])
                  go_ret
                  exact ⟨by rw [show validB l = false from all_no (k := k) (by rw [HL.out]; exact hlt) (by unfold okAt; rw [HX.out, all_miss HY.out HT.out]; simp)] <;> rfl, K5.below⟩
                · have HT := hid (show trB l x y = true by simp only [trB, h4, hpr]; rfl)
                  go_wp2_with (go_at_call 21; refine (rprec_any (Mut M _) _ K2.mutLt _ n c l x.a y.b (K2.ro 2 rfl) (by omega)).mono ?_; rintro e w5 ⟨rfl, b5⟩; have K5 := K2.call b5; rw [hpr])
                  go_roundw
                  case rel => exact ⟨p + 1, by omega, by go_num, hid (take_all HP.out HY.out HT.out), K5.drop (List.sublist_cons_self _ _)⟩
                  case measure => simp [intOf]; omega
            · obtain rfl : n = p := by omega
              have HPA := HP.out
              rw [List.take_of_length_le (by rw [HL.out]; omega)] at HPA
              have HPB := hid HPA; clear HPA
              go_wp2_with fail
              go_roundw
              case rel => exact ⟨k + 1, by omega, by go_num, hid (all_succ HV.out (by unfold okAt; rw [HX.out, HPB.out, HSF.out]; simp [HK0.out])), H2.drop (List.sublist_cons_self _ _)⟩
              case measure => simp [intOf]; omega
        · obtain ⟨k, rfl⟩ : ∃ m, k = m + 1 := ⟨k - 1, by omega⟩
          have HSF := hid hs
          have hw : IntKind.i64.wrap (k : Int) = (k : Int) := IntWalk.i64_in _ (by omega)
          have i0 : (0 : Int) ≤ (k : Int) := by omega
          have i1 : (k : Int) < (n : Int) := by omega
          have hkd : decide ((0 : Int) < (k : Int) + 1) = true := by simp
          clear hk0
          obtain ⟨z, hz⟩ := get_of HL.out (show k < n by omega)
          obtain ⟨g', o', ho', hb', e0, e1⟩ := (K1.ro 1 rfl).now.at_ hz
          obtain ⟨rfl, rfl⟩ : g = g' ∧ o = o' := by injection ho' with ho'; injection ho' with a1 a2; exact ⟨a1, a2⟩
          clear ho'
          have HZ := hid (lkAt_of hz); clear hz
          cases hbf : befB z x
          · have HBF := hid hbf
            go_wp2_with fail
            generalize wo.alloc (.cells #[.string x.a, .string x.b] 30) = w1 at *
            go_still_tail 15, (by kernel_rfl)
            change wpList _ _ _ _ _ (World.drew _)
            go_wp2_with (go_at_call 63; refine (before_any z x _).mono ?_; rintro e w5 ⟨rfl, b5⟩; have K5 := K1.drew.call b5; rw [HBF.out])
            go_wp2_with fail
            go_ret
            exact ⟨by rw [show validB l = false from all_no (k := (k + 1)) (by rw [HL.out]; exact hlt) (by unfold okAt; rw [HX.out]; simp only [HBF.out, lkAt_of, Nat.add_sub_cancel, HZ.out]; simp)] <;> rfl, by first | exact (K5).below | exact (K5).drew.below | exact ((K5).drewN _).below⟩
          · have HBF := hid hbf
            go_wp2_with fail
            generalize wo.alloc (.cells #[.string x.a, .string x.b] 30) = w1 at *
            go_still_tail 15, (by kernel_rfl)
            change wpList _ _ _ _ _ (World.drew _)
            go_wp2_with (go_at_call 63; refine (before_any z x _).mono ?_; rintro e w5 ⟨rfl, b5⟩; have K5 := K1.drew.call b5; rw [HBF.out])
            go_loopw [35] (fun j wq => ∃ p : Nat, p ≤ n ∧ j = .int .i64 p ∧ Hid ((l.take p).all (trB l x) = true) ∧ Hold M none w wq [.cst wo.heap.size 30 #[.string x.a, .string x.b], .ro (LksIn (some ⟨g, o, none⟩) n l)]) (fun j _ => n - (intOf j).toNat)
            case atStart => exact ⟨0, by omega, rfl, hid rfl, K5⟩
            case round =>
              obtain ⟨p, hp, rfl, HP, H2⟩ := hrel
              by_cases hlt2 : p < n
              · have hd2 : decide ((p : Int) < (n : Int)) = true := by simp; omega
                obtain ⟨y, hy⟩ := get_of HL.out hlt2
                obtain ⟨g', o', ho', hb', e0, e1⟩ := (H2.ro 1 rfl).now.at_ hy
                obtain ⟨rfl, rfl⟩ : g = g' ∧ o = o' := by injection ho' with ho'; injection ho' with a1 a2; exact ⟨a1, a2⟩
                clear ho'
                have HY := hid hy; clear hy
                have K2 := H2.alloc_cst #[.string y.a, .string y.b] 30
                have F2 := H2.facts
                simp only [World.size_alloc, World.size_drew, factsL, cellsF, Nat.reduceAdd, List.toList_toArray, and_true, true_and] at F2
                cases h4 : (x.b.toList == y.a.toList)
                · have HT := hid (show trB l x y = true by simp only [trB, h4]; rfl)
                  go_wp2_with fail
                  go_roundw
                  case rel => exact ⟨p + 1, by omega, by go_num, hid (take_all HP.out HY.out HT.out), K2.drop (List.sublist_cons_self _ _)⟩
                  case measure => simp [intOf]; omega
                · cases hpr : precB l x.a y.b
                  · have HT := hid (show trB l x y = false by simp only [trB, h4, hpr]; rfl)
                    go_wp2_with (go_at_call 21; refine (rprec_any (Mut M _) _ K2.mutLt _ n c l x.a y.b (K2.ro 2 rfl) (by omega)).mono ?_; rintro e w5 ⟨rfl, b5⟩; have K5 := K2.call b5; rw [hpr])
                    go_ret
                    exact ⟨by rw [show validB l = false from all_no (k := (k + 1)) (by rw [HL.out]; exact hlt) (by unfold okAt; rw [HX.out, all_miss HY.out HT.out]; simp)] <;> rfl, K5.below⟩
                  · have HT := hid (show trB l x y = true by simp only [trB, h4, hpr]; rfl)
                    go_wp2_with (go_at_call 21; refine (rprec_any (Mut M _) _ K2.mutLt _ n c l x.a y.b (K2.ro 2 rfl) (by omega)).mono ?_; rintro e w5 ⟨rfl, b5⟩; have K5 := K2.call b5; rw [hpr])
                    go_roundw
                    case rel => exact ⟨p + 1, by omega, by go_num, hid (take_all HP.out HY.out HT.out), K5.drop (List.sublist_cons_self _ _)⟩
                    case measure => simp [intOf]; omega
              · obtain rfl : n = p := by omega
                have HPA := HP.out
                rw [List.take_of_length_le (by rw [HL.out]; omega)] at HPA
                have HPB := hid HPA; clear HPA
                go_wp2_with fail
                go_roundw
                case rel => exact ⟨(k + 1) + 1, by omega, by go_num, hid (all_succ HV.out (by unfold okAt; rw [HX.out, HPB.out, HSF.out]; simp [HZ.out, HBF.out])), H2.drop (List.sublist_cons_self _ _)⟩
                case measure => simp [intOf]; omega
      · have HS := hid hs
        go_wp2_with fail
        go_quiet (fail)
        go_wp2_with fail
        go_ret
        exact ⟨by rw [show validB l = false from all_no (k := k) (by rw [HL.out]; exact hlt) (by unfold okAt; rw [HX.out]; simp only [HS.out]; simp)] <;> rfl, by first | exact (K1).below | exact (K1).drew.below | exact ((K1).drewN _).below⟩
    · obtain rfl : k = n := by omega
      go_wp2_with fail
      go_ret
      exact ⟨by rw [show validB l = true from by unfold validB; rw [HL.out]; exact HV.out] <;> rfl, H.below⟩
end Go.Proofs.Ytaefjgjojflppaa

namespace Go.Proofs.Ytaefjgjojflppaa
open Go.RowKit
set_option linter.unusedVariables false
set_option linter.unusedSimpArgs false

theorem less_irrefl : ∀ x : List UInt8, Op.bytesLess x x = false
  | [] => rfl
  | a :: x => by simp [Op.bytesLess, less_irrefl x]
theorem less_trans : ∀ x y z : List UInt8, Op.bytesLess x y = true → Op.bytesLess y z = true → Op.bytesLess x z = true
  | _, [], _ => by simp [Op.bytesLess]
  | [], b :: y, [] => by simp [Op.bytesLess]
  | [], b :: y, c :: z => by simp [Op.bytesLess]
  | a :: x, b :: y, [] => by simp [Op.bytesLess]
  | a :: x, b :: y, c :: z => by
    have ih := less_trans x y z
    simp only [Op.bytesLess, Bool.or_eq_true, Bool.and_eq_true, decide_eq_true_eq, beq_iff_eq]
    rintro (h1 | ⟨rfl, h1⟩) (h2 | ⟨rfl, h2⟩)
    · exact .inl (UInt8.lt_trans h1 h2)
    · exact .inl h1
    · exact .inl h2
    · exact .inr ⟨rfl, ih h1 h2⟩
theorem less_tri : ∀ x y : List UInt8, x = y ∨ Op.bytesLess x y = true ∨ Op.bytesLess y x = true
  | [], [] => .inl rfl
  | [], b :: y => .inr (.inl rfl)
  | a :: x, [] => .inr (.inr rfl)
  | a :: x, b :: y => by
    simp only [Op.bytesLess, Bool.or_eq_true, Bool.and_eq_true, decide_eq_true_eq, beq_iff_eq, List.cons.injEq]
    rcases UInt8.lt_or_lt_of_ne (a := a) (b := b) |> fun h => Classical.em (a = b) with rfl | hne
    · rcases less_tri x y with rfl | h | h
      · exact .inl ⟨rfl, rfl⟩
      · exact .inr (.inl (.inr ⟨rfl, h⟩))
      · exact .inr (.inr (.inr ⟨rfl, h⟩))
    · rcases UInt8.lt_or_lt_of_ne hne with h | h
      · exact .inr (.inl (.inl h))
      · exact .inr (.inr (.inl h))
theorem ba_ext {a b : ByteArray} (h : a.toList = b.toList) : a = b := Go.WideShapes.bytes_inj (by rw [← ByteArray.toList_eq, ← ByteArray.toList_eq]; exact h)
theorem ba_beq {a b : ByteArray} : (a.toList == b.toList) = true ↔ a = b := by
  rw [beq_iff_eq]; exact ⟨ba_ext, fun h => by rw [h]⟩
theorem lk_ext {x y : Lk} (h1 : x.a = y.a) (h2 : x.b = y.b) : x = y := by
  obtain ⟨a, b⟩ := x; obtain ⟨c, d⟩ := y; simp only at h1 h2; rw [h1, h2]
theorem lkEq_iff {x y : Lk} : lkEq x y = true ↔ x = y := by
  unfold lkEq
  rw [Bool.and_eq_true, ba_beq, ba_beq]
  exact ⟨fun h => lk_ext h.1 h.2, fun h => by rw [h]; exact ⟨rfl, rfl⟩⟩
theorem lkB_iff {a b : ByteArray} {x : Lk} : lkB a b x = true ↔ x = ⟨a, b⟩ := by
  unfold lkB
  rw [Bool.and_eq_true, ba_beq, ba_beq]
  exact ⟨fun h => lk_ext h.1 h.2, fun h => by rw [h]; exact ⟨rfl, rfl⟩⟩
theorem precB_iff {l : List Lk} {a b : ByteArray} : precB l a b = true ↔ (⟨a, b⟩ : Lk) ∈ l := by
  unfold precB
  rw [List.any_eq_true]
  constructor
  · rintro ⟨x, hx, h⟩
    rw [lkB_iff] at h; rwa [← h]
  · exact fun h => ⟨_, h, lkB_iff.2 rfl⟩

theorem bef_irrefl (x : Lk) : befB x x = false := by simp [befB, less_irrefl]
theorem bef_trans {x y z : Lk} (h1 : befB x y = true) (h2 : befB y z = true) : befB x z = true := by
  simp only [befB, Bool.or_eq_true, Bool.and_eq_true, beq_iff_eq] at *
  rcases h1 with h1 | ⟨e1, h1⟩ <;> rcases h2 with h2 | ⟨e2, h2⟩
  · exact .inl (less_trans _ _ _ h1 h2)
  · exact .inl (e2 ▸ h1)
  · exact .inl (e1 ▸ h2)
  · exact .inr ⟨e1.trans e2, less_trans _ _ _ h1 h2⟩
theorem bef_tri (x y : Lk) : x = y ∨ befB x y = true ∨ befB y x = true := by
  simp only [befB, Bool.or_eq_true, Bool.and_eq_true, beq_iff_eq]
  rcases less_tri x.a.toList y.a.toList with h | h | h
  · rcases less_tri x.b.toList y.b.toList with h2 | h2 | h2
    · exact .inl (lk_ext (ba_ext h) (ba_ext h2))
    · exact .inr (.inl (.inr ⟨h, h2⟩))
    · exact .inr (.inr (.inr ⟨h.symm, h2⟩))
  · exact .inr (.inl (.inl h))
  · exact .inr (.inr (.inl h))
theorem bef_ne {x y : Lk} (h : befB x y = true) : x ≠ y := by rintro rfl; rw [bef_irrefl] at h; cases h

def LkSorted (l : List Lk) : Prop := l.Pairwise fun x y => befB x y = true
theorem LkSorted.nodup {l : List Lk} (h : LkSorted l) : l.Nodup := List.Pairwise.imp (fun h => bef_ne h) h

/-- insert, once more: what is still to be laid behind what is laid. -/
def insF (x : Lk) : Bool → List Lk → List Lk
  | d, [] => if d then [] else [x]
  | d, y :: l => (if d || befB y x then [] else [x]) ++ (if lkEq y x then [] else [y]) ++ insF x (d || !befB y x) l
theorem ins_fold (x : Lk) : ∀ (l : List Lk) (o : List Lk) (d : Bool), (let s := l.foldl (insStep x) (o, d); if s.2 then s.1 else s.1 ++ [x]) = o ++ insF x d l
  | [], o, d => by cases d <;> simp [insF]
  | y :: l, o, d => by
    have ih := ins_fold x l (insStep x (o, d) y).1 (insStep x (o, d) y).2
    refine Eq.trans ih ?_
    simp only [insStep, insF]
    cases d <;> cases befB y x <;> cases lkEq y x <;> simp
theorem insL_eq (x : Lk) (l : List Lk) : insL x l = insF x false l := by
  have h := ins_fold x l [] false
  simp only [List.nil_append] at h
  rw [← h]
  unfold insL insS
  rw [List.take_of_length_le (Nat.le_refl _)]
theorem insF_true (x : Lk) : ∀ l : List Lk, (∀ y ∈ l, y ≠ x) → insF x true l = l
  | [], _ => rfl
  | y :: l, h => by
    have hy : lkEq y x = false := by
      cases e : lkEq y x
      · rfl
      · exact absurd (lkEq_iff.1 e) (h y (List.mem_cons_self ..))
    simp [insF, hy, insF_true x l (fun z hz => h z (List.mem_cons_of_mem _ hz))]
theorem insF_cons {x y : Lk} {l : List Lk} (h : LkSorted (y :: l)) : insF x false (y :: l) = if befB y x then y :: insF x false l else if lkEq y x then y :: l else x :: y :: l := by
  obtain ⟨h1, h2⟩ := List.pairwise_cons.1 h
  cases hb : befB y x
  · have hn : ∀ z ∈ l, z ≠ x := fun z hz e => by
      subst e; rw [h1 z hz] at hb; cases hb
    cases he : lkEq y x
    · simp [insF, hb, he, insF_true x l hn]
    · obtain rfl := lkEq_iff.1 he
      simp [insF, hb, he, insF_true y l hn]
  · have he : lkEq y x = false := by
      cases e : lkEq y x
      · rfl
      · exact absurd (lkEq_iff.1 e) (bef_ne hb)
    simp [insF, hb, he]
theorem insF_mem {x z : Lk} : ∀ {l : List Lk}, LkSorted l → (z ∈ insF x false l ↔ z = x ∨ z ∈ l)
  | [], _ => by simp [insF]
  | y :: l, h => by
    have ih := insF_mem (x := x) (z := z) (List.pairwise_cons.1 h).2
    rw [insF_cons h]
    split
    · simp only [List.mem_cons, ih]
      constructor
      · rintro (h | h | h)
        · exact .inr (.inl h)
        · exact .inl h
        · exact .inr (.inr h)
      · rintro (h | h | h)
        · exact .inr (.inl h)
        · exact .inl h
        · exact .inr (.inr h)
    · split
      · rename_i _ he
        obtain rfl := lkEq_iff.1 he
        simp only [List.mem_cons]
        exact ⟨.inr, fun h => h.elim .inl id⟩
      · simp only [List.mem_cons]
theorem insF_sorted {x : Lk} : ∀ {l : List Lk}, LkSorted l → LkSorted (insF x false l)
  | [], _ => by simp [insF, LkSorted]
  | y :: l, h => by
    have ih := insF_sorted (x := x) (List.pairwise_cons.1 h).2
    rw [insF_cons h]
    obtain ⟨h1, h2⟩ := List.pairwise_cons.1 h
    split
    · rename_i hb
      refine List.pairwise_cons.2 ⟨fun z hz => ?_, ih⟩
      rcases (insF_mem h2).1 hz with rfl | hz
      · exact hb
      · exact h1 z hz
    · split
      · exact h
      · rename_i hb he
        have hxy : befB x y = true := by
          rcases bef_tri x y with rfl | h | h
          · exact absurd (lkEq_iff.2 rfl) he
          · exact h
          · exact absurd h hb
        refine List.pairwise_cons.2 ⟨fun z hz => ?_, h⟩
        rcases List.mem_cons.1 hz with rfl | hz
        · exact hxy
        · exact bef_trans hxy (h1 z hz)
theorem insL_mem {x z : Lk} {l : List Lk} (h : LkSorted l) : z ∈ insL x l ↔ z = x ∨ z ∈ l := by rw [insL_eq]; exact insF_mem h
theorem insL_sorted {x : Lk} {l : List Lk} (h : LkSorted l) : LkSorted (insL x l) := by rw [insL_eq]; exact insF_sorted h

/-- A list without repeats within another one is no longer than it. -/
theorem nodup_len {α : Type} : ∀ {l u : List α}, l.Nodup → (∀ x ∈ l, x ∈ u) → l.length ≤ u.length
  | [], u, _, _ => Nat.zero_le _
  | x :: l, u, h, hs => by
    obtain ⟨h1, h2⟩ := List.nodup_cons.1 h
    obtain ⟨p, q, rfl⟩ := List.append_of_mem (hs x (List.mem_cons_self ..))
    have := nodup_len (u := p ++ q) h2 fun z hz => by
      have hz' := hs z (List.mem_cons_of_mem _ hz)
      simp only [List.mem_append, List.mem_cons] at hz' ⊢
      rcases hz' with h | rfl | h
      · exact .inl h
      · exact absurd hz h1
      · exact .inr h
    simp only [List.length_append, List.length_cons] at this ⊢
    omega
/-- all links of some names -/
def lkAll (ns : List ByteArray) : List Lk := ns.flatMap fun a => ns.map fun b => ⟨a, b⟩
theorem lkAll_len (ns : List ByteArray) : (lkAll ns).length = ns.length * ns.length := flat_len _ _ (fun _ => by simp) ns
def NamesIn (ns : List ByteArray) (l : List Lk) : Prop := ∀ z ∈ l, z.a ∈ ns ∧ z.b ∈ ns
theorem NamesIn.len {ns : List ByteArray} {l : List Lk} (h : NamesIn ns l) (hs : LkSorted l) : l.length ≤ ns.length * ns.length := by
  rw [← lkAll_len]
  refine nodup_len hs.nodup fun x hx => ?_
  obtain ⟨h1, h2⟩ := h x hx
  exact List.mem_flatMap.2 ⟨x.a, h1, List.mem_map.2 ⟨x.b, h2, rfl⟩⟩

/-- What follows from links. -/
inductive Tr (l : List Lk) : ByteArray → ByteArray → Prop
  | one {a b : ByteArray} : (⟨a, b⟩ : Lk) ∈ l → Tr l a b
  | step {a b c : ByteArray} : Tr l a b → Tr l b c → Tr l a c
theorem Tr.mono {l l' : List Lk} (h : ∀ z ∈ l, Tr l' z.a z.b) {a b : ByteArray} (ht : Tr l a b) : Tr l' a b := by
  induction ht with
  | one hm => exact h _ hm
  | step _ _ h1 h2 => exact .step h1 h2
theorem Tr.names {ns : List ByteArray} {l : List Lk} (h : NamesIn ns l) {a b : ByteArray} (ht : Tr l a b) : a ∈ ns ∧ b ∈ ns := by
  induction ht with
  | one hm => exact h _ hm
  | step _ _ h1 h2 => exact ⟨h1.1, h2.2⟩
/-- r is sorted, and says just what follows from l -/
def ClosOf (l r : List Lk) : Prop := LkSorted r ∧ ∀ a b, (⟨a, b⟩ : Lk) ∈ r ↔ Tr l a b

/-- between l and what follows from it -/
def Mid (l o : List Lk) : Prop := LkSorted o ∧ (∀ z ∈ l, z ∈ o) ∧ ∀ z ∈ o, Tr l z.a z.b
theorem Mid.self {l : List Lk} (h : LkSorted l) : Mid l l := ⟨h, fun _ h => h, fun z h => .one h⟩
theorem Mid.ins {l o : List Lk} (h : Mid l o) {x y : Lk} (hx : x ∈ l) (hy : y ∈ l) (he : x.b = y.a) : Mid l (insL ⟨x.a, y.b⟩ o) := by
  refine ⟨insL_sorted h.1, fun z hz => (insL_mem h.1).2 (.inr (h.2.1 z hz)), fun z hz => ?_⟩
  rcases (insL_mem h.1).1 hz with rfl | hz
  · exact .step (b := x.b) (.one hx) (by rw [he]; exact .one hy)
  · exact h.2.2 z hz
theorem Mid.names {ns : List ByteArray} {l o : List Lk} (h : Mid l o) (hn : NamesIn ns l) : NamesIn ns o := fun z hz => Tr.names hn (h.2.2 z hz)
/-- the compositions of x with the first j links are there -/
def Done1 (l o : List Lk) (x : Lk) (j : Nat) : Prop := ∀ y ∈ l.take j, x.b = y.a → (⟨x.a, y.b⟩ : Lk) ∈ o
def DoneN (l o : List Lk) (i : Nat) : Prop := ∀ x ∈ l.take i, Done1 l o x l.length
theorem mem_take_succ {α : Type} {l : List α} {k : Nat} {x y : α} (hx : l[k]? = some x) (h : y ∈ l.take (k + 1)) : y = x ∨ y ∈ l.take k := by
  obtain ⟨hk, rfl⟩ := List.getElem?_eq_some_iff.1 hx
  rw [List.take_succ_eq_append_getElem hk] at h
  rcases List.mem_append.1 h with h | h
  · exact .inr h
  · exact .inl (by simpa using h)
theorem Done1.succ {l o : List Lk} {x y : Lk} {j : Nat} (h : Done1 l o x j) (hy : l[j]? = some y) (hd : x.b = y.a → (⟨x.a, y.b⟩ : Lk) ∈ o) : Done1 l o x (j + 1) := fun z hz he => by
  rcases mem_take_succ hy hz with rfl | hz
  · exact hd he
  · exact h z hz he
theorem Done1.more {l o o' : List Lk} {x : Lk} {j : Nat} (h : Done1 l o x j) (hs : ∀ z ∈ o, z ∈ o') : Done1 l o' x j := fun z hz he => hs _ (h z hz he)
theorem DoneN.more {l o o' : List Lk} {i : Nat} (h : DoneN l o i) (hs : ∀ z ∈ o, z ∈ o') : DoneN l o' i := fun x hx => (h x hx).more hs
theorem DoneN.succ {l o : List Lk} {i : Nat} {x : Lk} (h : DoneN l o i) (hx : l[i]? = some x) (h1 : Done1 l o x l.length) : DoneN l o (i + 1) := fun z hz => by
  rcases mem_take_succ hx hz with rfl | hz
  · exact h1
  · exact h z hz
/-- nothing was added: l is closed -/
theorem clos_end {l0 l o : List Lk} (h : Mid l o) (hd : DoneN l o l.length) (hlen : o.length = l.length) (hl : LkSorted l) (h0 : ∀ z ∈ l0, z ∈ l) (h1 : ∀ z ∈ l, Tr l0 z.a z.b) : ClosOf l0 o := by
  have hsub : ∀ z ∈ o, z ∈ l := fun z hz => by
    refine Classical.byContradiction fun hn => ?_
    have := nodup_len (l := z :: l) (u := o) (List.nodup_cons.2 ⟨hn, hl.nodup⟩) fun y hy => by
      rcases List.mem_cons.1 hy with rfl | hy
      · exact hz
      · exact h.2.1 y hy
    simp only [List.length_cons] at this
    omega
  refine ⟨h.1, fun a b => ⟨fun hm => h1 _ (hsub _ hm), fun ht => ?_⟩⟩
  induction ht with
  | one hm => exact h.2.1 _ (h0 _ hm)
  | @step a b c _ _ i1 i2 => exact hd _ (by rw [List.take_length]; exact hsub _ i1) _ (by rw [List.take_length]; exact hsub _ i2) rfl
theorem Mid.len {l o : List Lk} (h : Mid l o) (hl : LkSorted l) : l.length ≤ o.length := nodup_len hl.nodup h.2.1
theorem Mid.trans {l0 l o : List Lk} (h : Mid l0 l) (k : Mid l o) : Mid l0 o := ⟨k.1, fun z hz => k.2.1 z (h.2.1 z hz), fun z hz => Tr.mono h.2.2 (k.2.2 z hz)⟩
end Go.Proofs.Ytaefjgjojflppaa

namespace Go.Proofs.Ytaefjgjojflppaa
open Go.RowKit
set_option linter.unusedVariables false
set_option linter.unusedSimpArgs false

def ClosRet (w : World) (M : Nat → Prop) (l : List Lk) (e : Ending) (w' : World) : Prop := ∃ r, ClosOf l r ∧ LksRet w M r e w'

set_option maxHeartbeats 4000000 in
set_option maxRecDepth 100000 in
theorem closure_any (M : Nat → Prop) (w : World) (hM : ∀ b, M b → b < w.heap.size) (A : Option Addr) (n c : Nat) (l0 : List Lk) (ns : List ByteArray) (hD : Ro w M (LksIn A n l0)) (hs : LkSorted l0) (hns : NamesIn ns l0) (hB : ns.length * ns.length ≤ 1000000) (hc : n ≤ c) (hcm : c ≤ 9223372036854775807) :
    Calls Try.prog 58 #[.slice A n c] w fun e w' => ClosRet w M l0 e w' := by
  have HB := hid hB
  obtain ⟨B, hBB⟩ : ∃ B, ns.length * ns.length = B := ⟨_, rfl⟩
  rw [hBB] at hB
  have HBB := hid hBB
  have K0 := (Hold.start M w hM).add (hD.less (by simp [Mut]))
  have HM0 := hid (Mid.self hs)
  have HNS := hid hns
  have HS0 := hid hs
  clear hBB hns hs
  go_enter Try.func58, Try.ntmps58
  go_wp2_with fail
  go_loopg [0] B (fun gh v wr => ∃ (A : Option Addr) (n c : Nat) (l : List Lk), v = .slice A n c ∧ B ≤ n + gh ∧ n ≤ c ∧ c ≤ 9223372036854775807 ∧ Hid (Mid l0 l) ∧ Hold M none w wr [.ro (LksIn A n l)])
  case atStart => exact ⟨A, n, c, l0, rfl, by omega, hc, hcm, HM0, K0⟩
  case round =>
    clear K0 hD hc hcm
    clear A n c
    obtain ⟨A, n, c, l, rfl, hgh, hc, hcm, HMl, H⟩ := hrel
    have hnl := (H.ro 0 rfl).now.len
    have hnB : n ≤ B := by rw [← hnl, ← HBB.out]; exact NamesIn.len (Mid.names HMl.out HNS.out) HMl.out.1
    have HL := hid hnl; clear hnl
    have KS := H.add (H.ro 0 rfl)
    go_wp2_with fail
    go_loopw [3, 11] (fun v i wq => ∃ (A' : Option Addr) (n' c' k : Nat) (o : List Lk), v = .slice A' n' c' ∧ k ≤ n ∧ i = .int .i64 k ∧ n' ≤ c' ∧ c' ≤ 9223372036854775807 ∧ Hid (Mid l o) ∧ Hid (DoneN l o k) ∧ Hold M none w wq [.ro (LksIn A' n' o), .ro (LksIn A n l)]) (fun _ i _ => n - (intOf i).toNat)
    case atStart => exact ⟨A, n, c, 0, l, rfl, by omega, rfl, hc, hcm, hid (Mid.self HMl.out.1), hid (fun x hx => by simp at hx), KS⟩
    case round =>
      clear KS H
      obtain ⟨A', n', c', k, o, rfl, hk, rfl, hc', hcm', HMo, HDN, H⟩ := hrel
      have hn'l := (H.ro 0 rfl).now.len
      have hn'B : n' ≤ B := by rw [← hn'l, ← HBB.out]; exact NamesIn.len (Mid.names (HMl.out.trans HMo.out) HNS.out) HMo.out.1
      have HL' := hid hn'l; clear hn'l
      have hnn : n ≤ n' := by have := HMo.out.len HMl.out.1; rw [HL.out, HL'.out] at this; exact this
      obtain ⟨wo, rfl⟩ : ∃ wo : World, wo = wr := ⟨_, rfl⟩
      by_cases hlt : k < n
      · have hd : decide ((k : Int) < (n : Int)) = true := by simp; omega
        obtain ⟨x, hx⟩ := get_of HL.out hlt
        obtain ⟨g, oo, rfl, hb, c0, c1⟩ := (H.ro 1 rfl).now.at_ hx
        have HX := hid hx; clear hx
        have K1 := H.alloc_cst #[.string x.a, .string x.b] 30
        have K2 := (K1.add (K1.ro 1 rfl)).drop (L' := [.ro (LksIn A' n' o), .cst wo.heap.size 30 #[.string x.a, .string x.b], .ro (LksIn (some ⟨g, oo, none⟩) n l)]) (List.Sublist.cons_cons _ (List.Sublist.cons_cons _ (List.sublist_cons_self _ _)))
        clear K1
        go_wp2_with fail
        go_loopw [3, 17] (fun v j wq => ∃ (A' : Option Addr) (n' c' p : Nat) (o : List Lk), v = .slice A' n' c' ∧ p ≤ n ∧ j = .int .i64 p ∧ n' ≤ c' ∧ c' ≤ 9223372036854775807 ∧ Hid (Mid l o) ∧ Hid (DoneN l o k) ∧ Hid (Done1 l o x p) ∧ Hold M none w wq [.ro (LksIn A' n' o), .cst wo.heap.size 30 #[.string x.a, .string x.b], .ro (LksIn (some ⟨g, oo, none⟩) n l)]) (fun _ j _ => n - (intOf j).toNat)
        case atStart => exact ⟨A', n', c', 0, o, rfl, by omega, rfl, hc', hcm', HMo, HDN, hid (fun y hy => by simp at hy), K2⟩
        case round =>
          clear K2 H HL' HMo HDN hc' hcm' hn'B hnn
          obtain ⟨A', n', c', p, o, rfl, hp, rfl, hc', hcm', HMo, HDN, HD1, H⟩ := hrel
          have hn'l := (H.ro 0 rfl).now.len
          have hn'B : n' ≤ B := by rw [← hn'l, ← HBB.out]; exact NamesIn.len (Mid.names (HMl.out.trans HMo.out) HNS.out) HMo.out.1
          have HL' := hid hn'l; clear hn'l
          by_cases hlt2 : p < n
          · have hd2 : decide ((p : Int) < (n : Int)) = true := by simp; omega
            obtain ⟨y, hy⟩ := get_of HL.out hlt2
            obtain ⟨g', o', ho', hb', e0, e1⟩ := (H.ro 2 rfl).now.at_ hy
            obtain ⟨rfl, rfl⟩ : g = g' ∧ oo = o' := by injection ho' with ho'; injection ho' with a1 a2; exact ⟨a1, a2⟩
            clear ho'
            have HY := hid hy; clear hy
            have K3 := H.alloc_cst #[.string y.a, .string y.b] 30
            have F := K3.facts
            simp only [World.size_alloc, World.size_drew, factsL, cellsF, Nat.reduceAdd, List.toList_toArray, and_true, true_and] at F
            have F0 := H.facts
            simp only [World.size_alloc, World.size_drew, factsL, cellsF, Nat.reduceAdd, List.toList_toArray, and_true, true_and] at F0
            cases h4 : (x.b.toList == y.a.toList)
            · have HE := hid (show x.b ≠ y.a from fun e => by rw [e] at h4; simp at h4)
              go_wp2_with fail
              go_roundw
              case rel => exact ⟨A', n', c', p + 1, o, rfl, by omega, by go_num, hc', hcm', HMo, HDN, hid (HD1.out.succ HY.out fun e => absurd e HE.out), K3.drop (List.sublist_cons_self _ _)⟩
              case measure => simp [intOf]; omega
            · have HE := hid (show x.b = y.a from ba_beq.1 h4)
              go_wp2_with fail
              refine (insert_any (Mut M _) _ K3.mutLt A' n' c' o ⟨x.a, y.b⟩ (K3.ro 1 rfl) (by omega)).mono ?_
              rintro e w5 ⟨A5, n5, c5, rfl, h51, h52, h53, r5, b5⟩
              have H51 := hid h51; clear h51
              have K5 := ((K3.call b5).add r5).drop (L' := [.ro (LksIn A5 n5 (insL ⟨x.a, y.b⟩ o)), .cst wo.heap.size 30 #[.string x.a, .string x.b], .ro (LksIn (some ⟨g, oo, none⟩) n l)]) (List.Sublist.cons_cons _ (List.Sublist.cons _ (List.sublist_cons_self _ _)))
              have HM5 := hid (HMo.out.ins (List.mem_of_getElem? HX.out) (List.mem_of_getElem? HY.out) HE.out)
              have HI5 := hid (fun z (hz : z ∈ o) => (insL_mem HMo.out.1).2 (Or.inr (b := z ∈ o) (a := z = ⟨x.a, y.b⟩) hz))
              clear r5 b5 F F0
              go_wp2_with fail
              go_roundw
              case rel => exact ⟨A5, n5, c5, p + 1, _, rfl, by omega, by go_num, h52, h53, HM5, hid (HDN.out.more HI5.out), hid ((HD1.out.more HI5.out).succ HY.out fun _ => (insL_mem HMo.out.1).2 (.inl rfl)), K5⟩
              case measure => simp [intOf]; omega
          · obtain rfl : p = n := by omega
            go_wp2_with fail
            go_roundw
            case rel => exact ⟨A', n', c', k + 1, o, rfl, by omega, by go_num, hc', hcm', HMo, hid (HDN.out.succ HX.out (by rw [HL.out]; exact HD1.out)), H.drop (List.Sublist.cons_cons _ (List.sublist_cons_self _ _))⟩
            case measure => simp [intOf]; omega
      · obtain rfl : k = n := by omega
        by_cases he : n' = k
        · have hq : ((n' : Int) == (k : Int)) = true := by rw [beq_iff_eq]; omega
          have HE := hid he; clear he
          go_wp2_with fail
          go_ret
          exact ⟨o, clos_end HMo.out (by rw [HL.out]; exact HDN.out) (by rw [HL.out, HL'.out, HE.out]) HMl.out.1 HMl.out.2.1 HMl.out.2.2, A', n', c', rfl, HL'.out.symm, hc', hcm', H.roOut 0 rfl, H.below⟩
        · have hq : ((n' : Int) == (k : Int)) = false := by rw [beq_eq_false_iff_ne]; omega
          cases gk with
          | succ go =>
            go_wp2_with fail
            go_roundg go
            case measure => omega
            case rel => exact ⟨A', n', c', o, rfl, by omega, hc', hcm', hid (HMl.out.trans HMo.out), H.drop (List.Sublist.cons_cons _ (List.nil_sublist _))⟩
          | zero => omega
end Go.Proofs.Ytaefjgjojflppaa

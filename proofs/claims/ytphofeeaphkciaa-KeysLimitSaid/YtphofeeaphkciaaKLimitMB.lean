/- KApply: keys.Apply. -/
import Derived.Test.YtphofeeaphkciaaKLimitMA
import Derived.Lib.ConvBytes
import Derived.WalkSpells
import Derived.Deep.QuietTactic
import Derived.BigQuiet
import Derived.Deep.LoopGhost
import Derived.StillTailTactics
import Derived.IntWalk
namespace Go.Proofs.Ytphofeeaphkciaa
open Go
set_option linter.unusedVariables false
set_option linter.unusedSimpArgs false

abbrev Sp := Tmp → Option (Value → Prop)
def GV (sp : Sp) (d : Option Tmp) (u : Value) (_ : World) : Prop := match d.bind sp with | some V => V u | none => True
def RT (_ _ : World) : Prop := True
/-- the operations of S fill no slot that is spoken of -/
def offB (ops : Array Oper) (S0 : Array Bool) (sp : Sp) : Bool := (List.range ops.size).all fun j => !S0.getD j false || (((ops[j]?).bind (·.dst)).bind sp).isNone
theorem GV_off {sp : Sp} {d : Option Tmp} {u : Value} {w : World} (h : d.bind sp = none) : GV sp d u w := by unfold GV; rw [h]; trivial
theorem offB_h {ops : Array Oper} {S0 : Array Bool} {sp : Sp} (h : offB ops S0 sp = true) {j : Nat} {o : Oper} (ho : ops[j]? = some o) (hs : S0.getD j false = true) {u : Value} {w : World} : GV sp o.dst u w := by
  have h1 := List.all_eq_true.1 h j (List.mem_range.2 (Array.getElem?_eq_some_iff.1 ho).1)
  simp only [hs, Bool.not_true, Bool.false_or, ho, Option.bind_some] at h1
  exact GV_off (Option.isNone_iff_eq_none.1 h1)

section
variable {P : Program} {C : World → Prop} {sp : Sp} {F : Act → Prop} {S0 : Array Bool}
theorem wpAny_draws {Q : Exit → Act → World → Prop} {a : Act} {w : World} {l : List Oper} (n N : Nat) (C : World → Prop) (sp : Sp) {fuel : Nat}
    (hB : relB l.toArray S0 n N = true) (hO : offB l.toArray S0 sp = true) (hf : fuel = unl n S0 + (l.length - n)) (hN : a.tmps.size = N) (hC : C w)
    (h : wpRel P l.toArray C (GV sp) RT S0 (fun a' => ∀ w', C w' → wpList P l.toArray Q (l.drop n) a' w') 0 (l.take n) a) : wpAny P .any l.toArray Q fuel S0 a w := by
  refine wpAny_rel S0 n N C (GV sp) RT hB hf hN (fun _ _ _ _ _ h => h) (fun _ _ => trivial) (fun _ _ => trivial) hC (fun j oj hj hs => offB_h hO (by simpa using hj) hs) ?_
  have key : ∀ (l' : List Oper) (k : Nat) (a : Act), wpRel P l.toArray C (GV sp) RT S0 (fun a' => ∀ w', C w' → wpList P l.toArray Q (l.drop n) a' w') k l' a →
      wpRel P l.toArray C (GV sp) RT S0 (fun a' => ∀ w', C w' → (∀ j oj, l[j]? = some oj → j < n → GV sp oj.dst (slot a' oj.dst) w') → wpList P l.toArray Q (l.drop n) a' w') k l' a := by
    intro l'
    induction l' with
    | nil => intro k a h hI w' hw' _; exact h hI w' hw'
    | cons o l' ih =>
      intro k a h
      unfold wpRel at h ⊢
      split
      · rename_i hs; rw [if_pos hs] at h; exact ih _ _ h
      · rename_i hs; rw [if_neg hs] at h; exact ⟨h.1, fun u hu hd => ih _ _ (h.2 u hu hd)⟩
  exact key _ _ _ h

variable {ops : Array Oper} {o : Oper} {rest : List Oper} {a : Act} {k : Nat}
/-- one value, the world left -/
theorem dr_val {u : Value} (hS : S0.getD k false = false) (hw : Region.wanted o (yielded ops a.tmps) = true) (hoff : o.dst.bind sp = none) (hrun : ∀ w, C w → (execOp a.eval o).run P w = .ok (.value u) w) (hn : wpRel P ops C (GV sp) RT S0 F (k + 1) rest (a.put o.dst u)) : wpRel P ops C (GV sp) RT S0 F k (o :: rest) a :=
  rel_val (fun _ _ => trivial) hS hw u (fun w hC _ => hrun w hC) (fun _ _ _ => GV_off hoff) hn
theorem dr_val' (hS : S0.getD k false = false) (hw : Region.wanted o (yielded ops a.tmps) = true) (hoff : o.dst.bind sp = none) (h : ∃ u, (∀ w, C w → (execOp a.eval o).run P w = .ok (.value u) w) ∧ wpRel P ops C (GV sp) RT S0 F (k + 1) rest (a.put o.dst u)) : wpRel P ops C (GV sp) RT S0 F k (o :: rest) a :=
  let ⟨_, h1, h2⟩ := h
  dr_val hS hw hoff h1 h2
theorem dr_skip (hS : S0.getD k false = false) (hw : Region.wanted o (yielded ops a.tmps) = false) (hoff : o.dst.bind sp = none) (hn : wpRel P ops C (GV sp) RT S0 F (k + 1) rest (a.put o.dst undef)) : wpRel P ops C (GV sp) RT S0 F k (o :: rest) a :=
  rel_skip hS hw (fun _ _ => GV_off hoff) hn
/-- a call -/
theorem dr_call {f : FuncId} {args : Array Value} (d : Tmp) (V : Value → Prop) (hS : S0.getD k false = false) (hw : Region.wanted o (yielded ops a.tmps) = true) (hd : o.dst = some d) (hsp : sp d = some V) (hrun : ∀ w, C w → (execOp a.eval o).run P w = .ok (.enter f args) w)
    (hc : ∀ w, C w → Calls P f args w fun e w' => ∃ u, e = .returned u ∧ V u ∧ C w') (hn : ∀ u, V u → wpRel P ops C (GV sp) RT S0 F (k + 1) rest (a.put (some d) u)) : wpRel P ops C (GV sp) RT S0 F k (o :: rest) a := by
  have e : ∀ u w, GV sp (some d) u w ↔ V u := fun u w => by unfold GV; simp only [Option.bind_some, hsp]
  exact rel_call hS hw f args d hd (fun w hC _ => hrun w hC) (fun w hC _ => (hc w hC).mono fun e' w' ⟨u, h1, h2, h3⟩ => ⟨u, h1, (e u w').2 h2, h3, trivial⟩) fun u w _ hu => hn u ((e u w).1 hu)
end
end Go.Proofs.Ytphofeeaphkciaa

namespace Go.Proofs.Ytphofeeaphkciaa
open Go.RowKit
set_option linter.unusedVariables false
set_option linter.unusedSimpArgs false
/-- a number below n -/
def NatB (n : Nat) (u : Value) : Prop := ∃ r : Nat, r < n ∧ u = .int .i64 r
section
variable {sp : Sp} {F : Act → Prop} {S0 : Array Bool} {ops : Array Oper} {o : Oper} {rest : List Oper} {a : Act} {k : Nat} {M : Nat → Prop} {row : Option Nat} {w0 : World} {L : List Hp} {T : Nat}
end
end Go.Proofs.Ytphofeeaphkciaa

namespace Go.Proofs.Ytphofeeaphkciaa
open Go.RowKit
set_option linter.unusedVariables false
set_option linter.unusedSimpArgs false

abbrev SpW := Tmp → Option (Value → World → Prop)
def GW (sp : SpW) (d : Option Tmp) (u : Value) (w : World) : Prop := match d.bind sp with | some V => V u w | none => True
/-- from w to w' nothing but new blocks and those of M turned -/
def RM (M : Nat → Prop) (w w' : World) : Prop := w.heap.size ≤ w'.heap.size ∧ ∀ b, b < w.heap.size → ¬ M b → w'.heap[b]? = w.heap[b]?
theorem RM.refl (M : Nat → Prop) (w : World) : RM M w w := ⟨Nat.le_refl _, fun _ _ _ => rfl⟩
theorem RM.trans {M : Nat → Prop} {a b c : World} (h : RM M a b) (k : RM M b c) : RM M a c := ⟨Nat.le_trans h.1 k.1, fun x hx hn => (k.2 x (Nat.lt_of_lt_of_le hx h.1) hn).trans (h.2 x hx hn)⟩
theorem RM.below {M : Nat → Prop} {w w' : World} (h : Below w.heap.size w w') : RM M w w' := ⟨h.size, fun b hb _ => h.block b hb⟩
theorem RM.grown {M : Nat → Prop} {w w' : World} {T : Nat} (h : w.grownBy w' (some T)) (hT : M T) : RM M w w' := ⟨h.size, fun b hb hn => h.block b hb (fun e => by injection e with e; subst e; exact hn hT)⟩
theorem RM.alloc (M : Nat → Prop) (w : World) (o : Obj) : RM M w (w.alloc o) := ⟨by simp, fun b hb _ => Below.heap_alloc w o b hb⟩
theorem RM.ro {M : Nat → Prop} {w w' : World} (h : RM M w w') {S : World → Prop} (hs : Ro w M S) : Ro w' M S := hs.step h.1 h.2 (fun _ _ h => h)
/-- each class of values stays as the world goes on -/
def Stays (M : Nat → Prop) (sp : SpW) : Prop := ∀ d V, sp d = some V → ∀ u w w', RM M w w' → V u w → V u w'
/-- the classes as a list -/
def spL (l : List (Tmp × (Value → World → Prop))) : SpW := fun d => (l.find? fun p => p.1 == d).map (·.2)
theorem stays_nil (M : Nat → Prop) : Stays M (spL []) := fun d V h => nomatch h
theorem stays_cons {M : Nat → Prop} {d : Tmp} {V : Value → World → Prop} {l : List (Tmp × (Value → World → Prop))} (h : ∀ u w w', RM M w w' → V u w → V u w') (hl : Stays M (spL l)) : Stays M (spL ((d, V) :: l)) := fun t V' hV => by
  unfold spL at hV
  rw [List.find?_cons] at hV
  split at hV
  · simp only [Option.map_some, Option.some.injEq] at hV
    subst hV
    exact h
  · exact hl t V' hV
theorem GW_off {sp : SpW} {d : Option Tmp} {u : Value} {w : World} (h : d.bind sp = none) : GW sp d u w := by unfold GW; rw [h]; trivial
theorem GW_on {sp : SpW} {d : Tmp} {V : Value → World → Prop} (h : sp d = some V) {u : Value} {w : World} : GW sp (some d) u w ↔ V u w := by unfold GW; simp only [Option.bind_some, h]
def offW (ops : Array Oper) (S0 : Array Bool) (sp : SpW) : Bool := (List.range ops.size).all fun j => !S0.getD j false || (((ops[j]?).bind (·.dst)).bind sp).isNone
theorem offW_h {ops : Array Oper} {S0 : Array Bool} {sp : SpW} (h : offW ops S0 sp = true) {j : Nat} {o : Oper} (ho : ops[j]? = some o) (hs : S0.getD j false = true) {u : Value} {w : World} : GW sp o.dst u w := by
  have h1 := List.all_eq_true.1 h j (List.mem_range.2 (Array.getElem?_eq_some_iff.1 ho).1)
  simp only [hs, Bool.not_true, Bool.false_or, ho, Option.bind_some] at h1
  exact GW_off (Option.isNone_iff_eq_none.1 h1)

/-- the class: the items hold, and from the region's start w1 nothing but them and new blocks turned -/
def HC (M : Nat → Prop) (row : Option Nat) (w0 w1 : World) (L : List Hp) (w : World) : Prop := Hold M row w0 w L ∧ RM (Mut M L) w1 w
section
variable {P : Program} {M : Nat → Prop} {row : Option Nat} {w0 w1 : World} {L : List Hp} {sp : SpW} {F : Act → Prop} {S0 : Array Bool}
theorem wpAny_hold {Q : Exit → Act → World → Prop} {a : Act} {w : World} {l : List Oper} (n N : Nat) (L : List Hp) (sp : SpW) {fuel : Nat}
    (hB : relB l.toArray S0 n N = true) (hO : offW l.toArray S0 sp = true) (hf : fuel = unl n S0 + (l.length - n)) (hN : a.tmps.size = N) (hs : Stays (Mut M L) sp) (hC : Hold M row w0 w L)
    (h : wpRel P l.toArray (HC M row w0 w L) (GW sp) (RM (Mut M L)) S0 (fun a' => ∀ w', Hold M row w0 w' L → RM (Mut M L) w w' → (∀ j oj, l[j]? = some oj → j < n → GW sp oj.dst (slot a' oj.dst) w') → wpList P l.toArray Q (l.drop n) a' w') 0 (l.take n) a) : wpAny P .any l.toArray Q fuel S0 a w := by
  refine wpAny_rel S0 n N (HC M row w0 w L) (GW sp) (RM (Mut M L)) hB hf hN (fun d u w w' hr hg => ?_) (fun w _ => RM.refl _ w) (fun _ _ => trivial) ⟨hC, RM.refl _ _⟩ (fun j oj hj hs => offW_h hO (by simpa using hj) hs) (wpRel_mono (fun a' hF w' hC' hg => hF w' hC'.1 hC'.2 hg) _ _ _ h)
  unfold GW at hg ⊢
  cases hd : d.bind sp with
  | none => trivial
  | some V =>
    rw [hd] at hg
    obtain ⟨t, rfl, ht⟩ := Option.bind_eq_some_iff.1 hd
    exact hs t V ht u w w' hr hg

theorem wpAny_holdC {Q : Exit → Act → World → Prop} {a : Act} {w : World} {l : List Oper} (n N : Nat) (L : List Hp) (sp : SpW) {fuel : Nat}
    (hB : relC l.toArray S0 n N = true) (hO : offW l.toArray S0 sp = true) (hf : fuel = unl n S0 + (l.length - n)) (hN : a.tmps.size = N) (hs : Stays (Mut M L) sp) (hC : Hold M row w0 w L)
    (h : wpRel P l.toArray (HC M row w0 w L) (GW sp) (RM (Mut M L)) S0 (fun a' => ∀ w', Hold M row w0 w' L → RM (Mut M L) w w' → (∀ j oj, l[j]? = some oj → j < n → GW sp oj.dst (slot a' oj.dst) w') → wpAny P .any l.toArray Q (l.length - n) (headList n l.length) a' w') 0 (l.take n) a) : wpAny P .any l.toArray Q fuel S0 a w := by
  refine wpAny_relC S0 n N (HC M row w0 w L) (GW sp) (RM (Mut M L)) hB hf hN (fun d u w w' hr hg => ?_) (fun w _ => RM.refl _ w) (fun _ _ => trivial) ⟨hC, RM.refl _ _⟩ (fun j oj hj hs => offW_h hO (by simpa using hj) hs) (wpRel_mono (fun a' hF w' hC' hg => hF w' hC'.1 hC'.2 hg) _ _ _ h)
  unfold GW at hg ⊢
  cases hd : d.bind sp with
  | none => trivial
  | some V =>
    rw [hd] at hg
    obtain ⟨t, rfl, ht⟩ := Option.bind_eq_some_iff.1 hd
    exact hs t V ht u w w' hr hg

variable {ops : Array Oper} {o : Oper} {rest : List Oper} {a : Act} {k : Nat}
theorem dw_val (hS : S0.getD k false = false) (hw : Region.wanted o (yielded ops a.tmps) = true) (hoff : o.dst.bind sp = none) (h : ∃ u, (∀ w, Hold M row w0 w L → (execOp a.eval o).run P w = .ok (.value u) w) ∧ wpRel P ops (HC M row w0 w1 L) (GW sp) (RM (Mut M L)) S0 F (k + 1) rest (a.put o.dst u)) : wpRel P ops (HC M row w0 w1 L) (GW sp) (RM (Mut M L)) S0 F k (o :: rest) a :=
  let ⟨u, h1, h2⟩ := h
  rel_val (fun w _ => RM.refl _ w) hS hw u (fun w hC _ => h1 w hC.1) (fun _ _ _ => GW_off hoff) h2
theorem dw_skip (hS : S0.getD k false = false) (hw : Region.wanted o (yielded ops a.tmps) = false) (hoff : o.dst.bind sp = none) (hn : wpRel P ops (HC M row w0 w1 L) (GW sp) (RM (Mut M L)) S0 F (k + 1) rest (a.put o.dst undef)) : wpRel P ops (HC M row w0 w1 L) (GW sp) (RM (Mut M L)) S0 F k (o :: rest) a :=
  rel_skip hS hw (fun _ _ => GW_off hoff) hn
/-- a call of any kind -/
theorem dw_call {f : FuncId} {args : Array Value} (d : Tmp) (V : Value → World → Prop) (hS : S0.getD k false = false) (hw : Region.wanted o (yielded ops a.tmps) = true) (hd : o.dst = some d) (hsp : sp d = some V) (hrun : ∀ w, (execOp a.eval o).run P w = .ok (.enter f args) w)
    (hc : ∀ w, Hold M row w0 w L → Deps ops (GW sp) o a w → Calls P f args w fun e w' => ∃ u, e = .returned u ∧ V u w' ∧ Hold M row w0 w' L ∧ RM (Mut M L) w w') (hn : ∀ u w, Hold M row w0 w L → V u w → wpRel P ops (HC M row w0 w1 L) (GW sp) (RM (Mut M L)) S0 F (k + 1) rest (a.put (some d) u)) : wpRel P ops (HC M row w0 w1 L) (GW sp) (RM (Mut M L)) S0 F k (o :: rest) a :=
  rel_call hS hw f args d hd (fun w _ _ => hrun w) (fun w hC hD => (hc w hC.1 hD).mono fun e' w' ⟨u, h1, h2, h3, h4⟩ => ⟨u, h1, (GW_on hsp).2 h2, ⟨h3, hC.2.trans h4⟩, h4⟩) fun u w hC hu => hn u w hC.1 ((GW_on hsp).1 hu)
/-- a new block: its cells -/
theorem dw_new (cs : Array Value) (t : TypeId) (d : Tmp) (V : Value → World → Prop) (mk : Nat → Value) (hS : S0.getD k false = false) (hw : Region.wanted o (yielded ops a.tmps) = true) (hd : o.dst = some d) (hsp : sp d = some V) (hrun : ∀ w, (execOp a.eval o).run P w = .ok (.value (mk w.heap.size)) (w.alloc (.cells cs t)))
    (hc : ∀ w, Hold M row w0 w L → RM (Mut M L) w1 w → Deps ops (GW sp) o a w → (∀ M', (∀ b, M' b → b < w.heap.size) → Ro (w.alloc (.cells cs t)) M' (fun w' => w'.heap[w.heap.size]? = some (.cells cs t (0, 0)))) → V (mk w.heap.size) (w.alloc (.cells cs t))) (hn : ∀ g w, Hold M row w0 w L → V (mk g) w → wpRel P ops (HC M row w0 w1 L) (GW sp) (RM (Mut M L)) S0 F (k + 1) rest (a.put (some d) (mk g))) : wpRel P ops (HC M row w0 w1 L) (GW sp) (RM (Mut M L)) S0 F k (o :: rest) a :=
  rel_new hS hw (.cells cs t) d hd mk (fun w _ _ => hrun w) (fun w hC hD => ⟨(GW_on hsp).2 (hc w hC.1 hC.2 hD fun M' hM' w2 h1 h2 => (h2 w.heap.size (by simp) (fun hm => Nat.lt_irrefl _ (hM' _ hm))).trans (heap_alloc_new w _)), ⟨(hC.1.alloc_cst cs t).drop (List.sublist_cons_self _ _), hC.2.trans (RM.alloc _ w _)⟩, RM.alloc _ w _⟩) fun g w hC hg => hn g w hC.1 ((GW_on hsp).1 hg)
theorem deps_at {w : World} (h : Deps ops (GW sp) o a w) (j : Nat) {oj : Oper} (hj : ops[j]? = some oj) (he : (o.after.any fun e => Region.binds .any e && e.on == j) = true) {d : Tmp} (hd : oj.dst = some d) {V : Value → World → Prop} (hsp : sp d = some V) : V (slot a (some d)) w := by
  obtain ⟨e, hm, hb⟩ := Array.any_eq_true'.1 he
  simp only [Bool.and_eq_true, beq_iff_eq] at hb
  have := h e hm hb.1 oj (by rw [hb.2]; exact hj)
  rw [hd] at this
  exact (GW_on hsp).1 this
end
section
variable {M : Nat → Prop} {row : Option Nat} {w0 w1 : World} {L : List Hp} {sp : SpW} {F : Act → Prop} {S0 : Array Bool} {ops : Array Oper} {o : Oper} {rest : List Oper} {a : Act} {k : Nat} {T : Nat}
end
/-- A block that came since w1, taken for an own row. -/
theorem Hold.addFresh {M : Nat → Prop} {row : Option Nat} {w0 w1 w : World} {L : List Hp} (K1 : Hold M row w0 w1 L) (K : Hold M row w0 w L) (hr : RM (Mut M L) w1 w) {g n : Nat} {t : TypeId} {cs : Array Value} (size : Nat) (hg : w1.heap.size ≤ g) (hb : w.heap[g]? = some (.cells cs t (0, 0))) (hm : n ≤ maxLen) (hs : cs.size = n * size) :
    Hold M row w0 w (.own t size (.slice (some ⟨g, 0, none⟩) n n) n cs.toList :: L) := by
  have hgl : g < w.heap.size := Blk.lt (t := t) (cs := cs) hb
  have hno : ∀ k ∈ L, k.foot ≠ some g := fun k hk hf => by have := (K1.fresh k hk g hf).2; omega
  have ee : ∀ b, b < w1.heap.size → Mut M (.own t size (.slice (some ⟨g, 0, none⟩) n n) n cs.toList :: L) b → Mut M L b := fun b hl hb => by
    rcases mut_cons.1 hb with hf | hm
    · have : some g = some b := hf
      injection this with this
      omega
    · exact hm
  refine ⟨K.grow, K.low, fun k hk => ?_, fun k hk b hf => ?_, ⟨fun b hf k hk he => ?_, K.sep⟩⟩
  · rcases List.mem_cons.1 hk with rfl | hk
    · exact ⟨by simpa using hs, .inr ⟨g, n, cs, rfl, Nat.le_trans K1.grow.size hg, hb, Nat.le_refl _, hm, hs, by rw [List.take_of_length_le (by simp [hs])]⟩⟩
    · have h1 := K1.sat k hk
      have h2 := K.sat k hk
      cases k with
      | blk g' t' cs' => exact h2
      | own e s v n' xs => exact h2
      | tp T =>
        refine ⟨h2.1, fun b hb' => ?_⟩
        have hT : T < w1.heap.size := (K1.fresh _ hk T rfl).2
        rcases mut_cons.1 hb' with hf | hm'
        · have : some g = some b := hf
          injection this with this
          omega
        · exact h2.2 b hm'
      | ro S => exact Ro.step h1 hr.1 hr.2 ee
      | cst g' t' cs' => exact Ro.step h1 hr.1 hr.2 ee
      | ob g' F' => exact h2
  · rcases List.mem_cons.1 hk with rfl | hk
    · have : some g = some b := hf
      injection this with this
      subst this
      exact ⟨.inl (Nat.le_trans K1.grow.size hg), hgl⟩
    · exact K.fresh k hk b hf
  · have : some g = some b := hf
    injection this with this
    subst this
    exact hno k hk he
end Go.Proofs.Ytphofeeaphkciaa

namespace Go.Proofs.Ytphofeeaphkciaa
open Go.RowKit
set_option linter.unusedVariables false
set_option linter.unusedSimpArgs false
section
variable {P : Program} {M : Nat → Prop} {row : Option Nat} {w0 w1 : World} {L : List Hp} {sp : SpW} {F : Act → Prop} {S0 : Array Bool}
variable {ops : Array Oper} {o : Oper} {rest : List Oper} {a : Act} {k : Nat}
/-- a call of any kind; what came since the region's start is at hand -/
theorem dw_callR {f : FuncId} {args : Array Value} (d : Tmp) (V : Value → World → Prop) (hS : S0.getD k false = false) (hw : Region.wanted o (yielded ops a.tmps) = true) (hd : o.dst = some d) (hsp : sp d = some V) (hrun : ∀ w, (execOp a.eval o).run P w = .ok (.enter f args) w)
    (hc : ∀ w, Hold M row w0 w L → RM (Mut M L) w1 w → Deps ops (GW sp) o a w → Calls P f args w fun e w' => ∃ u, e = .returned u ∧ V u w' ∧ Hold M row w0 w' L ∧ RM (Mut M L) w w') (hn : ∀ u w, Hold M row w0 w L → V u w → wpRel P ops (HC M row w0 w1 L) (GW sp) (RM (Mut M L)) S0 F (k + 1) rest (a.put (some d) u)) : wpRel P ops (HC M row w0 w1 L) (GW sp) (RM (Mut M L)) S0 F k (o :: rest) a :=
  rel_call hS hw f args d hd (fun w _ _ => hrun w) (fun w hC hD => (hc w hC.1 hC.2 hD).mono fun e' w' ⟨u, h1, h2, h3, h4⟩ => ⟨u, h1, (GW_on hsp).2 h2, ⟨h3, hC.2.trans h4⟩, h4⟩) fun u w hC hu => hn u w hC.1 ((GW_on hsp).1 hu)
end
theorem own_RM {M : Nat → Prop} {b0 : Nat} (hM : ∀ b, M b → b < b0) {w w' : World} (hr : RM M w w') {e : TypeId} {size n : Nat} {v : Value} {xs : List Value} (h : w.ownsRow b0 e size v n xs) : w'.ownsRow b0 e size v n xs := by
  refine ⟨h.1, ?_⟩
  rcases h.2 with hn | ⟨g, cap, cur, hv, hg, hh, rest⟩
  · exact .inl hn
  · exact .inr ⟨g, cap, cur, hv, hg, (hr.2 g (Blk.lt (t := e) (cs := cur) hh) (fun hm => by have := hM g hm; omega)).trans hh, rest⟩
theorem own_base {w : World} {b0 b1 : Nat} (h01 : b0 ≤ b1) {e : TypeId} {size n : Nat} {v : Value} {xs : List Value} (h : w.ownsRow b1 e size v n xs) : w.ownsRow b0 e size v n xs := by
  refine ⟨h.1, ?_⟩
  rcases h.2 with hn | ⟨g, cap, cur, hv, hg, rest⟩
  · exact .inl hn
  · exact .inr ⟨g, cap, cur, hv, Nat.le_trans h01 hg, rest⟩
/-- A row that came since w1, taken in. -/
theorem Hold.addOwn {M : Nat → Prop} {row : Option Nat} {w0 w1 w : World} {L : List Hp} (K1 : Hold M row w0 w1 L) (K : Hold M row w0 w L) (hr : RM (Mut M L) w1 w) {e : TypeId} {size n : Nat} {v : Value} {xs : List Value} (ho : w.ownsRow w1.heap.size e size v n xs) :
    Hold M row w0 w (.own e size v n xs :: L) := by
  have hbase : ∀ b, v.ownBlock = some b → w1.heap.size ≤ b ∧ b < w.heap.size := fun b hf => ho.lt b hf
  have ee : ∀ b, b < w1.heap.size → Mut M (.own e size v n xs :: L) b → Mut M L b := fun b hl hb => by
    rcases mut_cons.1 hb with hf | hm
    · have := (hbase b hf).1; omega
    · exact hm
  refine ⟨K.grow, K.low, fun k hk => ?_, fun k hk b hf => ?_, ⟨fun b hf k hk he => ?_, K.sep⟩⟩
  · rcases List.mem_cons.1 hk with rfl | hk
    · exact own_base K1.grow.size ho
    · have h1 := K1.sat k hk
      have h2 := K.sat k hk
      cases k with
      | blk g' t' cs' => exact h2
      | own e s v n' xs => exact h2
      | tp T =>
        refine ⟨h2.1, fun b hb' => ?_⟩
        have hT : T < w1.heap.size := (K1.fresh _ hk T rfl).2
        rcases mut_cons.1 hb' with hf | hm'
        · have := (hbase b hf).1
          omega
        · exact h2.2 b hm'
      | ro S => exact Ro.step h1 hr.1 hr.2 ee
      | cst g' t' cs' => exact Ro.step h1 hr.1 hr.2 ee
      | ob g' F' => exact h2
  · rcases List.mem_cons.1 hk with rfl | hk
    · have := hbase b hf
      exact ⟨.inl (Nat.le_trans K1.grow.size this.1), this.2⟩
    · exact K.fresh k hk b hf
  · have h1 := (hbase b hf).1
    have h2 := (K1.fresh k hk b he).2
    omega
/-- just that value -/
def IsV (x : Value) (u : Value) (_ : World) : Prop := u = x
theorem isV_mono {M : Nat → Prop} {x : Value} (u : Value) (w w' : World) (_ : RM M w w') (h : IsV x u w) : IsV x u w' := h
end Go.Proofs.Ytphofeeaphkciaa

namespace Go.Proofs.Ytphofeeaphkciaa
open Go.RowKit
set_option linter.unusedVariables false
set_option linter.unusedSimpArgs false

theorem fits_val (c : Col) (v : Vl) (hs : v.s.size ≤ maxLen) : Gives 28 #[.agg #[.string c.name, .int .i64 c.ty, .bool c.nn, .bool c.key], .agg #[.int .i64 v.k, .int .i64 v.i, .string v.s]] (.int .i64 (fitsV c v)) := fits_any c.name c.ty c.nn c.key v.k v.i v.s hs
set_option maxHeartbeats 4000000 in
set_option maxRecDepth 100000 in
theorem tfits_any (M : Nat → Prop) (w : World) (hM : ∀ b, M b → b < w.heap.size) (nm : ByteArray) (A : Option Addr) (n c : Nat) (cs : List Col) (B : Option Addr) (m d : Nat) (vs : List Vl) (hD : Ro w M (SlR 4 A n (colCells cs))) (hE : Ro w M (VlsIn B m vs)) (hn : n ≤ 9223372036854775807) (hm : m ≤ 9223372036854775807) (hok : ∀ v ∈ vs, v.ok) :
    Calls Try.prog 15 #[.agg #[.string nm, .slice A n c], .slice B m d] w fun e w' => e = .returned (.int .i64 (fitsT cs vs)) ∧ Below w.heap.size w w' := by
  have HL := hid (RdC.of_sl hD.now).len
  have HV := hid hE.now.len
  have K0 := (((Hold.start M w hM).add (hE.less (by simp [Mut]))).add (hD.less (by simp [Mut, Hp.foot]))).alloc_cst #[.string nm, .slice A n c] 25
  have F0 := K0.facts
  simp only [World.size_alloc, World.size_drew, factsL, cellsF, Nat.reduceAdd, List.toList_toArray, List.set_cons_zero, List.set_cons_succ, List.setIfInBounds_toArray, and_true, true_and] at F0
  go_enter Try.func15, Try.ntmps15
  by_cases hnm : m = n
  · subst hnm
    have hb : ((m : Int) != (m : Int)) = false := by simp
    have HE0 := hid (show fitsT cs vs = fitsL (cs.drop 0) (vs.drop 0) by unfold fitsT; rw [if_pos (by rw [HL.out, HV.out])]; rfl)
    clear hD hE
    go_wp2_with fail
    clear F0
    go_loopw [17] (fun iv wr => ∃ k : Nat, k ≤ m ∧ iv = .int .i64 k ∧ Hid (fitsT cs vs = fitsL (cs.drop k) (vs.drop k)) ∧ Hold M none w wr [.cst w.heap.size 25 #[.string nm, .slice A m c], .ro (SlR 4 A m (colCells cs)), .ro (VlsIn B m vs)]) (fun iv _ => m - (intOf iv).toNat)
    case atStart => exact ⟨0, by omega, rfl, HE0, K0⟩
    case round =>
      clear K0 HE0
      obtain ⟨k, hk, rfl, HE, H⟩ := hrel
      by_cases hlt : k < m
      · have hd : decide ((k : Int) < (m : Int)) = true := by simp; omega
        have k0 : (0 : Int) ≤ (k : Int) := by omega
        have k1 : (k : Int) < (m : Int) := by omega
        obtain ⟨x, hx⟩ := get_col HL.out hlt
        obtain ⟨v, hv⟩ := get_of HV.out hlt
        obtain ⟨g, o, rfl, hgb, c0, c1, c2, c3⟩ := (RdC.of_sl (H.ro 1 rfl).now).at_ hx
        have hvok := hok v (List.mem_of_getElem? hv)
        have HX := hid hx; have HVV := hid hv
        clear hx hv
        have K1 := H.alloc_cst #[.string x.name, .int .i64 x.ty, .bool x.nn, .bool x.key] 63
        obtain ⟨gb, hgb⟩ : ∃ gb, gb = wr.heap.size := ⟨_, rfl⟩
        obtain ⟨KL, hKL⟩ : ∃ KL : List Hp, KL = [Hp.cst wr.heap.size 63 #[.string x.name, .int .i64 x.ty, .bool x.nn, .bool x.key], .cst w.heap.size 25 #[.string nm, .slice (some ⟨g, o, none⟩) m c], .ro (SlR 4 (some ⟨g, o, none⟩) m (colCells cs)), .ro (VlsIn B m vs)] := ⟨_, rfl⟩
        rw [← hKL] at K1
        rw [← hgb] at hKL
        obtain ⟨gv, ov, rfl, _⟩ := (H.ro 2 rfl).now.at_ HVV.out
        have HF : Hid (∀ wv, Hold M none w wv KL → (wv.cell? ⟨gb, 0, none⟩ = some (.string x.name) ∧ wv.cell? ⟨gb, 1, none⟩ = some (.int .i64 x.ty) ∧ wv.cell? ⟨gb, 2, none⟩ = some (.bool x.nn) ∧ wv.cell? ⟨gb, 3, none⟩ = some (.bool x.key)) ∧ gb < wv.heap.size ∧ wv.cell? ⟨gv, ov + k * 3, none⟩ = some (.int .i64 v.k) ∧ wv.cell? ⟨gv, ov + k * 3 + 1, none⟩ = some (.int .i64 v.i) ∧ wv.cell? ⟨gv, ov + k * 3 + 2, none⟩ = some (.string v.s) ∧ gv < wv.heap.size) := hid fun wv HC => by
          rw [hKL] at HC
          have b0 := HC.cst_ 0 rfl
          obtain ⟨gv', ov', e', hl, e0, e1, e2⟩ := (HC.ro 3 rfl).now.at_ HVV.out
          obtain ⟨rfl, rfl⟩ : gv = gv' ∧ ov = ov' := by injection e' with e'; injection e' with a1 a2; exact ⟨a1, a2⟩
          exact ⟨⟨cell_of_row _ _ 0 _ _ _ b0, cell_of_row _ _ 1 _ _ _ b0, cell_of_row _ _ 2 _ _ _ b0, cell_of_row _ _ 3 _ _ _ b0⟩, Blk.lt b0, e0, e1, e2, hl⟩
        go_wp2_with fail
        rw [← hgb]
        have HGB := hid hgb
        have HKL := hid hKL
        clear hgb hKL
        generalize wr.alloc (.cells #[.string x.name, .int .i64 x.ty, .bool x.nn, .bool x.key] 63) = w2 at *
        refine wp_region_any (by kernel_rfl) ?_
        refine wpAny_hold 6 32 (KL) (spL [(27, IsV (.int .i64 (fitsV x v)))]) (by kernel_rfl) (by kernel_rfl) (by kernel_rfl) rfl ?_ (K1.drew) ?_
        · exact stays_cons isV_mono (stays_nil _)
        simp only [List.take_succ_cons, List.take_zero, List.drop_succ_cons, List.drop_zero, Act.put, List.getElem_toArray, List.getElem_cons_zero, List.getElem_cons_succ, List.setIfInBounds_toArray, List.set_cons_succ, List.set_cons_zero]
        refine dw_val rfl rfl rfl ?_; apply Exists.intro; refine ⟨fun wv HC => ?_, ?_⟩
        · obtain ⟨⟨f0, f1, f2, f3⟩, f4, f5, f6, f7, f8⟩ := HF.out _ HC; go_simp <;> rfl
        simp only [Act.put, List.setIfInBounds_toArray, List.set_cons_succ, List.set_cons_zero]
        refine dw_val rfl rfl rfl ?_; apply Exists.intro; refine ⟨fun wv HC => ?_, ?_⟩
        · obtain ⟨⟨f0, f1, f2, f3⟩, f4, f5, f6, f7, f8⟩ := HF.out _ HC; go_simp <;> rfl
        simp only [Act.put, List.setIfInBounds_toArray, List.set_cons_succ, List.set_cons_zero]
        refine dw_val rfl rfl rfl ?_; apply Exists.intro; refine ⟨fun wv HC => ?_, ?_⟩
        · obtain ⟨⟨f0, f1, f2, f3⟩, f4, f5, f6, f7, f8⟩ := HF.out _ HC; go_simp <;> rfl
        simp only [Act.put, List.setIfInBounds_toArray, List.set_cons_succ, List.set_cons_zero]
        refine dw_val rfl rfl rfl ?_; apply Exists.intro; refine ⟨fun wv HC => ?_, ?_⟩
        · obtain ⟨⟨f0, f1, f2, f3⟩, f4, f5, f6, f7, f8⟩ := HF.out _ HC; go_simp <;> rfl
        simp only [Act.put, List.setIfInBounds_toArray, List.set_cons_succ, List.set_cons_zero]
        refine dw_val rfl rfl rfl ?_; apply Exists.intro; refine ⟨fun wv HC => ?_, ?_⟩
        · obtain ⟨⟨f0, f1, f2, f3⟩, f4, f5, f6, f7, f8⟩ := HF.out _ HC; go_simp <;> rfl
        simp only [Act.put, List.setIfInBounds_toArray, List.set_cons_succ, List.set_cons_zero]
        refine dw_callR 27 (IsV (.int .i64 (fitsV x v))) (f := 28) (args := #[.agg #[.string x.name, .int .i64 x.ty, .bool x.nn, .bool x.key], .agg #[.int .i64 v.k, .int .i64 v.i, .string v.s]]) rfl rfl rfl rfl (fun wv => ?_) (fun wv HC hrm hD => ?_) ?_
        · go_simp <;> rfl
        · refine (fits_val x v hvok.2.2 wv).mono ?_
          rintro e w5 ⟨rfl, b5⟩
          exact ⟨_, rfl, rfl, HC.call b5, RM.below b5⟩
        rintro u wx HCx hu
        obtain rfl : u = _ := hu
        clear HCx
        simp only [Act.put, List.setIfInBounds_toArray, List.set_cons_succ, List.set_cons_zero]
        refine rel_nil ?_
        rintro wx2 HX2
        rintro _hrm _HG
        rw [HKL.out] at HX2
        clear _hrm _HG
        by_cases hz : fitsV x v = 0
        · have HN := hid (show fitsT cs vs = fitsL (cs.drop (k + 1)) (vs.drop (k + 1)) by rw [HE.out, fitsL_step HX.out HVV.out hz])
          rw [hz]
          clear hz
          go_wp2_with fail
          go_roundw
          case rel => exact ⟨k + 1, by omega, by go_num, HN, HX2.drop (List.sublist_cons_self _ _)⟩
          case measure => simp [intOf]; omega
        · have HN := hid (show fitsT cs vs = fitsV x v by rw [HE.out, fitsL_bad HX.out HVV.out hz])
          have hz2 : (fitsV x v != 0) = true := by simp [hz]
          clear hz
          go_wp2_with fail
          go_ret
          exact ⟨by rw [HN.out] <;> rfl, HX2.below⟩
      · obtain rfl : k = m := by omega
        have hd : decide ((k : Int) < (k : Int)) = false := by simp
        have HN := hid (show fitsT cs vs = 0 by rw [HE.out, fitsL_end (by rw [HL.out]; exact Nat.le_refl _)])
        go_wp2_with fail
        go_ret
        exact ⟨by rw [HN.out] <;> rfl, H.below⟩
  · have hb : ((m : Int) != (n : Int)) = true := by rw [bne_iff_ne]; omega
    have HF := hid (show fitsT cs vs = 17 by unfold fitsT; rw [if_neg (by rw [HL.out, HV.out]; exact hnm)])
    go_wp2_with fail
    go_ret
    exact ⟨by rw [HF.out] <;> rfl, K0.below⟩
end Go.Proofs.Ytphofeeaphkciaa

namespace Go.Proofs.Ytphofeeaphkciaa
open Go.RowKit
set_option linter.unusedVariables false
set_option linter.unusedSimpArgs false

def letterN (x : Nat) : Bool := decide (97 ≤ x) && decide (x ≤ 122)
def digitN (x : Nat) : Bool := decide (48 ≤ x) && decide (x ≤ 57)
def nameN (x : Nat) : Bool := letterN x || digitN x || x == 95
def nameB (s : ByteArray) : Bool := decide (1 ≤ s.size) && decide (s.size ≤ 12) && letterN (s.data.toList.getD 0 0).toNat && s.data.toList.all (fun c => nameN c.toNat)

theorem nameB_len0 {s : ByteArray} (h : s.size < 1) : nameB s = false := by simp [nameB]; omega
theorem nameB_long {s : ByteArray} (h : 12 < s.size) : nameB s = false := by simp [nameB]; omega
theorem nameB_first {s : ByteArray} {c : UInt8} (hc : s.data.toList.getD 0 0 = c) (h : letterN c.toNat = false) : nameB s = false := by
  unfold nameB; rw [hc, h]; simp
theorem nameB_bad {s : ByteArray} {k : Nat} {c : UInt8} (hk : s.data.toList[k]? = some c) (h : nameN c.toNat = false) : nameB s = false := by
  have : s.data.toList.all (fun c => nameN c.toNat) = false := by
    rw [List.all_eq_false]
    exact ⟨c, List.mem_of_getElem? hk, by simp [h]⟩
  unfold nameB; rw [this, Bool.and_false]
theorem nameB_ok {s : ByteArray} {c : UInt8} (h1 : 1 ≤ s.size) (h2 : s.size ≤ 12) (hc : s.data.toList.getD 0 0 = c) (hl : letterN c.toNat = true) (ha : s.data.toList.all (fun c => nameN c.toNat) = true) : nameB s = true := by
  unfold nameB; rw [hc, hl, ha]; simp [h1, h2]
theorem all_snoc {s : ByteArray} {k : Nat} {c : UInt8} {p : UInt8 → Bool} (hk : s.data.toList[k]? = some c) (ha : (s.data.toList.take k).all p = true) (hp : p c = true) : (s.data.toList.take (k + 1)).all p = true := by
  obtain ⟨h, rfl⟩ := List.getElem?_eq_some_iff.1 hk
  rw [List.take_succ_eq_append_getElem h, List.all_append, ha]
  simpa using hp
theorem all_end {s : ByteArray} {p : UInt8 → Bool} (ha : (s.data.toList.take s.size).all p = true) : s.data.toList.all p = true := by
  rwa [List.take_of_length_le (by simp)] at ha
theorem byte_at (s : ByteArray) {k : Nat} (h : k < s.size) : s.data.toList[k]? = some s[k] := by
  rw [List.getElem?_eq_getElem (by simpa using h)]; rfl
theorem first_at (s : ByteArray) (h : 0 < s.size) : s.data.toList.getD 0 0 = s[0] := by
  simp only [List.getD, byte_at s h, Option.getD_some]
theorem nameN_false {x : Nat} (h1 : ¬ (97 ≤ x ∧ x ≤ 122)) (h2 : ¬ (48 ≤ x ∧ x ≤ 57)) (h3 : x ≠ 95) : nameN x = false := by
  simp [nameN, letterN, digitN]; omega
theorem nameN_letter {x : Nat} (h1 : 97 ≤ x) (h2 : x ≤ 122) : nameN x = true := by simp [nameN, letterN, h1, h2]
theorem nameN_digit {x : Nat} (h1 : 48 ≤ x) (h2 : x ≤ 57) : nameN x = true := by simp [nameN, digitN, h1, h2]

theorem bytes_below (w : World) (e : TypeId) (s : ByteArray) : Below w.heap.size w (Lib.bytesWorld w e s) := by
  refine ⟨?_, ?_, ?_, by rw [Lib.bytesWorld_size]; omega, fun k hk => Lib.bytesWorld_at_old w e s k hk⟩
  all_goals first | rfl | (simp [Lib.bytesWorld, World.freeze]; rfl)

set_option maxRecDepth 100000 in
set_option maxHeartbeats 4000000 in
theorem validname_any (s : ByteArray) (w : World) (hs : s.size ≤ maxLen) :
    Calls Try.prog 26 #[.string s] w fun e w' => e = .returned (.bool (nameB s)) ∧ Below w.heap.size w w' := by
  unfold maxLen at hs
  by_cases h1 : s.size < 1
  · have HN := hid (nameB_len0 h1)
    go_enter Try.func26, Try.ntmps26
    go_wp2_with fail
    go_ret
    exact ⟨by rw [HN.out] <;> rfl, Below.refl _ _⟩
  by_cases h2 : 12 < s.size
  · have HN := hid (nameB_long h2)
    go_enter Try.func26, Try.ntmps26
    go_wp2_with fail
    go_ret
    exact ⟨by rw [HN.out] <;> rfl, Below.refl _ _⟩
  have p0 : 0 < s.size := by omega
  have p1 : 1 ≤ s.size := by omega
  have p2 : s.size ≤ 12 := by omega
  have hf := hid (first_at s p0)
  have hlt : s[0].toNat < 256 := s[0].toNat_lt
  by_cases h3 : s[0].toNat < 97
  · have HN := hid (nameB_first hf.out (by simp [letterN]; omega))
    go_enter Try.func26, Try.ntmps26
    go_wp2_with fail
    go_ret
    exact ⟨by rw [HN.out] <;> rfl, Below.refl _ _⟩
  have hcv := Lib.run_convert_string_bytes (P := Try.prog) w 9 78 5 s Try.underlying9 Try.underlying78 Try.underlying5
  have hcell := hid (fun j hj => Lib.bytesWorld_cell w 5 s j hj)
  have hb := hid (bytes_below w 5 s)
  obtain ⟨w1, hw1⟩ : ∃ w1, w1 = Lib.bytesWorld w 5 s := ⟨_, rfl⟩
  rw [← hw1] at hcv hcell hb
  clear hw1
  go_enter Try.func26, Try.ntmps26
  go_wp2_with fail
  go_loop [21] (fun i => ∃ k : Nat, k ≤ s.size ∧ i = .int .i64 k ∧ (s.data.toList.take k).all (fun c => nameN c.toNat) = true) (fun i => s.size - (intOf i).toNat)
  case atStart => exact ⟨0, by omega, rfl, rfl⟩
  case round =>
    obtain ⟨k, hk, rfl, hall⟩ := hrel
    have HA := hid hall; clear hall
    by_cases hlt : k < s.size
    · have HK := hid (byte_at s hlt)
      have hc := hcell.out k hlt
      rw [show s.data.toList.getD k 0 = s[k] by simp only [List.getD, HK.out, Option.getD_some]] at hc
      have hx : s[k].toNat < 256 := s[k].toNat_lt
      obtain ⟨x, hxx⟩ : ∃ x, x = s[k].toNat := ⟨_, rfl⟩
      rw [← hxx] at hc hx
      have HX := hid hxx; clear hxx
      by_cases hcls : (97 ≤ x ∧ x ≤ 122) ∨ (48 ≤ x ∧ x ≤ 57) ∨ x = 95
      · have HN : Hid (nameN s[k].toNat = true) := by
          unfold Hid; rw [← HX.out]
          rcases hcls with ⟨a, b⟩ | ⟨a, b⟩ | rfl
          · exact nameN_letter a b
          · exact nameN_digit a b
          · rfl
        rcases hcls with ⟨a, b⟩ | ⟨a, b⟩ | rfl
        all_goals
          go_wp2_with fail
          go_round
          case rel => exact ⟨k + 1, by omega, by go_num, all_snoc HK.out HA.out HN.out⟩
          case measure => simp [intOf]; omega
      · have HN : Hid (nameB s = false) := nameB_bad HK.out (by rw [← HX.out]; exact nameN_false (by omega) (by omega) (by omega))
        have hx : x < 48 ∨ (57 < x ∧ x < 95) ∨ (95 < x ∧ x < 97) ∨ 122 < x := by omega
        clear hcls
        rcases hx with h | ⟨h, h'⟩ | ⟨h, h'⟩ | h
        all_goals
          go_wp2_with fail
          go_ret
          exact ⟨by rw [HN.out] <;> rfl, hb.out⟩
    · obtain rfl : k = s.size := by omega
      have h97 : 97 ≤ s[0].toNat := by omega
      by_cases h122 : s[0].toNat ≤ 122
      · have HN := hid (nameB_ok p1 p2 hf.out (by simp [letterN]; omega) (all_end HA.out))
        have hne : ((s[0].toNat : Int) != 95) = true := by rw [bne_iff_ne]; omega
        go_wp2_with fail
        go_ret
        exact ⟨by rw [HN.out] <;> rfl, hb.out⟩
      · exfalso
        have h1 := all_end HA.out
        rw [List.all_eq_true] at h1
        have h2 := h1 s[0] (List.mem_of_getElem? (byte_at s p0))
        rw [nameN_false (by omega) (by omega) (by omega)] at h2
        cases h2
end Go.Proofs.Ytphofeeaphkciaa

namespace Go.Proofs.Ytphofeeaphkciaa
open Go.RowKit
set_option linter.unusedVariables false
set_option linter.unusedSimpArgs false

end Go.Proofs.Ytphofeeaphkciaa

namespace Go.Proofs.Ytphofeeaphkciaa
open Go.RowKit
set_option linter.unusedVariables false
set_option linter.unusedSimpArgs false

def colOk (l : List Col) (k : Nat) (c : Col) : Bool := nameB c.name && (findB (named c.name) l == (k : Int)) && decide (1 ≤ c.ty) && decide (c.ty ≤ 3) && (!c.key || c.nn)
def schemaB (nm : ByteArray) (l : List Col) : Bool := nameB nm && decide (1 ≤ l.length) && decide (l.length ≤ 6) && okFrom (colOk l) 0 l && decide ((l.filter Col.key).length ≤ 1)
theorem named_self (c : Col) : named c.name c = true := by simp [named]
theorem schemaB_bad {nm : ByteArray} {l : List Col} (h : okFrom (colOk l) 0 l = false) : schemaB nm l = false := by simp [schemaB, h]
theorem schemaB_end {nm : ByteArray} {l : List Col} {n : Nat} (hv : nameB nm = true) (hl : l.length = n) (h1 : 1 ≤ n) (h2 : n ≤ 6) (h : okFrom (colOk l) 0 l = true) : schemaB nm l = decide (((l.filter Col.key).length : Int) ≤ 1) := by
  simp [schemaB, hv, hl, h1, h2, h]; omega
theorem keys_end {l : List Col} {n : Nat} (hl : l.length = n) : ((l.take n).filter Col.key).length = (l.filter Col.key).length := by rw [List.take_of_length_le (by omega)]
theorem keys_le (l : List Col) (k : Nat) : ((l.take k).filter Col.key).length ≤ k := Nat.le_trans (List.length_filter_le _ _) (List.length_take_le _ _)

set_option maxHeartbeats 8000000 in
theorem svalid_any (M : Nat → Prop) (w : World) (hM : ∀ b, M b → b < w.heap.size) (nm : ByteArray) (A : Option Addr) (n c : Nat) (l : List Col) (hD : Ro w M (SlR 4 A n (colCells l))) (hn : n ≤ 9223372036854775807) (hs : nm.size ≤ maxLen) (hok : ∀ x ∈ l, x.name.size ≤ maxLen) :
    Calls Try.prog 14 #[.agg #[.string nm, .slice A n c]] w fun e w' => e = .returned (.bool (schemaB nm l)) ∧ Below w.heap.size w w' := by
  have HL := hid (RdC.of_sl hD.now).len
  have K0 := ((Hold.start M w hM).add (hD.less (by simp [Mut]))).alloc_cst #[.string nm, .slice A n c] 25
  cases hv : nameB nm
  · have HN : Hid (schemaB nm l = false) := by unfold Hid; simp [schemaB, hv]
    have HV := hid hv; clear hv
    go_enter Try.func14, Try.ntmps14
    go_wp2_with fail
    refine (validname_any nm _ hs).mono ?_
    rintro e w1 ⟨rfl, b1⟩
    have K1 := Hold.call (K0) b1
    clear b1
    try simp only [World.size_alloc] at K1
    have F1 := K1.facts
    simp only [World.size_alloc, World.size_drew, factsL, cellsF, Nat.reduceAdd, List.toList_toArray, List.set_cons_zero, List.set_cons_succ, List.setIfInBounds_toArray, and_true, true_and] at F1
    rw [HV.out]
    go_wp2_with fail
    go_ret
    exact ⟨by rw [HN.out] <;> rfl, K1.below⟩
  have HV := hid hv; clear hv
  by_cases h1 : n < 1
  · have HN : Hid (schemaB nm l = false) := by unfold Hid; have := HL.out; simp [schemaB]; intros; omega
    go_enter Try.func14, Try.ntmps14
    go_wp2_with fail
    refine (validname_any nm _ hs).mono ?_
    rintro e w1 ⟨rfl, b1⟩
    have K1 := Hold.call (K0) b1
    clear b1
    try simp only [World.size_alloc] at K1
    have F1 := K1.facts
    simp only [World.size_alloc, World.size_drew, factsL, cellsF, Nat.reduceAdd, List.toList_toArray, List.set_cons_zero, List.set_cons_succ, List.setIfInBounds_toArray, and_true, true_and] at F1
    rw [HV.out]
    go_wp2_with fail
    go_ret
    exact ⟨by rw [HN.out] <;> rfl, K1.below⟩
  by_cases h6 : 6 < n
  · have HN : Hid (schemaB nm l = false) := by unfold Hid; have := HL.out; simp [schemaB]; intros; omega
    go_enter Try.func14, Try.ntmps14
    go_wp2_with fail
    refine (validname_any nm _ hs).mono ?_
    rintro e w1 ⟨rfl, b1⟩
    have K1 := Hold.call (K0) b1
    clear b1
    try simp only [World.size_alloc] at K1
    have F1 := K1.facts
    simp only [World.size_alloc, World.size_drew, factsL, cellsF, Nat.reduceAdd, List.toList_toArray, List.set_cons_zero, List.set_cons_succ, List.setIfInBounds_toArray, and_true, true_and] at F1
    rw [HV.out]
    go_wp2_with fail
    go_ret
    exact ⟨by rw [HN.out] <;> rfl, K1.below⟩
  have n1 : 1 ≤ n := by omega
  have n6 : n ≤ 6 := by omega
  go_enter Try.func14, Try.ntmps14
  go_wp2_with fail
  refine (validname_any nm _ hs).mono ?_
  rintro e w1 ⟨rfl, b1⟩
  have K1 := Hold.call (K0) b1
  clear b1
  try simp only [World.size_alloc] at K1
  have F1 := K1.facts
  simp only [World.size_alloc, World.size_drew, factsL, cellsF, Nat.reduceAdd, List.toList_toArray, List.set_cons_zero, List.set_cons_succ, List.setIfInBounds_toArray, and_true, true_and] at F1
  rw [HV.out]
  go_wp2_with fail
  go_loopw [3, 25] (fun q i wr => ∃ k : Nat, k ≤ n ∧ i = .int .i64 k ∧ q = .int .i64 ((l.take k).filter Col.key).length ∧ okFrom (colOk l) 0 l = okFrom (colOk l) k (l.drop k) ∧ Hold M none w wr [.cst w.heap.size 25 #[.string nm, .slice A n c], .ro (SlR 4 A n (colCells l))]) (fun _ i _ => n - (intOf i).toNat)
  case atStart => exact ⟨0, by omega, rfl, rfl, rfl, K1⟩
  case round =>
    obtain ⟨k, hk, rfl, rfl, hf, H⟩ := hrel
    have HF := hid hf; clear hf F1
    by_cases hlt : k < n
    · obtain ⟨x, hc⟩ := get_col HL.out hlt
      have hx : x.name.size ≤ maxLen := hok x (List.mem_of_getElem? hc)
      have hfl := find_le (named_self x) hc
      have HQ := hid (filter_snoc Col.key hc)
      have hql := keys_le l k
      have hql1 := keys_le l (k + 1)
      obtain ⟨b, o, rfl, hb, c0, c1, c2, c3⟩ := (RdC.of_sl (H.ro 1 rfl).now).at_ hc
      have HOk : Hid (colOk l k x = (nameB x.name && (findB (named x.name) l == (k : Int)) && decide (1 ≤ x.ty) && decide (x.ty ≤ 3) && (!x.key || x.nn))) := rfl
      have HBad : Hid (colOk l k x = false → schemaB nm l = false) := fun h => schemaB_bad (ok_bad HF.out hc h)
      have HGood : Hid (colOk l k x = true → okFrom (colOk l) 0 l = okFrom (colOk l) (k + 1) (l.drop (k + 1))) := fun h => ok_good HF.out hc h
      obtain ⟨nx, ty, nn, key⟩ := x
      simp only at c0 c1 c2 c3 hx hfl
      have HX := hid (find_any M)
      obtain ⟨f, hfe⟩ : ∃ f, f = findB (named nx) l := ⟨_, rfl⟩
      rw [← hfe] at hfl
      have HFE := hid hfe; clear hfe
      obtain ⟨q, hqe⟩ : ∃ q, q = ((l.take k).filter Col.key).length := ⟨_, rfl⟩
      rw [← hqe] at hql
      have HQE := hid hqe
      rw [← hqe]
      clear hqe hc
      simp only at HOk HQ
      rw [← HFE.out] at HOk
      cases hvx : nameB nx
      · have HC : Hid (colOk l k ⟨nx, ty, nn, key⟩ = false) := by unfold Hid; rw [HOk.out, hvx]; rfl
        have HVX := hid hvx; clear hvx
        have KB := H.alloc_cst #[.string nx, .int .i64 ty, .bool nn, .bool key] 63
        go_wp2_with fail
        refine (validname_any nx _ hx).mono ?_
        rintro e w2 ⟨rfl, b2⟩
        have K2 := Hold.call (KB) b2
        clear b2
        try simp only [World.size_alloc] at K2
        have F2 := K2.facts
        simp only [World.size_alloc, World.size_drew, factsL, cellsF, Nat.reduceAdd, List.toList_toArray, List.set_cons_zero, List.set_cons_succ, List.setIfInBounds_toArray, and_true, true_and] at F2
        rw [HVX.out]
        go_wp2_with fail
        go_ret
        exact ⟨by rw [HBad.out HC.out] <;> rfl, K2.below⟩
      have HVX := hid hvx; clear hvx
      by_cases hfk : f < k
      · have HC : Hid (colOk l k ⟨nx, ty, nn, key⟩ = false) := by unfold Hid; rw [HOk.out, show (f == (k : Int)) = false from by rw [beq_eq_false_iff_ne]; omega]; simp
        have KB := H.alloc_cst #[.string nx, .int .i64 ty, .bool nn, .bool key] 63
        go_wp2_with fail
        refine (validname_any nx _ hx).mono ?_
        rintro e w2 ⟨rfl, b2⟩
        have K2 := Hold.call (KB) b2
        clear b2
        try simp only [World.size_alloc] at K2
        have F2 := K2.facts
        simp only [World.size_alloc, World.size_drew, factsL, cellsF, Nat.reduceAdd, List.toList_toArray, List.set_cons_zero, List.set_cons_succ, List.setIfInBounds_toArray, and_true, true_and] at F2
        rw [HVX.out]
        go_wp2_with fail
        refine (find_any (Mut M _) _ K2.mutLt nm _ n c l nx (K2.ro 2 rfl) hn).mono ?_
        rintro e w3 ⟨rfl, b3⟩
        have K3 := Hold.call K2 b3
        clear b3
        rw [← HFE.out]
        have F3 := K3.facts
        simp only [World.size_alloc, World.size_drew, factsL, cellsF, Nat.reduceAdd, List.toList_toArray, List.set_cons_zero, List.set_cons_succ, List.setIfInBounds_toArray, and_true, true_and] at F3
        go_wp2_with fail
        go_ret
        exact ⟨by rw [HBad.out HC.out] <;> rfl, K3.below⟩
      have hfe : f = k := by omega
      have HFK := hid hfe; clear hfe
      by_cases hlo : ty < 1
      · have HC : Hid (colOk l k ⟨nx, ty, nn, key⟩ = false) := by unfold Hid; rw [HOk.out, show decide (1 ≤ ty) = false from by simp; omega]; simp
        have KB := H.alloc_cst #[.string nx, .int .i64 ty, .bool nn, .bool key] 63
        go_wp2_with fail
        refine (validname_any nx _ hx).mono ?_
        rintro e w2 ⟨rfl, b2⟩
        have K2 := Hold.call (KB) b2
        clear b2
        try simp only [World.size_alloc] at K2
        have F2 := K2.facts
        simp only [World.size_alloc, World.size_drew, factsL, cellsF, Nat.reduceAdd, List.toList_toArray, List.set_cons_zero, List.set_cons_succ, List.setIfInBounds_toArray, and_true, true_and] at F2
        rw [HVX.out]
        go_wp2_with fail
        refine (find_any (Mut M _) _ K2.mutLt nm _ n c l nx (K2.ro 2 rfl) hn).mono ?_
        rintro e w3 ⟨rfl, b3⟩
        have K3 := Hold.call K2 b3
        clear b3
        rw [← HFE.out]
        have F3 := K3.facts
        simp only [World.size_alloc, World.size_drew, factsL, cellsF, Nat.reduceAdd, List.toList_toArray, List.set_cons_zero, List.set_cons_succ, List.setIfInBounds_toArray, and_true, true_and] at F3
        go_wp2_with fail
        go_ret
        exact ⟨by rw [HBad.out HC.out] <;> rfl, K3.below⟩
      have hlo1 : 1 ≤ ty := by omega
      by_cases hhi : 3 < ty
      · have HC : Hid (colOk l k ⟨nx, ty, nn, key⟩ = false) := by unfold Hid; rw [HOk.out, show decide (ty ≤ 3) = false from by simp; omega]; simp
        have KB := H.alloc_cst #[.string nx, .int .i64 ty, .bool nn, .bool key] 63
        go_wp2_with fail
        refine (validname_any nx _ hx).mono ?_
        rintro e w2 ⟨rfl, b2⟩
        have K2 := Hold.call (KB) b2
        clear b2
        try simp only [World.size_alloc] at K2
        have F2 := K2.facts
        simp only [World.size_alloc, World.size_drew, factsL, cellsF, Nat.reduceAdd, List.toList_toArray, List.set_cons_zero, List.set_cons_succ, List.setIfInBounds_toArray, and_true, true_and] at F2
        rw [HVX.out]
        go_wp2_with fail
        refine (find_any (Mut M _) _ K2.mutLt nm _ n c l nx (K2.ro 2 rfl) hn).mono ?_
        rintro e w3 ⟨rfl, b3⟩
        have K3 := Hold.call K2 b3
        clear b3
        rw [← HFE.out]
        have F3 := K3.facts
        simp only [World.size_alloc, World.size_drew, factsL, cellsF, Nat.reduceAdd, List.toList_toArray, List.set_cons_zero, List.set_cons_succ, List.setIfInBounds_toArray, and_true, true_and] at F3
        go_wp2_with fail
        go_ret
        exact ⟨by rw [HBad.out HC.out] <;> rfl, K3.below⟩
      have hhi3 : ty ≤ 3 := by omega
      by_cases hkn : key = false ∨ nn = true
      rotate_left
      · obtain ⟨rfl, rfl⟩ : key = true ∧ nn = false := by cases key <;> cases nn <;> simp at hkn ⊢
        have HC : Hid (colOk l k ⟨nx, ty, false, true⟩ = false) := by unfold Hid; rw [HOk.out]; simp
        clear hkn
        have KB := H.alloc_cst #[.string nx, .int .i64 ty, .bool false, .bool true] 63
        go_wp2_with fail
        refine (validname_any nx _ hx).mono ?_
        rintro e w2 ⟨rfl, b2⟩
        have K2 := Hold.call (KB) b2
        clear b2
        try simp only [World.size_alloc] at K2
        have F2 := K2.facts
        simp only [World.size_alloc, World.size_drew, factsL, cellsF, Nat.reduceAdd, List.toList_toArray, List.set_cons_zero, List.set_cons_succ, List.setIfInBounds_toArray, and_true, true_and] at F2
        rw [HVX.out]
        go_wp2_with fail
        refine (find_any (Mut M _) _ K2.mutLt nm _ n c l nx (K2.ro 2 rfl) hn).mono ?_
        rintro e w3 ⟨rfl, b3⟩
        have K3 := Hold.call K2 b3
        clear b3
        rw [← HFE.out]
        have F3 := K3.facts
        simp only [World.size_alloc, World.size_drew, factsL, cellsF, Nat.reduceAdd, List.toList_toArray, List.set_cons_zero, List.set_cons_succ, List.setIfInBounds_toArray, and_true, true_and] at F3
        go_wp2_with fail
        go_ret
        exact ⟨by rw [HBad.out HC.out] <;> rfl, K3.below⟩
      have HC : Hid (colOk l k ⟨nx, ty, nn, key⟩ = true) := by unfold Hid; rw [HOk.out, HVX.out, HFK.out, show decide (1 ≤ ty) = true from by simp; omega, show decide (ty ≤ 3) = true from by simp; omega]; rcases hkn with rfl | rfl <;> simp
      rcases hkn with rfl | rfl
      · have HQ0 : Hid (((l.take (k + 1)).filter Col.key).length = q) := by unfold Hid; rw [HQ.out, HQE.out]; rfl
        have KB := H.alloc_cst #[.string nx, .int .i64 ty, .bool nn, .bool false] 63
        go_wp2_with fail
        refine (validname_any nx _ hx).mono ?_
        rintro e w2 ⟨rfl, b2⟩
        have K2 := Hold.call (KB) b2
        clear b2
        try simp only [World.size_alloc] at K2
        have F2 := K2.facts
        simp only [World.size_alloc, World.size_drew, factsL, cellsF, Nat.reduceAdd, List.toList_toArray, List.set_cons_zero, List.set_cons_succ, List.setIfInBounds_toArray, and_true, true_and] at F2
        rw [HVX.out]
        go_wp2_with fail
        refine (find_any (Mut M _) _ K2.mutLt nm _ n c l nx (K2.ro 2 rfl) hn).mono ?_
        rintro e w3 ⟨rfl, b3⟩
        have K3 := Hold.call K2 b3
        clear b3
        rw [← HFE.out]
        have F3 := K3.facts
        simp only [World.size_alloc, World.size_drew, factsL, cellsF, Nat.reduceAdd, List.toList_toArray, List.set_cons_zero, List.set_cons_succ, List.setIfInBounds_toArray, and_true, true_and] at F3
        go_wp2_with fail
        go_roundw
        case rel => exact ⟨k + 1, by omega, by go_num, by rw [HQ0.out], HGood.out HC.out, K3.drop (List.sublist_cons_self _ _)⟩
        case measure => simp [intOf]; omega
      · cases key
        · have HQ0 : Hid (((l.take (k + 1)).filter Col.key).length = q) := by unfold Hid; rw [HQ.out, HQE.out]; rfl
          have KB := H.alloc_cst #[.string nx, .int .i64 ty, .bool true, .bool false] 63
          go_wp2_with fail
          refine (validname_any nx _ hx).mono ?_
          rintro e w2 ⟨rfl, b2⟩
          have K2 := Hold.call (KB) b2
          clear b2
          try simp only [World.size_alloc] at K2
          have F2 := K2.facts
          simp only [World.size_alloc, World.size_drew, factsL, cellsF, Nat.reduceAdd, List.toList_toArray, List.set_cons_zero, List.set_cons_succ, List.setIfInBounds_toArray, and_true, true_and] at F2
          rw [HVX.out]
          go_wp2_with fail
          refine (find_any (Mut M _) _ K2.mutLt nm _ n c l nx (K2.ro 2 rfl) hn).mono ?_
          rintro e w3 ⟨rfl, b3⟩
          have K3 := Hold.call K2 b3
          clear b3
          rw [← HFE.out]
          have F3 := K3.facts
          simp only [World.size_alloc, World.size_drew, factsL, cellsF, Nat.reduceAdd, List.toList_toArray, List.set_cons_zero, List.set_cons_succ, List.setIfInBounds_toArray, and_true, true_and] at F3
          go_wp2_with fail
          go_roundw
          case rel => exact ⟨k + 1, by omega, by go_num, by rw [HQ0.out], HGood.out HC.out, K3.drop (List.sublist_cons_self _ _)⟩
          case measure => simp [intOf]; omega
        · have HQ0 : Hid (((l.take (k + 1)).filter Col.key).length = q + 1) := by unfold Hid; rw [HQ.out, HQE.out]; rfl
          have KB := H.alloc_cst #[.string nx, .int .i64 ty, .bool true, .bool true] 63
          go_wp2_with fail
          refine (validname_any nx _ hx).mono ?_
          rintro e w2 ⟨rfl, b2⟩
          have K2 := Hold.call (KB) b2
          clear b2
          try simp only [World.size_alloc] at K2
          have F2 := K2.facts
          simp only [World.size_alloc, World.size_drew, factsL, cellsF, Nat.reduceAdd, List.toList_toArray, List.set_cons_zero, List.set_cons_succ, List.setIfInBounds_toArray, and_true, true_and] at F2
          rw [HVX.out]
          go_wp2_with fail
          refine (find_any (Mut M _) _ K2.mutLt nm _ n c l nx (K2.ro 2 rfl) hn).mono ?_
          rintro e w3 ⟨rfl, b3⟩
          have K3 := Hold.call K2 b3
          clear b3
          rw [← HFE.out]
          have F3 := K3.facts
          simp only [World.size_alloc, World.size_drew, factsL, cellsF, Nat.reduceAdd, List.toList_toArray, List.set_cons_zero, List.set_cons_succ, List.setIfInBounds_toArray, and_true, true_and] at F3
          go_wp2_with fail
          go_roundw
          case rel => exact ⟨k + 1, by omega, by go_num, by rw [HQ0.out]; go_num, HGood.out HC.out, K3.drop (List.sublist_cons_self _ _)⟩
          case measure => simp [intOf]; omega
    · obtain rfl : k = n := by omega
      have HN := hid (schemaB_end HV.out HL.out n1 n6 (ok_end HF.out (by rw [HL.out]; omega)))
      have HK := hid (keys_end HL.out)
      have hql := keys_le l k
      obtain ⟨q, hqe⟩ : ∃ q, q = ((l.take k).filter Col.key).length := ⟨_, rfl⟩
      rw [← hqe] at hql HK
      rw [← hqe]
      clear hqe
      go_wp2_with fail
      go_ret
      exact ⟨by rw [HN.out, ← HK.out] <;> rfl, H.below⟩

end Go.Proofs.Ytphofeeaphkciaa

namespace Go.Proofs.Ytphofeeaphkciaa
open Go.RowKit
set_option linter.unusedVariables false
set_option linter.unusedSimpArgs false

/-- which tables are valid -/
def tabB (nm : ByteArray) (cs : List Col) (nx : Int) (rs : List Row) : Bool := schemaB nm cs && decide (rs.length ≤ 100) && decide (1 ≤ nx) && decide (nx ≤ 2147483648) && okR cs nx 0 rs && !dupB cs rs
theorem tabB_1 {nm : ByteArray} {cs : List Col} {nx : Int} {rs : List Row} (h : schemaB nm cs = false) : tabB nm cs nx rs = false := by simp [tabB, h]
theorem tabB_2 {nm : ByteArray} {cs : List Col} {nx : Int} {rs : List Row} (h : 100 < rs.length) : tabB nm cs nx rs = false := by
  have : ¬ rs.length ≤ 100 := by omega
  simp [tabB, this]
theorem tabB_3 {nm : ByteArray} {cs : List Col} {nx : Int} {rs : List Row} (h : nx < 1) : tabB nm cs nx rs = false := by
  have : ¬ 1 ≤ nx := by omega
  simp [tabB, this]
theorem tabB_4 {nm : ByteArray} {cs : List Col} {nx : Int} {rs : List Row} (h : 2147483648 < nx) : tabB nm cs nx rs = false := by
  have : ¬ nx ≤ 2147483648 := by omega
  simp [tabB, this]
theorem tabB_5 {nm : ByteArray} {cs : List Col} {nx : Int} {rs : List Row} (h : okR cs nx 0 rs = false) : tabB nm cs nx rs = false := by simp [tabB, h]
theorem tabB_6 {nm : ByteArray} {cs : List Col} {nx : Int} {rs : List Row} (h1 : schemaB nm cs = true) (h2 : rs.length ≤ 100) (h3 : 1 ≤ nx) (h4 : nx ≤ 2147483648) (h5 : okR cs nx 0 rs = true) : tabB nm cs nx rs = !dupB cs rs := by simp [tabB, h1, h2, h3, h4, h5]
theorem okR_bad {cs : List Col} {nx lst : Int} {rs : List Row} {j : Nat} {r : Row} (hr : rs[j]? = some r) (h : r.1 ≤ lst ∨ nx ≤ r.1 ∨ fitsT cs r.2 ≠ 0) : okR cs nx lst (rs.drop j) = false := by
  rw [drop_cons hr, okR]
  rcases h with h | h | h
  · rw [decide_eq_false (show ¬ lst < r.1 by omega)]; rfl
  · rw [decide_eq_false (show ¬ r.1 < nx by omega)]; simp
  · rw [decide_eq_false h]; simp
theorem okR_good {cs : List Col} {nx lst : Int} {rs : List Row} {j : Nat} {r : Row} (hr : rs[j]? = some r) (h1 : lst < r.1) (h2 : r.1 < nx) (h3 : fitsT cs r.2 = 0) : okR cs nx lst (rs.drop j) = okR cs nx r.1 (rs.drop (j + 1)) := by
  rw [drop_cons hr, okR, decide_eq_true h1, decide_eq_true h2, decide_eq_true h3]; rfl
theorem okR_end {cs : List Col} {nx lst : Int} {rs : List Row} {j : Nat} (h : rs.length ≤ j) : okR cs nx lst (rs.drop j) = true := by rw [List.drop_of_length_le h]; rfl
set_option maxHeartbeats 4000000 in
set_option maxRecDepth 100000 in
theorem tvalid_any (M : Nat → Prop) (w : World) (hM : ∀ b, M b → b < w.heap.size) (nm : ByteArray) (A : Option Addr) (n c : Nat) (cs : List Col) (nx : Int) (B : Option Addr) (m d : Nat) (l : List Rw) (hD : Ro w M (SlR 4 A n (colCells cs))) (hE : Ro w M (RwsIn B m l)) (hn : n ≤ 9223372036854775807) (hm : m ≤ 4611686018427387904) (hok : ∀ r ∈ l, r.ok) (hs : nm.size ≤ maxLen) (hcs : ∀ x ∈ cs, x.name.size ≤ maxLen) :
    Calls Try.prog 8 #[.agg #[.string nm, .slice A n c, .int .i64 nx, .slice B m d]] w fun e w' => e = .returned (.bool (tabB nm cs nx (l.map Rw.row))) ∧ Below w.heap.size w w' := by
  have HL := hid hE.now.len
  have HML := hid (show (l.map Rw.row).length = m by rw [List.length_map, HL.out])
  have K0 := (((Hold.start M w hM).add (hE.less (by simp [Mut]))).add (hD.less (by simp [Mut, Hp.foot]))).alloc_cst #[.string nm, .slice A n c, .int .i64 nx, .slice B m d] 29
  have F0 := K0.facts
  simp only [World.size_alloc, World.size_drew, factsL, cellsF, Nat.reduceAdd, List.toList_toArray, List.set_cons_zero, List.set_cons_succ, List.setIfInBounds_toArray, and_true, true_and] at F0
  clear hD hE
  go_enter Try.func8, Try.ntmps8
  go_wp2_with fail
  refine (svalid_any _ _ K0.mutLt nm A n c cs (K0.ro 1 rfl) hn hs hcs).mono ?_
  rintro e w1 ⟨rfl, b1⟩
  have K1 := K0.call b1
  clear K0 b1 F0
  have F1 := K1.facts
  simp only [World.size_alloc, World.size_drew, factsL, cellsF, Nat.reduceAdd, List.toList_toArray, List.set_cons_zero, List.set_cons_succ, List.setIfInBounds_toArray, and_true, true_and] at F1
  cases hsb : schemaB nm cs
  · have HN := hid (show tabB nm cs nx (l.map Rw.row) = false from tabB_1 hsb)
    go_wp2_with fail
    go_ret
    exact ⟨by rw [HN.out] <;> rfl, K1.below⟩
  have HSB := hid hsb; clear hsb
  by_cases h1 : 100 < m
  · have h1d : decide ((m : Int) > 100) = true := by simp; omega
    have HN := hid (show tabB nm cs nx (l.map Rw.row) = false from tabB_2 (by rw [HML.out]; exact h1))
    go_wp2_with fail
    go_ret
    exact ⟨by rw [HN.out] <;> rfl, K1.below⟩
  have h1d : decide ((m : Int) > 100) = false := by simp; omega
  by_cases h2 : nx < 1
  · have h2d : decide (nx < 1) = true := by simpa using h2
    have HN := hid (show tabB nm cs nx (l.map Rw.row) = false from tabB_3 h2)
    go_wp2_with fail
    go_ret
    exact ⟨by rw [HN.out] <;> rfl, K1.below⟩
  have h2d : decide (nx < 1) = false := by simpa using h2
  by_cases h3 : 2147483648 < nx
  · have h3d : decide (nx > 2147483648) = true := by simpa using h3
    have HN := hid (show tabB nm cs nx (l.map Rw.row) = false from tabB_4 h3)
    go_wp2_with fail
    go_ret
    exact ⟨by rw [HN.out] <;> rfl, K1.below⟩
  have h3d : decide (nx > 2147483648) = false := by simpa using h3
  go_wp2_with fail
  clear F1
  go_loopw [3, 29] (fun lv iv wr => ∃ (j : Nat) (lst : Int), j ≤ m ∧ iv = .int .i64 j ∧ lv = .int .i64 lst ∧ Hid (okR cs nx 0 (l.map Rw.row) = okR cs nx lst ((l.map Rw.row).drop j)) ∧ Hold M none w wr [.cst w.heap.size 29 #[.string nm, .slice A n c, .int .i64 nx, .slice B m d], .ro (SlR 4 A n (colCells cs)), .ro (RwsIn B m l)]) (fun _ iv _ => m - (intOf iv).toNat)
  case atStart => exact ⟨0, 0, by omega, rfl, rfl, hid rfl, K1⟩
  case round =>
    clear K1
    obtain ⟨j, lst, hj, rfl, rfl, HS, H⟩ := hrel
    by_cases hlt : j < m
    · have hdd : decide ((j : Int) < (m : Int)) = true := by simp; omega
      have j0 : (0 : Int) ≤ (j : Int) := by omega
      obtain ⟨x, hx⟩ := get_of HL.out hlt
      obtain ⟨g, o, rfl, hgb, c0, c1, hvi⟩ := (H.ro 2 rfl).now.at_ hx
      have hrok := hok x (List.mem_of_getElem? hx)
      have HX := hid (show (l.map Rw.row)[j]? = some (x.id, x.vs) by simp [hx, Rw.row])
      have HXM := hid (List.mem_of_getElem? hx)
      have K2 := H.alloc_cst #[.int .i64 x.id, .slice x.A x.n x.c] 34
      clear hx
      have F2 := K2.facts
      simp only [World.size_alloc, World.size_drew, factsL, cellsF, Nat.reduceAdd, List.toList_toArray, List.set_cons_zero, List.set_cons_succ, List.setIfInBounds_toArray, and_true, true_and] at F2
      by_cases a1 : x.id ≤ lst
      · have a1d : decide (x.id ≤ lst) = true := by simpa using a1
        have HN := hid (show tabB nm cs nx (l.map Rw.row) = false from tabB_5 (by rw [HS.out]; exact okR_bad HX.out (.inl a1)))
        clear a1
        go_wp2_with fail
        go_ret
        exact ⟨by rw [HN.out] <;> rfl, K2.below⟩
      have a1d : decide (x.id ≤ lst) = false := by simpa using a1
      by_cases a2 : nx ≤ x.id
      · have a2d : decide (x.id ≥ nx) = true := by simpa using a2
        have HN := hid (show tabB nm cs nx (l.map Rw.row) = false from tabB_5 (by rw [HS.out]; exact okR_bad HX.out (.inr (.inl a2))))
        clear a1 a2
        go_wp2_with fail
        go_ret
        exact ⟨by rw [HN.out] <;> rfl, K2.below⟩
      have a2d : decide (x.id ≥ nx) = false := by simpa using a2
      have HA := hid (And.intro a1 a2)
      have hVR : Ro _ (Mut M _) (VlsIn x.A x.n x.vs) := (K2.ro 3 rfl).imp fun w2 h2 => h2.2 x HXM.out
      have hxn : x.n ≤ 9223372036854775807 := Nat.le_trans hrok.nc hrok.c
      clear a1 a2
      go_wp2_with fail
      refine (tfits_any _ _ K2.mutLt nm A n c cs x.A x.n x.c x.vs (K2.ro 2 rfl) hVR hn hxn hrok.vs).mono ?_
      rintro e w3 ⟨rfl, b3⟩
      have K3 := K2.call b3
      clear K2 b3 F2 hVR
      have F3 := K3.facts
      simp only [World.size_alloc, World.size_drew, factsL, cellsF, Nat.reduceAdd, List.toList_toArray, List.set_cons_zero, List.set_cons_succ, List.setIfInBounds_toArray, and_true, true_and] at F3
      by_cases a3 : fitsT cs x.vs = 0
      · have HS2 := hid (show okR cs nx 0 (l.map Rw.row) = okR cs nx x.id ((l.map Rw.row).drop (j + 1)) by rw [HS.out]; exact okR_good HX.out (by have := HA.out.1; omega) (by have := HA.out.2; omega) a3)
        rw [a3]
        clear a3
        go_wp2_with fail
        go_roundw
        case rel => exact ⟨j + 1, x.id, by omega, by go_num, rfl, HS2, K3.drop (List.sublist_cons_self _ _)⟩
        case measure => simp [intOf]; omega
      · have a3d : (fitsT cs x.vs != 0) = true := by simp [a3]
        have HN := hid (show tabB nm cs nx (l.map Rw.row) = false from tabB_5 (by rw [HS.out]; exact okR_bad HX.out (.inr (.inr a3))))
        clear a3
        go_wp2_with fail
        go_ret
        exact ⟨by rw [HN.out] <;> rfl, K3.below⟩
    · obtain rfl : j = m := by omega
      have hdd : decide ((j : Int) < (j : Int)) = false := by simp
      have HN := hid (show tabB nm cs nx (l.map Rw.row) = !dupB cs (l.map Rw.row) from tabB_6 HSB.out (by rw [HML.out]; omega) (by omega) (by omega) (by rw [HS.out]; exact okR_end (by rw [HML.out]; exact Nat.le_refl _)))
      have F3 := H.facts
      simp only [World.size_alloc, World.size_drew, factsL, cellsF, Nat.reduceAdd, List.toList_toArray, List.set_cons_zero, List.set_cons_succ, List.setIfInBounds_toArray, and_true, true_and] at F3
      go_wp2_with fail
      refine (dup_any _ _ H.mutLt nm A n c cs nx B j d l (H.ro 1 rfl) (H.ro 2 rfl) hn hm hok).mono ?_
      rintro e w3 ⟨rfl, b3⟩
      have K3 := H.call b3
      go_wp2_with fail
      go_ret
      exact ⟨by rw [HN.out] <;> rfl, K3.below⟩
end Go.Proofs.Ytphofeeaphkciaa

namespace Go.Proofs.Ytphofeeaphkciaa
open Go.RowKit
set_option linter.unusedVariables false
set_option linter.unusedSimpArgs false

theorem bytesEq {a b : ByteArray} (h : a.toList = b.toList) : a = b := Go.WideShapes.bytes_inj (by rw [← ByteArray.toList_eq, ← ByteArray.toList_eq]; exact h)
theorem beqL_no {α : Type} [DecidableEq α] {xs ys : List α} {k : Nat} {x y : α} (hx : xs[k]? = some x) (hy : ys[k]? = some y) (h : x ≠ y) : decide (xs = ys) = false := by
  rw [decide_eq_false_iff_not]
  rintro rfl
  rw [hx] at hy
  exact h (by injection hy)
theorem takeEq_succ {α : Type} {xs ys : List α} {k : Nat} {x y : α} (hx : xs[k]? = some x) (hy : ys[k]? = some y) (h : xs.take k = ys.take k) (he : x = y) : xs.take (k + 1) = ys.take (k + 1) := by
  rw [List.take_add_one, List.take_add_one, hx, hy, h, he]
set_option maxHeartbeats 4000000 in
set_option maxRecDepth 100000 in
theorem eqVls_any (w : World) (A : Option Addr) (n c : Nat) (xs : List Vl) (B : Option Addr) (m d : Nat) (ys : List Vl) (hD : VlsIn A n xs w) (hE : VlsIn B m ys w) (hn : n ≤ 1000000000000) :
    Calls Try.prog 32 #[.slice A n c, .slice B m d] w fun e w' => e = .returned (.bool (decide (xs = ys))) ∧ ∃ q, w' = w.drewN q := by
  have HL := hid (show xs.length = n from hD.len)
  have HK := hid (show ys.length = m from hE.len)
  by_cases hnm : n = m
  · subst hnm
    have hb : ((n : Int) != (n : Int)) = false := by simp
    go_enter Try.func32, Try.ntmps32
    go_wp2_with fail
    go_loopw [13] (fun i wr => ∃ (k q : Nat), k ≤ n ∧ i = .int .i64 k ∧ wr = w.drewN q ∧ Hid (xs.take k = ys.take k)) (fun i _ => n - (intOf i).toNat)
    case atStart => exact ⟨0, 0, by omega, rfl, rfl, hid (by simp)⟩
    case round =>
      obtain ⟨k, q, hk, rfl, rfl, HTK⟩ := hrel
      by_cases hlt : k < n
      · have hd : decide ((k : Int) < (n : Int)) = true := by simp; omega
        have i0 : (0 : Int) ≤ (k : Int) := by omega
        have i1 : (k : Int) < (n : Int) := by omega
        obtain ⟨x, hx⟩ := get_of HL.out hlt
        obtain ⟨y, hy⟩ := get_of HK.out hlt
        obtain ⟨g, o, rfl, hbx, x0, x1, x2⟩ := hD.at_ hx
        obtain ⟨g', o', rfl, hby, y0, y1, y2⟩ := hE.at_ hy
        have HX := hid hx; have HY := hid hy; clear hx hy
        by_cases h0 : x.k = y.k
        · have e0 : (x.k == y.k) = true := by simp [h0]
          by_cases h1 : x.i = y.i
          · have e1 : (x.i == y.i) = true := by simp [h1]
            by_cases h2 : x.s = y.s
            · have e2 : (x.s.toList == y.s.toList) = true := by simp [h2]
              have HXY := hid (show x = y by cases x; cases y; simp_all)
              clear h0 h1 h2
              go_wp2_with fail
              go_quiet (fail)
              go_wp2_with fail
              go_roundw
              case rel => exact ⟨k + 1, q + nq, by omega, by go_num, by first | rfl | exact World.drewN_drewN .., hid (takeEq_succ HX.out HY.out HTK.out HXY.out)⟩
              case measure => simp [intOf]; omega
            · have e2 : (x.s.toList == y.s.toList) = false := by rw [beq_eq_false_iff_ne]; exact fun h => h2 (bytesEq h)
              have HN := hid (beqL_no HX.out HY.out (by intro h; exact h2 (by rw [h])))
              clear h0 h1 h2
              go_wp2_with fail
              go_quiet (fail)
              go_wp2_with fail
              go_ret
              exact ⟨by rw [HN.out] <;> rfl, q + nq, World.drewN_drewN ..⟩
          · have e1 : (x.i == y.i) = false := by simpa using h1
            have HN := hid (beqL_no HX.out HY.out (by intro h; exact h1 (by rw [h])))
            clear h0 h1
            go_wp2_with fail
            go_quiet (fail)
            go_wp2_with fail
            go_ret
            exact ⟨by rw [HN.out] <;> rfl, q + nq, World.drewN_drewN ..⟩
        · have e0 : (x.k == y.k) = false := by simpa using h0
          have HN := hid (beqL_no HX.out HY.out (by intro h; exact h0 (by rw [h])))
          clear h0
          go_wp2_with fail
          go_quiet (fail)
          go_wp2_with fail
          go_ret
          exact ⟨by rw [HN.out] <;> rfl, q + nq, World.drewN_drewN ..⟩
      · obtain rfl : n = k := by omega
        have hd : decide ((n : Int) < (n : Int)) = false := by simp
        have HE := hid (show decide (xs = ys) = true by
          have h := HTK.out
          rw [List.take_of_length_le (by rw [HL.out]; exact Nat.le_refl _), List.take_of_length_le (by rw [HK.out]; exact Nat.le_refl _)] at h
          simp [h])
        go_wp2_with fail
        go_ret
        exact ⟨by rw [HE.out] <;> rfl, q, rfl⟩
  · have hb : ((n : Int) != (m : Int)) = true := by simp; omega
    have HB := hid (show decide (xs = ys) = false by
      rw [decide_eq_false_iff_not]; rintro rfl; have := HL.out; have := HK.out; omega)
    go_enter Try.func32, Try.ntmps32
    go_wp2_with fail
    go_ret
    exact ⟨by rw [HB.out] <;> rfl, 0, rfl⟩
end Go.Proofs.Ytphofeeaphkciaa

namespace Go.Proofs.Ytphofeeaphkciaa
open Go.RowKit
set_option linter.unusedVariables false
set_option linter.unusedSimpArgs false

abbrev wdV (bx : Nat) : Value := .func (.func 34) #[] #[.pointer (some ⟨bx, 0, none⟩)]
/-- some row has another width -/
def oddW (W : Nat) (l : List Sl) : Bool := l.any fun s => decide (s.vs.length ≠ W)
set_option maxHeartbeats 1000000 in
theorem kclos_any (w : World) (A : Option Addr) (n c : Nat) (bx W : Nat) (t : TypeId) (hB : w.heap[bx]? = some (.cells #[.int .i64 (W : Int)] t (0, 0))) :
    Calls Try.prog 34 #[.slice A n c, .pointer (some ⟨bx, 0, none⟩)] w fun e w' => e = .returned (.bool (decide (n ≠ W))) ∧ w = w' := by
  have hc : w.cell? ⟨bx, 0, none⟩ = some (.int .i64 (W : Int)) := cell_of_row w bx 0 _ _ _ hB
  have hl : bx < w.heap.size := Blk.lt (t := t) (cs := #[.int .i64 (W : Int)]) hB
  by_cases h : n = W
  · have hb : ((n : Int) != (W : Int)) = false := by simp [h]
    have HB := hid (show decide (n ≠ W) = false by simp [h])
    clear h
    go_enter Try.func34, Try.ntmps34
    go_wp2_with fail
    go_ret
    exact ⟨by rw [HB.out] <;> rfl, rfl⟩
  · have hb : ((n : Int) != (W : Int)) = true := by rw [bne_iff_ne]; omega
    have HB := hid (show decide (n ≠ W) = true by simp [h])
    clear h
    go_enter Try.func34, Try.ntmps34
    go_wp2_with fail
    go_ret
    exact ⟨by rw [HB.out] <;> rfl, rfl⟩
set_option maxHeartbeats 1000000 in
set_option maxRecDepth 100000 in
theorem kidx_any (w : World) (A : Option Addr) (n c : Nat) (l : List Sl) (bx W : Nat) (t : TypeId) (hD : SlsIn A n l w) (hB : w.heap[bx]? = some (.cells #[.int .i64 (W : Int)] t (0, 0))) (hn : n ≤ 9223372036854775807) :
    Calls Try.prog 40 #[.slice A n c, wdV bx] w fun e w' => (∃ r : Int, e = .returned (.int .i64 r) ∧ decide (r ≥ 0) = oddW W l) ∧ w = w' := by
  have HL := hid hD.len
  go_enter Try.func40, Try.ntmps40
  go_wp2_with fail
  go_loopw [8] (fun iv wr => ∃ (k : Nat), k ≤ n ∧ iv = .int .i64 k ∧ wr = w ∧ Hid (oddW W (l.take k) = false)) (fun iv _ => n - (intOf iv).toNat)
  case atStart => exact ⟨0, by omega, rfl, rfl, hid rfl⟩
  case round =>
    obtain ⟨k, hk, rfl, rfl, HC⟩ := hrel
    by_cases hlt : k < n
    · have hd : decide ((k : Int) < (n : Int)) = true := by simp; omega
      have i0 : (0 : Int) ≤ (k : Int) := by omega
      have i1 : (k : Int) < (n : Int) := by omega
      obtain ⟨x, hx⟩ := get_of HL.out hlt
      obtain ⟨b, o, rfl, _, ck, hv⟩ := hD.at_ hx
      have HX := hid hx
      have HVL := hid (show x.vs.length = x.n from hv.len)
      clear hx hv
      go_wp2_with fail
      refine (kclos_any wr x.A x.n x.c bx W t hB).mono ?_
      rintro e w1 ⟨rfl, rfl⟩
      cases hz : decide (x.n ≠ W)
      · have HN := hid (show oddW W (l.take (k + 1)) = false by
          have h := HC.out
          unfold oddW at h ⊢
          rw [List.take_add_one, HX.out, List.any_append, h]
          simp only [Option.toList_some, List.any_cons, List.any_nil, Bool.or_false, Bool.false_or]
          rw [HVL.out]; exact hz)
        clear hz
        go_wp2_with fail
        go_roundw
        case rel => exact ⟨k + 1, by omega, by go_num, by first | rfl | trivial, HN⟩
        case measure => simp [intOf]; omega
      · have HN := hid (show oddW W l = true by
          unfold oddW; rw [List.any_eq_true]
          exact ⟨x, List.mem_of_getElem? HX.out, by rw [HVL.out]; exact hz⟩)
        clear hz
        go_wp2_with fail
        go_ret
        exact ⟨⟨k, rfl, by rw [HN.out]; simp⟩, rfl⟩
    · obtain rfl : n = k := by omega
      have hd : decide ((n : Int) < (n : Int)) = false := by simp
      have HN := hid (show oddW W l = false by have h := HC.out; rwa [List.take_of_length_le (by rw [HL.out]; exact Nat.le_refl _)] at h)
      go_wp2_with fail
      go_ret
      exact ⟨⟨-1, rfl, by rw [HN.out]; rfl⟩, rfl⟩
theorem kcontf_any (w : World) (A : Option Addr) (n c : Nat) (l : List Sl) (bx W : Nat) (t : TypeId) (hD : SlsIn A n l w) (hB : w.heap[bx]? = some (.cells #[.int .i64 (W : Int)] t (0, 0))) (hn : n ≤ 9223372036854775807) :
    Calls Try.prog 33 #[.slice A n c, wdV bx] w fun e w' => e = .returned (.bool (oddW W l)) ∧ w = w' := by
  go_enter Try.func33, Try.ntmps33
  go_wp2_with fail
  refine (kidx_any w A n c l bx W t hD hB hn).mono ?_
  rintro e w1 ⟨⟨r, rfl, hr⟩, rfl⟩
  go_wp2_with fail
  go_ret
  exact ⟨by first | rw [hr] <;> rfl | simp [← hr], rfl⟩
/-- the updates say what the rows were, and are as wide -/
def updK (rs : List Row) (W : Nat) (us : List Upd) : Bool := us.all fun u => decide (getR rs u.1 = some u.2.1) && decide (u.2.2.length = W)
/-- which changes are valid -/
def chgB (nm : ByteArray) (cs : List Col) (nx : Int) (rs : List Row) (ins : List (List Vl)) (dels : List Int) (us : List Upd) : Bool :=
  tabB nm cs nx rs && rowsK rs [] none dels && updK rs cs.length us && rowsK rs dels none (us.map (·.1)) && !(ins.any fun s => decide (s.length ≠ cs.length))
theorem oddW_map (W : Nat) (l : List Sl) : oddW W l = (l.map Sl.vs).any fun s => decide (s.length ≠ W) := by unfold oddW; rw [List.any_map]; rfl
theorem okR_fits {cs : List Col} {nx : Int} : ∀ {lst : Int} {rs : List Row}, okR cs nx lst rs = true → ∀ r ∈ rs, fitsT cs r.2 = 0
  | _, [], _, r, hr => nomatch hr
  | lst, x :: rs, h, r, hr => by
    rw [okR] at h
    simp only [Bool.and_eq_true, decide_eq_true_eq] at h
    rcases List.mem_cons.1 hr with rfl | hr
    · exact h.1.2
    · exact okR_fits h.2 r hr
theorem fitsT_len {cs : List Col} {vs : List Vl} (h : fitsT cs vs = 0) : vs.length = cs.length := by
  unfold fitsT at h
  split at h
  · assumption
  · omega
theorem tabB_cols {nm : ByteArray} {cs : List Col} {nx : Int} {rs : List Row} (h : tabB nm cs nx rs = true) : cs.length ≤ 6 := by
  unfold tabB at h
  simp only [Bool.and_eq_true] at h
  have h1 := h.1.1.1.1.1
  unfold schemaB at h1
  simp only [Bool.and_eq_true, decide_eq_true_eq] at h1
  exact h1.1.1.2
theorem tabB_row {nm : ByteArray} {cs : List Col} {nx : Int} {rs : List Row} (h : tabB nm cs nx rs = true) {r : Row} (hr : r ∈ rs) : r.2.length = cs.length := by
  unfold tabB at h
  simp only [Bool.and_eq_true] at h
  exact fitsT_len (okR_fits h.1.2 r hr)
theorem tabB_rows {nm : ByteArray} {cs : List Col} {nx : Int} {rs : List Row} (h : tabB nm cs nx rs = true) : rs.length ≤ 100 ∧ 1 ≤ nx ∧ nx ≤ 2147483648 := by
  unfold tabB at h
  simp only [Bool.and_eq_true, decide_eq_true_eq] at h
  exact ⟨h.1.1.1.1.2, h.1.1.1.2, h.1.1.2⟩
/-- rows of a valid table are short, in memory too -/
theorem rw_short {w : World} {B : Option Addr} {m : Nat} {l : List Rw} {nm : ByteArray} {cs : List Col} {nx : Int} (hE : RwsIn B m l w) (h : tabB nm cs nx (l.map Rw.row) = true) : ∀ r ∈ l, r.n ≤ 6 := fun r hr => by
  have h1 := tabB_row h (List.mem_map_of_mem (f := Rw.row) hr)
  have h2 := tabB_cols h
  have h3 := (hE.2 r hr).len
  have : r.vs.length = cs.length := h1
  omega
theorem Try.elIntK : ElemT Try.prog 42 3 1 8 (.int .i64 0) := ⟨Try.underlying42, by kernel_rfl, rfl, by omega⟩
theorem updK_bad {rs : List Row} {W : Nat} {us : List Upd} {j : Nat} {u : Upd} (hu : us[j]? = some u) (h : getR rs u.1 ≠ some u.2.1 ∨ u.2.2.length ≠ W) : updK rs W us = false := by
  unfold updK
  rw [List.all_eq_false]
  refine ⟨u, List.mem_of_getElem? hu, ?_⟩
  rcases h with h | h <;> simp [h]
theorem updK_step {rs : List Row} {W : Nat} {us : List Upd} {j : Nat} {u : Upd} (hu : us[j]? = some u) (h0 : updK rs W (us.take j) = true) (h1 : getR rs u.1 = some u.2.1) (h2 : u.2.2.length = W) : updK rs W (us.take (j + 1)) = true := by
  unfold updK at h0 ⊢
  rw [List.take_add_one, hu, List.all_append, h0]
  simp [h1, h2]
theorem iCells_snoc (l : List Int) (x : Int) : iCells l ++ (#[Value.int .i64 x]).toList = iCells (l ++ [x]) := by simp [iCells]
set_option maxHeartbeats 4000000 in
set_option maxRecDepth 100000 in
theorem kvalid_any (M : Nat → Prop) (w : World) (hM : ∀ b, M b → b < w.heap.size) (nm : ByteArray) (A : Option Addr) (n c : Nat) (cs : List Col) (nx : Int) (B : Option Addr) (m d : Nat) (l : List Rw) (I : Option Addr) (ni ci : Nat) (ins : List Sl) (D : Option Addr) (nd cd : Nat) (dels : List Int) (U : Option Addr) (nu cu : Nat) (us : List Pr)
    (hC : Ro w M (SlR 4 A n (colCells cs))) (hE : Ro w M (RwsIn B m l)) (hI : Ro w M (SlsIn I ni ins)) (hD : Ro w M (IsIn D nd dels)) (hU : Ro w M (PrsIn U nu us)) (hn : n ≤ 9223372036854775807) (hm : m ≤ 4611686018427387904) (hok : ∀ r ∈ l, r.ok) (hs : nm.size ≤ maxLen) (hcs : ∀ x ∈ cs, x.name.size ≤ maxLen)
    (hni : ni ≤ 9223372036854775807) (hnd : nd ≤ 9223372036854775807) (hnu : nu ≤ 1000000000000) :
    Calls Try.prog 21 #[.agg #[.string nm, .slice A n c, .int .i64 nx, .slice B m d], .agg #[.slice I ni ci, .slice D nd cd, .slice U nu cu]] w fun e w' => e = .returned (.bool (chgB nm cs nx (l.map Rw.row) (ins.map Sl.vs) dels (us.map Pr.upd))) ∧ Below w.heap.size w w' := by
  have HUL := hid hU.now.len
  have HCL := hid (show cs.length = n from (RdC.of_sl hC.now).len)
  have K0 := (((((((Hold.start M w hM).add (hU.less (by simp [Mut]))).add (hD.less (by simp [Mut, Hp.foot]))).add (hI.less (by simp [Mut, Hp.foot]))).add (hE.less (by simp [Mut, Hp.foot]))).add (hC.less (by simp [Mut, Hp.foot]))).alloc_cst #[.string nm, .slice A n c, .int .i64 nx, .slice B m d] 29).alloc_cst #[.slice I ni ci, .slice D nd cd, .slice U nu cu] 46
  rw [World.size_alloc] at K0
  have F0 := K0.facts
  simp only [World.size_alloc, World.size_drew, factsL, cellsF, Nat.reduceAdd, List.toList_toArray, List.set_cons_zero, List.set_cons_succ, List.setIfInBounds_toArray, and_true, true_and] at F0
  have HEN := hid hE.now
  clear hC hI hD hU
  go_enter Try.func21, Try.ntmps21
  go_wp2_with fail
  refine (tvalid_any _ _ K0.mutLt nm A n c cs nx B m d l (K0.ro 2 rfl) (K0.ro 3 rfl) hn hm hok hs hcs).mono ?_
  rintro e w1 ⟨rfl, b1⟩
  have K1 := K0.call b1
  clear K0 b1 F0 hE
  have F1 := K1.facts
  simp only [World.size_alloc, World.size_drew, factsL, cellsF, Nat.reduceAdd, List.toList_toArray, List.set_cons_zero, List.set_cons_succ, List.setIfInBounds_toArray, and_true, true_and] at F1
  cases htb : tabB nm cs nx (l.map Rw.row)
  · have HN := hid (show chgB nm cs nx (l.map Rw.row) (ins.map Sl.vs) dels (us.map Pr.upd) = false by unfold chgB; rw [htb]; rfl)
    clear htb
    go_wp2_with fail
    go_ret
    exact ⟨by rw [HN.out] <;> rfl, K1.below⟩
  have hshort := rw_short HEN.out htb
  have hn6 : n ≤ 6 := by have := tabB_cols htb; have := HCL.out; omega
  have hshort2 : ∀ r ∈ l, r.n ≤ 1000000000000 := fun r hr => by have := hshort r hr; omega
  have HTB := hid htb
  clear htb hshort
  go_wp2_with fail
  refine (krows_any _ _ K1.mutLt (.string nm) (.slice A n c) (.int .i64 nx) B m d l D nd cd dels none 0 0 [] (K1.ro 3 rfl) (K1.ro 5 rfl) ro_nil hm hnd (by omega) hshort2).mono ?_
  rintro e w2 ⟨rfl, b2⟩
  have K2 := K1.call b2
  clear K1 b2 F1
  have F2 := K2.facts
  simp only [World.size_alloc, World.size_drew, factsL, cellsF, Nat.reduceAdd, List.toList_toArray, List.set_cons_zero, List.set_cons_succ, List.setIfInBounds_toArray, and_true, true_and] at F2
  cases hrk : rowsK (l.map Rw.row) [] none dels
  · have HN := hid (show chgB nm cs nx (l.map Rw.row) (ins.map Sl.vs) dels (us.map Pr.upd) = false by unfold chgB; rw [hrk]; simp)
    clear hrk
    go_wp2_with fail
    go_ret
    exact ⟨by rw [HN.out] <;> rfl, K2.below⟩
  have HRK := hid hrk; clear hrk
  have K3 := (K2.alloc_cst #[.int .i64 (n : Int)] 3).nil 3 1
  obtain ⟨gw, hgw⟩ : ∃ gw, gw = w2.heap.size := ⟨_, rfl⟩
  rw [← hgw] at K3
  go_wp2_with fail
  rw [← hgw]
  clear hgw K2 F2
  go_loopw [5, 28] (fun ov iv wr => ∃ (j q cap : Nat) (O : Option Addr), j ≤ nu ∧ iv = .int .i64 j ∧ ov = .slice O q cap ∧ q ≤ j ∧ Hid (updK (l.map Rw.row) cs.length ((us.map Pr.upd).take j) = true) ∧ Hold M none w wr [.own 3 1 (.slice O q cap) q (iCells (((us.map Pr.upd).take j).map (·.1))), .cst gw 3 #[.int .i64 (n : Int)], .cst (w.heap.size + 1) 46 #[.slice I ni ci, .slice D nd cd, .slice U nu cu], .cst w.heap.size 29 #[.string nm, .slice A n c, .int .i64 nx, .slice B m d], .ro (SlR 4 A n (colCells cs)), .ro (RwsIn B m l), .ro (SlsIn I ni ins), .ro (IsIn D nd dels), .ro (PrsIn U nu us)]) (fun _ iv _ => nu - (intOf iv).toNat)
  case atStart => exact ⟨0, 0, 0, none, by omega, rfl, rfl, by omega, hid rfl, K3⟩
  case round =>
    clear K3
    obtain ⟨j, q, cap, O, hj, rfl, rfl, hq, HUK, H⟩ := hrel
    by_cases hlt : j < nu
    · have hdd : decide ((j : Int) < (nu : Int)) = true := by simp; omega
      have j0 : (0 : Int) ≤ (j : Int) := by omega
      obtain ⟨u, hu⟩ := get_of HUL.out hlt
      obtain ⟨b, o, rfl, hb, c0, c1, c2, _⟩ := (H.ro 8 rfl).now.at_ hu
      have HX := hid (show (us.map Pr.upd)[j]? = some (u.id, u.old, u.new) by simp [hu, Pr.upd])
      have HUM := hid (List.mem_of_getElem? hu)
      have HTM := hid (show ((us.map Pr.upd).take (j + 1)).map (·.1) = ((us.map Pr.upd).take j).map (·.1) ++ [u.id] by rw [List.take_add_one, HX.out, List.map_append]; rfl)
      have K1 := H.alloc_cst #[.int .i64 u.id, .slice u.oA u.on u.oc, .slice u.nA u.nn u.nc] 48
      clear hu
      have F1 := K1.facts
      simp only [World.size_alloc, World.size_drew, factsL, cellsF, Nat.reduceAdd, List.toList_toArray, List.set_cons_zero, List.set_cons_succ, List.setIfInBounds_toArray, and_true, true_and] at F1
      go_wp2_with fail
      refine (tget_any _ _ K1.mutLt (.string nm) (.slice A n c) (.int .i64 nx) B m d l u.id (K1.ro 6 rfl) hm hshort2).mono ?_
      rintro e w3 ⟨A3, n3, c3, rfl, hn3, _, _, r3, b3⟩
      have K4 := (K1.call b3).add r3
      clear K1 F1 b3 r3 H
      cases hg : getR (l.map Rw.row) u.id with
      | none =>
        have HN := hid (show chgB nm cs nx (l.map Rw.row) (ins.map Sl.vs) dels (us.map Pr.upd) = false by
          unfold chgB; rw [updK_bad HX.out (.inl (by simp only; rw [hg]; simp))]; simp)
        simp only [Option.isSome_none]
        go_wp2_with fail
        go_ret
        exact ⟨by rw [HN.out] <;> rfl, K4.below⟩
      | some vs =>
        rw [hg] at K4 hn3
        simp only [Option.isSome_some, Option.getD_some] at K4 hn3 ⊢
        have hvs : vs.length ≤ 6 := by
          have h1 := hg
          unfold getR at h1
          rw [Option.map_eq_some_iff] at h1
          obtain ⟨r, hr, rfl⟩ := h1
          have h2 := tabB_row HTB.out (List.mem_of_find?_eq_some hr)
          have h3 := tabB_cols HTB.out
          omega
        have hn36 : n3 ≤ 6 := by omega
        have HGG := hid hg
        have F4 := K4.facts
        simp only [World.size_alloc, World.size_drew, factsL, cellsF, Nat.reduceAdd, List.toList_toArray, List.set_cons_zero, List.set_cons_succ, List.setIfInBounds_toArray, and_true, true_and] at F4
        clear hg hn3 hvs
        go_wp2_with fail
        refine (eqVls_any _ A3 n3 c3 vs u.oA u.on u.oc u.old (K4.ro 0 rfl).now ((K4.ro 10 rfl).now.2 u HUM.out).1 (by omega)).mono ?_
        rintro e w5 ⟨rfl, q5, rfl⟩
        have K5 := (K4.drewN q5).drop (List.sublist_cons_self _ _)
        clear K4 F4
        generalize w3.drewN q5 = w5 at *
        have F5 := K5.facts
        simp only [World.size_alloc, World.size_drew, factsL, cellsF, Nat.reduceAdd, List.toList_toArray, List.set_cons_zero, List.set_cons_succ, List.setIfInBounds_toArray, and_true, true_and] at F5
        by_cases hvo : vs = u.old
        · rw [decide_eq_true hvo]
          have HNW := hid (show u.new.length = u.nn from ((K5.ro 9 rfl).now.2 u HUM.out).2.len)
          by_cases hw : u.nn = n
          · have hwd : ((u.nn : Int) != (n : Int)) = false := by simp [hw]
            have HS := hid (show updK (l.map Rw.row) cs.length ((us.map Pr.upd).take (j + 1)) = true from updK_step HX.out HUK.out (by rw [HGG.out, hvo]) (by show u.new.length = _; rw [HNW.out, HCL.out]; exact hw))
            clear hvo hw
            go_wp2_with (at_builtin; go_must (refine wpList_appH K5 1 rfl Try.elIntK #[.int .i64 u.id] rfl (.tmp 55) (.tmp 58) rfl rfl w5.heap.size rfl rfl rfl (by intro z hz; simp at hz; subst hz; rfl) (by omega) (by omega) ?_); intro g6 cap6 w6 hc6 hm6 K6; rw [iCells_snoc, ← HTM.out] at K6; simp only [List.set_cons_zero, List.set_cons_succ] at K6)
            go_roundw
            case rel => exact ⟨j + 1, q + 1, cap6, _, by omega, by go_num, rfl, by omega, HS, K6.drop (List.sublist_cons_self _ _)⟩
            case measure => simp [intOf]; omega
          · have hwd : ((u.nn : Int) != (n : Int)) = true := by rw [bne_iff_ne]; omega
            have HN := hid (show chgB nm cs nx (l.map Rw.row) (ins.map Sl.vs) dels (us.map Pr.upd) = false by
              unfold chgB; rw [updK_bad HX.out (.inr (by show u.new.length ≠ _; rw [HNW.out, HCL.out]; exact hw))]; simp)
            clear hvo hw
            go_wp2_with fail
            go_ret
            exact ⟨by rw [HN.out] <;> rfl, K5.below⟩
        · rw [decide_eq_false hvo]
          have HN := hid (show chgB nm cs nx (l.map Rw.row) (ins.map Sl.vs) dels (us.map Pr.upd) = false by
            unfold chgB; rw [updK_bad HX.out (.inl (by simp only; rw [HGG.out]; simp [hvo]))]; simp)
          clear hvo
          go_wp2_with fail
          go_ret
          exact ⟨by rw [HN.out] <;> rfl, K5.below⟩
    · obtain rfl : j = nu := by omega
      have hdd : decide ((j : Int) < (j : Int)) = false := by simp
      have HUF := hid (show updK (l.map Rw.row) cs.length (us.map Pr.upd) = true by
        have h := HUK.out
        rwa [List.take_of_length_le (by rw [List.length_map, HUL.out]; exact Nat.le_refl _)] at h)
      have HTF := hid (show ((us.map Pr.upd).take j).map (·.1) = (us.map Pr.upd).map (·.1) by rw [List.take_of_length_le (by rw [List.length_map, HUL.out]; exact Nat.le_refl _)])
      rw [HTF.out] at H
      have KS := H.sealRow 0 rfl
      simp only [List.set_cons_zero] at KS
      clear H
      have F5 := KS.facts
      simp only [World.size_alloc, World.size_drew, factsL, cellsF, Nat.reduceAdd, List.toList_toArray, List.set_cons_zero, List.set_cons_succ, List.setIfInBounds_toArray, and_true, true_and] at F5
      go_wp2_with fail
      refine (krows_any _ _ KS.mutLt (.string nm) (.slice A n c) (.int .i64 nx) B m d l O q cap ((us.map Pr.upd).map (·.1)) D nd cd dels (KS.ro 5 rfl) (KS.ro 0 rfl) (KS.ro 7 rfl) hm (by omega) hnd hshort2).mono ?_
      rintro e w6 ⟨rfl, b6⟩
      have K6 := KS.call b6
      clear KS b6 F5
      have F6 := K6.facts
      simp only [World.size_alloc, World.size_drew, factsL, cellsF, Nat.reduceAdd, List.toList_toArray, List.set_cons_zero, List.set_cons_succ, List.setIfInBounds_toArray, and_true, true_and] at F6
      cases hr2 : rowsK (l.map Rw.row) dels none ((us.map Pr.upd).map (·.1))
      · have HN := hid (show chgB nm cs nx (l.map Rw.row) (ins.map Sl.vs) dels (us.map Pr.upd) = false by unfold chgB; rw [hr2]; simp)
        clear hr2
        go_wp2_with fail
        go_ret
        exact ⟨by rw [HN.out] <;> rfl, K6.below⟩
      · have HR2 := hid hr2; clear hr2
        go_wp2_with fail
        refine (kcontf_any _ I ni ci ins gw n 3 (K6.ro 6 rfl).now (K6.cst_ 1 rfl) hni).mono ?_
        rintro e w7 ⟨rfl, rfl⟩
        have HN := hid (show chgB nm cs nx (l.map Rw.row) (ins.map Sl.vs) dels (us.map Pr.upd) = !oddW n ins by
          unfold chgB; rw [HTB.out, HRK.out, HUF.out, HR2.out, oddW_map, HCL.out]; rfl)
        go_wp2_with fail
        go_ret
        exact ⟨by rw [HN.out] <;> first | rfl | simp, K6.below⟩
end Go.Proofs.Ytphofeeaphkciaa

namespace Go.Proofs.Ytphofeeaphkciaa
open Go.RowKit
set_option linter.unusedVariables false
set_option linter.unusedSimpArgs false

/-- the first reason why one of some rows does not fit -/
def firstE (cs : List Col) : List (List Vl) → Int
  | [] => 0
  | v :: r => if fitsT cs v = 0 then firstE cs r else fitsT cs v
def fitsC (cs : List Col) (news ins : List (List Vl)) : Int := if firstE cs news = 0 then firstE cs ins else firstE cs news
theorem firstE_good {cs : List Col} {l : List (List Vl)} {k : Nat} {v : List Vl} (hx : l[k]? = some v) (h : fitsT cs v = 0) : firstE cs (l.drop k) = firstE cs (l.drop (k + 1)) := by rw [drop_cons hx, firstE, if_pos h]
theorem firstE_bad {cs : List Col} {l : List (List Vl)} {k : Nat} {v : List Vl} (hx : l[k]? = some v) (h : fitsT cs v ≠ 0) : firstE cs (l.drop k) = fitsT cs v := by rw [drop_cons hx, firstE, if_neg h]
theorem firstE_end {cs : List Col} {l : List (List Vl)} {k : Nat} (h : l.length ≤ k) : firstE cs (l.drop k) = 0 := by rw [List.drop_of_length_le h]; rfl
set_option maxHeartbeats 2000000 in
set_option maxRecDepth 100000 in
theorem kfits_any (M : Nat → Prop) (w : World) (hM : ∀ b, M b → b < w.heap.size) (nm : ByteArray) (A : Option Addr) (n c : Nat) (cs : List Col) (nx x3 : Value) (I : Option Addr) (ni ci : Nat) (ins : List Sl) (xd : Value) (U : Option Addr) (nu cu : Nat) (us : List Pr)
    (hC : Ro w M (SlR 4 A n (colCells cs))) (hI : Ro w M (SlsIn I ni ins)) (hU : Ro w M (PrsIn U nu us)) (hn : n ≤ 9223372036854775807) (hni : ni ≤ 9223372036854775807) (hnu : nu ≤ 1000000000000) (hoi : ∀ s ∈ ins, s.ok) (hou : ∀ u ∈ us, u.ok) :
    Calls Try.prog 22 #[.agg #[.string nm, .slice A n c, nx, x3], .agg #[.slice I ni ci, xd, .slice U nu cu]] w fun e w' => e = .returned (.int .i64 (fitsC cs (us.map Pr.new) (ins.map Sl.vs))) ∧ Below w.heap.size w w' := by
  have HUL := hid hU.now.len
  have HIL := hid hI.now.len
  have K0 := (((((Hold.start M w hM).add (hU.less (by simp [Mut]))).add (hI.less (by simp [Mut, Hp.foot]))).add (hC.less (by simp [Mut, Hp.foot]))).alloc_cst #[.string nm, .slice A n c, nx, x3] 29).alloc_cst #[.slice I ni ci, xd, .slice U nu cu] 46
  rw [World.size_alloc] at K0
  have F0 := K0.facts
  simp only [World.size_alloc, World.size_drew, factsL, cellsF, Nat.reduceAdd, List.toList_toArray, List.set_cons_zero, List.set_cons_succ, List.setIfInBounds_toArray, and_true, true_and] at F0
  clear hC hI hU
  go_enter Try.func22, Try.ntmps22
  go_wp2_with fail
  clear F0
  go_loopw [14] (fun iv wr => ∃ (j : Nat), j ≤ nu ∧ iv = .int .i64 j ∧ Hid (firstE cs (us.map Pr.new) = firstE cs ((us.map Pr.new).drop j)) ∧ Hold M none w wr [.cst (w.heap.size + 1) 46 #[.slice I ni ci, xd, .slice U nu cu], .cst w.heap.size 29 #[.string nm, .slice A n c, nx, x3], .ro (SlR 4 A n (colCells cs)), .ro (SlsIn I ni ins), .ro (PrsIn U nu us)]) (fun iv _ => nu - (intOf iv).toNat)
  case atStart => exact ⟨0, by omega, rfl, hid rfl, K0⟩
  case round =>
    clear K0
    obtain ⟨j, hj, rfl, HS, H⟩ := hrel
    by_cases hlt : j < nu
    · have hdd : decide ((j : Int) < (nu : Int)) = true := by simp; omega
      have j0 : (0 : Int) ≤ (j : Int) := by omega
      obtain ⟨u, hu⟩ := get_of HUL.out hlt
      obtain ⟨b, o, rfl, hb, c0, c1, c2, _⟩ := (H.ro 4 rfl).now.at_ hu
      have HX := hid (show (us.map Pr.new)[j]? = some u.new by simp [hu])
      have HUM := hid (List.mem_of_getElem? hu)
      have huok := hou u HUM.out
      have K1 := H.alloc_cst #[.int .i64 u.id, .slice u.oA u.on u.oc, .slice u.nA u.nn u.nc] 48
      clear hu
      have F1 := K1.facts
      simp only [World.size_alloc, World.size_drew, factsL, cellsF, Nat.reduceAdd, List.toList_toArray, List.set_cons_zero, List.set_cons_succ, List.setIfInBounds_toArray, and_true, true_and] at F1
      have hVR : Ro _ (Mut M _) (VlsIn u.nA u.nn u.new) := (K1.ro 5 rfl).imp fun w2 h2 => (h2.2 u HUM.out).2
      go_wp2_with fail
      refine (tfits_any _ _ K1.mutLt nm A n c cs u.nA u.nn u.nc u.new (K1.ro 3 rfl) hVR hn (Nat.le_trans huok.nc huok.nc2) huok.new).mono ?_
      rintro e w3 ⟨rfl, b3⟩
      have K3 := (K1.call b3).drop (List.sublist_cons_self _ _)
      clear K1 F1 b3 hVR H
      by_cases hz : fitsT cs u.new = 0
      · have HN := hid (show firstE cs (us.map Pr.new) = firstE cs ((us.map Pr.new).drop (j + 1)) by rw [HS.out]; exact firstE_good HX.out hz)
        rw [hz]
        clear hz
        go_wp2_with fail
        go_roundw
        case rel => exact ⟨j + 1, by omega, by go_num, HN, K3⟩
        case measure => simp [intOf]; omega
      · have hz2 : (fitsT cs u.new != 0) = true := by simp [hz]
        have HN := hid (show fitsC cs (us.map Pr.new) (ins.map Sl.vs) = fitsT cs u.new by unfold fitsC; rw [HS.out, firstE_bad HX.out hz, if_neg hz])
        clear hz
        go_wp2_with fail
        go_ret
        exact ⟨by rw [HN.out] <;> rfl, K3.below⟩
    · obtain rfl : j = nu := by omega
      have hdd : decide ((j : Int) < (j : Int)) = false := by simp
      have HF := hid (show fitsC cs (us.map Pr.new) (ins.map Sl.vs) = firstE cs (ins.map Sl.vs) by unfold fitsC; rw [HS.out, firstE_end (by rw [List.length_map, HUL.out]; exact Nat.le_refl _), if_pos rfl])
      have F5 := H.facts
      simp only [World.size_alloc, World.size_drew, factsL, cellsF, Nat.reduceAdd, List.toList_toArray, List.set_cons_zero, List.set_cons_succ, List.setIfInBounds_toArray, and_true, true_and] at F5
      go_wp2_with fail
      clear F5
      go_loopw [30] (fun iv wr => ∃ (k : Nat), k ≤ ni ∧ iv = .int .i64 k ∧ Hid (firstE cs (ins.map Sl.vs) = firstE cs ((ins.map Sl.vs).drop k)) ∧ Hold M none w wr [.cst (w.heap.size + 1) 46 #[.slice I ni ci, xd, .slice U j cu], .cst w.heap.size 29 #[.string nm, .slice A n c, nx, x3], .ro (SlR 4 A n (colCells cs)), .ro (SlsIn I ni ins), .ro (PrsIn U j us)]) (fun iv _ => ni - (intOf iv).toNat)
      case atStart => exact ⟨0, by omega, rfl, hid rfl, H⟩
      case round =>
        clear H
        obtain ⟨k, hk, rfl, HS2, H⟩ := hrel
        by_cases hlt2 : k < ni
        · have hdd2 : decide ((k : Int) < (ni : Int)) = true := by simp; omega
          have k0 : (0 : Int) ≤ (k : Int) := by omega
          obtain ⟨s, hx⟩ := get_of HIL.out hlt2
          obtain ⟨b, o, rfl, hb, c0, _⟩ := (H.ro 3 rfl).now.at_ hx
          have HX := hid (show (ins.map Sl.vs)[k]? = some s.vs by simp [hx])
          have HSM := hid (List.mem_of_getElem? hx)
          have hsok := hoi s HSM.out
          clear hx
          have F1 := H.facts
          simp only [World.size_alloc, World.size_drew, factsL, cellsF, Nat.reduceAdd, List.toList_toArray, List.set_cons_zero, List.set_cons_succ, List.setIfInBounds_toArray, and_true, true_and] at F1
          have hVR : Ro _ (Mut M _) (VlsIn s.A s.n s.vs) := (H.ro 3 rfl).imp fun w2 h2 => h2.2 s HSM.out
          go_wp2_with fail
          refine (tfits_any _ _ H.mutLt nm A n c cs s.A s.n s.c s.vs (H.ro 2 rfl) hVR hn (Nat.le_trans hsok.nc hsok.c) hsok.vs).mono ?_
          rintro e w3 ⟨rfl, b3⟩
          have K3 := H.call b3
          clear F1 b3 hVR H
          by_cases hz : fitsT cs s.vs = 0
          · have HN := hid (show firstE cs (ins.map Sl.vs) = firstE cs ((ins.map Sl.vs).drop (k + 1)) by rw [HS2.out]; exact firstE_good HX.out hz)
            rw [hz]
            clear hz
            go_wp2_with fail
            go_roundw
            case rel => exact ⟨k + 1, by omega, by go_num, HN, K3⟩
            case measure => simp [intOf]; omega
          · have hz2 : (fitsT cs s.vs != 0) = true := by simp [hz]
            have HN := hid (show fitsC cs (us.map Pr.new) (ins.map Sl.vs) = fitsT cs s.vs by rw [HF.out, HS2.out, firstE_bad HX.out hz])
            clear hz
            go_wp2_with fail
            go_ret
            exact ⟨by rw [HN.out] <;> rfl, K3.below⟩
        · obtain rfl : k = ni := by omega
          have hdd2 : decide ((k : Int) < (k : Int)) = false := by simp
          have HN := hid (show fitsC cs (us.map Pr.new) (ins.map Sl.vs) = 0 by rw [HF.out, HS2.out, firstE_end (by rw [List.length_map, HIL.out]; exact Nat.le_refl _)])
          go_wp2_with fail
          go_ret
          exact ⟨by rw [HN.out] <;> rfl, H.below⟩
end Go.Proofs.Ytphofeeaphkciaa

namespace Go.Proofs.Ytphofeeaphkciaa
open Go.RowKit
set_option linter.unusedVariables false
set_option linter.unusedSimpArgs false

/-- a table in plain words -/
structure Tb where
  nm : ByteArray
  cs : List Col
  nx : Int
  rs : List Row
deriving DecidableEq
/-- A value that is a table in memory that nobody writes. -/
def TbAt (w : World) (M : Nat → Prop) (v : Value) (t : Tb) : Prop :=
  ∃ (A : Option Addr) (n c : Nat) (B : Option Addr) (m d : Nat) (l : List Rw), v = .agg #[.string t.nm, .slice A n c, .int .i64 t.nx, .slice B m d] ∧ n ≤ c ∧ c ≤ 9223372036854775807 ∧ m ≤ d ∧ d ≤ 9223372036854775807 ∧ Ro w M (ColsIn A n t.cs) ∧ Ro w M (RwsIn B m l) ∧ (∀ r ∈ l, r.ok) ∧ l.map Rw.row = t.rs
end Go.Proofs.Ytphofeeaphkciaa

namespace Go.Proofs.Ytphofeeaphkciaa
open Go.RowKit
set_option linter.unusedVariables false
set_option linter.unusedSimpArgs false
section
variable {P : Program} {M : Nat → Prop} {row : Option Nat} {w0 w1 : World} {L : List Hp} {sp : SpW} {F : Act → Prop} {S0 : Array Bool}
variable {ops : Array Oper} {o : Oper} {rest : List Oper} {a : Act} {k : Nat}
theorem dw_valC (d : Tmp) (V : Value → World → Prop) (hS : S0.getD k false = false) (hw : Region.wanted o (yielded ops a.tmps) = true) (hd : o.dst = some d) (hsp : sp d = some V) (u : Value) (hrun : ∀ w, Hold M row w0 w L → (execOp a.eval o).run P w = .ok (.value u) w)
    (hV : ∀ w, Hold M row w0 w L → Deps ops (GW sp) o a w → V u w) (hn : wpRel P ops (HC M row w0 w1 L) (GW sp) (RM (Mut M L)) S0 F (k + 1) rest (a.put (some d) u)) : wpRel P ops (HC M row w0 w1 L) (GW sp) (RM (Mut M L)) S0 F k (o :: rest) a :=
  rel_val (fun w _ => RM.refl _ w) hS hw u (fun w hC _ => hrun w hC.1) (fun w hC hD => by rw [hd]; exact (GW_on hsp).2 (hV w hC.1 hD)) (by rw [hd]; exact hn)
end
/-- a clone's slot -/
def VlsSlot (M : Nat → Prop) (vs : List Vl) (u : Value) (w : World) : Prop := ∃ (A : Option Addr) (n c : Nat), u = .slice A n c ∧ n = vs.length ∧ n ≤ c ∧ c ≤ 9223372036854775807 ∧ Ro w M (VlsIn A n vs)
/-- a row's slot -/
def RowSlot (M : Nat → Prop) (id : Int) (vs : List Vl) (u : Value) (w : World) : Prop := ∃ (A : Option Addr) (n c : Nat), u = .agg #[.int .i64 id, .slice A n c] ∧ n = vs.length ∧ n ≤ c ∧ c ≤ 9223372036854775807 ∧ Ro w M (VlsIn A n vs)
/-- the slot of a block of one row -/
def RBoxSlot (M : Nat → Prop) (id : Int) (vs : List Vl) (u : Value) (w : World) : Prop := ∃ (g : Nat) (A : Option Addr) (n c : Nat), u = .slice (some ⟨g, 0, none⟩) 1 1 ∧ n = vs.length ∧ n ≤ c ∧ c ≤ 9223372036854775807 ∧ Ro w M (VlsIn A n vs) ∧ Ro w M (SlR 2 (some ⟨g, 0, none⟩) 1 [.int .i64 id, .slice A n c])
theorem vlsSlot_mono {M : Nat → Prop} {vs : List Vl} (u : Value) (w w' : World) (hr : RM M w w') (h : VlsSlot M vs u w) : VlsSlot M vs u w' := by
  obtain ⟨A, n, c, h1, h2, h3, h4, h5⟩ := h
  exact ⟨A, n, c, h1, h2, h3, h4, hr.ro h5⟩
theorem rowSlot_mono {M : Nat → Prop} {id : Int} {vs : List Vl} (u : Value) (w w' : World) (hr : RM M w w') (h : RowSlot M id vs u w) : RowSlot M id vs u w' := by
  obtain ⟨A, n, c, h1, h2, h3, h4, h5⟩ := h
  exact ⟨A, n, c, h1, h2, h3, h4, hr.ro h5⟩
theorem rboxSlot_mono {M : Nat → Prop} {id : Int} {vs : List Vl} (u : Value) (w w' : World) (hr : RM M w w') (h : RBoxSlot M id vs u w) : RBoxSlot M id vs u w' := by
  obtain ⟨g, A, n, c, h1, h2, h3, h4, h5, h6⟩ := h
  exact ⟨g, A, n, c, h1, h2, h3, h4, hr.ro h5, hr.ro h6⟩
theorem rwCells_snoc (l : List Rw) (x : Rw) : rwCells (l ++ [x]) = rwCells l ++ x.cells := by simp [rwCells]
theorem rwCells_snoc1 (l : List Rw) (id : Int) (A : Option Addr) (n c : Nat) (vs : List Vl) : rwCells l ++ [.int .i64 id, .slice A n c] = rwCells (l ++ [⟨id, A, n, c, vs⟩]) := by simp [rwCells, Rw.cells]
theorem vals_snoc {M : Nat → Prop} {w : World} {rs : List Rw} {r : Rw} (h : Ro w M (ValsIn rs)) (k : Ro w M (VlsIn r.A r.n r.vs)) : Ro w M (ValsIn (rs ++ [r])) := fun w2 h1 h2 x hx => by
  rcases List.mem_append.1 hx with hx | hx
  · exact h w2 h1 h2 x hx
  · simp at hx; subst hx; exact k w2 h1 h2
theorem ro_vals_nil (w : World) (M : Nat → Prop) : Ro w M (ValsIn []) := fun _ _ _ r hr => nomatch hr
end Go.Proofs.Ytphofeeaphkciaa

namespace Go.Proofs.Ytphofeeaphkciaa
open Go.RowKit
set_option linter.unusedVariables false
set_option linter.unusedSimpArgs false

/-- the rows that stay, with their new values: the updates are taken in order -/
def goR (dels : List Int) : List Row → List Upd → List Row
  | [], _ => []
  | r :: rs, [] => if dels.contains r.1 then goR dels rs [] else r :: goR dels rs []
  | r :: rs, u :: us => if dels.contains r.1 then goR dels rs (u :: us) else if u.1 = r.1 then (r.1, u.2.2) :: goR dels rs us else r :: goR dels rs (u :: us)
/-- the new rows -/
def insR (nx : Int) (ins : List (List Vl)) : List Row := ins.zipIdx.map fun p => (nx + (p.2 : Int), p.1)
def outR (nx : Int) (rs : List Row) (ins : List (List Vl)) (dels : List Int) (us : List Upd) : List Row := goR dels rs us ++ insR nx ins
def zeroT : Tb := ⟨⟨#[]⟩, [], 0, []⟩
/-- what Apply answers -/
def applyC (nm : ByteArray) (cs : List Col) (nx : Int) (rs : List Row) (ins : List (List Vl)) (dels : List Int) (us : List Upd) : Int × Tb :=
  if chgB nm cs nx rs ins dels us = false then (17, zeroT)
  else if fitsC cs (us.map (·.2.2)) ins ≠ 0 then (fitsC cs (us.map (·.2.2)) ins, zeroT)
  else if (rs.length : Int) - dels.length + ins.length > 100 ∨ (ins.length : Int) > 2147483648 - nx then (10, zeroT)
  else if dupB cs (outR nx rs ins dels us) then (9, zeroT)
  else (0, ⟨nm, cs, nx + ins.length, outR nx rs ins dels us⟩)
theorem goR_skip {dels : List Int} {rs : List Row} {us : List Upd} {j : Nat} {r : Row} (hr : rs[j]? = some r) (h : dels.contains r.1 = true) : goR dels (rs.drop j) us = goR dels (rs.drop (j + 1)) us := by
  rw [drop_cons hr]
  cases us with
  | nil => rw [goR, if_pos h]
  | cons u us => rw [goR, if_pos h]
theorem goR_keep {dels : List Int} {rs : List Row} {us : List Upd} {j : Nat} {r : Row} (hr : rs[j]? = some r) (h : dels.contains r.1 = false) (hu : ∀ u, us.head? = some u → u.1 ≠ r.1) : goR dels (rs.drop j) us = r :: goR dels (rs.drop (j + 1)) us := by
  rw [drop_cons hr]
  cases us with
  | nil => rw [goR, if_neg (by rw [h]; simp)]
  | cons u us => rw [goR, if_neg (by rw [h]; simp), if_neg (hu u rfl)]
theorem goR_upd {dels : List Int} {rs : List Row} {us : List Upd} {j : Nat} {r : Row} {u : Upd} (hr : rs[j]? = some r) (h : dels.contains r.1 = false) (hu : u.1 = r.1) : goR dels (rs.drop j) (u :: us) = (r.1, u.2.2) :: goR dels (rs.drop (j + 1)) us := by
  rw [drop_cons hr, goR, if_neg (by rw [h]; simp), if_pos hu]
theorem goR_end {dels : List Int} {rs : List Row} {us : List Upd} {j : Nat} (h : rs.length ≤ j) : goR dels (rs.drop j) us = [] := by rw [List.drop_of_length_le h]; simp [goR]
theorem insR_snoc {nx : Int} {ins : List (List Vl)} {k : Nat} {v : List Vl} (hv : ins[k]? = some v) : insR nx (ins.take (k + 1)) = insR nx (ins.take k) ++ [(nx + (k : Int), v)] := by
  have hk : k < ins.length := (List.getElem?_eq_some_iff.1 hv).1
  unfold insR
  rw [List.take_add_one, hv, Option.toList_some, List.zipIdx_append, List.map_append, List.length_take, Nat.min_eq_left (Nat.le_of_lt hk)]
  simp
theorem goR_len (dels : List Int) : ∀ (rs : List Row) (us : List Upd), (goR dels rs us).length ≤ rs.length
  | [], _ => by simp [goR]
  | r :: rs, [] => by
    rw [goR]
    have := goR_len dels rs []
    split <;> simp <;> omega
  | r :: rs, u :: us => by
    rw [goR]
    have := goR_len dels rs us
    have := goR_len dels rs (u :: us)
    split
    · simp at *; omega
    · split <;> simp at * <;> omega
theorem firstE_all {cs : List Col} : ∀ {l : List (List Vl)}, firstE cs l = 0 → ∀ v ∈ l, fitsT cs v = 0
  | [], _, v, hv => nomatch hv
  | x :: l, h, v, hv => by
    rw [firstE] at h
    split at h
    · rcases List.mem_cons.1 hv with rfl | hv
      · assumption
      · exact firstE_all h v hv
    · exact absurd h (by assumption)
theorem fitsC_all {cs : List Col} {a b : List (List Vl)} (h : fitsC cs a b = 0) : (∀ v ∈ a, fitsT cs v = 0) ∧ ∀ v ∈ b, fitsT cs v = 0 := by
  unfold fitsC at h
  split at h
  · exact ⟨firstE_all (by assumption), firstE_all h⟩
  · exact absurd h (by assumption)
theorem PrsIn.tail {w : World} {b o k : Nat} {u : Pr} {us : List Pr} (h : PrsIn (some ⟨b, o, none⟩) (k + 1) (u :: us) w) : PrsIn (some ⟨b, o + 3, none⟩) k us w := by
  refine ⟨?_, fun r hr => h.2 r (List.mem_cons_of_mem _ hr)⟩
  have h1 : Rd w w.heap.size 3 (some ⟨b, o, none⟩) (k + 1) (prCells (u :: us)) := h.1
  have hl := h1.1
  refine ⟨by simp [prCells, Pr.cells] at hl ⊢; omega, fun hk => ?_⟩
  obtain ⟨b', o', e, hb, hc⟩ := h1.2 (by omega)
  obtain ⟨rfl, rfl⟩ : b = b' ∧ o = o' := by injection e with e; injection e with a1 a2; exact ⟨a1, a2⟩
  refine ⟨b, o + 3, rfl, hb, fun j v hv => ?_⟩
  have := hc (3 + j) v (by
    show (prCells (u :: us))[3 + j]? = some v
    unfold prCells
    rw [List.flatMap_cons, List.getElem?_append_right (by simp [Pr.cells])]
    simpa [Pr.cells, prCells] using hv)
  rwa [show o + (3 + j) = o + 3 + j by omega] at this
theorem PrsIn.zero {w : World} (A : Option Addr) : PrsIn A 0 [] w := ⟨⟨by simp [prCells], fun h => absurd h (by omega)⟩, fun r hr => nomatch hr⟩
def ApplyRet (w : World) (M : Nat → Prop) (r : Int × Tb) (e : Ending) (w' : World) : Prop := ∃ v, e = .returned (.tuple #[v, .int .i64 r.1]) ∧ TbAt w' M v r.2 ∧ Below w.heap.size w w'
theorem tbAt_zero {w : World} {M : Nat → Prop} : TbAt w M (.agg #[.string ⟨#[]⟩, .slice none 0 0, .int .i64 0, .slice none 0 0]) zeroT := ⟨none, 0, 0, none, 0, 0, [], rfl, by omega, by omega, by omega, by omega, ro_nil, fun _ _ _ => ⟨Rd.none_, fun r hr => nomatch hr⟩, fun r hr => (nomatch hr), rfl⟩
set_option maxHeartbeats 4000000 in
set_option maxRecDepth 100000 in
theorem kapply_any (M : Nat → Prop) (w : World) (hM : ∀ b, M b → b < w.heap.size) (nm : ByteArray) (A : Option Addr) (n c : Nat) (cs : List Col) (nx : Int) (B : Option Addr) (m d : Nat) (l : List Rw) (I : Option Addr) (ni ci : Nat) (ins : List Sl) (D : Option Addr) (nd cd : Nat) (dels : List Int) (U : Option Addr) (nu cu : Nat) (us : List Pr)
    (hC : Ro w M (SlR 4 A n (colCells cs))) (hE : Ro w M (RwsIn B m l)) (hI : Ro w M (SlsIn I ni ins)) (hD : Ro w M (IsIn D nd dels)) (hU : Ro w M (PrsIn U nu us)) (hn : n ≤ 9223372036854775807) (hm : m ≤ 4611686018427387904) (hok : ∀ r ∈ l, r.ok) (hs : nm.size ≤ maxLen) (hcs : ∀ x ∈ cs, x.name.size ≤ maxLen)
    (hni : ni ≤ 1000000000000000) (hnd : nd ≤ 1000000000000000) (hnu : nu ≤ 1000000000000) (hnuc : nu ≤ cu) (hcu : cu ≤ 9223372036854775807) (hoi : ∀ s ∈ ins, s.ok) (hou : ∀ u ∈ us, u.ok) :
    Calls Try.prog 12 #[.agg #[.string nm, .slice A n c, .int .i64 nx, .slice B m d], .agg #[.slice I ni ci, .slice D nd cd, .slice U nu cu]] w fun e w' => ApplyRet w M (applyC nm cs nx (l.map Rw.row) (ins.map Sl.vs) dels (us.map Pr.upd)) e w' := by
  have HUL := hid hU.now.len
  have HIL := hid hI.now.len
  have HRL := hid hE.now.len
  have HDL := hid hD.now.len
  have HCL := hid (show cs.length = n from (RdC.of_sl hC.now).len)
  have HEN := hid hE.now
  have HUN := hid hU.now
  have HIN := hid hI.now
  have K0 := ((((((((Hold.start M w hM).add (hU.less (by simp [Mut]))).add (hD.less (by simp [Mut, Hp.foot]))).add (hI.less (by simp [Mut, Hp.foot]))).add (hE.less (by simp [Mut, Hp.foot]))).add (hC.less (by simp [Mut, Hp.foot]))).alloc_cst #[.string nm, .slice A n c, .int .i64 nx, .slice B m d] 29).alloc_cst #[.slice I ni ci, .slice D nd cd, .slice U nu cu] 46).alloc #[.string ⟨#[]⟩, .slice none 0 0, .int .i64 0, .slice none 0 0] 29
  simp only [World.size_alloc] at K0
  have F0 := K0.facts
  simp only [World.size_alloc, World.size_drew, factsL, cellsF, Nat.reduceAdd, List.toList_toArray, List.set_cons_zero, List.set_cons_succ, List.setIfInBounds_toArray, and_true, true_and] at F0
  clear hC hI hD hU hE
  go_enter Try.func12, Try.ntmps12
  go_wp2_with fail
  refine (kvalid_any _ _ K0.mutLt nm A n c cs nx B m d l I ni ci ins D nd cd dels U nu cu us (K0.ro 3 rfl) (K0.ro 4 rfl) (K0.ro 5 rfl) (K0.ro 6 rfl) (K0.ro 7 rfl) hn hm hok hs hcs (by omega) (by omega) hnu).mono ?_
  rintro e w1 ⟨rfl, b1⟩
  have K1 := K0.call b1
  clear K0 b1 F0
  have F1 := K1.facts
  simp only [World.size_alloc, World.size_drew, factsL, cellsF, Nat.reduceAdd, List.toList_toArray, List.set_cons_zero, List.set_cons_succ, List.setIfInBounds_toArray, and_true, true_and] at F1
  cases hcb : chgB nm cs nx (l.map Rw.row) (ins.map Sl.vs) dels (us.map Pr.upd)
  · have HN := hid (show applyC nm cs nx (l.map Rw.row) (ins.map Sl.vs) dels (us.map Pr.upd) = (17, zeroT) by unfold applyC; rw [hcb]; rfl)
    clear hcb
    have KN := (((K1.store 0 rfl 0 (.string ⟨#[]⟩)).store 0 rfl 1 (.slice none 0 0)).store 0 rfl 2 (.int .i64 0)).store 0 rfl 3 (.slice none 0 0)
    go_wp2_with fail
    exact bodyPost_ret (v := .tuple #[.agg #[.string ⟨#[]⟩, .slice none 0 0, .int .i64 0, .slice none 0 0], .int .i64 17]) (by simp [results, Try.results12, go_sem, F1]) rfl ⟨_, by rw [HN.out], by rw [HN.out]; exact tbAt_zero, KN.below⟩
  have htb : tabB nm cs nx (l.map Rw.row) = true := by
    have h := hcb
    unfold chgB at h
    simp only [Bool.and_eq_true] at h
    exact h.1.1.1.1
  have hshort := rw_short HEN.out htb
  obtain ⟨hm100, hnx1, hnx2⟩ := tabB_rows htb
  rw [List.length_map, HRL.out] at hm100
  have hn6 : n ≤ 6 := by have := tabB_cols htb; have := HCL.out; omega
  have HCB := hid hcb
  clear hcb htb
  go_wp2_with fail
  refine (kfits_any _ _ K1.mutLt nm A n c cs (.int .i64 nx) (.slice B m d) I ni ci ins (.slice D nd cd) U nu cu us (K1.ro 3 rfl) (K1.ro 5 rfl) (K1.ro 7 rfl) hn (by omega) hnu hoi hou).mono ?_
  rintro e w2 ⟨rfl, b2⟩
  have K2 := K1.call b2
  clear K1 b2 F1
  have F2 := K2.facts
  simp only [World.size_alloc, World.size_drew, factsL, cellsF, Nat.reduceAdd, List.toList_toArray, List.set_cons_zero, List.set_cons_succ, List.setIfInBounds_toArray, and_true, true_and] at F2
  have HFE := hid (show fitsC cs ((us.map Pr.upd).map (·.2.2)) (ins.map Sl.vs) = fitsC cs (us.map Pr.new) (ins.map Sl.vs) by rw [List.map_map]; rfl)
  by_cases hfz : fitsC cs (us.map Pr.new) (ins.map Sl.vs) = 0
  · rw [hfz]
    have HFZ := hid hfz
    clear hfz
    by_cases hbig : (m : Int) - nd + ni > 100 ∨ (ni : Int) > 2147483648 - nx
    · have HN := hid (show applyC nm cs nx (l.map Rw.row) (ins.map Sl.vs) dels (us.map Pr.upd) = (10, zeroT) by unfold applyC; rw [HCB.out, HFE.out, if_neg (by simp), if_neg (by rw [HFZ.out]; simp), if_pos (by simp only [List.length_map]; have := HRL.out; have := HIL.out; have := HDL.out; rcases hbig with h | h; (exact Or.inl (by omega)); (exact Or.inr (by omega)))])
      have KN := (((K2.store 0 rfl 0 (.string ⟨#[]⟩)).store 0 rfl 1 (.slice none 0 0)).store 0 rfl 2 (.int .i64 0)).store 0 rfl 3 (.slice none 0 0)
      by_cases hb1 : (m : Int) - nd + ni > 100
      · have hd1 : decide ((m : Int) - nd + ni > 100) = true := by simp; omega
        clear hbig hb1
        go_wp2_with fail
        exact bodyPost_ret (v := .tuple #[.agg #[.string ⟨#[]⟩, .slice none 0 0, .int .i64 0, .slice none 0 0], .int .i64 10]) (by simp [results, Try.results12, go_sem, F2]) rfl ⟨_, by rw [HN.out], by rw [HN.out]; exact tbAt_zero, KN.below⟩
      · have hd1 : decide ((m : Int) - nd + ni > 100) = false := by simp; omega
        have hd2 : decide ((ni : Int) > 2147483648 - nx) = true := by simp; omega
        clear hbig hb1
        go_wp2_with fail
        exact bodyPost_ret (v := .tuple #[.agg #[.string ⟨#[]⟩, .slice none 0 0, .int .i64 0, .slice none 0 0], .int .i64 10]) (by simp [results, Try.results12, go_sem, F2]) rfl ⟨_, by rw [HN.out], by rw [HN.out]; exact tbAt_zero, KN.below⟩
    have hd1 : decide ((m : Int) - nd + ni > 100) = false := by simp; omega
    have hd2 : decide ((ni : Int) > 2147483648 - nx) = false := by simp; omega
    have HBIG := hid hbig
    have HU6 := hid (show ∀ u ∈ us, u.ok ∧ u.nn ≤ 6 from fun u hu => ⟨hou u hu, by have h1 := fitsT_len ((fitsC_all HFZ.out).1 u.new (List.mem_map_of_mem (f := Pr.new) hu)); have h2 := (HUN.out.2 u hu).2.len; have := HCL.out; omega⟩)
    have HI6 := hid (show ∀ s ∈ ins, s.ok ∧ s.n ≤ 6 from fun u hu => ⟨hoi u hu, by have h1 := fitsT_len ((fitsC_all HFZ.out).2 u.vs (List.mem_map_of_mem (f := Sl.vs) hu)); have h2 := (HIN.out.2 u hu).len; have := HCL.out; omega⟩)
    obtain ⟨go, hgo⟩ : ∃ go, go = w2.heap.size := ⟨_, rfl⟩
    have HGO := hid hgo
    have K3 := K2.alloc #[.string nm, .slice A n c, .int .i64 (nx + (ni : Int)), .slice none 0 0] 29
    rw [← hgo] at K3
    go_wp2_with fail
    rw [← hgo]
    refine (cloneCols_any _ _ K3.mutLt A n c cs (K3.ro 4 rfl) (by omega)).mono ?_
    rintro e w4 ⟨A2, n2, c2, rfl, hn2, hc2, hc22, r2, b2⟩
    have HN2 := hid hn2
    have K4 := (((K3.call b2).add r2).add (ro_vals_nil _ _)).nil 34 2
    clear K2 K3 F2 r2 b2 hn2 hgo hd1 hd2
    have F4 := K4.facts
    simp only [World.size_alloc, World.size_drew, factsL, cellsF, Nat.reduceAdd, List.toList_toArray, List.set_cons_zero, List.set_cons_succ, List.setIfInBounds_toArray, and_true, true_and] at F4
    have N4 := K4.nes
    simp only [World.size_alloc, nesL, neF, List.set_cons_zero, List.set_cons_succ, and_true, true_and] at N4
    have K5 := K4.store 3 rfl 1 (.slice A2 n2 c2)
    simp only [cellsF, List.set_cons_zero, List.set_cons_succ, List.setIfInBounds_toArray] at K5
    have K6 := K5.add (K5.ro 11 rfl |>.less (by simp))
    go_wp2_with fail
    clear F4 N4 K4 K5
    go_loopw [8, 68] (fun uv iv wr => ∃ (j q cap k ck : Nat) (O V : Option Addr) (outs : List Rw) (vs : List Pr), j ≤ m ∧ iv = .int .i64 j ∧ uv = .slice V k ck ∧ q ≤ j ∧ k ≤ ck ∧ ck ≤ 9223372036854775807 ∧ (∀ r ∈ outs, r.ok) ∧ (∀ u ∈ vs, u.ok ∧ u.nn ≤ 6) ∧ Hid (goR dels (l.map Rw.row) (us.map Pr.upd) = outs.map Rw.row ++ goR dels ((l.map Rw.row).drop j) (vs.map Pr.upd)) ∧ Hold M none w wr [.ro (PrsIn V k vs), .own 34 2 (.slice O q cap) q (rwCells outs), .ro (ValsIn outs), .ro (SlR 4 A2 n2 (colCells cs)), .blk go 29 #[.string nm, .slice A2 n2 c2, .int .i64 (nx + (ni : Int)), .slice O q cap], .blk (w.heap.size + 1 + 1) 29 #[.string ⟨#[]⟩, .slice none 0 0, .int .i64 0, .slice none 0 0], .cst (w.heap.size + 1) 46 #[.slice I ni ci, .slice D nd cd, .slice U nu cu], .cst w.heap.size 29 #[.string nm, .slice A n c, .int .i64 nx, .slice B m d], .ro (SlR 4 A n (colCells cs)), .ro (RwsIn B m l), .ro (SlsIn I ni ins), .ro (IsIn D nd dels), .ro (PrsIn U nu us)]) (fun _ iv _ => m - (intOf iv).toNat)
    case atStart => exact ⟨0, 0, 0, nu, cu, none, U, [], us, by omega, rfl, rfl, by omega, hnuc, hcu, (fun r hr => nomatch hr), HU6.out, hid rfl, K6⟩
    case round =>
      clear K6
      obtain ⟨j, q, cap, k, ck, O, V, outs, vs, hj, rfl, rfl, hq, hkc, hck, hoo, hov, HG, H⟩ := hrel
      by_cases hlt : j < m
      · have hdd : decide ((j : Int) < (m : Int)) = true := by simp; omega
        have j0 : (0 : Int) ≤ (j : Int) := by omega
        obtain ⟨r, hr⟩ := get_of HRL.out hlt
        obtain ⟨b, o, rfl, hb, c0, c1, _⟩ := (H.ro 9 rfl).now.at_ hr
        have HX := hid (show (l.map Rw.row)[j]? = some (r.id, r.vs) by simp [hr, Rw.row])
        have HRM := hid (List.mem_of_getElem? hr)
        have hrok := hok r HRM.out
        have HR6 := hid (hshort r HRM.out)
        have K1 := H.alloc_cst #[.int .i64 r.id, .slice r.A r.n r.c] 34
        clear hr
        have F1 := K1.facts
        simp only [World.size_alloc, World.size_drew, factsL, cellsF, Nat.reduceAdd, List.toList_toArray, List.set_cons_zero, List.set_cons_succ, List.setIfInBounds_toArray, and_true, true_and] at F1
        go_wp2_with fail
        refine (kcont_any _ D nd cd dels r.id (K1.ro 12 rfl).now (by omega)).mono ?_
        rintro e w7 ⟨rfl, rfl⟩
        cases hct : dels.contains r.id
        · have HCT := hid hct; clear hct
          have HVL := hid (show vs.length = k from (H.ro 0 rfl).now.len)
          clear H
          cases vs with
          | nil =>
            obtain rfl : k = 0 := by have := HVL.out; simpa using this.symm
            have HN := hid (goR_keep (us := []) HX.out HCT.out (fun u hu => nomatch hu))
            go_wp2_with fail
            go_quiet (fail)
            have K2 := K1.drewN nq
            clear K1 F1
            generalize World.drewN _ nq = w8 at *
            have F2 := K2.facts
            simp only [World.size_alloc, World.size_drew, factsL, cellsF, Nat.reduceAdd, List.toList_toArray, List.set_cons_zero, List.set_cons_succ, List.setIfInBounds_toArray, and_true, true_and] at F2
            go_wp2_with fail
            refine wp_region_any (by kernel_rfl) ?_
            refine wpAny_hold 8 133 ([.cst wr.heap.size 34 #[.int .i64 r.id, .slice r.A r.n r.c], .ro (PrsIn V 0 []), .own 34 2 (.slice O q cap) q (rwCells outs), .ro (ValsIn outs), .ro (SlR 4 A2 n2 (colCells cs)), .blk go 29 #[.string nm, .slice A2 n2 c2, .int .i64 (nx + (ni : Int)), .slice O q cap], .blk (w.heap.size + 1 + 1) 29 #[.string ⟨#[]⟩, .slice none 0 0, .int .i64 0, .slice none 0 0], .cst (w.heap.size + 1) 46 #[.slice I ni ci, .slice D nd cd, .slice U nu cu], .cst w.heap.size 29 #[.string nm, .slice A n c, .int .i64 nx, .slice (some ⟨b, o, none⟩) m d], .ro (SlR 4 A n (colCells cs)), .ro (RwsIn (some ⟨b, o, none⟩) m l), .ro (SlsIn I ni ins), .ro (IsIn D nd dels), .ro (PrsIn U nu us)]) (spL [(102, VlsSlot (Mut M ([.cst wr.heap.size 34 #[.int .i64 r.id, .slice r.A r.n r.c], .ro (PrsIn V 0 []), .own 34 2 (.slice O q cap) q (rwCells outs), .ro (ValsIn outs), .ro (SlR 4 A2 n2 (colCells cs)), .blk go 29 #[.string nm, .slice A2 n2 c2, .int .i64 (nx + (ni : Int)), .slice O q cap], .blk (w.heap.size + 1 + 1) 29 #[.string ⟨#[]⟩, .slice none 0 0, .int .i64 0, .slice none 0 0], .cst (w.heap.size + 1) 46 #[.slice I ni ci, .slice D nd cd, .slice U nu cu], .cst w.heap.size 29 #[.string nm, .slice A n c, .int .i64 nx, .slice (some ⟨b, o, none⟩) m d], .ro (SlR 4 A n (colCells cs)), .ro (RwsIn (some ⟨b, o, none⟩) m l), .ro (SlsIn I ni ins), .ro (IsIn D nd dels), .ro (PrsIn U nu us)])) r.vs), (103, RowSlot (Mut M ([.cst wr.heap.size 34 #[.int .i64 r.id, .slice r.A r.n r.c], .ro (PrsIn V 0 []), .own 34 2 (.slice O q cap) q (rwCells outs), .ro (ValsIn outs), .ro (SlR 4 A2 n2 (colCells cs)), .blk go 29 #[.string nm, .slice A2 n2 c2, .int .i64 (nx + (ni : Int)), .slice O q cap], .blk (w.heap.size + 1 + 1) 29 #[.string ⟨#[]⟩, .slice none 0 0, .int .i64 0, .slice none 0 0], .cst (w.heap.size + 1) 46 #[.slice I ni ci, .slice D nd cd, .slice U nu cu], .cst w.heap.size 29 #[.string nm, .slice A n c, .int .i64 nx, .slice (some ⟨b, o, none⟩) m d], .ro (SlR 4 A n (colCells cs)), .ro (RwsIn (some ⟨b, o, none⟩) m l), .ro (SlsIn I ni ins), .ro (IsIn D nd dels), .ro (PrsIn U nu us)])) r.id r.vs), (104, RBoxSlot (Mut M ([.cst wr.heap.size 34 #[.int .i64 r.id, .slice r.A r.n r.c], .ro (PrsIn V 0 []), .own 34 2 (.slice O q cap) q (rwCells outs), .ro (ValsIn outs), .ro (SlR 4 A2 n2 (colCells cs)), .blk go 29 #[.string nm, .slice A2 n2 c2, .int .i64 (nx + (ni : Int)), .slice O q cap], .blk (w.heap.size + 1 + 1) 29 #[.string ⟨#[]⟩, .slice none 0 0, .int .i64 0, .slice none 0 0], .cst (w.heap.size + 1) 46 #[.slice I ni ci, .slice D nd cd, .slice U nu cu], .cst w.heap.size 29 #[.string nm, .slice A n c, .int .i64 nx, .slice (some ⟨b, o, none⟩) m d], .ro (SlR 4 A n (colCells cs)), .ro (RwsIn (some ⟨b, o, none⟩) m l), .ro (SlsIn I ni ins), .ro (IsIn D nd dels), .ro (PrsIn U nu us)])) r.id r.vs)]) (by kernel_rfl) (by kernel_rfl) (by kernel_rfl) rfl ?_ (K2.drew) ?_
            · exact stays_cons vlsSlot_mono (stays_cons rowSlot_mono (stays_cons rboxSlot_mono (stays_nil _)))
            simp only [List.take_succ_cons, List.take_zero, List.drop_succ_cons, List.drop_zero, Act.put, List.getElem_toArray, List.getElem_cons_zero, List.getElem_cons_succ, List.setIfInBounds_toArray, List.set_cons_succ, List.set_cons_zero]
            refine dw_val rfl rfl rfl ?_; apply Exists.intro; refine ⟨fun wv HC => ?_, ?_⟩
            ·  go_simp <;> rfl
            simp only [Act.put, List.setIfInBounds_toArray, List.set_cons_succ, List.set_cons_zero]
            refine dw_val rfl rfl rfl ?_; apply Exists.intro; refine ⟨fun wv HC => ?_, ?_⟩
            · have FC := HC.facts; simp only [factsL, cellsF, Nat.reduceAdd, List.toList_toArray, and_true, true_and] at FC; go_simp <;> rfl
            simp only [Act.put, List.setIfInBounds_toArray, List.set_cons_succ, List.set_cons_zero]
            refine dw_val rfl rfl rfl ?_; apply Exists.intro; refine ⟨fun wv HC => ?_, ?_⟩
            ·  go_simp <;> rfl
            simp only [Act.put, List.setIfInBounds_toArray, List.set_cons_succ, List.set_cons_zero]
            refine dw_val rfl rfl rfl ?_; apply Exists.intro; refine ⟨fun wv HC => ?_, ?_⟩
            · have FC := HC.facts; simp only [factsL, cellsF, Nat.reduceAdd, List.toList_toArray, and_true, true_and] at FC; go_simp <;> rfl
            simp only [Act.put, List.setIfInBounds_toArray, List.set_cons_succ, List.set_cons_zero]
            refine dw_val rfl rfl rfl ?_; apply Exists.intro; refine ⟨fun wv HC => ?_, ?_⟩
            ·  go_simp <;> rfl
            simp only [Act.put, List.setIfInBounds_toArray, List.set_cons_succ, List.set_cons_zero]
            refine dw_callR 102 (VlsSlot (Mut M ([.cst wr.heap.size 34 #[.int .i64 r.id, .slice r.A r.n r.c], .ro (PrsIn V 0 []), .own 34 2 (.slice O q cap) q (rwCells outs), .ro (ValsIn outs), .ro (SlR 4 A2 n2 (colCells cs)), .blk go 29 #[.string nm, .slice A2 n2 c2, .int .i64 (nx + (ni : Int)), .slice O q cap], .blk (w.heap.size + 1 + 1) 29 #[.string ⟨#[]⟩, .slice none 0 0, .int .i64 0, .slice none 0 0], .cst (w.heap.size + 1) 46 #[.slice I ni ci, .slice D nd cd, .slice U nu cu], .cst w.heap.size 29 #[.string nm, .slice A n c, .int .i64 nx, .slice (some ⟨b, o, none⟩) m d], .ro (SlR 4 A n (colCells cs)), .ro (RwsIn (some ⟨b, o, none⟩) m l), .ro (SlsIn I ni ins), .ro (IsIn D nd dels), .ro (PrsIn U nu us)])) r.vs) (f := 25) (args := #[.slice r.A r.n r.c]) rfl rfl rfl rfl (fun wv => ?_) (fun wv HC hr8 hD => ?_) ?_
            · go_simp <;> rfl
            · refine (cloneVls_any _ wv HC.mutLt r.A r.n r.c r.vs ((HC.ro 10 rfl).imp fun w2 h2 => h2.2 r HRM.out) (by have := HR6.out; omega)).mono ?_
              rintro e w5 ⟨A5, n5, c5, rfl, h50, h51, h52, h53, b5⟩
              exact ⟨_, rfl, ⟨A5, n5, c5, rfl, h50, h51, h52, h53⟩, HC.call b5, RM.below b5⟩
            rintro x wx HCx ⟨A5, n5, c5, rfl, h50, h51, h52, h53⟩
            simp only [Act.put, List.setIfInBounds_toArray, List.set_cons_succ, List.set_cons_zero]
            clear HCx h53
            refine dw_valC 103 (RowSlot (Mut M ([.cst wr.heap.size 34 #[.int .i64 r.id, .slice r.A r.n r.c], .ro (PrsIn V 0 []), .own 34 2 (.slice O q cap) q (rwCells outs), .ro (ValsIn outs), .ro (SlR 4 A2 n2 (colCells cs)), .blk go 29 #[.string nm, .slice A2 n2 c2, .int .i64 (nx + (ni : Int)), .slice O q cap], .blk (w.heap.size + 1 + 1) 29 #[.string ⟨#[]⟩, .slice none 0 0, .int .i64 0, .slice none 0 0], .cst (w.heap.size + 1) 46 #[.slice I ni ci, .slice D nd cd, .slice U nu cu], .cst w.heap.size 29 #[.string nm, .slice A n c, .int .i64 nx, .slice (some ⟨b, o, none⟩) m d], .ro (SlR 4 A n (colCells cs)), .ro (RwsIn (some ⟨b, o, none⟩) m l), .ro (SlsIn I ni ins), .ro (IsIn D nd dels), .ro (PrsIn U nu us)])) r.id r.vs) rfl rfl rfl rfl (.agg #[.int .i64 r.id, .slice A5 n5 c5]) (fun wv HC => ?_) (fun wv HC hD => ?_) ?_
            · go_simp <;> rfl
            · have hsl : VlsSlot (Mut M ([.cst wr.heap.size 34 #[.int .i64 r.id, .slice r.A r.n r.c], .ro (PrsIn V 0 []), .own 34 2 (.slice O q cap) q (rwCells outs), .ro (ValsIn outs), .ro (SlR 4 A2 n2 (colCells cs)), .blk go 29 #[.string nm, .slice A2 n2 c2, .int .i64 (nx + (ni : Int)), .slice O q cap], .blk (w.heap.size + 1 + 1) 29 #[.string ⟨#[]⟩, .slice none 0 0, .int .i64 0, .slice none 0 0], .cst (w.heap.size + 1) 46 #[.slice I ni ci, .slice D nd cd, .slice U nu cu], .cst w.heap.size 29 #[.string nm, .slice A n c, .int .i64 nx, .slice (some ⟨b, o, none⟩) m d], .ro (SlR 4 A n (colCells cs)), .ro (RwsIn (some ⟨b, o, none⟩) m l), .ro (SlsIn I ni ins), .ro (IsIn D nd dels), .ro (PrsIn U nu us)])) r.vs (.slice A5 n5 c5) wv := deps_at hD 5 rfl (by kernel_rfl) rfl rfl
              obtain ⟨A6, n6, c6, e6, h1, h2, h3, h4⟩ := hsl
              exact ⟨A6, n6, c6, by rw [e6], h1, h2, h3, h4⟩
            simp only [Act.put, List.setIfInBounds_toArray, List.set_cons_succ, List.set_cons_zero]
            refine dw_new #[.int .i64 r.id, .slice A5 n5 c5] 34 104 (RBoxSlot (Mut M ([.cst wr.heap.size 34 #[.int .i64 r.id, .slice r.A r.n r.c], .ro (PrsIn V 0 []), .own 34 2 (.slice O q cap) q (rwCells outs), .ro (ValsIn outs), .ro (SlR 4 A2 n2 (colCells cs)), .blk go 29 #[.string nm, .slice A2 n2 c2, .int .i64 (nx + (ni : Int)), .slice O q cap], .blk (w.heap.size + 1 + 1) 29 #[.string ⟨#[]⟩, .slice none 0 0, .int .i64 0, .slice none 0 0], .cst (w.heap.size + 1) 46 #[.slice I ni ci, .slice D nd cd, .slice U nu cu], .cst w.heap.size 29 #[.string nm, .slice A n c, .int .i64 nx, .slice (some ⟨b, o, none⟩) m d], .ro (SlR 4 A n (colCells cs)), .ro (RwsIn (some ⟨b, o, none⟩) m l), .ro (SlsIn I ni ins), .ro (IsIn D nd dels), .ro (PrsIn U nu us)])) r.id r.vs) (fun g => .slice (some ⟨g, 0, none⟩) 1 1) rfl rfl rfl rfl (fun wv => ?_) (fun wv HC _hrm hD hro => ?_) ?_
            · go_simp <;> rfl
            · have hsl : RowSlot (Mut M ([.cst wr.heap.size 34 #[.int .i64 r.id, .slice r.A r.n r.c], .ro (PrsIn V 0 []), .own 34 2 (.slice O q cap) q (rwCells outs), .ro (ValsIn outs), .ro (SlR 4 A2 n2 (colCells cs)), .blk go 29 #[.string nm, .slice A2 n2 c2, .int .i64 (nx + (ni : Int)), .slice O q cap], .blk (w.heap.size + 1 + 1) 29 #[.string ⟨#[]⟩, .slice none 0 0, .int .i64 0, .slice none 0 0], .cst (w.heap.size + 1) 46 #[.slice I ni ci, .slice D nd cd, .slice U nu cu], .cst w.heap.size 29 #[.string nm, .slice A n c, .int .i64 nx, .slice (some ⟨b, o, none⟩) m d], .ro (SlR 4 A n (colCells cs)), .ro (RwsIn (some ⟨b, o, none⟩) m l), .ro (SlsIn I ni ins), .ro (IsIn D nd dels), .ro (PrsIn U nu us)])) r.id r.vs (.agg #[.int .i64 r.id, .slice A5 n5 c5]) wv := deps_at hD 6 rfl (by kernel_rfl) rfl rfl
              obtain ⟨A6, n6, c6, e6, h1, h2, h3, h4⟩ := hsl
              obtain ⟨rfl, rfl, rfl⟩ : A5 = A6 ∧ n5 = n6 ∧ c5 = c6 := by
                injection e6 with e6
                simp at e6
                exact e6
              exact ⟨_, A5, n5, c5, rfl, h1, h2, h3, h4.step (by simp) (fun b hb _ => Below.heap_alloc wv _ b hb) (fun _ _ h => h), ro_block (hro _ HC.mutLt) rfl⟩
            rintro g2 wg HCg hsl
            simp only [Act.put, List.setIfInBounds_toArray, List.set_cons_succ, List.set_cons_zero]
            clear hsl HCg
            refine rel_nil ?_
            rintro wx2 HX
            rintro _hrm HGW
            have hb2 : RBoxSlot (Mut M ([.cst wr.heap.size 34 #[.int .i64 r.id, .slice r.A r.n r.c], .ro (PrsIn V 0 []), .own 34 2 (.slice O q cap) q (rwCells outs), .ro (ValsIn outs), .ro (SlR 4 A2 n2 (colCells cs)), .blk go 29 #[.string nm, .slice A2 n2 c2, .int .i64 (nx + (ni : Int)), .slice O q cap], .blk (w.heap.size + 1 + 1) 29 #[.string ⟨#[]⟩, .slice none 0 0, .int .i64 0, .slice none 0 0], .cst (w.heap.size + 1) 46 #[.slice I ni ci, .slice D nd cd, .slice U nu cu], .cst w.heap.size 29 #[.string nm, .slice A n c, .int .i64 nx, .slice (some ⟨b, o, none⟩) m d], .ro (SlR 4 A n (colCells cs)), .ro (RwsIn (some ⟨b, o, none⟩) m l), .ro (SlsIn I ni ins), .ro (IsIn D nd dels), .ro (PrsIn U nu us)])) r.id r.vs (.slice (some ⟨g2, 0, none⟩) 1 1) wx2 := (GW_on (d := 104) rfl).1 (HGW 7 _ rfl (by omega))
            clear HGW
            obtain ⟨g3, A6, n6, c6, e6, k0, k1, k2, k3, k4⟩ := hb2
            obtain rfl : g2 = g3 := by injection e6 with e6; injection e6 with e6; injection e6
            clear e6
            have k5 := hid k4.now
            clear k4
            have HRS := hid (show rwCells outs ++ [.int .i64 r.id, .slice A6 n6 c6] = rwCells (outs ++ [⟨r.id, A6, n6, c6, r.vs⟩]) from rwCells_snoc1 _ _ _ _ _ _)
            have KA := HX.add k3
            clear HX
            go_wp2_with (at_builtin; go_must (refine wpList_appAllH KA 3 rfl Try.elRw k5.out rfl (.tmp 98) (.tmp 104) rfl rfl rfl (by intro z hz; simp at hz; rcases hz with rfl | rfl <;> rfl) (by omega) (by omega) ?_); intro C' cap' w6 hc6 hm6 KB; rw [HRS.out] at KB; simp only [List.set_cons_zero, List.set_cons_succ] at KB; (have F3 := KB.facts); simp only [World.size_alloc, World.size_drew, factsL, cellsF, Nat.reduceAdd, List.toList_toArray, List.set_cons_zero, List.set_cons_succ, List.setIfInBounds_toArray, and_true, true_and] at F3)
            have KC := KB.store 6 rfl 3 (.slice C' (q + 1) cap')
            have KD := KC.swapRo 4 rfl (vals_snoc (r := ⟨r.id, A6, n6, c6, r.vs⟩) (KC.ro 4 rfl) (KC.ro 0 rfl))
            have KE := KD
            simp only [cellsF, List.set_cons_zero, List.set_cons_succ, List.setIfInBounds_toArray] at KE
            have HGN := hid (show goR dels (l.map Rw.row) (us.map Pr.upd) = List.map Rw.row (outs ++ [⟨r.id, A6, n6, c6, r.vs⟩]) ++ goR dels ((l.map Rw.row).drop (j + 1)) (([] : List Pr).map Pr.upd) by
              rw [List.map_append, List.append_assoc]
              exact HG.out.trans (congrArg (outs.map Rw.row ++ ·) HN.out))
            go_roundw
            case rel => exact ⟨j + 1, q + 1, cap', 0, ck, _, V, _, [], by omega, by go_num, rfl, by omega, hkc, hck, by intro x hx; rcases List.mem_append.1 hx with hx | hx; (exact hoo x hx); (simp at hx; subst hx; exact ⟨hrok.id, k1, k2, hrok.vs⟩), hov, HGN, (KE.drop (List.sublist_cons_self _ _)).drop (List.sublist_cons_self _ _)⟩
            case measure => simp [intOf]; omega
          | cons u ut =>
            obtain ⟨k', rfl⟩ : ∃ k', k = k' + 1 := ⟨ut.length, by have := HVL.out; simpa using this.symm⟩
            obtain ⟨b5, o5, rfl, hb5, d0, d1, d2, _⟩ := (K1.ro 1 rfl).now.at_ (k := 0) (x := u) rfl
            simp only [Nat.zero_mul, Nat.add_zero] at d0 d1 d2
            by_cases hid_ : u.id = r.id
            · have hbe : ((u.id : Int) == r.id) = true := by simp [hid_]
              have HN := hid (goR_upd (us := ut.map Pr.upd) (u := u.upd) HX.out HCT.out hid_)
              go_wp2_with fail
              go_quiet (fail)
              have K2 := K1.drewN nq
              clear K1 F1
              generalize World.drewN _ nq = w8 at *
              have F2 := K2.facts
              simp only [World.size_alloc, World.size_drew, factsL, cellsF, Nat.reduceAdd, List.toList_toArray, List.set_cons_zero, List.set_cons_succ, List.setIfInBounds_toArray, and_true, true_and] at F2
              go_wp2_with fail
              obtain ⟨_, _, e5, hb6, d3, d4, d5, _⟩ := (K2.ro 1 rfl).now.at_ (k := 0) (x := u) rfl
              obtain ⟨rfl, rfl⟩ : b5 = _ ∧ o5 = _ := by injection e5 with e5; injection e5 with a1 a2; exact ⟨a1, a2⟩
              simp only [Nat.zero_mul, Nat.add_zero] at d3 d4 d5
              have huo := hov u (List.mem_cons_self ..)
              by_cases hck1 : ck = 1
              · subst hck1
                obtain rfl : k' = 0 := by omega
                obtain rfl : ut = [] := by have := HVL.out; simpa using this
                go_wp2_with fail
                go_quiet (fail)
                have K3 := K2.drewN nq
                clear K2 F2
                generalize World.drewN _ nq = w9 at *
                have F2 := K3.facts
                simp only [World.size_alloc, World.size_drew, factsL, cellsF, Nat.reduceAdd, List.toList_toArray, List.set_cons_zero, List.set_cons_succ, List.setIfInBounds_toArray, and_true, true_and] at F2
                go_wp2_with fail
                refine wp_region_any (by kernel_rfl) ?_
                refine wpAny_hold 8 133 ([.cst wr.heap.size 34 #[.int .i64 r.id, .slice r.A r.n r.c], .ro (PrsIn (some ⟨b5, o5, none⟩) (0 + 1) [u]), .own 34 2 (.slice O q cap) q (rwCells outs), .ro (ValsIn outs), .ro (SlR 4 A2 n2 (colCells cs)), .blk go 29 #[.string nm, .slice A2 n2 c2, .int .i64 (nx + (ni : Int)), .slice O q cap], .blk (w.heap.size + 1 + 1) 29 #[.string ⟨#[]⟩, .slice none 0 0, .int .i64 0, .slice none 0 0], .cst (w.heap.size + 1) 46 #[.slice I ni ci, .slice D nd cd, .slice U nu cu], .cst w.heap.size 29 #[.string nm, .slice A n c, .int .i64 nx, .slice (some ⟨b, o, none⟩) m d], .ro (SlR 4 A n (colCells cs)), .ro (RwsIn (some ⟨b, o, none⟩) m l), .ro (SlsIn I ni ins), .ro (IsIn D nd dels), .ro (PrsIn U nu us)]) (spL [(102, VlsSlot (Mut M ([.cst wr.heap.size 34 #[.int .i64 r.id, .slice r.A r.n r.c], .ro (PrsIn (some ⟨b5, o5, none⟩) (0 + 1) [u]), .own 34 2 (.slice O q cap) q (rwCells outs), .ro (ValsIn outs), .ro (SlR 4 A2 n2 (colCells cs)), .blk go 29 #[.string nm, .slice A2 n2 c2, .int .i64 (nx + (ni : Int)), .slice O q cap], .blk (w.heap.size + 1 + 1) 29 #[.string ⟨#[]⟩, .slice none 0 0, .int .i64 0, .slice none 0 0], .cst (w.heap.size + 1) 46 #[.slice I ni ci, .slice D nd cd, .slice U nu cu], .cst w.heap.size 29 #[.string nm, .slice A n c, .int .i64 nx, .slice (some ⟨b, o, none⟩) m d], .ro (SlR 4 A n (colCells cs)), .ro (RwsIn (some ⟨b, o, none⟩) m l), .ro (SlsIn I ni ins), .ro (IsIn D nd dels), .ro (PrsIn U nu us)])) u.new), (103, RowSlot (Mut M ([.cst wr.heap.size 34 #[.int .i64 r.id, .slice r.A r.n r.c], .ro (PrsIn (some ⟨b5, o5, none⟩) (0 + 1) [u]), .own 34 2 (.slice O q cap) q (rwCells outs), .ro (ValsIn outs), .ro (SlR 4 A2 n2 (colCells cs)), .blk go 29 #[.string nm, .slice A2 n2 c2, .int .i64 (nx + (ni : Int)), .slice O q cap], .blk (w.heap.size + 1 + 1) 29 #[.string ⟨#[]⟩, .slice none 0 0, .int .i64 0, .slice none 0 0], .cst (w.heap.size + 1) 46 #[.slice I ni ci, .slice D nd cd, .slice U nu cu], .cst w.heap.size 29 #[.string nm, .slice A n c, .int .i64 nx, .slice (some ⟨b, o, none⟩) m d], .ro (SlR 4 A n (colCells cs)), .ro (RwsIn (some ⟨b, o, none⟩) m l), .ro (SlsIn I ni ins), .ro (IsIn D nd dels), .ro (PrsIn U nu us)])) r.id u.new), (104, RBoxSlot (Mut M ([.cst wr.heap.size 34 #[.int .i64 r.id, .slice r.A r.n r.c], .ro (PrsIn (some ⟨b5, o5, none⟩) (0 + 1) [u]), .own 34 2 (.slice O q cap) q (rwCells outs), .ro (ValsIn outs), .ro (SlR 4 A2 n2 (colCells cs)), .blk go 29 #[.string nm, .slice A2 n2 c2, .int .i64 (nx + (ni : Int)), .slice O q cap], .blk (w.heap.size + 1 + 1) 29 #[.string ⟨#[]⟩, .slice none 0 0, .int .i64 0, .slice none 0 0], .cst (w.heap.size + 1) 46 #[.slice I ni ci, .slice D nd cd, .slice U nu cu], .cst w.heap.size 29 #[.string nm, .slice A n c, .int .i64 nx, .slice (some ⟨b, o, none⟩) m d], .ro (SlR 4 A n (colCells cs)), .ro (RwsIn (some ⟨b, o, none⟩) m l), .ro (SlsIn I ni ins), .ro (IsIn D nd dels), .ro (PrsIn U nu us)])) r.id u.new)]) (by kernel_rfl) (by kernel_rfl) (by kernel_rfl) rfl ?_ (K3.drew) ?_
                · exact stays_cons vlsSlot_mono (stays_cons rowSlot_mono (stays_cons rboxSlot_mono (stays_nil _)))
                simp only [List.take_succ_cons, List.take_zero, List.drop_succ_cons, List.drop_zero, Act.put, List.getElem_toArray, List.getElem_cons_zero, List.getElem_cons_succ, List.setIfInBounds_toArray, List.set_cons_succ, List.set_cons_zero]
                refine dw_val rfl rfl rfl ?_; apply Exists.intro; refine ⟨fun wv HC => ?_, ?_⟩
                ·  go_simp <;> rfl
                simp only [Act.put, List.setIfInBounds_toArray, List.set_cons_succ, List.set_cons_zero]
                refine dw_val rfl rfl rfl ?_; apply Exists.intro; refine ⟨fun wv HC => ?_, ?_⟩
                · have FC := HC.facts; simp only [factsL, cellsF, Nat.reduceAdd, List.toList_toArray, and_true, true_and] at FC; go_simp <;> rfl
                simp only [Act.put, List.setIfInBounds_toArray, List.set_cons_succ, List.set_cons_zero]
                refine dw_val rfl rfl rfl ?_; apply Exists.intro; refine ⟨fun wv HC => ?_, ?_⟩
                ·  go_simp <;> rfl
                simp only [Act.put, List.setIfInBounds_toArray, List.set_cons_succ, List.set_cons_zero]
                refine dw_val rfl rfl rfl ?_; apply Exists.intro; refine ⟨fun wv HC => ?_, ?_⟩
                · have FC := HC.facts; simp only [factsL, cellsF, Nat.reduceAdd, List.toList_toArray, and_true, true_and] at FC; go_simp <;> rfl
                simp only [Act.put, List.setIfInBounds_toArray, List.set_cons_succ, List.set_cons_zero]
                refine dw_val rfl rfl rfl ?_; apply Exists.intro; refine ⟨fun wv HC => ?_, ?_⟩
                ·  go_simp <;> rfl
                simp only [Act.put, List.setIfInBounds_toArray, List.set_cons_succ, List.set_cons_zero]
                refine dw_callR 102 (VlsSlot (Mut M ([.cst wr.heap.size 34 #[.int .i64 r.id, .slice r.A r.n r.c], .ro (PrsIn (some ⟨b5, o5, none⟩) (0 + 1) [u]), .own 34 2 (.slice O q cap) q (rwCells outs), .ro (ValsIn outs), .ro (SlR 4 A2 n2 (colCells cs)), .blk go 29 #[.string nm, .slice A2 n2 c2, .int .i64 (nx + (ni : Int)), .slice O q cap], .blk (w.heap.size + 1 + 1) 29 #[.string ⟨#[]⟩, .slice none 0 0, .int .i64 0, .slice none 0 0], .cst (w.heap.size + 1) 46 #[.slice I ni ci, .slice D nd cd, .slice U nu cu], .cst w.heap.size 29 #[.string nm, .slice A n c, .int .i64 nx, .slice (some ⟨b, o, none⟩) m d], .ro (SlR 4 A n (colCells cs)), .ro (RwsIn (some ⟨b, o, none⟩) m l), .ro (SlsIn I ni ins), .ro (IsIn D nd dels), .ro (PrsIn U nu us)])) u.new) (f := 25) (args := #[.slice u.nA u.nn u.nc]) rfl rfl rfl rfl (fun wv => ?_) (fun wv HC hr8 hD => ?_) ?_
                · go_simp <;> rfl
                · refine (cloneVls_any _ wv HC.mutLt u.nA u.nn u.nc u.new ((HC.ro 1 rfl).imp fun w2 h2 => (h2.2 u (List.mem_cons_self ..)).2) (by have := huo.2; omega)).mono ?_
                  rintro e w5 ⟨A5, n5, c5, rfl, h50, h51, h52, h53, b5⟩
                  exact ⟨_, rfl, ⟨A5, n5, c5, rfl, h50, h51, h52, h53⟩, HC.call b5, RM.below b5⟩
                rintro x wx HCx ⟨A5, n5, c5, rfl, h50, h51, h52, h53⟩
                simp only [Act.put, List.setIfInBounds_toArray, List.set_cons_succ, List.set_cons_zero]
                clear HCx h53
                refine dw_valC 103 (RowSlot (Mut M ([.cst wr.heap.size 34 #[.int .i64 r.id, .slice r.A r.n r.c], .ro (PrsIn (some ⟨b5, o5, none⟩) (0 + 1) [u]), .own 34 2 (.slice O q cap) q (rwCells outs), .ro (ValsIn outs), .ro (SlR 4 A2 n2 (colCells cs)), .blk go 29 #[.string nm, .slice A2 n2 c2, .int .i64 (nx + (ni : Int)), .slice O q cap], .blk (w.heap.size + 1 + 1) 29 #[.string ⟨#[]⟩, .slice none 0 0, .int .i64 0, .slice none 0 0], .cst (w.heap.size + 1) 46 #[.slice I ni ci, .slice D nd cd, .slice U nu cu], .cst w.heap.size 29 #[.string nm, .slice A n c, .int .i64 nx, .slice (some ⟨b, o, none⟩) m d], .ro (SlR 4 A n (colCells cs)), .ro (RwsIn (some ⟨b, o, none⟩) m l), .ro (SlsIn I ni ins), .ro (IsIn D nd dels), .ro (PrsIn U nu us)])) r.id u.new) rfl rfl rfl rfl (.agg #[.int .i64 r.id, .slice A5 n5 c5]) (fun wv HC => ?_) (fun wv HC hD => ?_) ?_
                · go_simp <;> rfl
                · have hsl : VlsSlot (Mut M ([.cst wr.heap.size 34 #[.int .i64 r.id, .slice r.A r.n r.c], .ro (PrsIn (some ⟨b5, o5, none⟩) (0 + 1) [u]), .own 34 2 (.slice O q cap) q (rwCells outs), .ro (ValsIn outs), .ro (SlR 4 A2 n2 (colCells cs)), .blk go 29 #[.string nm, .slice A2 n2 c2, .int .i64 (nx + (ni : Int)), .slice O q cap], .blk (w.heap.size + 1 + 1) 29 #[.string ⟨#[]⟩, .slice none 0 0, .int .i64 0, .slice none 0 0], .cst (w.heap.size + 1) 46 #[.slice I ni ci, .slice D nd cd, .slice U nu cu], .cst w.heap.size 29 #[.string nm, .slice A n c, .int .i64 nx, .slice (some ⟨b, o, none⟩) m d], .ro (SlR 4 A n (colCells cs)), .ro (RwsIn (some ⟨b, o, none⟩) m l), .ro (SlsIn I ni ins), .ro (IsIn D nd dels), .ro (PrsIn U nu us)])) u.new (.slice A5 n5 c5) wv := deps_at hD 5 rfl (by kernel_rfl) rfl rfl
                  obtain ⟨A6, n6, c6, e6, h1, h2, h3, h4⟩ := hsl
                  exact ⟨A6, n6, c6, by rw [e6], h1, h2, h3, h4⟩
                simp only [Act.put, List.setIfInBounds_toArray, List.set_cons_succ, List.set_cons_zero]
                refine dw_new #[.int .i64 r.id, .slice A5 n5 c5] 34 104 (RBoxSlot (Mut M ([.cst wr.heap.size 34 #[.int .i64 r.id, .slice r.A r.n r.c], .ro (PrsIn (some ⟨b5, o5, none⟩) (0 + 1) [u]), .own 34 2 (.slice O q cap) q (rwCells outs), .ro (ValsIn outs), .ro (SlR 4 A2 n2 (colCells cs)), .blk go 29 #[.string nm, .slice A2 n2 c2, .int .i64 (nx + (ni : Int)), .slice O q cap], .blk (w.heap.size + 1 + 1) 29 #[.string ⟨#[]⟩, .slice none 0 0, .int .i64 0, .slice none 0 0], .cst (w.heap.size + 1) 46 #[.slice I ni ci, .slice D nd cd, .slice U nu cu], .cst w.heap.size 29 #[.string nm, .slice A n c, .int .i64 nx, .slice (some ⟨b, o, none⟩) m d], .ro (SlR 4 A n (colCells cs)), .ro (RwsIn (some ⟨b, o, none⟩) m l), .ro (SlsIn I ni ins), .ro (IsIn D nd dels), .ro (PrsIn U nu us)])) r.id u.new) (fun g => .slice (some ⟨g, 0, none⟩) 1 1) rfl rfl rfl rfl (fun wv => ?_) (fun wv HC _hrm hD hro => ?_) ?_
                · go_simp <;> rfl
                · have hsl : RowSlot (Mut M ([.cst wr.heap.size 34 #[.int .i64 r.id, .slice r.A r.n r.c], .ro (PrsIn (some ⟨b5, o5, none⟩) (0 + 1) [u]), .own 34 2 (.slice O q cap) q (rwCells outs), .ro (ValsIn outs), .ro (SlR 4 A2 n2 (colCells cs)), .blk go 29 #[.string nm, .slice A2 n2 c2, .int .i64 (nx + (ni : Int)), .slice O q cap], .blk (w.heap.size + 1 + 1) 29 #[.string ⟨#[]⟩, .slice none 0 0, .int .i64 0, .slice none 0 0], .cst (w.heap.size + 1) 46 #[.slice I ni ci, .slice D nd cd, .slice U nu cu], .cst w.heap.size 29 #[.string nm, .slice A n c, .int .i64 nx, .slice (some ⟨b, o, none⟩) m d], .ro (SlR 4 A n (colCells cs)), .ro (RwsIn (some ⟨b, o, none⟩) m l), .ro (SlsIn I ni ins), .ro (IsIn D nd dels), .ro (PrsIn U nu us)])) r.id u.new (.agg #[.int .i64 r.id, .slice A5 n5 c5]) wv := deps_at hD 6 rfl (by kernel_rfl) rfl rfl
                  obtain ⟨A6, n6, c6, e6, h1, h2, h3, h4⟩ := hsl
                  obtain ⟨rfl, rfl, rfl⟩ : A5 = A6 ∧ n5 = n6 ∧ c5 = c6 := by
                    injection e6 with e6
                    simp at e6
                    exact e6
                  exact ⟨_, A5, n5, c5, rfl, h1, h2, h3, h4.step (by simp) (fun b hb _ => Below.heap_alloc wv _ b hb) (fun _ _ h => h), ro_block (hro _ HC.mutLt) rfl⟩
                rintro g2 wg HCg hsl
                simp only [Act.put, List.setIfInBounds_toArray, List.set_cons_succ, List.set_cons_zero]
                clear hsl HCg
                refine rel_nil ?_
                rintro wx2 HX
                rintro _hrm HGW
                have hb2 : RBoxSlot (Mut M ([.cst wr.heap.size 34 #[.int .i64 r.id, .slice r.A r.n r.c], .ro (PrsIn (some ⟨b5, o5, none⟩) (0 + 1) [u]), .own 34 2 (.slice O q cap) q (rwCells outs), .ro (ValsIn outs), .ro (SlR 4 A2 n2 (colCells cs)), .blk go 29 #[.string nm, .slice A2 n2 c2, .int .i64 (nx + (ni : Int)), .slice O q cap], .blk (w.heap.size + 1 + 1) 29 #[.string ⟨#[]⟩, .slice none 0 0, .int .i64 0, .slice none 0 0], .cst (w.heap.size + 1) 46 #[.slice I ni ci, .slice D nd cd, .slice U nu cu], .cst w.heap.size 29 #[.string nm, .slice A n c, .int .i64 nx, .slice (some ⟨b, o, none⟩) m d], .ro (SlR 4 A n (colCells cs)), .ro (RwsIn (some ⟨b, o, none⟩) m l), .ro (SlsIn I ni ins), .ro (IsIn D nd dels), .ro (PrsIn U nu us)])) r.id u.new (.slice (some ⟨g2, 0, none⟩) 1 1) wx2 := (GW_on (d := 104) rfl).1 (HGW 7 _ rfl (by omega))
                clear HGW
                obtain ⟨g3, A6, n6, c6, e6, k0, k1, k2, k3, k4⟩ := hb2
                obtain rfl : g2 = g3 := by injection e6 with e6; injection e6 with e6; injection e6
                clear e6
                have k5 := hid k4.now
                clear k4
                have HRS := hid (show rwCells outs ++ [.int .i64 r.id, .slice A6 n6 c6] = rwCells (outs ++ [⟨r.id, A6, n6, c6, u.new⟩]) from rwCells_snoc1 _ _ _ _ _ _)
                have KA := HX.add k3
                clear HX
                go_wp2_with (at_builtin; go_must (refine wpList_appAllH KA 3 rfl Try.elRw k5.out rfl (.tmp 98) (.tmp 104) rfl rfl rfl (by intro z hz; simp at hz; rcases hz with rfl | rfl <;> rfl) (by omega) (by omega) ?_); intro C' cap' w6 hc6 hm6 KB; rw [HRS.out] at KB; simp only [List.set_cons_zero, List.set_cons_succ] at KB; (have F3 := KB.facts); simp only [World.size_alloc, World.size_drew, factsL, cellsF, Nat.reduceAdd, List.toList_toArray, List.set_cons_zero, List.set_cons_succ, List.setIfInBounds_toArray, and_true, true_and] at F3)
                have KC := KB.store 6 rfl 3 (.slice C' (q + 1) cap')
                have KD := KC.swapRo 4 rfl (vals_snoc (r := ⟨r.id, A6, n6, c6, u.new⟩) (KC.ro 4 rfl) (KC.ro 0 rfl))
                have KE := KD.swapRo 2 rfl (S' := PrsIn (some ⟨b5, o5, none⟩) 0 []) (fun w2 _ _ => PrsIn.zero (some ⟨b5, o5, none⟩))
                simp only [cellsF, List.set_cons_zero, List.set_cons_succ, List.setIfInBounds_toArray] at KE
                have HGN := hid (show goR dels (l.map Rw.row) (us.map Pr.upd) = List.map Rw.row (outs ++ [⟨r.id, A6, n6, c6, u.new⟩]) ++ goR dels ((l.map Rw.row).drop (j + 1)) (([] : List Pr).map Pr.upd) by
                  rw [List.map_append, List.append_assoc]
                  exact HG.out.trans (congrArg (outs.map Rw.row ++ ·) HN.out))
                go_roundw
                case rel => exact ⟨j + 1, q + 1, cap', 0, 0, _, _, _, [], by omega, by go_num, rfl, by omega, by omega, by omega, by intro x hx; rcases List.mem_append.1 hx with hx | hx; (exact hoo x hx); (simp at hx; subst hx; exact ⟨hrok.id, k1, k2, huo.1.new⟩), (fun u hu => nomatch hu), HGN, (KE.drop (List.sublist_cons_self _ _)).drop (List.sublist_cons_self _ _)⟩
                case measure => simp [intOf]; omega
              · have hck2 : 1 < ck := by omega
                go_wp2_with fail
                go_quiet (fail)
                have K3 := K2.drewN nq
                clear K2 F2
                generalize World.drewN _ nq = w9 at *
                have F2 := K3.facts
                simp only [World.size_alloc, World.size_drew, factsL, cellsF, Nat.reduceAdd, List.toList_toArray, List.set_cons_zero, List.set_cons_succ, List.setIfInBounds_toArray, and_true, true_and] at F2
                go_wp2_with fail
                refine wp_region_any (by kernel_rfl) ?_
                refine wpAny_hold 8 133 ([.cst wr.heap.size 34 #[.int .i64 r.id, .slice r.A r.n r.c], .ro (PrsIn (some ⟨b5, o5, none⟩) (k' + 1) (u :: ut)), .own 34 2 (.slice O q cap) q (rwCells outs), .ro (ValsIn outs), .ro (SlR 4 A2 n2 (colCells cs)), .blk go 29 #[.string nm, .slice A2 n2 c2, .int .i64 (nx + (ni : Int)), .slice O q cap], .blk (w.heap.size + 1 + 1) 29 #[.string ⟨#[]⟩, .slice none 0 0, .int .i64 0, .slice none 0 0], .cst (w.heap.size + 1) 46 #[.slice I ni ci, .slice D nd cd, .slice U nu cu], .cst w.heap.size 29 #[.string nm, .slice A n c, .int .i64 nx, .slice (some ⟨b, o, none⟩) m d], .ro (SlR 4 A n (colCells cs)), .ro (RwsIn (some ⟨b, o, none⟩) m l), .ro (SlsIn I ni ins), .ro (IsIn D nd dels), .ro (PrsIn U nu us)]) (spL [(102, VlsSlot (Mut M ([.cst wr.heap.size 34 #[.int .i64 r.id, .slice r.A r.n r.c], .ro (PrsIn (some ⟨b5, o5, none⟩) (k' + 1) (u :: ut)), .own 34 2 (.slice O q cap) q (rwCells outs), .ro (ValsIn outs), .ro (SlR 4 A2 n2 (colCells cs)), .blk go 29 #[.string nm, .slice A2 n2 c2, .int .i64 (nx + (ni : Int)), .slice O q cap], .blk (w.heap.size + 1 + 1) 29 #[.string ⟨#[]⟩, .slice none 0 0, .int .i64 0, .slice none 0 0], .cst (w.heap.size + 1) 46 #[.slice I ni ci, .slice D nd cd, .slice U nu cu], .cst w.heap.size 29 #[.string nm, .slice A n c, .int .i64 nx, .slice (some ⟨b, o, none⟩) m d], .ro (SlR 4 A n (colCells cs)), .ro (RwsIn (some ⟨b, o, none⟩) m l), .ro (SlsIn I ni ins), .ro (IsIn D nd dels), .ro (PrsIn U nu us)])) u.new), (103, RowSlot (Mut M ([.cst wr.heap.size 34 #[.int .i64 r.id, .slice r.A r.n r.c], .ro (PrsIn (some ⟨b5, o5, none⟩) (k' + 1) (u :: ut)), .own 34 2 (.slice O q cap) q (rwCells outs), .ro (ValsIn outs), .ro (SlR 4 A2 n2 (colCells cs)), .blk go 29 #[.string nm, .slice A2 n2 c2, .int .i64 (nx + (ni : Int)), .slice O q cap], .blk (w.heap.size + 1 + 1) 29 #[.string ⟨#[]⟩, .slice none 0 0, .int .i64 0, .slice none 0 0], .cst (w.heap.size + 1) 46 #[.slice I ni ci, .slice D nd cd, .slice U nu cu], .cst w.heap.size 29 #[.string nm, .slice A n c, .int .i64 nx, .slice (some ⟨b, o, none⟩) m d], .ro (SlR 4 A n (colCells cs)), .ro (RwsIn (some ⟨b, o, none⟩) m l), .ro (SlsIn I ni ins), .ro (IsIn D nd dels), .ro (PrsIn U nu us)])) r.id u.new), (104, RBoxSlot (Mut M ([.cst wr.heap.size 34 #[.int .i64 r.id, .slice r.A r.n r.c], .ro (PrsIn (some ⟨b5, o5, none⟩) (k' + 1) (u :: ut)), .own 34 2 (.slice O q cap) q (rwCells outs), .ro (ValsIn outs), .ro (SlR 4 A2 n2 (colCells cs)), .blk go 29 #[.string nm, .slice A2 n2 c2, .int .i64 (nx + (ni : Int)), .slice O q cap], .blk (w.heap.size + 1 + 1) 29 #[.string ⟨#[]⟩, .slice none 0 0, .int .i64 0, .slice none 0 0], .cst (w.heap.size + 1) 46 #[.slice I ni ci, .slice D nd cd, .slice U nu cu], .cst w.heap.size 29 #[.string nm, .slice A n c, .int .i64 nx, .slice (some ⟨b, o, none⟩) m d], .ro (SlR 4 A n (colCells cs)), .ro (RwsIn (some ⟨b, o, none⟩) m l), .ro (SlsIn I ni ins), .ro (IsIn D nd dels), .ro (PrsIn U nu us)])) r.id u.new)]) (by kernel_rfl) (by kernel_rfl) (by kernel_rfl) rfl ?_ (K3.drew) ?_
                · exact stays_cons vlsSlot_mono (stays_cons rowSlot_mono (stays_cons rboxSlot_mono (stays_nil _)))
                simp only [List.take_succ_cons, List.take_zero, List.drop_succ_cons, List.drop_zero, Act.put, List.getElem_toArray, List.getElem_cons_zero, List.getElem_cons_succ, List.setIfInBounds_toArray, List.set_cons_succ, List.set_cons_zero]
                refine dw_val rfl rfl rfl ?_; apply Exists.intro; refine ⟨fun wv HC => ?_, ?_⟩
                ·  go_simp <;> rfl
                simp only [Act.put, List.setIfInBounds_toArray, List.set_cons_succ, List.set_cons_zero]
                refine dw_val rfl rfl rfl ?_; apply Exists.intro; refine ⟨fun wv HC => ?_, ?_⟩
                · have FC := HC.facts; simp only [factsL, cellsF, Nat.reduceAdd, List.toList_toArray, and_true, true_and] at FC; go_simp <;> rfl
                simp only [Act.put, List.setIfInBounds_toArray, List.set_cons_succ, List.set_cons_zero]
                refine dw_val rfl rfl rfl ?_; apply Exists.intro; refine ⟨fun wv HC => ?_, ?_⟩
                ·  go_simp <;> rfl
                simp only [Act.put, List.setIfInBounds_toArray, List.set_cons_succ, List.set_cons_zero]
                refine dw_val rfl rfl rfl ?_; apply Exists.intro; refine ⟨fun wv HC => ?_, ?_⟩
                · have FC := HC.facts; simp only [factsL, cellsF, Nat.reduceAdd, List.toList_toArray, and_true, true_and] at FC; go_simp <;> rfl
                simp only [Act.put, List.setIfInBounds_toArray, List.set_cons_succ, List.set_cons_zero]
                refine dw_val rfl rfl rfl ?_; apply Exists.intro; refine ⟨fun wv HC => ?_, ?_⟩
                ·  go_simp <;> rfl
                simp only [Act.put, List.setIfInBounds_toArray, List.set_cons_succ, List.set_cons_zero]
                refine dw_callR 102 (VlsSlot (Mut M ([.cst wr.heap.size 34 #[.int .i64 r.id, .slice r.A r.n r.c], .ro (PrsIn (some ⟨b5, o5, none⟩) (k' + 1) (u :: ut)), .own 34 2 (.slice O q cap) q (rwCells outs), .ro (ValsIn outs), .ro (SlR 4 A2 n2 (colCells cs)), .blk go 29 #[.string nm, .slice A2 n2 c2, .int .i64 (nx + (ni : Int)), .slice O q cap], .blk (w.heap.size + 1 + 1) 29 #[.string ⟨#[]⟩, .slice none 0 0, .int .i64 0, .slice none 0 0], .cst (w.heap.size + 1) 46 #[.slice I ni ci, .slice D nd cd, .slice U nu cu], .cst w.heap.size 29 #[.string nm, .slice A n c, .int .i64 nx, .slice (some ⟨b, o, none⟩) m d], .ro (SlR 4 A n (colCells cs)), .ro (RwsIn (some ⟨b, o, none⟩) m l), .ro (SlsIn I ni ins), .ro (IsIn D nd dels), .ro (PrsIn U nu us)])) u.new) (f := 25) (args := #[.slice u.nA u.nn u.nc]) rfl rfl rfl rfl (fun wv => ?_) (fun wv HC hr8 hD => ?_) ?_
                · go_simp <;> rfl
                · refine (cloneVls_any _ wv HC.mutLt u.nA u.nn u.nc u.new ((HC.ro 1 rfl).imp fun w2 h2 => (h2.2 u (List.mem_cons_self ..)).2) (by have := huo.2; omega)).mono ?_
                  rintro e w5 ⟨A5, n5, c5, rfl, h50, h51, h52, h53, b5⟩
                  exact ⟨_, rfl, ⟨A5, n5, c5, rfl, h50, h51, h52, h53⟩, HC.call b5, RM.below b5⟩
                rintro x wx HCx ⟨A5, n5, c5, rfl, h50, h51, h52, h53⟩
                simp only [Act.put, List.setIfInBounds_toArray, List.set_cons_succ, List.set_cons_zero]
                clear HCx h53
                refine dw_valC 103 (RowSlot (Mut M ([.cst wr.heap.size 34 #[.int .i64 r.id, .slice r.A r.n r.c], .ro (PrsIn (some ⟨b5, o5, none⟩) (k' + 1) (u :: ut)), .own 34 2 (.slice O q cap) q (rwCells outs), .ro (ValsIn outs), .ro (SlR 4 A2 n2 (colCells cs)), .blk go 29 #[.string nm, .slice A2 n2 c2, .int .i64 (nx + (ni : Int)), .slice O q cap], .blk (w.heap.size + 1 + 1) 29 #[.string ⟨#[]⟩, .slice none 0 0, .int .i64 0, .slice none 0 0], .cst (w.heap.size + 1) 46 #[.slice I ni ci, .slice D nd cd, .slice U nu cu], .cst w.heap.size 29 #[.string nm, .slice A n c, .int .i64 nx, .slice (some ⟨b, o, none⟩) m d], .ro (SlR 4 A n (colCells cs)), .ro (RwsIn (some ⟨b, o, none⟩) m l), .ro (SlsIn I ni ins), .ro (IsIn D nd dels), .ro (PrsIn U nu us)])) r.id u.new) rfl rfl rfl rfl (.agg #[.int .i64 r.id, .slice A5 n5 c5]) (fun wv HC => ?_) (fun wv HC hD => ?_) ?_
                · go_simp <;> rfl
                · have hsl : VlsSlot (Mut M ([.cst wr.heap.size 34 #[.int .i64 r.id, .slice r.A r.n r.c], .ro (PrsIn (some ⟨b5, o5, none⟩) (k' + 1) (u :: ut)), .own 34 2 (.slice O q cap) q (rwCells outs), .ro (ValsIn outs), .ro (SlR 4 A2 n2 (colCells cs)), .blk go 29 #[.string nm, .slice A2 n2 c2, .int .i64 (nx + (ni : Int)), .slice O q cap], .blk (w.heap.size + 1 + 1) 29 #[.string ⟨#[]⟩, .slice none 0 0, .int .i64 0, .slice none 0 0], .cst (w.heap.size + 1) 46 #[.slice I ni ci, .slice D nd cd, .slice U nu cu], .cst w.heap.size 29 #[.string nm, .slice A n c, .int .i64 nx, .slice (some ⟨b, o, none⟩) m d], .ro (SlR 4 A n (colCells cs)), .ro (RwsIn (some ⟨b, o, none⟩) m l), .ro (SlsIn I ni ins), .ro (IsIn D nd dels), .ro (PrsIn U nu us)])) u.new (.slice A5 n5 c5) wv := deps_at hD 5 rfl (by kernel_rfl) rfl rfl
                  obtain ⟨A6, n6, c6, e6, h1, h2, h3, h4⟩ := hsl
                  exact ⟨A6, n6, c6, by rw [e6], h1, h2, h3, h4⟩
                simp only [Act.put, List.setIfInBounds_toArray, List.set_cons_succ, List.set_cons_zero]
                refine dw_new #[.int .i64 r.id, .slice A5 n5 c5] 34 104 (RBoxSlot (Mut M ([.cst wr.heap.size 34 #[.int .i64 r.id, .slice r.A r.n r.c], .ro (PrsIn (some ⟨b5, o5, none⟩) (k' + 1) (u :: ut)), .own 34 2 (.slice O q cap) q (rwCells outs), .ro (ValsIn outs), .ro (SlR 4 A2 n2 (colCells cs)), .blk go 29 #[.string nm, .slice A2 n2 c2, .int .i64 (nx + (ni : Int)), .slice O q cap], .blk (w.heap.size + 1 + 1) 29 #[.string ⟨#[]⟩, .slice none 0 0, .int .i64 0, .slice none 0 0], .cst (w.heap.size + 1) 46 #[.slice I ni ci, .slice D nd cd, .slice U nu cu], .cst w.heap.size 29 #[.string nm, .slice A n c, .int .i64 nx, .slice (some ⟨b, o, none⟩) m d], .ro (SlR 4 A n (colCells cs)), .ro (RwsIn (some ⟨b, o, none⟩) m l), .ro (SlsIn I ni ins), .ro (IsIn D nd dels), .ro (PrsIn U nu us)])) r.id u.new) (fun g => .slice (some ⟨g, 0, none⟩) 1 1) rfl rfl rfl rfl (fun wv => ?_) (fun wv HC _hrm hD hro => ?_) ?_
                · go_simp <;> rfl
                · have hsl : RowSlot (Mut M ([.cst wr.heap.size 34 #[.int .i64 r.id, .slice r.A r.n r.c], .ro (PrsIn (some ⟨b5, o5, none⟩) (k' + 1) (u :: ut)), .own 34 2 (.slice O q cap) q (rwCells outs), .ro (ValsIn outs), .ro (SlR 4 A2 n2 (colCells cs)), .blk go 29 #[.string nm, .slice A2 n2 c2, .int .i64 (nx + (ni : Int)), .slice O q cap], .blk (w.heap.size + 1 + 1) 29 #[.string ⟨#[]⟩, .slice none 0 0, .int .i64 0, .slice none 0 0], .cst (w.heap.size + 1) 46 #[.slice I ni ci, .slice D nd cd, .slice U nu cu], .cst w.heap.size 29 #[.string nm, .slice A n c, .int .i64 nx, .slice (some ⟨b, o, none⟩) m d], .ro (SlR 4 A n (colCells cs)), .ro (RwsIn (some ⟨b, o, none⟩) m l), .ro (SlsIn I ni ins), .ro (IsIn D nd dels), .ro (PrsIn U nu us)])) r.id u.new (.agg #[.int .i64 r.id, .slice A5 n5 c5]) wv := deps_at hD 6 rfl (by kernel_rfl) rfl rfl
                  obtain ⟨A6, n6, c6, e6, h1, h2, h3, h4⟩ := hsl
                  obtain ⟨rfl, rfl, rfl⟩ : A5 = A6 ∧ n5 = n6 ∧ c5 = c6 := by
                    injection e6 with e6
                    simp at e6
                    exact e6
                  exact ⟨_, A5, n5, c5, rfl, h1, h2, h3, h4.step (by simp) (fun b hb _ => Below.heap_alloc wv _ b hb) (fun _ _ h => h), ro_block (hro _ HC.mutLt) rfl⟩
                rintro g2 wg HCg hsl
                simp only [Act.put, List.setIfInBounds_toArray, List.set_cons_succ, List.set_cons_zero]
                clear hsl HCg
                refine rel_nil ?_
                rintro wx2 HX
                rintro _hrm HGW
                have hb2 : RBoxSlot (Mut M ([.cst wr.heap.size 34 #[.int .i64 r.id, .slice r.A r.n r.c], .ro (PrsIn (some ⟨b5, o5, none⟩) (k' + 1) (u :: ut)), .own 34 2 (.slice O q cap) q (rwCells outs), .ro (ValsIn outs), .ro (SlR 4 A2 n2 (colCells cs)), .blk go 29 #[.string nm, .slice A2 n2 c2, .int .i64 (nx + (ni : Int)), .slice O q cap], .blk (w.heap.size + 1 + 1) 29 #[.string ⟨#[]⟩, .slice none 0 0, .int .i64 0, .slice none 0 0], .cst (w.heap.size + 1) 46 #[.slice I ni ci, .slice D nd cd, .slice U nu cu], .cst w.heap.size 29 #[.string nm, .slice A n c, .int .i64 nx, .slice (some ⟨b, o, none⟩) m d], .ro (SlR 4 A n (colCells cs)), .ro (RwsIn (some ⟨b, o, none⟩) m l), .ro (SlsIn I ni ins), .ro (IsIn D nd dels), .ro (PrsIn U nu us)])) r.id u.new (.slice (some ⟨g2, 0, none⟩) 1 1) wx2 := (GW_on (d := 104) rfl).1 (HGW 7 _ rfl (by omega))
                clear HGW
                obtain ⟨g3, A6, n6, c6, e6, k0, k1, k2, k3, k4⟩ := hb2
                obtain rfl : g2 = g3 := by injection e6 with e6; injection e6 with e6; injection e6
                clear e6
                have k5 := hid k4.now
                clear k4
                have HRS := hid (show rwCells outs ++ [.int .i64 r.id, .slice A6 n6 c6] = rwCells (outs ++ [⟨r.id, A6, n6, c6, u.new⟩]) from rwCells_snoc1 _ _ _ _ _ _)
                have KA := HX.add k3
                clear HX
                go_wp2_with (at_builtin; go_must (refine wpList_appAllH KA 3 rfl Try.elRw k5.out rfl (.tmp 98) (.tmp 104) rfl rfl rfl (by intro z hz; simp at hz; rcases hz with rfl | rfl <;> rfl) (by omega) (by omega) ?_); intro C' cap' w6 hc6 hm6 KB; rw [HRS.out] at KB; simp only [List.set_cons_zero, List.set_cons_succ] at KB; (have F3 := KB.facts); simp only [World.size_alloc, World.size_drew, factsL, cellsF, Nat.reduceAdd, List.toList_toArray, List.set_cons_zero, List.set_cons_succ, List.setIfInBounds_toArray, and_true, true_and] at F3)
                have KC := KB.store 6 rfl 3 (.slice C' (q + 1) cap')
                have KD := KC.swapRo 4 rfl (vals_snoc (r := ⟨r.id, A6, n6, c6, u.new⟩) (KC.ro 4 rfl) (KC.ro 0 rfl))
                have KE := KD.swapRo 2 rfl ((KD.ro 2 rfl).imp fun w2 h2 => PrsIn.tail h2)
                simp only [cellsF, List.set_cons_zero, List.set_cons_succ, List.setIfInBounds_toArray] at KE
                have HGN := hid (show goR dels (l.map Rw.row) (us.map Pr.upd) = List.map Rw.row (outs ++ [⟨r.id, A6, n6, c6, u.new⟩]) ++ goR dels ((l.map Rw.row).drop (j + 1)) (ut.map Pr.upd) by
                  rw [List.map_append, List.append_assoc]
                  exact HG.out.trans (congrArg (outs.map Rw.row ++ ·) HN.out))
                go_roundw
                case rel => exact ⟨j + 1, q + 1, cap', k', ck - 1, _, _, _, ut, by omega, by go_num, rfl, by omega, by omega, by omega, by intro x hx; rcases List.mem_append.1 hx with hx | hx; (exact hoo x hx); (simp at hx; subst hx; exact ⟨hrok.id, k1, k2, huo.1.new⟩), (fun x hx => hov x (List.mem_cons_of_mem _ hx)), HGN, (KE.drop (List.sublist_cons_self _ _)).drop (List.sublist_cons_self _ _)⟩
                case measure => simp [intOf]; omega
            · have hbe : ((u.id : Int) == r.id) = false := by simp [hid_]
              have HN := hid (goR_keep (us := (u :: ut).map Pr.upd) HX.out HCT.out (fun u1 hu => by simp at hu; subst hu; exact hid_))
              go_wp2_with fail
              go_quiet (fail)
              have K2 := K1.drewN nq
              clear K1 F1
              generalize World.drewN _ nq = w8 at *
              have F2 := K2.facts
              simp only [World.size_alloc, World.size_drew, factsL, cellsF, Nat.reduceAdd, List.toList_toArray, List.set_cons_zero, List.set_cons_succ, List.setIfInBounds_toArray, and_true, true_and] at F2
              go_wp2_with fail
              refine wp_region_any (by kernel_rfl) ?_
              refine wpAny_hold 8 133 ([.cst wr.heap.size 34 #[.int .i64 r.id, .slice r.A r.n r.c], .ro (PrsIn (some ⟨b5, o5, none⟩) (k' + 1) (u :: ut)), .own 34 2 (.slice O q cap) q (rwCells outs), .ro (ValsIn outs), .ro (SlR 4 A2 n2 (colCells cs)), .blk go 29 #[.string nm, .slice A2 n2 c2, .int .i64 (nx + (ni : Int)), .slice O q cap], .blk (w.heap.size + 1 + 1) 29 #[.string ⟨#[]⟩, .slice none 0 0, .int .i64 0, .slice none 0 0], .cst (w.heap.size + 1) 46 #[.slice I ni ci, .slice D nd cd, .slice U nu cu], .cst w.heap.size 29 #[.string nm, .slice A n c, .int .i64 nx, .slice (some ⟨b, o, none⟩) m d], .ro (SlR 4 A n (colCells cs)), .ro (RwsIn (some ⟨b, o, none⟩) m l), .ro (SlsIn I ni ins), .ro (IsIn D nd dels), .ro (PrsIn U nu us)]) (spL [(102, VlsSlot (Mut M ([.cst wr.heap.size 34 #[.int .i64 r.id, .slice r.A r.n r.c], .ro (PrsIn (some ⟨b5, o5, none⟩) (k' + 1) (u :: ut)), .own 34 2 (.slice O q cap) q (rwCells outs), .ro (ValsIn outs), .ro (SlR 4 A2 n2 (colCells cs)), .blk go 29 #[.string nm, .slice A2 n2 c2, .int .i64 (nx + (ni : Int)), .slice O q cap], .blk (w.heap.size + 1 + 1) 29 #[.string ⟨#[]⟩, .slice none 0 0, .int .i64 0, .slice none 0 0], .cst (w.heap.size + 1) 46 #[.slice I ni ci, .slice D nd cd, .slice U nu cu], .cst w.heap.size 29 #[.string nm, .slice A n c, .int .i64 nx, .slice (some ⟨b, o, none⟩) m d], .ro (SlR 4 A n (colCells cs)), .ro (RwsIn (some ⟨b, o, none⟩) m l), .ro (SlsIn I ni ins), .ro (IsIn D nd dels), .ro (PrsIn U nu us)])) r.vs), (103, RowSlot (Mut M ([.cst wr.heap.size 34 #[.int .i64 r.id, .slice r.A r.n r.c], .ro (PrsIn (some ⟨b5, o5, none⟩) (k' + 1) (u :: ut)), .own 34 2 (.slice O q cap) q (rwCells outs), .ro (ValsIn outs), .ro (SlR 4 A2 n2 (colCells cs)), .blk go 29 #[.string nm, .slice A2 n2 c2, .int .i64 (nx + (ni : Int)), .slice O q cap], .blk (w.heap.size + 1 + 1) 29 #[.string ⟨#[]⟩, .slice none 0 0, .int .i64 0, .slice none 0 0], .cst (w.heap.size + 1) 46 #[.slice I ni ci, .slice D nd cd, .slice U nu cu], .cst w.heap.size 29 #[.string nm, .slice A n c, .int .i64 nx, .slice (some ⟨b, o, none⟩) m d], .ro (SlR 4 A n (colCells cs)), .ro (RwsIn (some ⟨b, o, none⟩) m l), .ro (SlsIn I ni ins), .ro (IsIn D nd dels), .ro (PrsIn U nu us)])) r.id r.vs), (104, RBoxSlot (Mut M ([.cst wr.heap.size 34 #[.int .i64 r.id, .slice r.A r.n r.c], .ro (PrsIn (some ⟨b5, o5, none⟩) (k' + 1) (u :: ut)), .own 34 2 (.slice O q cap) q (rwCells outs), .ro (ValsIn outs), .ro (SlR 4 A2 n2 (colCells cs)), .blk go 29 #[.string nm, .slice A2 n2 c2, .int .i64 (nx + (ni : Int)), .slice O q cap], .blk (w.heap.size + 1 + 1) 29 #[.string ⟨#[]⟩, .slice none 0 0, .int .i64 0, .slice none 0 0], .cst (w.heap.size + 1) 46 #[.slice I ni ci, .slice D nd cd, .slice U nu cu], .cst w.heap.size 29 #[.string nm, .slice A n c, .int .i64 nx, .slice (some ⟨b, o, none⟩) m d], .ro (SlR 4 A n (colCells cs)), .ro (RwsIn (some ⟨b, o, none⟩) m l), .ro (SlsIn I ni ins), .ro (IsIn D nd dels), .ro (PrsIn U nu us)])) r.id r.vs)]) (by kernel_rfl) (by kernel_rfl) (by kernel_rfl) rfl ?_ (K2.drew) ?_
              · exact stays_cons vlsSlot_mono (stays_cons rowSlot_mono (stays_cons rboxSlot_mono (stays_nil _)))
              simp only [List.take_succ_cons, List.take_zero, List.drop_succ_cons, List.drop_zero, Act.put, List.getElem_toArray, List.getElem_cons_zero, List.getElem_cons_succ, List.setIfInBounds_toArray, List.set_cons_succ, List.set_cons_zero]
              refine dw_val rfl rfl rfl ?_; apply Exists.intro; refine ⟨fun wv HC => ?_, ?_⟩
              ·  go_simp <;> rfl
              simp only [Act.put, List.setIfInBounds_toArray, List.set_cons_succ, List.set_cons_zero]
              refine dw_val rfl rfl rfl ?_; apply Exists.intro; refine ⟨fun wv HC => ?_, ?_⟩
              · have FC := HC.facts; simp only [factsL, cellsF, Nat.reduceAdd, List.toList_toArray, and_true, true_and] at FC; go_simp <;> rfl
              simp only [Act.put, List.setIfInBounds_toArray, List.set_cons_succ, List.set_cons_zero]
              refine dw_val rfl rfl rfl ?_; apply Exists.intro; refine ⟨fun wv HC => ?_, ?_⟩
              ·  go_simp <;> rfl
              simp only [Act.put, List.setIfInBounds_toArray, List.set_cons_succ, List.set_cons_zero]
              refine dw_val rfl rfl rfl ?_; apply Exists.intro; refine ⟨fun wv HC => ?_, ?_⟩
              · have FC := HC.facts; simp only [factsL, cellsF, Nat.reduceAdd, List.toList_toArray, and_true, true_and] at FC; go_simp <;> rfl
              simp only [Act.put, List.setIfInBounds_toArray, List.set_cons_succ, List.set_cons_zero]
              refine dw_val rfl rfl rfl ?_; apply Exists.intro; refine ⟨fun wv HC => ?_, ?_⟩
              ·  go_simp <;> rfl
              simp only [Act.put, List.setIfInBounds_toArray, List.set_cons_succ, List.set_cons_zero]
              refine dw_callR 102 (VlsSlot (Mut M ([.cst wr.heap.size 34 #[.int .i64 r.id, .slice r.A r.n r.c], .ro (PrsIn (some ⟨b5, o5, none⟩) (k' + 1) (u :: ut)), .own 34 2 (.slice O q cap) q (rwCells outs), .ro (ValsIn outs), .ro (SlR 4 A2 n2 (colCells cs)), .blk go 29 #[.string nm, .slice A2 n2 c2, .int .i64 (nx + (ni : Int)), .slice O q cap], .blk (w.heap.size + 1 + 1) 29 #[.string ⟨#[]⟩, .slice none 0 0, .int .i64 0, .slice none 0 0], .cst (w.heap.size + 1) 46 #[.slice I ni ci, .slice D nd cd, .slice U nu cu], .cst w.heap.size 29 #[.string nm, .slice A n c, .int .i64 nx, .slice (some ⟨b, o, none⟩) m d], .ro (SlR 4 A n (colCells cs)), .ro (RwsIn (some ⟨b, o, none⟩) m l), .ro (SlsIn I ni ins), .ro (IsIn D nd dels), .ro (PrsIn U nu us)])) r.vs) (f := 25) (args := #[.slice r.A r.n r.c]) rfl rfl rfl rfl (fun wv => ?_) (fun wv HC hr8 hD => ?_) ?_
              · go_simp <;> rfl
              · refine (cloneVls_any _ wv HC.mutLt r.A r.n r.c r.vs ((HC.ro 10 rfl).imp fun w2 h2 => h2.2 r HRM.out) (by have := HR6.out; omega)).mono ?_
                rintro e w5 ⟨A5, n5, c5, rfl, h50, h51, h52, h53, b5⟩
                exact ⟨_, rfl, ⟨A5, n5, c5, rfl, h50, h51, h52, h53⟩, HC.call b5, RM.below b5⟩
              rintro x wx HCx ⟨A5, n5, c5, rfl, h50, h51, h52, h53⟩
              simp only [Act.put, List.setIfInBounds_toArray, List.set_cons_succ, List.set_cons_zero]
              clear HCx h53
              refine dw_valC 103 (RowSlot (Mut M ([.cst wr.heap.size 34 #[.int .i64 r.id, .slice r.A r.n r.c], .ro (PrsIn (some ⟨b5, o5, none⟩) (k' + 1) (u :: ut)), .own 34 2 (.slice O q cap) q (rwCells outs), .ro (ValsIn outs), .ro (SlR 4 A2 n2 (colCells cs)), .blk go 29 #[.string nm, .slice A2 n2 c2, .int .i64 (nx + (ni : Int)), .slice O q cap], .blk (w.heap.size + 1 + 1) 29 #[.string ⟨#[]⟩, .slice none 0 0, .int .i64 0, .slice none 0 0], .cst (w.heap.size + 1) 46 #[.slice I ni ci, .slice D nd cd, .slice U nu cu], .cst w.heap.size 29 #[.string nm, .slice A n c, .int .i64 nx, .slice (some ⟨b, o, none⟩) m d], .ro (SlR 4 A n (colCells cs)), .ro (RwsIn (some ⟨b, o, none⟩) m l), .ro (SlsIn I ni ins), .ro (IsIn D nd dels), .ro (PrsIn U nu us)])) r.id r.vs) rfl rfl rfl rfl (.agg #[.int .i64 r.id, .slice A5 n5 c5]) (fun wv HC => ?_) (fun wv HC hD => ?_) ?_
              · go_simp <;> rfl
              · have hsl : VlsSlot (Mut M ([.cst wr.heap.size 34 #[.int .i64 r.id, .slice r.A r.n r.c], .ro (PrsIn (some ⟨b5, o5, none⟩) (k' + 1) (u :: ut)), .own 34 2 (.slice O q cap) q (rwCells outs), .ro (ValsIn outs), .ro (SlR 4 A2 n2 (colCells cs)), .blk go 29 #[.string nm, .slice A2 n2 c2, .int .i64 (nx + (ni : Int)), .slice O q cap], .blk (w.heap.size + 1 + 1) 29 #[.string ⟨#[]⟩, .slice none 0 0, .int .i64 0, .slice none 0 0], .cst (w.heap.size + 1) 46 #[.slice I ni ci, .slice D nd cd, .slice U nu cu], .cst w.heap.size 29 #[.string nm, .slice A n c, .int .i64 nx, .slice (some ⟨b, o, none⟩) m d], .ro (SlR 4 A n (colCells cs)), .ro (RwsIn (some ⟨b, o, none⟩) m l), .ro (SlsIn I ni ins), .ro (IsIn D nd dels), .ro (PrsIn U nu us)])) r.vs (.slice A5 n5 c5) wv := deps_at hD 5 rfl (by kernel_rfl) rfl rfl
                obtain ⟨A6, n6, c6, e6, h1, h2, h3, h4⟩ := hsl
                exact ⟨A6, n6, c6, by rw [e6], h1, h2, h3, h4⟩
              simp only [Act.put, List.setIfInBounds_toArray, List.set_cons_succ, List.set_cons_zero]
              refine dw_new #[.int .i64 r.id, .slice A5 n5 c5] 34 104 (RBoxSlot (Mut M ([.cst wr.heap.size 34 #[.int .i64 r.id, .slice r.A r.n r.c], .ro (PrsIn (some ⟨b5, o5, none⟩) (k' + 1) (u :: ut)), .own 34 2 (.slice O q cap) q (rwCells outs), .ro (ValsIn outs), .ro (SlR 4 A2 n2 (colCells cs)), .blk go 29 #[.string nm, .slice A2 n2 c2, .int .i64 (nx + (ni : Int)), .slice O q cap], .blk (w.heap.size + 1 + 1) 29 #[.string ⟨#[]⟩, .slice none 0 0, .int .i64 0, .slice none 0 0], .cst (w.heap.size + 1) 46 #[.slice I ni ci, .slice D nd cd, .slice U nu cu], .cst w.heap.size 29 #[.string nm, .slice A n c, .int .i64 nx, .slice (some ⟨b, o, none⟩) m d], .ro (SlR 4 A n (colCells cs)), .ro (RwsIn (some ⟨b, o, none⟩) m l), .ro (SlsIn I ni ins), .ro (IsIn D nd dels), .ro (PrsIn U nu us)])) r.id r.vs) (fun g => .slice (some ⟨g, 0, none⟩) 1 1) rfl rfl rfl rfl (fun wv => ?_) (fun wv HC _hrm hD hro => ?_) ?_
              · go_simp <;> rfl
              · have hsl : RowSlot (Mut M ([.cst wr.heap.size 34 #[.int .i64 r.id, .slice r.A r.n r.c], .ro (PrsIn (some ⟨b5, o5, none⟩) (k' + 1) (u :: ut)), .own 34 2 (.slice O q cap) q (rwCells outs), .ro (ValsIn outs), .ro (SlR 4 A2 n2 (colCells cs)), .blk go 29 #[.string nm, .slice A2 n2 c2, .int .i64 (nx + (ni : Int)), .slice O q cap], .blk (w.heap.size + 1 + 1) 29 #[.string ⟨#[]⟩, .slice none 0 0, .int .i64 0, .slice none 0 0], .cst (w.heap.size + 1) 46 #[.slice I ni ci, .slice D nd cd, .slice U nu cu], .cst w.heap.size 29 #[.string nm, .slice A n c, .int .i64 nx, .slice (some ⟨b, o, none⟩) m d], .ro (SlR 4 A n (colCells cs)), .ro (RwsIn (some ⟨b, o, none⟩) m l), .ro (SlsIn I ni ins), .ro (IsIn D nd dels), .ro (PrsIn U nu us)])) r.id r.vs (.agg #[.int .i64 r.id, .slice A5 n5 c5]) wv := deps_at hD 6 rfl (by kernel_rfl) rfl rfl
                obtain ⟨A6, n6, c6, e6, h1, h2, h3, h4⟩ := hsl
                obtain ⟨rfl, rfl, rfl⟩ : A5 = A6 ∧ n5 = n6 ∧ c5 = c6 := by
                  injection e6 with e6
                  simp at e6
                  exact e6
                exact ⟨_, A5, n5, c5, rfl, h1, h2, h3, h4.step (by simp) (fun b hb _ => Below.heap_alloc wv _ b hb) (fun _ _ h => h), ro_block (hro _ HC.mutLt) rfl⟩
              rintro g2 wg HCg hsl
              simp only [Act.put, List.setIfInBounds_toArray, List.set_cons_succ, List.set_cons_zero]
              clear hsl HCg
              refine rel_nil ?_
              rintro wx2 HX
              rintro _hrm HGW
              have hb2 : RBoxSlot (Mut M ([.cst wr.heap.size 34 #[.int .i64 r.id, .slice r.A r.n r.c], .ro (PrsIn (some ⟨b5, o5, none⟩) (k' + 1) (u :: ut)), .own 34 2 (.slice O q cap) q (rwCells outs), .ro (ValsIn outs), .ro (SlR 4 A2 n2 (colCells cs)), .blk go 29 #[.string nm, .slice A2 n2 c2, .int .i64 (nx + (ni : Int)), .slice O q cap], .blk (w.heap.size + 1 + 1) 29 #[.string ⟨#[]⟩, .slice none 0 0, .int .i64 0, .slice none 0 0], .cst (w.heap.size + 1) 46 #[.slice I ni ci, .slice D nd cd, .slice U nu cu], .cst w.heap.size 29 #[.string nm, .slice A n c, .int .i64 nx, .slice (some ⟨b, o, none⟩) m d], .ro (SlR 4 A n (colCells cs)), .ro (RwsIn (some ⟨b, o, none⟩) m l), .ro (SlsIn I ni ins), .ro (IsIn D nd dels), .ro (PrsIn U nu us)])) r.id r.vs (.slice (some ⟨g2, 0, none⟩) 1 1) wx2 := (GW_on (d := 104) rfl).1 (HGW 7 _ rfl (by omega))
              clear HGW
              obtain ⟨g3, A6, n6, c6, e6, k0, k1, k2, k3, k4⟩ := hb2
              obtain rfl : g2 = g3 := by injection e6 with e6; injection e6 with e6; injection e6
              clear e6
              have k5 := hid k4.now
              clear k4
              have HRS := hid (show rwCells outs ++ [.int .i64 r.id, .slice A6 n6 c6] = rwCells (outs ++ [⟨r.id, A6, n6, c6, r.vs⟩]) from rwCells_snoc1 _ _ _ _ _ _)
              have KA := HX.add k3
              clear HX
              go_wp2_with (at_builtin; go_must (refine wpList_appAllH KA 3 rfl Try.elRw k5.out rfl (.tmp 98) (.tmp 104) rfl rfl rfl (by intro z hz; simp at hz; rcases hz with rfl | rfl <;> rfl) (by omega) (by omega) ?_); intro C' cap' w6 hc6 hm6 KB; rw [HRS.out] at KB; simp only [List.set_cons_zero, List.set_cons_succ] at KB; (have F3 := KB.facts); simp only [World.size_alloc, World.size_drew, factsL, cellsF, Nat.reduceAdd, List.toList_toArray, List.set_cons_zero, List.set_cons_succ, List.setIfInBounds_toArray, and_true, true_and] at F3)
              have KC := KB.store 6 rfl 3 (.slice C' (q + 1) cap')
              have KD := KC.swapRo 4 rfl (vals_snoc (r := ⟨r.id, A6, n6, c6, r.vs⟩) (KC.ro 4 rfl) (KC.ro 0 rfl))
              have KE := KD
              simp only [cellsF, List.set_cons_zero, List.set_cons_succ, List.setIfInBounds_toArray] at KE
              have HGN := hid (show goR dels (l.map Rw.row) (us.map Pr.upd) = List.map Rw.row (outs ++ [⟨r.id, A6, n6, c6, r.vs⟩]) ++ goR dels ((l.map Rw.row).drop (j + 1)) ((u :: ut).map Pr.upd) by
                rw [List.map_append, List.append_assoc]
                exact HG.out.trans (congrArg (outs.map Rw.row ++ ·) HN.out))
              go_roundw
              case rel => exact ⟨j + 1, q + 1, cap', k' + 1, ck, _, _, _, u :: ut, by omega, by go_num, rfl, by omega, hkc, hck, by intro x hx; rcases List.mem_append.1 hx with hx | hx; (exact hoo x hx); (simp at hx; subst hx; exact ⟨hrok.id, k1, k2, hrok.vs⟩), hov, HGN, (KE.drop (List.sublist_cons_self _ _)).drop (List.sublist_cons_self _ _)⟩
              case measure => simp [intOf]; omega
        · have HN := hid (show goR dels (l.map Rw.row) (us.map Pr.upd) = outs.map Rw.row ++ goR dels ((l.map Rw.row).drop (j + 1)) (vs.map Pr.upd) by rw [HG.out, goR_skip HX.out hct])
          go_wp2_with fail
          go_roundw
          case rel => exact ⟨j + 1, q, cap, k, ck, O, V, outs, vs, by omega, by go_num, rfl, by omega, hkc, hck, hoo, hov, HN, K1.drop (List.sublist_cons_self _ _)⟩
          case measure => simp [intOf]; omega
      · obtain rfl : j = m := by omega
        have hdd : decide ((j : Int) < (j : Int)) = false := by simp
        have HGF := hid (show goR dels (l.map Rw.row) (us.map Pr.upd) = outs.map Rw.row ++ insR nx ((ins.map Sl.vs).take 0) by rw [HG.out, goR_end (by rw [List.length_map, HRL.out]; exact Nat.le_refl _)]; rfl)
        have hni2 : ni ≤ 2147483647 := by have := HBIG.out; omega
        have hnin : (ni : Int) ≤ 2147483648 - nx := by have := HBIG.out; omega
        have F1 := H.facts
        simp only [World.size_alloc, World.size_drew, factsL, cellsF, Nat.reduceAdd, List.toList_toArray, List.set_cons_zero, List.set_cons_succ, List.setIfInBounds_toArray, and_true, true_and] at F1
        go_wp2_with fail
        have H2 := H.drop (List.sublist_cons_self _ _)
        clear H F1
        go_loopw [111] (fun iv wr => ∃ (k q cap : Nat) (O : Option Addr) (outs : List Rw), k ≤ ni ∧ iv = .int .i64 k ∧ q ≤ j + k ∧ (∀ r ∈ outs, r.ok) ∧ Hid (outs.map Rw.row = goR dels (l.map Rw.row) (us.map Pr.upd) ++ insR nx ((ins.map Sl.vs).take k)) ∧ Hold M none w wr [.own 34 2 (.slice O q cap) q (rwCells outs), .ro (ValsIn outs), .ro (SlR 4 A2 n2 (colCells cs)), .blk go 29 #[.string nm, .slice A2 n2 c2, .int .i64 (nx + (ni : Int)), .slice O q cap], .blk (w.heap.size + 1 + 1) 29 #[.string ⟨#[]⟩, .slice none 0 0, .int .i64 0, .slice none 0 0], .cst (w.heap.size + 1) 46 #[.slice I ni ci, .slice D nd cd, .slice U nu cu], .cst w.heap.size 29 #[.string nm, .slice A n c, .int .i64 nx, .slice B j d], .ro (SlR 4 A n (colCells cs)), .ro (RwsIn B j l), .ro (SlsIn I ni ins), .ro (IsIn D nd dels), .ro (PrsIn U nu us)]) (fun iv _ => ni - (intOf iv).toNat)
        case atStart => exact ⟨0, q, cap, O, outs, by omega, rfl, by omega, hoo, hid (by rw [HGF.out]; simp [insR]), H2⟩
        case round =>
          clear H2
          obtain ⟨k, q, cap, O, outs, hk, rfl, hq, hoo, HG2, H⟩ := hrel
          by_cases hlt2 : k < ni
          · have hdd2 : decide ((k : Int) < (ni : Int)) = true := by simp; omega
            have k0 : (0 : Int) ≤ (k : Int) := by omega
            have k1 : (k : Int) < (ni : Int) := by omega
            obtain ⟨s, hx⟩ := get_of HIL.out hlt2
            obtain ⟨bi, oi, rfl, hb, c0, _⟩ := (H.ro 9 rfl).now.at_ hx
            have HXI := hid (show (ins.map Sl.vs)[k]? = some s.vs by simp [hx])
            have HSM := hid (List.mem_of_getElem? hx)
            have hsok := HI6.out s HSM.out
            clear hx
            have F2 := H.facts
            simp only [World.size_alloc, World.size_drew, factsL, cellsF, Nat.reduceAdd, List.toList_toArray, List.set_cons_zero, List.set_cons_succ, List.setIfInBounds_toArray, and_true, true_and] at F2
            have hwk : IntKind.i64.wrap (nx + (k : Int)) = nx + (k : Int) := by rw [IntKind.wrap_i64]; omega
            go_wp2_with fail
            refine wp_region_any (by kernel_rfl) ?_
            refine wpAny_hold 10 133 ([.own 34 2 (.slice O q cap) q (rwCells outs), .ro (ValsIn outs), .ro (SlR 4 A2 n2 (colCells cs)), .blk go 29 #[.string nm, .slice A2 n2 c2, .int .i64 (nx + (ni : Int)), .slice O q cap], .blk (w.heap.size + 1 + 1) 29 #[.string ⟨#[]⟩, .slice none 0 0, .int .i64 0, .slice none 0 0], .cst (w.heap.size + 1) 46 #[.slice (some ⟨bi, oi, none⟩) ni ci, .slice D nd cd, .slice U nu cu], .cst w.heap.size 29 #[.string nm, .slice A n c, .int .i64 nx, .slice B j d], .ro (SlR 4 A n (colCells cs)), .ro (RwsIn B j l), .ro (SlsIn (some ⟨bi, oi, none⟩) ni ins), .ro (IsIn D nd dels), .ro (PrsIn U nu us)]) (spL [(123, VlsSlot (Mut M ([.own 34 2 (.slice O q cap) q (rwCells outs), .ro (ValsIn outs), .ro (SlR 4 A2 n2 (colCells cs)), .blk go 29 #[.string nm, .slice A2 n2 c2, .int .i64 (nx + (ni : Int)), .slice O q cap], .blk (w.heap.size + 1 + 1) 29 #[.string ⟨#[]⟩, .slice none 0 0, .int .i64 0, .slice none 0 0], .cst (w.heap.size + 1) 46 #[.slice (some ⟨bi, oi, none⟩) ni ci, .slice D nd cd, .slice U nu cu], .cst w.heap.size 29 #[.string nm, .slice A n c, .int .i64 nx, .slice B j d], .ro (SlR 4 A n (colCells cs)), .ro (RwsIn B j l), .ro (SlsIn (some ⟨bi, oi, none⟩) ni ins), .ro (IsIn D nd dels), .ro (PrsIn U nu us)])) s.vs), (124, RowSlot (Mut M ([.own 34 2 (.slice O q cap) q (rwCells outs), .ro (ValsIn outs), .ro (SlR 4 A2 n2 (colCells cs)), .blk go 29 #[.string nm, .slice A2 n2 c2, .int .i64 (nx + (ni : Int)), .slice O q cap], .blk (w.heap.size + 1 + 1) 29 #[.string ⟨#[]⟩, .slice none 0 0, .int .i64 0, .slice none 0 0], .cst (w.heap.size + 1) 46 #[.slice (some ⟨bi, oi, none⟩) ni ci, .slice D nd cd, .slice U nu cu], .cst w.heap.size 29 #[.string nm, .slice A n c, .int .i64 nx, .slice B j d], .ro (SlR 4 A n (colCells cs)), .ro (RwsIn B j l), .ro (SlsIn (some ⟨bi, oi, none⟩) ni ins), .ro (IsIn D nd dels), .ro (PrsIn U nu us)])) (nx + (k : Int)) s.vs), (125, RBoxSlot (Mut M ([.own 34 2 (.slice O q cap) q (rwCells outs), .ro (ValsIn outs), .ro (SlR 4 A2 n2 (colCells cs)), .blk go 29 #[.string nm, .slice A2 n2 c2, .int .i64 (nx + (ni : Int)), .slice O q cap], .blk (w.heap.size + 1 + 1) 29 #[.string ⟨#[]⟩, .slice none 0 0, .int .i64 0, .slice none 0 0], .cst (w.heap.size + 1) 46 #[.slice (some ⟨bi, oi, none⟩) ni ci, .slice D nd cd, .slice U nu cu], .cst w.heap.size 29 #[.string nm, .slice A n c, .int .i64 nx, .slice B j d], .ro (SlR 4 A n (colCells cs)), .ro (RwsIn B j l), .ro (SlsIn (some ⟨bi, oi, none⟩) ni ins), .ro (IsIn D nd dels), .ro (PrsIn U nu us)])) (nx + (k : Int)) s.vs)]) (by kernel_rfl) (by kernel_rfl) (by kernel_rfl) rfl ?_ (H.drew) ?_
            · exact stays_cons vlsSlot_mono (stays_cons rowSlot_mono (stays_cons rboxSlot_mono (stays_nil _)))
            simp only [List.take_succ_cons, List.take_zero, List.drop_succ_cons, List.drop_zero, Act.put, List.getElem_toArray, List.getElem_cons_zero, List.getElem_cons_succ, List.setIfInBounds_toArray, List.set_cons_succ, List.set_cons_zero]
            refine dw_val rfl rfl rfl ?_; apply Exists.intro; refine ⟨fun wv HC => ?_, ?_⟩
            ·  go_simp <;> rfl
            simp only [Act.put, List.setIfInBounds_toArray, List.set_cons_succ, List.set_cons_zero]
            refine dw_val rfl rfl rfl ?_; apply Exists.intro; refine ⟨fun wv HC => ?_, ?_⟩
            · have FC := HC.facts; simp only [factsL, cellsF, Nat.reduceAdd, List.toList_toArray, and_true, true_and] at FC; go_simp <;> rfl
            simp only [Act.put, List.setIfInBounds_toArray, List.set_cons_succ, List.set_cons_zero]
            refine dw_val rfl rfl rfl ?_; apply Exists.intro; refine ⟨fun wv HC => ?_, ?_⟩
            ·  go_simp <;> rfl
            simp only [Act.put, List.setIfInBounds_toArray, List.set_cons_succ, List.set_cons_zero]
            refine dw_val rfl rfl rfl ?_; apply Exists.intro; refine ⟨fun wv HC => ?_, ?_⟩
            · have FC := HC.facts; simp only [factsL, cellsF, Nat.reduceAdd, List.toList_toArray, and_true, true_and] at FC; go_simp <;> rfl
            simp only [Act.put, List.setIfInBounds_toArray, List.set_cons_succ, List.set_cons_zero]
            refine dw_val rfl rfl rfl ?_; apply Exists.intro; refine ⟨fun wv HC => ?_, ?_⟩
            ·  go_simp <;> rfl
            simp only [Act.put, List.setIfInBounds_toArray, List.set_cons_succ, List.set_cons_zero]
            refine dw_val rfl rfl rfl ?_; apply Exists.intro; refine ⟨fun wv HC => ?_, ?_⟩
            ·  go_simp <;> rfl
            simp only [Act.put, List.setIfInBounds_toArray, List.set_cons_succ, List.set_cons_zero]
            refine dw_val rfl rfl rfl ?_; apply Exists.intro; refine ⟨fun wv HC => ?_, ?_⟩
            ·  go_simp <;> rfl
            simp only [Act.put, List.setIfInBounds_toArray, List.set_cons_succ, List.set_cons_zero]
            refine dw_callR 123 (VlsSlot (Mut M ([.own 34 2 (.slice O q cap) q (rwCells outs), .ro (ValsIn outs), .ro (SlR 4 A2 n2 (colCells cs)), .blk go 29 #[.string nm, .slice A2 n2 c2, .int .i64 (nx + (ni : Int)), .slice O q cap], .blk (w.heap.size + 1 + 1) 29 #[.string ⟨#[]⟩, .slice none 0 0, .int .i64 0, .slice none 0 0], .cst (w.heap.size + 1) 46 #[.slice (some ⟨bi, oi, none⟩) ni ci, .slice D nd cd, .slice U nu cu], .cst w.heap.size 29 #[.string nm, .slice A n c, .int .i64 nx, .slice B j d], .ro (SlR 4 A n (colCells cs)), .ro (RwsIn B j l), .ro (SlsIn (some ⟨bi, oi, none⟩) ni ins), .ro (IsIn D nd dels), .ro (PrsIn U nu us)])) s.vs) (f := 25) (args := #[.slice s.A s.n s.c]) rfl rfl rfl rfl (fun wv => ?_) (fun wv HC hr8 hD => ?_) ?_
            · go_simp <;> rfl
            · refine (cloneVls_any _ wv HC.mutLt s.A s.n s.c s.vs ((HC.ro 9 rfl).imp fun w2 h2 => h2.2 s HSM.out) (by have := hsok.2; omega)).mono ?_
              rintro e w5 ⟨A5, n5, c5, rfl, h50, h51, h52, h53, b5⟩
              exact ⟨_, rfl, ⟨A5, n5, c5, rfl, h50, h51, h52, h53⟩, HC.call b5, RM.below b5⟩
            rintro x wx HCx ⟨A5, n5, c5, rfl, h50, h51, h52, h53⟩
            simp only [Act.put, List.setIfInBounds_toArray, List.set_cons_succ, List.set_cons_zero]
            clear HCx h53
            refine dw_valC 124 (RowSlot (Mut M ([.own 34 2 (.slice O q cap) q (rwCells outs), .ro (ValsIn outs), .ro (SlR 4 A2 n2 (colCells cs)), .blk go 29 #[.string nm, .slice A2 n2 c2, .int .i64 (nx + (ni : Int)), .slice O q cap], .blk (w.heap.size + 1 + 1) 29 #[.string ⟨#[]⟩, .slice none 0 0, .int .i64 0, .slice none 0 0], .cst (w.heap.size + 1) 46 #[.slice (some ⟨bi, oi, none⟩) ni ci, .slice D nd cd, .slice U nu cu], .cst w.heap.size 29 #[.string nm, .slice A n c, .int .i64 nx, .slice B j d], .ro (SlR 4 A n (colCells cs)), .ro (RwsIn B j l), .ro (SlsIn (some ⟨bi, oi, none⟩) ni ins), .ro (IsIn D nd dels), .ro (PrsIn U nu us)])) (nx + (k : Int)) s.vs) rfl rfl rfl rfl (.agg #[.int .i64 (nx + (k : Int)), .slice A5 n5 c5]) (fun wv HC => ?_) (fun wv HC hD => ?_) ?_
            · go_simp <;> rfl
            · have hsl : VlsSlot (Mut M ([.own 34 2 (.slice O q cap) q (rwCells outs), .ro (ValsIn outs), .ro (SlR 4 A2 n2 (colCells cs)), .blk go 29 #[.string nm, .slice A2 n2 c2, .int .i64 (nx + (ni : Int)), .slice O q cap], .blk (w.heap.size + 1 + 1) 29 #[.string ⟨#[]⟩, .slice none 0 0, .int .i64 0, .slice none 0 0], .cst (w.heap.size + 1) 46 #[.slice (some ⟨bi, oi, none⟩) ni ci, .slice D nd cd, .slice U nu cu], .cst w.heap.size 29 #[.string nm, .slice A n c, .int .i64 nx, .slice B j d], .ro (SlR 4 A n (colCells cs)), .ro (RwsIn B j l), .ro (SlsIn (some ⟨bi, oi, none⟩) ni ins), .ro (IsIn D nd dels), .ro (PrsIn U nu us)])) s.vs (.slice A5 n5 c5) wv := deps_at hD 7 rfl (by kernel_rfl) rfl rfl
              obtain ⟨A6, n6, c6, e6, h1, h2, h3, h4⟩ := hsl
              exact ⟨A6, n6, c6, by rw [e6], h1, h2, h3, h4⟩
            simp only [Act.put, List.setIfInBounds_toArray, List.set_cons_succ, List.set_cons_zero]
            refine dw_new #[.int .i64 (nx + (k : Int)), .slice A5 n5 c5] 34 125 (RBoxSlot (Mut M ([.own 34 2 (.slice O q cap) q (rwCells outs), .ro (ValsIn outs), .ro (SlR 4 A2 n2 (colCells cs)), .blk go 29 #[.string nm, .slice A2 n2 c2, .int .i64 (nx + (ni : Int)), .slice O q cap], .blk (w.heap.size + 1 + 1) 29 #[.string ⟨#[]⟩, .slice none 0 0, .int .i64 0, .slice none 0 0], .cst (w.heap.size + 1) 46 #[.slice (some ⟨bi, oi, none⟩) ni ci, .slice D nd cd, .slice U nu cu], .cst w.heap.size 29 #[.string nm, .slice A n c, .int .i64 nx, .slice B j d], .ro (SlR 4 A n (colCells cs)), .ro (RwsIn B j l), .ro (SlsIn (some ⟨bi, oi, none⟩) ni ins), .ro (IsIn D nd dels), .ro (PrsIn U nu us)])) (nx + (k : Int)) s.vs) (fun g => .slice (some ⟨g, 0, none⟩) 1 1) rfl rfl rfl rfl (fun wv => ?_) (fun wv HC _hrm hD hro => ?_) ?_
            · go_simp <;> rfl
            · have hsl : RowSlot (Mut M ([.own 34 2 (.slice O q cap) q (rwCells outs), .ro (ValsIn outs), .ro (SlR 4 A2 n2 (colCells cs)), .blk go 29 #[.string nm, .slice A2 n2 c2, .int .i64 (nx + (ni : Int)), .slice O q cap], .blk (w.heap.size + 1 + 1) 29 #[.string ⟨#[]⟩, .slice none 0 0, .int .i64 0, .slice none 0 0], .cst (w.heap.size + 1) 46 #[.slice (some ⟨bi, oi, none⟩) ni ci, .slice D nd cd, .slice U nu cu], .cst w.heap.size 29 #[.string nm, .slice A n c, .int .i64 nx, .slice B j d], .ro (SlR 4 A n (colCells cs)), .ro (RwsIn B j l), .ro (SlsIn (some ⟨bi, oi, none⟩) ni ins), .ro (IsIn D nd dels), .ro (PrsIn U nu us)])) (nx + (k : Int)) s.vs (.agg #[.int .i64 (nx + (k : Int)), .slice A5 n5 c5]) wv := deps_at hD 8 rfl (by kernel_rfl) rfl rfl
              obtain ⟨A6, n6, c6, e6, h1, h2, h3, h4⟩ := hsl
              obtain ⟨rfl, rfl, rfl⟩ : A5 = A6 ∧ n5 = n6 ∧ c5 = c6 := by
                injection e6 with e6
                simp at e6
                exact e6
              exact ⟨_, A5, n5, c5, rfl, h1, h2, h3, h4.step (by simp) (fun b hb _ => Below.heap_alloc wv _ b hb) (fun _ _ h => h), ro_block (hro _ HC.mutLt) rfl⟩
            rintro g2 wg HCg hsl
            simp only [Act.put, List.setIfInBounds_toArray, List.set_cons_succ, List.set_cons_zero]
            clear hsl HCg
            refine rel_nil ?_
            rintro wx2 HX
            rintro _hrm HGW
            have hb2 : RBoxSlot (Mut M ([.own 34 2 (.slice O q cap) q (rwCells outs), .ro (ValsIn outs), .ro (SlR 4 A2 n2 (colCells cs)), .blk go 29 #[.string nm, .slice A2 n2 c2, .int .i64 (nx + (ni : Int)), .slice O q cap], .blk (w.heap.size + 1 + 1) 29 #[.string ⟨#[]⟩, .slice none 0 0, .int .i64 0, .slice none 0 0], .cst (w.heap.size + 1) 46 #[.slice (some ⟨bi, oi, none⟩) ni ci, .slice D nd cd, .slice U nu cu], .cst w.heap.size 29 #[.string nm, .slice A n c, .int .i64 nx, .slice B j d], .ro (SlR 4 A n (colCells cs)), .ro (RwsIn B j l), .ro (SlsIn (some ⟨bi, oi, none⟩) ni ins), .ro (IsIn D nd dels), .ro (PrsIn U nu us)])) (nx + (k : Int)) s.vs (.slice (some ⟨g2, 0, none⟩) 1 1) wx2 := (GW_on (d := 125) rfl).1 (HGW 9 _ rfl (by omega))
            clear HGW
            obtain ⟨g3, A6, n6, c6, e6, x0, x1, x2, x3, x4⟩ := hb2
            obtain rfl : g2 = g3 := by injection e6 with e6; injection e6 with e6; injection e6
            clear e6
            have k5 := hid x4.now
            clear x4
            have HRS := hid (show rwCells outs ++ [.int .i64 (nx + (k : Int)), .slice A6 n6 c6] = rwCells (outs ++ [⟨nx + (k : Int), A6, n6, c6, s.vs⟩]) from rwCells_snoc1 _ _ _ _ _ _)
            have KA := HX.add x3
            clear HX
            go_wp2_with (at_builtin; go_must (refine wpList_appAllH KA 1 rfl Try.elRw k5.out rfl (.tmp 117) (.tmp 125) rfl rfl rfl (by intro z hz; simp at hz; rcases hz with rfl | rfl <;> rfl) (by omega) (by omega) ?_); intro C' cap' w6 hc6 hm6 KB; rw [HRS.out] at KB; simp only [List.set_cons_zero, List.set_cons_succ] at KB; (have F3 := KB.facts); simp only [World.size_alloc, World.size_drew, factsL, cellsF, Nat.reduceAdd, List.toList_toArray, List.set_cons_zero, List.set_cons_succ, List.setIfInBounds_toArray, and_true, true_and] at F3)
            have KC := KB.store 4 rfl 3 (.slice C' (q + 1) cap')
            have KE := KC.swapRo 2 rfl (vals_snoc (r := ⟨nx + (k : Int), A6, n6, c6, s.vs⟩) (KC.ro 2 rfl) (KC.ro 0 rfl))
            simp only [cellsF, List.set_cons_zero, List.set_cons_succ, List.setIfInBounds_toArray] at KE
            have HGN := hid (show List.map Rw.row (outs ++ [⟨nx + (k : Int), A6, n6, c6, s.vs⟩]) = goR dels (l.map Rw.row) (us.map Pr.upd) ++ insR nx ((ins.map Sl.vs).take (k + 1)) by
              rw [List.map_append, HG2.out, insR_snoc HXI.out, List.append_assoc]; rfl)
            go_roundw
            case rel => exact ⟨k + 1, q + 1, cap', _, _, by omega, by go_num, by omega, by intro x hx; rcases List.mem_append.1 hx with hx | hx; (exact hoo x hx); (simp at hx; subst hx; exact ⟨⟨by show _ ≤ nx + (k : Int); omega, by show nx + (k : Int) ≤ _; omega⟩, x1, x2, hsok.1.vs⟩), HGN, KE.drop (List.sublist_cons_self _ _)⟩
            case measure => simp [intOf]; omega
          · obtain rfl : k = ni := by omega
            have hdd2 : decide ((k : Int) < (k : Int)) = false := by simp
            have HOR := hid (show outs.map Rw.row = outR nx (l.map Rw.row) (ins.map Sl.vs) dels (us.map Pr.upd) by rw [HG2.out, List.take_of_length_le (by rw [List.length_map, HIL.out]; exact Nat.le_refl _)]; rfl)
            have hcq := own_caps (H.get 0 rfl)
            have KS := H.sealRow 0 rfl
            simp only [List.set_cons_zero] at KS
            clear H
            have F2 := KS.facts
            simp only [World.size_alloc, World.size_drew, factsL, cellsF, Nat.reduceAdd, List.toList_toArray, List.set_cons_zero, List.set_cons_succ, List.setIfInBounds_toArray, and_true, true_and] at F2
            go_wp2_with fail
            have hRW : Ro _ (Mut M _) (RwsIn O q outs) := (KS.ro 0 rfl).and (KS.ro 1 rfl)
            refine (dup_any _ _ KS.mutLt nm A2 n2 c2 cs (nx + (k : Int)) O q cap outs (KS.ro 2 rfl) hRW (by omega) (by omega) hoo).mono ?_
            rintro e w8 ⟨rfl, b8⟩
            have K8 := KS.call b8
            clear KS b8 F2 hRW
            have F8 := K8.facts
            simp only [World.size_alloc, World.size_drew, factsL, cellsF, Nat.reduceAdd, List.toList_toArray, List.set_cons_zero, List.set_cons_succ, List.setIfInBounds_toArray, and_true, true_and] at F8
            cases hdb : dupB cs (outs.map Rw.row)
            · have HN := hid (show applyC nm cs nx (l.map Rw.row) (ins.map Sl.vs) dels (us.map Pr.upd) = (0, ⟨nm, cs, nx + (k : Int), outs.map Rw.row⟩) by
                unfold applyC; rw [HCB.out, HFE.out, if_neg (by simp), if_neg (by rw [HFZ.out]; simp), if_neg (by simp only [List.length_map]; have := HRL.out; have := HIL.out; have := HDL.out; rw [HRL.out, HIL.out, HDL.out]; exact HBIG.out), ← HOR.out, if_neg (by rw [hdb]; simp), List.length_map, HIL.out])
              clear hdb
              have KN := (((K8.store 4 rfl 0 (.string nm)).store 4 rfl 1 (.slice A2 n2 c2)).store 4 rfl 2 (.int .i64 (nx + (k : Int)))).store 4 rfl 3 (.slice O q cap)
              go_wp2_with fail
              exact bodyPost_ret (v := .tuple #[.agg #[.string nm, .slice A2 n2 c2, .int .i64 (nx + (k : Int)), .slice O q cap], .int .i64 0]) (by simp [results, Try.results12, go_sem, F8]) rfl ⟨_, by rw [HN.out], by rw [HN.out]; exact ⟨A2, n2, c2, O, q, cap, outs, rfl, hc2, hc22, hcq.1, hcq.2.1, KN.roOut 2 rfl, (KN.roOut 0 rfl).and (KN.roOut 1 rfl), hoo, rfl⟩, KN.below⟩
            · have HN := hid (show applyC nm cs nx (l.map Rw.row) (ins.map Sl.vs) dels (us.map Pr.upd) = (9, zeroT) by
                unfold applyC; rw [HCB.out, HFE.out, if_neg (by simp), if_neg (by rw [HFZ.out]; simp), if_neg (by simp only [List.length_map]; rw [HRL.out, HIL.out, HDL.out]; exact HBIG.out), ← HOR.out, if_pos hdb])
              clear hdb
              have KN := (((K8.store 4 rfl 0 (.string ⟨#[]⟩)).store 4 rfl 1 (.slice none 0 0)).store 4 rfl 2 (.int .i64 0)).store 4 rfl 3 (.slice none 0 0)
              go_wp2_with fail
              exact bodyPost_ret (v := .tuple #[.agg #[.string ⟨#[]⟩, .slice none 0 0, .int .i64 0, .slice none 0 0], .int .i64 9]) (by simp [results, Try.results12, go_sem, F8]) rfl ⟨_, by rw [HN.out], by rw [HN.out]; exact tbAt_zero, KN.below⟩
  · have hfzd : (fitsC cs (us.map Pr.new) (ins.map Sl.vs) != 0) = true := by simp [hfz]
    have HN := hid (show applyC nm cs nx (l.map Rw.row) (ins.map Sl.vs) dels (us.map Pr.upd) = (fitsC cs (us.map Pr.new) (ins.map Sl.vs), zeroT) by unfold applyC; rw [HCB.out, HFE.out, if_neg (by simp), if_pos hfz])
    clear hfz
    have KN := (((K2.store 0 rfl 0 (.string ⟨#[]⟩)).store 0 rfl 1 (.slice none 0 0)).store 0 rfl 2 (.int .i64 0)).store 0 rfl 3 (.slice none 0 0)
    go_wp2_with fail
    exact bodyPost_ret (v := .tuple #[.agg #[.string ⟨#[]⟩, .slice none 0 0, .int .i64 0, .slice none 0 0], .int .i64 (fitsC cs (us.map Pr.new) (ins.map Sl.vs))]) (by simp [results, Try.results12, go_sem, F2]) rfl ⟨_, by rw [HN.out], by rw [HN.out]; exact tbAt_zero, KN.below⟩
end Go.Proofs.Ytphofeeaphkciaa

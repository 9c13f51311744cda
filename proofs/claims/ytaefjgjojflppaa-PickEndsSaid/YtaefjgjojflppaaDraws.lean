/- A region that draws its order and whose calls draw from a tape: the laws of Rel at classes of values that do not hang on the world. No program in sight. -/
import Derived.Test.YtaefjgjojflppaaRel
namespace Go.Proofs.Ytaefjgjojflppaa
open Go
set_option linter.unusedVariables false
set_option linter.unusedSimpArgs false

abbrev Sp := Tmp → Option (Value → Prop)
def GV (sp : Sp) (d : Option Tmp) (u : Value) (_ : World) : Prop := match d.bind sp with | some V => V u | none => True
def RT (_ _ : World) : Prop := True
/-- the operations of S fill no slot that is spoken of -/
def offB (ops : Array Oper) (S0 : Array Bool) (sp : Sp) : Bool := (List.range ops.size).all fun j => !S0.getD j false || (((ops[j]?).bind (·.dst)).bind sp).isNone
theorem GV_off {sp : Sp} {d : Option Tmp} {u : Value} {w : World} (h : d.bind sp = none) : GV sp d u w := by unfold GV; rw [h]; trivial
theorem offB_h {ops : Array Oper} {S0 : Array Bool} {sp : Sp} (h : offB ops S0 sp = true) {j : Nat} {o : Oper} (ho : ops[j]? = some o) (hs : S0.getD j false = true) {u : Value} {w : World} : GV sp o.dst u w := by
  have h1 := List.all_eq_true.1 h j (List.mem_range.2 (Array.getElem?_eq_some_iff.1 ho).1)
  simp only [hs, Bool.not_true, Bool.false_or, ho, Option.bind_some] at h1
  exact GV_off (Option.isNone_iff_eq_none.1 h1)

section
variable {P : Program} {C : World → Prop} {sp : Sp} {F : Act → Prop} {S0 : Array Bool}
theorem wpAny_draws {Q : Exit → Act → World → Prop} {a : Act} {w : World} {l : List Oper} (n N : Nat) (C : World → Prop) (sp : Sp) {fuel : Nat}
    (hB : relB l.toArray S0 n N = true) (hO : offB l.toArray S0 sp = true) (hf : fuel = unl n S0 + (l.length - n)) (hN : a.tmps.size = N) (hC : C w)
    (h : wpRel P l.toArray C (GV sp) RT S0 (fun a' => ∀ w', C w' → wpList P l.toArray Q (l.drop n) a' w') 0 (l.take n) a) : wpAny P .any l.toArray Q fuel S0 a w := by
  refine wpAny_rel S0 n N C (GV sp) RT hB hf hN (fun _ _ _ _ _ h => h) (fun _ _ => trivial) (fun _ _ => trivial) hC (fun j oj hj hs => offB_h hO (by simpa using hj) hs) ?_
  have key : ∀ (l' : List Oper) (k : Nat) (a : Act), wpRel P l.toArray C (GV sp) RT S0 (fun a' => ∀ w', C w' → wpList P l.toArray Q (l.drop n) a' w') k l' a →
      wpRel P l.toArray C (GV sp) RT S0 (fun a' => ∀ w', C w' → (∀ j oj, l[j]? = some oj → j < n → GV sp oj.dst (slot a' oj.dst) w') → wpList P l.toArray Q (l.drop n) a' w') k l' a := by
    intro l'
    induction l' with
    | nil => intro k a h hI w' hw' _; exact h hI w' hw'
    | cons o l' ih =>
      intro k a h
      unfold wpRel at h ⊢
      split
      · rename_i hs; rw [if_pos hs] at h; exact ih _ _ h
      · rename_i hs; rw [if_neg hs] at h; exact ⟨h.1, fun u hu hd => ih _ _ (h.2 u hu hd)⟩
  exact key _ _ _ h

variable {ops : Array Oper} {o : Oper} {rest : List Oper} {a : Act} {k : Nat}
/-- one value, the world left -/
theorem dr_val {u : Value} (hS : S0.getD k false = false) (hw : Region.wanted o (yielded ops a.tmps) = true) (hoff : o.dst.bind sp = none) (hrun : ∀ w, C w → (execOp a.eval o).run P w = .ok (.value u) w) (hn : wpRel P ops C (GV sp) RT S0 F (k + 1) rest (a.put o.dst u)) : wpRel P ops C (GV sp) RT S0 F k (o :: rest) a :=
  rel_val (fun _ _ => trivial) hS hw u (fun w hC _ => hrun w hC) (fun _ _ _ => GV_off hoff) hn
theorem dr_val' (hS : S0.getD k false = false) (hw : Region.wanted o (yielded ops a.tmps) = true) (hoff : o.dst.bind sp = none) (h : ∃ u, (∀ w, C w → (execOp a.eval o).run P w = .ok (.value u) w) ∧ wpRel P ops C (GV sp) RT S0 F (k + 1) rest (a.put o.dst u)) : wpRel P ops C (GV sp) RT S0 F k (o :: rest) a :=
  let ⟨_, h1, h2⟩ := h
  dr_val hS hw hoff h1 h2
theorem dr_skip (hS : S0.getD k false = false) (hw : Region.wanted o (yielded ops a.tmps) = false) (hoff : o.dst.bind sp = none) (hn : wpRel P ops C (GV sp) RT S0 F (k + 1) rest (a.put o.dst undef)) : wpRel P ops C (GV sp) RT S0 F k (o :: rest) a :=
  rel_skip hS hw (fun _ _ => GV_off hoff) hn
/-- a call -/
theorem dr_call {f : FuncId} {args : Array Value} (d : Tmp) (V : Value → Prop) (hS : S0.getD k false = false) (hw : Region.wanted o (yielded ops a.tmps) = true) (hd : o.dst = some d) (hsp : sp d = some V) (hrun : ∀ w, C w → (execOp a.eval o).run P w = .ok (.enter f args) w)
    (hc : ∀ w, C w → Calls P f args w fun e w' => ∃ u, e = .returned u ∧ V u ∧ C w') (hn : ∀ u, V u → wpRel P ops C (GV sp) RT S0 F (k + 1) rest (a.put (some d) u)) : wpRel P ops C (GV sp) RT S0 F k (o :: rest) a := by
  have e : ∀ u w, GV sp (some d) u w ↔ V u := fun u w => by unfold GV; simp only [Option.bind_some, hsp]
  exact rel_call hS hw f args d hd (fun w hC _ => hrun w hC) (fun w hC _ => (hc w hC).mono fun e' w' ⟨u, h1, h2, h3⟩ => ⟨u, h1, (e u w').2 h2, h3, trivial⟩) fun u w _ hu => hn u ((e u w).1 hu)
end
end Go.Proofs.Ytaefjgjojflppaa

/- KValid: keys.Valid. -/
import Derived.Test.YtedogodccblfeaaGreatDoorSFormSaidMA
import Derived.Maps.OwnOps
import Derived.Maps.Views
import Derived.DeepKeys4
import Derived.StillTailTactics
import Derived.Deep.LoopGhost
namespace Go.Proofs.YtedogodccblfeaaGreatDoor
open Go.RowKit
set_option linter.unusedVariables false
set_option linter.unusedSimpArgs false

abbrev SpW := Tmp → Option (Value → World → Prop)
def GW (sp : SpW) (d : Option Tmp) (u : Value) (w : World) : Prop := match d.bind sp with | some V => V u w | none => True
/-- from w to w' nothing but new blocks and those of M turned -/
def RM (M : Nat → Prop) (w w' : World) : Prop := w.heap.size ≤ w'.heap.size ∧ ∀ b, b < w.heap.size → ¬ M b → w'.heap[b]? = w.heap[b]?
theorem RM.refl (M : Nat → Prop) (w : World) : RM M w w := ⟨Nat.le_refl _, fun _ _ _ => rfl⟩
theorem RM.trans {M : Nat → Prop} {a b c : World} (h : RM M a b) (k : RM M b c) : RM M a c := ⟨Nat.le_trans h.1 k.1, fun x hx hn => (k.2 x (Nat.lt_of_lt_of_le hx h.1) hn).trans (h.2 x hx hn)⟩
theorem RM.below {M : Nat → Prop} {w w' : World} (h : Below w.heap.size w w') : RM M w w' := ⟨h.size, fun b hb _ => h.block b hb⟩
theorem RM.grown {M : Nat → Prop} {w w' : World} {T : Nat} (h : w.grownBy w' (some T)) (hT : M T) : RM M w w' := ⟨h.size, fun b hb hn => h.block b hb (fun e => by injection e with e; subst e; exact hn hT)⟩
theorem RM.alloc (M : Nat → Prop) (w : World) (o : Obj) : RM M w (w.alloc o) := ⟨by simp, fun b hb _ => Below.heap_alloc w o b hb⟩
theorem RM.ro {M : Nat → Prop} {w w' : World} (h : RM M w w') {S : World → Prop} (hs : Ro w M S) : Ro w' M S := hs.step h.1 h.2 (fun _ _ h => h)
/-- each class of values stays as the world goes on -/
def Stays (M : Nat → Prop) (sp : SpW) : Prop := ∀ d V, sp d = some V → ∀ u w w', RM M w w' → V u w → V u w'
/-- the classes as a list -/
def spL (l : List (Tmp × (Value → World → Prop))) : SpW := fun d => (l.find? fun p => p.1 == d).map (·.2)
theorem stays_nil (M : Nat → Prop) : Stays M (spL []) := fun d V h => nomatch h
theorem stays_cons {M : Nat → Prop} {d : Tmp} {V : Value → World → Prop} {l : List (Tmp × (Value → World → Prop))} (h : ∀ u w w', RM M w w' → V u w → V u w') (hl : Stays M (spL l)) : Stays M (spL ((d, V) :: l)) := fun t V' hV => by
  unfold spL at hV
  rw [List.find?_cons] at hV
  split at hV
  · simp only [Option.map_some, Option.some.injEq] at hV
    subst hV
    exact h
  · exact hl t V' hV
theorem GW_off {sp : SpW} {d : Option Tmp} {u : Value} {w : World} (h : d.bind sp = none) : GW sp d u w := by unfold GW; rw [h]; trivial
theorem GW_on {sp : SpW} {d : Tmp} {V : Value → World → Prop} (h : sp d = some V) {u : Value} {w : World} : GW sp (some d) u w ↔ V u w := by unfold GW; simp only [Option.bind_some, h]
def offW (ops : Array Oper) (S0 : Array Bool) (sp : SpW) : Bool := (List.range ops.size).all fun j => !S0.getD j false || (((ops[j]?).bind (·.dst)).bind sp).isNone
theorem offW_h {ops : Array Oper} {S0 : Array Bool} {sp : SpW} (h : offW ops S0 sp = true) {j : Nat} {o : Oper} (ho : ops[j]? = some o) (hs : S0.getD j false = true) {u : Value} {w : World} : GW sp o.dst u w := by
  have h1 := List.all_eq_true.1 h j (List.mem_range.2 (Array.getElem?_eq_some_iff.1 ho).1)
  simp only [hs, Bool.not_true, Bool.false_or, ho, Option.bind_some] at h1
  exact GW_off (Option.isNone_iff_eq_none.1 h1)

/-- the class: the items hold, and from the region's start w1 nothing but them and new blocks turned -/
def HC (M : Nat → Prop) (row : Option Nat) (w0 w1 : World) (L : List Hp) (w : World) : Prop := Hold M row w0 w L ∧ RM (Mut M L) w1 w
section
variable {P : Program} {M : Nat → Prop} {row : Option Nat} {w0 w1 : World} {L : List Hp} {sp : SpW} {F : Act → Prop} {S0 : Array Bool}
theorem wpAny_hold {Q : Exit → Act → World → Prop} {a : Act} {w : World} {l : List Oper} (n N : Nat) (L : List Hp) (sp : SpW) {fuel : Nat}
    (hB : relB l.toArray S0 n N = true) (hO : offW l.toArray S0 sp = true) (hf : fuel = unl n S0 + (l.length - n)) (hN : a.tmps.size = N) (hs : Stays (Mut M L) sp) (hC : Hold M row w0 w L)
    (h : wpRel P l.toArray (HC M row w0 w L) (GW sp) (RM (Mut M L)) S0 (fun a' => ∀ w', Hold M row w0 w' L → RM (Mut M L) w w' → (∀ j oj, l[j]? = some oj → j < n → GW sp oj.dst (slot a' oj.dst) w') → wpList P l.toArray Q (l.drop n) a' w') 0 (l.take n) a) : wpAny P .any l.toArray Q fuel S0 a w := by
  refine wpAny_rel S0 n N (HC M row w0 w L) (GW sp) (RM (Mut M L)) hB hf hN (fun d u w w' hr hg => ?_) (fun w _ => RM.refl _ w) (fun _ _ => trivial) ⟨hC, RM.refl _ _⟩ (fun j oj hj hs => offW_h hO (by simpa using hj) hs) (wpRel_mono (fun a' hF w' hC' hg => hF w' hC'.1 hC'.2 hg) _ _ _ h)
  unfold GW at hg ⊢
  cases hd : d.bind sp with
  | none => trivial
  | some V =>
    rw [hd] at hg
    obtain ⟨t, rfl, ht⟩ := Option.bind_eq_some_iff.1 hd
    exact hs t V ht u w w' hr hg

theorem wpAny_holdC {Q : Exit → Act → World → Prop} {a : Act} {w : World} {l : List Oper} (n N : Nat) (L : List Hp) (sp : SpW) {fuel : Nat}
    (hB : relC l.toArray S0 n N = true) (hO : offW l.toArray S0 sp = true) (hf : fuel = unl n S0 + (l.length - n)) (hN : a.tmps.size = N) (hs : Stays (Mut M L) sp) (hC : Hold M row w0 w L)
    (h : wpRel P l.toArray (HC M row w0 w L) (GW sp) (RM (Mut M L)) S0 (fun a' => ∀ w', Hold M row w0 w' L → RM (Mut M L) w w' → (∀ j oj, l[j]? = some oj → j < n → GW sp oj.dst (slot a' oj.dst) w') → wpAny P .any l.toArray Q (l.length - n) (headList n l.length) a' w') 0 (l.take n) a) : wpAny P .any l.toArray Q fuel S0 a w := by
  refine wpAny_relC S0 n N (HC M row w0 w L) (GW sp) (RM (Mut M L)) hB hf hN (fun d u w w' hr hg => ?_) (fun w _ => RM.refl _ w) (fun _ _ => trivial) ⟨hC, RM.refl _ _⟩ (fun j oj hj hs => offW_h hO (by simpa using hj) hs) (wpRel_mono (fun a' hF w' hC' hg => hF w' hC'.1 hC'.2 hg) _ _ _ h)
  unfold GW at hg ⊢
  cases hd : d.bind sp with
  | none => trivial
  | some V =>
    rw [hd] at hg
    obtain ⟨t, rfl, ht⟩ := Option.bind_eq_some_iff.1 hd
    exact hs t V ht u w w' hr hg

variable {ops : Array Oper} {o : Oper} {rest : List Oper} {a : Act} {k : Nat}
theorem dw_val (hS : S0.getD k false = false) (hw : Region.wanted o (yielded ops a.tmps) = true) (hoff : o.dst.bind sp = none) (h : ∃ u, (∀ w, Hold M row w0 w L → (execOp a.eval o).run P w = .ok (.value u) w) ∧ wpRel P ops (HC M row w0 w1 L) (GW sp) (RM (Mut M L)) S0 F (k + 1) rest (a.put o.dst u)) : wpRel P ops (HC M row w0 w1 L) (GW sp) (RM (Mut M L)) S0 F k (o :: rest) a :=
  let ⟨u, h1, h2⟩ := h
  rel_val (fun w _ => RM.refl _ w) hS hw u (fun w hC _ => h1 w hC.1) (fun _ _ _ => GW_off hoff) h2
theorem dw_skip (hS : S0.getD k false = false) (hw : Region.wanted o (yielded ops a.tmps) = false) (hoff : o.dst.bind sp = none) (hn : wpRel P ops (HC M row w0 w1 L) (GW sp) (RM (Mut M L)) S0 F (k + 1) rest (a.put o.dst undef)) : wpRel P ops (HC M row w0 w1 L) (GW sp) (RM (Mut M L)) S0 F k (o :: rest) a :=
  rel_skip hS hw (fun _ _ => GW_off hoff) hn
/-- a call of any kind -/
theorem dw_call {f : FuncId} {args : Array Value} (d : Tmp) (V : Value → World → Prop) (hS : S0.getD k false = false) (hw : Region.wanted o (yielded ops a.tmps) = true) (hd : o.dst = some d) (hsp : sp d = some V) (hrun : ∀ w, (execOp a.eval o).run P w = .ok (.enter f args) w)
    (hc : ∀ w, Hold M row w0 w L → Deps ops (GW sp) o a w → Calls P f args w fun e w' => ∃ u, e = .returned u ∧ V u w' ∧ Hold M row w0 w' L ∧ RM (Mut M L) w w') (hn : ∀ u w, Hold M row w0 w L → V u w → wpRel P ops (HC M row w0 w1 L) (GW sp) (RM (Mut M L)) S0 F (k + 1) rest (a.put (some d) u)) : wpRel P ops (HC M row w0 w1 L) (GW sp) (RM (Mut M L)) S0 F k (o :: rest) a :=
  rel_call hS hw f args d hd (fun w _ _ => hrun w) (fun w hC hD => (hc w hC.1 hD).mono fun e' w' ⟨u, h1, h2, h3, h4⟩ => ⟨u, h1, (GW_on hsp).2 h2, ⟨h3, hC.2.trans h4⟩, h4⟩) fun u w hC hu => hn u w hC.1 ((GW_on hsp).1 hu)
/-- a new block: its cells -/
theorem dw_new (cs : Array Value) (t : TypeId) (d : Tmp) (V : Value → World → Prop) (mk : Nat → Value) (hS : S0.getD k false = false) (hw : Region.wanted o (yielded ops a.tmps) = true) (hd : o.dst = some d) (hsp : sp d = some V) (hrun : ∀ w, (execOp a.eval o).run P w = .ok (.value (mk w.heap.size)) (w.alloc (.cells cs t)))
    (hc : ∀ w, Hold M row w0 w L → RM (Mut M L) w1 w → Deps ops (GW sp) o a w → (∀ M', (∀ b, M' b → b < w.heap.size) → Ro (w.alloc (.cells cs t)) M' (fun w' => w'.heap[w.heap.size]? = some (.cells cs t (0, 0)))) → V (mk w.heap.size) (w.alloc (.cells cs t))) (hn : ∀ g w, Hold M row w0 w L → V (mk g) w → wpRel P ops (HC M row w0 w1 L) (GW sp) (RM (Mut M L)) S0 F (k + 1) rest (a.put (some d) (mk g))) : wpRel P ops (HC M row w0 w1 L) (GW sp) (RM (Mut M L)) S0 F k (o :: rest) a :=
  rel_new hS hw (.cells cs t) d hd mk (fun w _ _ => hrun w) (fun w hC hD => ⟨(GW_on hsp).2 (hc w hC.1 hC.2 hD fun M' hM' w2 h1 h2 => (h2 w.heap.size (by simp) (fun hm => Nat.lt_irrefl _ (hM' _ hm))).trans (heap_alloc_new w _)), ⟨(hC.1.alloc_cst cs t).drop (List.sublist_cons_self _ _), hC.2.trans (RM.alloc _ w _)⟩, RM.alloc _ w _⟩) fun g w hC hg => hn g w hC.1 ((GW_on hsp).1 hg)
theorem deps_at {w : World} (h : Deps ops (GW sp) o a w) (j : Nat) {oj : Oper} (hj : ops[j]? = some oj) (he : (o.after.any fun e => Region.binds .any e && e.on == j) = true) {d : Tmp} (hd : oj.dst = some d) {V : Value → World → Prop} (hsp : sp d = some V) : V (slot a (some d)) w := by
  obtain ⟨e, hm, hb⟩ := Array.any_eq_true'.1 he
  simp only [Bool.and_eq_true, beq_iff_eq] at hb
  have := h e hm hb.1 oj (by rw [hb.2]; exact hj)
  rw [hd] at this
  exact (GW_on hsp).1 this
end
section
variable {M : Nat → Prop} {row : Option Nat} {w0 w1 : World} {L : List Hp} {sp : SpW} {F : Act → Prop} {S0 : Array Bool} {ops : Array Oper} {o : Oper} {rest : List Oper} {a : Act} {k : Nat} {T : Nat}
theorem dw_next (n : Nat) (i : Nat) (hi : L[i]? = some (.tp T)) (d : Tmp) (hS : S0.getD k false = false) (hw : Region.wanted o (yielded ops a.tmps) = true) (hd : o.dst = some d) (hsp : sp d = some (fun u _ => NatB n u))
    (hrun : ∀ w, (execOp a.eval o).run Tryz.prog w = .ok (.enter 43 #[.pointer (some ⟨T, 0, none⟩), .int .i64 n]) w) (hn : ∀ r : Nat, r < n → wpRel Tryz.prog ops (HC M row w0 w1 L) (GW sp) (RM (Mut M L)) S0 F (k + 1) rest (a.put (some d) (.int .i64 r)))
    (hpos : 0 < n := by omega) (hmax : n ≤ 9223372036854775807 := by omega) : wpRel Tryz.prog ops (HC M row w0 w1 L) (GW sp) (RM (Mut M L)) S0 F k (o :: rest) a := by
  refine dw_call d (fun u _ => NatB n u) hS hw hd hsp hrun (fun w HC _ => ?_) (fun u _ _ ⟨r, hr, hu⟩ => by subst hu; exact hn r hr)
  refine (next_any T n w (HC.tp_ i hi) (by omega) (by omega)).mono ?_
  rintro e w5 ⟨r, rfl, r0, r1, t5, g5⟩
  exact ⟨_, rfl, ⟨r.toNat, by omega, by rw [Int.toNat_of_nonneg r0]⟩, Hold.callT HC i hi g5 t5, RM.grown g5 (.inr ⟨_, List.mem_of_getElem? hi, rfl⟩)⟩
end
end Go.Proofs.YtedogodccblfeaaGreatDoor

namespace Go.Proofs.YtedogodccblfeaaGreatDoor
open Go.RowKit
set_option linter.unusedVariables false
set_option linter.unusedSimpArgs false
section
variable {P : Program} {M : Nat → Prop} {row : Option Nat} {w0 w1 : World} {L : List Hp} {sp : SpW} {F : Act → Prop} {S0 : Array Bool}
variable {ops : Array Oper} {o : Oper} {rest : List Oper} {a : Act} {k : Nat}
/-- a call of any kind; what came since the region's start is at hand -/
theorem dw_callR {f : FuncId} {args : Array Value} (d : Tmp) (V : Value → World → Prop) (hS : S0.getD k false = false) (hw : Region.wanted o (yielded ops a.tmps) = true) (hd : o.dst = some d) (hsp : sp d = some V) (hrun : ∀ w, (execOp a.eval o).run P w = .ok (.enter f args) w)
    (hc : ∀ w, Hold M row w0 w L → RM (Mut M L) w1 w → Deps ops (GW sp) o a w → Calls P f args w fun e w' => ∃ u, e = .returned u ∧ V u w' ∧ Hold M row w0 w' L ∧ RM (Mut M L) w w') (hn : ∀ u w, Hold M row w0 w L → V u w → wpRel P ops (HC M row w0 w1 L) (GW sp) (RM (Mut M L)) S0 F (k + 1) rest (a.put (some d) u)) : wpRel P ops (HC M row w0 w1 L) (GW sp) (RM (Mut M L)) S0 F k (o :: rest) a :=
  rel_call hS hw f args d hd (fun w _ _ => hrun w) (fun w hC hD => (hc w hC.1 hC.2 hD).mono fun e' w' ⟨u, h1, h2, h3, h4⟩ => ⟨u, h1, (GW_on hsp).2 h2, ⟨h3, hC.2.trans h4⟩, h4⟩) fun u w hC hu => hn u w hC.1 ((GW_on hsp).1 hu)
end
theorem own_RM {M : Nat → Prop} {b0 : Nat} (hM : ∀ b, M b → b < b0) {w w' : World} (hr : RM M w w') {e : TypeId} {size n : Nat} {v : Value} {xs : List Value} (h : w.ownsRow b0 e size v n xs) : w'.ownsRow b0 e size v n xs := by
  refine ⟨h.1, ?_⟩
  rcases h.2 with hn | ⟨g, cap, cur, hv, hg, hh, rest⟩
  · exact .inl hn
  · exact .inr ⟨g, cap, cur, hv, hg, (hr.2 g (Blk.lt (t := e) (cs := cur) hh) (fun hm => by have := hM g hm; omega)).trans hh, rest⟩
theorem own_base {w : World} {b0 b1 : Nat} (h01 : b0 ≤ b1) {e : TypeId} {size n : Nat} {v : Value} {xs : List Value} (h : w.ownsRow b1 e size v n xs) : w.ownsRow b0 e size v n xs := by
  refine ⟨h.1, ?_⟩
  rcases h.2 with hn | ⟨g, cap, cur, hv, hg, rest⟩
  · exact .inl hn
  · exact .inr ⟨g, cap, cur, hv, Nat.le_trans h01 hg, rest⟩
/-- A row that came since w1, taken in. -/
theorem Hold.addOwn {M : Nat → Prop} {row : Option Nat} {w0 w1 w : World} {L : List Hp} (K1 : Hold M row w0 w1 L) (K : Hold M row w0 w L) (hr : RM (Mut M L) w1 w) {e : TypeId} {size n : Nat} {v : Value} {xs : List Value} (ho : w.ownsRow w1.heap.size e size v n xs) :
    Hold M row w0 w (.own e size v n xs :: L) := by
  have hbase : ∀ b, v.ownBlock = some b → w1.heap.size ≤ b ∧ b < w.heap.size := fun b hf => ho.lt b hf
  have ee : ∀ b, b < w1.heap.size → Mut M (.own e size v n xs :: L) b → Mut M L b := fun b hl hb => by
    rcases mut_cons.1 hb with hf | hm
    · have := (hbase b hf).1; omega
    · exact hm
  refine ⟨K.grow, K.low, fun k hk => ?_, fun k hk b hf => ?_, ⟨fun b hf k hk he => ?_, K.sep⟩⟩
  · rcases List.mem_cons.1 hk with rfl | hk
    · exact own_base K1.grow.size ho
    · have h1 := K1.sat k hk
      have h2 := K.sat k hk
      cases k with
      | blk g' t' cs' => exact h2
      | own e s v n' xs => exact h2
      | tp T =>
        refine ⟨h2.1, fun b hb' => ?_⟩
        have hT : T < w1.heap.size := (K1.fresh _ hk T rfl).2
        rcases mut_cons.1 hb' with hf | hm'
        · have := (hbase b hf).1
          omega
        · exact h2.2 b hm'
      | ro S => exact Ro.step h1 hr.1 hr.2 ee
      | cst g' t' cs' => exact Ro.step h1 hr.1 hr.2 ee
      | ob g' F' => exact h2
  · rcases List.mem_cons.1 hk with rfl | hk
    · have := hbase b hf
      exact ⟨.inl (Nat.le_trans K1.grow.size this.1), this.2⟩
    · exact K.fresh k hk b hf
  · have h1 := (hbase b hf).1
    have h2 := (K1.fresh k hk b he).2
    omega
/-- just that value -/
def IsV (x : Value) (u : Value) (_ : World) : Prop := u = x
theorem isV_mono {M : Nat → Prop} {x : Value} (u : Value) (w w' : World) (_ : RM M w w') (h : IsV x u w) : IsV x u w' := h
end Go.Proofs.YtedogodccblfeaaGreatDoor

namespace Go.Proofs.YtedogodccblfeaaGreatDoor
open Go.RowKit
set_option linter.unusedVariables false
set_option linter.unusedSimpArgs false

theorem fits_val (c : Col) (v : Vl) (hs : v.s.size ≤ maxLen) : Gives 198 #[.agg #[.string c.name, .int .i64 c.ty, .bool c.nn, .bool c.key], .agg #[.int .i64 v.k, .int .i64 v.i, .string v.s]] (.int .i64 (fitsV c v)) := fits_any c.name c.ty c.nn c.key v.k v.i v.s hs
set_option maxHeartbeats 4000000 in
set_option maxRecDepth 100000 in
theorem tfits_any (M : Nat → Prop) (w : World) (hM : ∀ b, M b → b < w.heap.size) (nm : ByteArray) (A : Option Addr) (n c : Nat) (cs : List Col) (B : Option Addr) (m d : Nat) (vs : List Vl) (hD : Ro w M (SlR 4 A n (colCells cs))) (hE : Ro w M (VlsIn B m vs)) (hn : n ≤ 9223372036854775807) (hm : m ≤ 9223372036854775807) (hok : ∀ v ∈ vs, v.ok) :
    Calls Tryz.prog 153 #[.agg #[.string nm, .slice A n c], .slice B m d] w fun e w' => e = .returned (.int .i64 (fitsT cs vs)) ∧ Below w.heap.size w w' := by
  have HL := hid (RdC.of_sl hD.now).len
  have HV := hid hE.now.len
  have K0 := (((Hold.start M w hM).add (hE.less (by simp [Mut]))).add (hD.less (by simp [Mut, Hp.foot]))).alloc_cst #[.string nm, .slice A n c] 49
  have F0 := K0.facts
  simp only [World.size_alloc, World.size_drew, factsL, cellsF, Nat.reduceAdd, List.toList_toArray, List.set_cons_zero, List.set_cons_succ, List.setIfInBounds_toArray, and_true, true_and] at F0
  go_enter Tryz.func153, Tryz.ntmps153
  by_cases hnm : m = n
  · subst hnm
    have hb : ((m : Int) != (m : Int)) = false := by simp
    have HE0 := hid (show fitsT cs vs = fitsL (cs.drop 0) (vs.drop 0) by unfold fitsT; rw [if_pos (by rw [HL.out, HV.out])]; rfl)
    clear hD hE
    go_wp2_with fail
    clear F0
    go_loopw [17] (fun iv wr => ∃ k : Nat, k ≤ m ∧ iv = .int .i64 k ∧ Hid (fitsT cs vs = fitsL (cs.drop k) (vs.drop k)) ∧ Hold M none w wr [.cst w.heap.size 49 #[.string nm, .slice A m c], .ro (SlR 4 A m (colCells cs)), .ro (VlsIn B m vs)]) (fun iv _ => m - (intOf iv).toNat)
    case atStart => exact ⟨0, by omega, rfl, HE0, K0⟩
    case round =>
      clear K0 HE0
      obtain ⟨k, hk, rfl, HE, H⟩ := hrel
      by_cases hlt : k < m
      · have hd : decide ((k : Int) < (m : Int)) = true := by simp; omega
        have k0 : (0 : Int) ≤ (k : Int) := by omega
        have k1 : (k : Int) < (m : Int) := by omega
        obtain ⟨x, hx⟩ := get_col HL.out hlt
        obtain ⟨v, hv⟩ := get_of HV.out hlt
        obtain ⟨g, o, rfl, hgb, c0, c1, c2, c3⟩ := (RdC.of_sl (H.ro 1 rfl).now).at_ hx
        have hvok := hok v (List.mem_of_getElem? hv)
        have HX := hid hx; have HVV := hid hv
        clear hx hv
        have K1 := H.alloc_cst #[.string x.name, .int .i64 x.ty, .bool x.nn, .bool x.key] 147
        obtain ⟨gb, hgb⟩ : ∃ gb, gb = wr.heap.size := ⟨_, rfl⟩
        obtain ⟨KL, hKL⟩ : ∃ KL : List Hp, KL = [Hp.cst wr.heap.size 147 #[.string x.name, .int .i64 x.ty, .bool x.nn, .bool x.key], .cst w.heap.size 49 #[.string nm, .slice (some ⟨g, o, none⟩) m c], .ro (SlR 4 (some ⟨g, o, none⟩) m (colCells cs)), .ro (VlsIn B m vs)] := ⟨_, rfl⟩
        rw [← hKL] at K1
        rw [← hgb] at hKL
        obtain ⟨gv, ov, rfl, _⟩ := (H.ro 2 rfl).now.at_ HVV.out
        have HF : Hid (∀ wv, Hold M none w wv KL → (wv.cell? ⟨gb, 0, none⟩ = some (.string x.name) ∧ wv.cell? ⟨gb, 1, none⟩ = some (.int .i64 x.ty) ∧ wv.cell? ⟨gb, 2, none⟩ = some (.bool x.nn) ∧ wv.cell? ⟨gb, 3, none⟩ = some (.bool x.key)) ∧ gb < wv.heap.size ∧ wv.cell? ⟨gv, ov + k * 3, none⟩ = some (.int .i64 v.k) ∧ wv.cell? ⟨gv, ov + k * 3 + 1, none⟩ = some (.int .i64 v.i) ∧ wv.cell? ⟨gv, ov + k * 3 + 2, none⟩ = some (.string v.s) ∧ gv < wv.heap.size) := hid fun wv HC => by
          rw [hKL] at HC
          have b0 := HC.cst_ 0 rfl
          obtain ⟨gv', ov', e', hl, e0, e1, e2⟩ := (HC.ro 3 rfl).now.at_ HVV.out
          obtain ⟨rfl, rfl⟩ : gv = gv' ∧ ov = ov' := by injection e' with e'; injection e' with a1 a2; exact ⟨a1, a2⟩
          exact ⟨⟨cell_of_row _ _ 0 _ _ _ b0, cell_of_row _ _ 1 _ _ _ b0, cell_of_row _ _ 2 _ _ _ b0, cell_of_row _ _ 3 _ _ _ b0⟩, Blk.lt b0, e0, e1, e2, hl⟩
        go_wp2_with fail
        rw [← hgb]
        have HGB := hid hgb
        have HKL := hid hKL
        clear hgb hKL
        generalize wr.alloc (.cells #[.string x.name, .int .i64 x.ty, .bool x.nn, .bool x.key] 147) = w2 at *
        refine wp_region_any (by kernel_rfl) ?_
        refine wpAny_hold 6 32 (KL) (spL [(27, IsV (.int .i64 (fitsV x v)))]) (by kernel_rfl) (by kernel_rfl) (by kernel_rfl) rfl ?_ (K1.drew) ?_
        · exact stays_cons isV_mono (stays_nil _)
        simp only [List.take_succ_cons, List.take_zero, List.drop_succ_cons, List.drop_zero, Act.put, List.getElem_toArray, List.getElem_cons_zero, List.getElem_cons_succ, List.setIfInBounds_toArray, List.set_cons_succ, List.set_cons_zero]
        refine dw_val rfl rfl rfl ?_; apply Exists.intro; refine ⟨fun wv HC => ?_, ?_⟩
        · obtain ⟨⟨f0, f1, f2, f3⟩, f4, f5, f6, f7, f8⟩ := HF.out _ HC; go_simp <;> rfl
        simp only [Act.put, List.setIfInBounds_toArray, List.set_cons_succ, List.set_cons_zero]
        refine dw_val rfl rfl rfl ?_; apply Exists.intro; refine ⟨fun wv HC => ?_, ?_⟩
        · obtain ⟨⟨f0, f1, f2, f3⟩, f4, f5, f6, f7, f8⟩ := HF.out _ HC; go_simp <;> rfl
        simp only [Act.put, List.setIfInBounds_toArray, List.set_cons_succ, List.set_cons_zero]
        refine dw_val rfl rfl rfl ?_; apply Exists.intro; refine ⟨fun wv HC => ?_, ?_⟩
        · obtain ⟨⟨f0, f1, f2, f3⟩, f4, f5, f6, f7, f8⟩ := HF.out _ HC; go_simp <;> rfl
        simp only [Act.put, List.setIfInBounds_toArray, List.set_cons_succ, List.set_cons_zero]
        refine dw_val rfl rfl rfl ?_; apply Exists.intro; refine ⟨fun wv HC => ?_, ?_⟩
        · obtain ⟨⟨f0, f1, f2, f3⟩, f4, f5, f6, f7, f8⟩ := HF.out _ HC; go_simp <;> rfl
        simp only [Act.put, List.setIfInBounds_toArray, List.set_cons_succ, List.set_cons_zero]
        refine dw_val rfl rfl rfl ?_; apply Exists.intro; refine ⟨fun wv HC => ?_, ?_⟩
        · obtain ⟨⟨f0, f1, f2, f3⟩, f4, f5, f6, f7, f8⟩ := HF.out _ HC; go_simp <;> rfl
        simp only [Act.put, List.setIfInBounds_toArray, List.set_cons_succ, List.set_cons_zero]
        refine dw_callR 27 (IsV (.int .i64 (fitsV x v))) (f := 198) (args := #[.agg #[.string x.name, .int .i64 x.ty, .bool x.nn, .bool x.key], .agg #[.int .i64 v.k, .int .i64 v.i, .string v.s]]) rfl rfl rfl rfl (fun wv => ?_) (fun wv HC hrm hD => ?_) ?_
        · go_simp <;> rfl
        · refine (fits_val x v hvok.2.2 wv).mono ?_
          rintro e w5 ⟨rfl, b5⟩
          exact ⟨_, rfl, rfl, HC.call b5, RM.below b5⟩
        rintro u wx HCx hu
        obtain rfl : u = _ := hu
        clear HCx
        simp only [Act.put, List.setIfInBounds_toArray, List.set_cons_succ, List.set_cons_zero]
        refine rel_nil ?_
        rintro wx2 HX2
        rintro _hrm _HG
        rw [HKL.out] at HX2
        clear _hrm _HG
        by_cases hz : fitsV x v = 0
        · have HN := hid (show fitsT cs vs = fitsL (cs.drop (k + 1)) (vs.drop (k + 1)) by rw [HE.out, fitsL_step HX.out HVV.out hz])
          rw [hz]
          clear hz
          go_wp2_with fail
          go_roundw
          case rel => exact ⟨k + 1, by omega, by go_num, HN, HX2.drop (List.sublist_cons_self _ _)⟩
          case measure => simp [intOf]; omega
        · have HN := hid (show fitsT cs vs = fitsV x v by rw [HE.out, fitsL_bad HX.out HVV.out hz])
          have hz2 : (fitsV x v != 0) = true := by simp [hz]
          clear hz
          go_wp2_with fail
          go_ret
          exact ⟨by rw [HN.out] <;> rfl, HX2.below⟩
      · obtain rfl : k = m := by omega
        have hd : decide ((k : Int) < (k : Int)) = false := by simp
        have HN := hid (show fitsT cs vs = 0 by rw [HE.out, fitsL_end (by rw [HL.out]; exact Nat.le_refl _)])
        go_wp2_with fail
        go_ret
        exact ⟨by rw [HN.out] <;> rfl, H.below⟩
  · have hb : ((m : Int) != (n : Int)) = true := by rw [bne_iff_ne]; omega
    have HF := hid (show fitsT cs vs = 17 by unfold fitsT; rw [if_neg (by rw [HL.out, HV.out]; exact hnm)])
    go_wp2_with fail
    go_ret
    exact ⟨by rw [HF.out] <;> rfl, K0.below⟩
theorem rfits_val (c : Col) (v : Vl) (hs : v.s.size ≤ maxLen) : Gives 142 #[.agg #[.string c.name, .int .i64 c.ty, .bool c.nn, .bool c.key], .agg #[.int .i64 v.k, .int .i64 v.i, .string v.s]] (.int .i64 (fitsV c v)) := rfits_any c.name c.ty c.nn c.key v.k v.i v.s hs
set_option maxHeartbeats 4000000 in
set_option maxRecDepth 100000 in
theorem rtfits_any (M : Nat → Prop) (w : World) (hM : ∀ b, M b → b < w.heap.size) (nm : ByteArray) (A : Option Addr) (n c : Nat) (cs : List Col) (B : Option Addr) (m d : Nat) (vs : List Vl) (hD : Ro w M (SlR 4 A n (colCells cs))) (hE : Ro w M (VlsIn B m vs)) (hn : n ≤ 9223372036854775807) (hm : m ≤ 9223372036854775807) (hok : ∀ v ∈ vs, v.ok) :
    Calls Tryz.prog 73 #[.agg #[.string nm, .slice A n c], .slice B m d] w fun e w' => e = .returned (.int .i64 (fitsT cs vs)) ∧ Below w.heap.size w w' := by
  have HL := hid (RdC.of_sl hD.now).len
  have HV := hid hE.now.len
  have K0 := (((Hold.start M w hM).add (hE.less (by simp [Mut]))).add (hD.less (by simp [Mut, Hp.foot]))).alloc_cst #[.string nm, .slice A n c] 49
  have F0 := K0.facts
  simp only [World.size_alloc, World.size_drew, factsL, cellsF, Nat.reduceAdd, List.toList_toArray, List.set_cons_zero, List.set_cons_succ, List.setIfInBounds_toArray, and_true, true_and] at F0
  go_enter Tryz.func73, Tryz.ntmps73
  by_cases hnm : m = n
  · subst hnm
    have hb : ((m : Int) != (m : Int)) = false := by simp
    have HE0 := hid (show fitsT cs vs = fitsL (cs.drop 0) (vs.drop 0) by unfold fitsT; rw [if_pos (by rw [HL.out, HV.out])]; rfl)
    clear hD hE
    go_wp2_with fail
    clear F0
    go_loopw [17] (fun iv wr => ∃ k : Nat, k ≤ m ∧ iv = .int .i64 k ∧ Hid (fitsT cs vs = fitsL (cs.drop k) (vs.drop k)) ∧ Hold M none w wr [.cst w.heap.size 49 #[.string nm, .slice A m c], .ro (SlR 4 A m (colCells cs)), .ro (VlsIn B m vs)]) (fun iv _ => m - (intOf iv).toNat)
    case atStart => exact ⟨0, by omega, rfl, HE0, K0⟩
    case round =>
      clear K0 HE0
      obtain ⟨k, hk, rfl, HE, H⟩ := hrel
      by_cases hlt : k < m
      · have hd : decide ((k : Int) < (m : Int)) = true := by simp; omega
        have k0 : (0 : Int) ≤ (k : Int) := by omega
        have k1 : (k : Int) < (m : Int) := by omega
        obtain ⟨x, hx⟩ := get_col HL.out hlt
        obtain ⟨v, hv⟩ := get_of HV.out hlt
        obtain ⟨g, o, rfl, hgb, c0, c1, c2, c3⟩ := (RdC.of_sl (H.ro 1 rfl).now).at_ hx
        have hvok := hok v (List.mem_of_getElem? hv)
        have HX := hid hx; have HVV := hid hv
        clear hx hv
        have K1 := H.alloc_cst #[.string x.name, .int .i64 x.ty, .bool x.nn, .bool x.key] 147
        obtain ⟨gb, hgb⟩ : ∃ gb, gb = wr.heap.size := ⟨_, rfl⟩
        obtain ⟨KL, hKL⟩ : ∃ KL : List Hp, KL = [Hp.cst wr.heap.size 147 #[.string x.name, .int .i64 x.ty, .bool x.nn, .bool x.key], .cst w.heap.size 49 #[.string nm, .slice (some ⟨g, o, none⟩) m c], .ro (SlR 4 (some ⟨g, o, none⟩) m (colCells cs)), .ro (VlsIn B m vs)] := ⟨_, rfl⟩
        rw [← hKL] at K1
        rw [← hgb] at hKL
        obtain ⟨gv, ov, rfl, _⟩ := (H.ro 2 rfl).now.at_ HVV.out
        have HF : Hid (∀ wv, Hold M none w wv KL → (wv.cell? ⟨gb, 0, none⟩ = some (.string x.name) ∧ wv.cell? ⟨gb, 1, none⟩ = some (.int .i64 x.ty) ∧ wv.cell? ⟨gb, 2, none⟩ = some (.bool x.nn) ∧ wv.cell? ⟨gb, 3, none⟩ = some (.bool x.key)) ∧ gb < wv.heap.size ∧ wv.cell? ⟨gv, ov + k * 3, none⟩ = some (.int .i64 v.k) ∧ wv.cell? ⟨gv, ov + k * 3 + 1, none⟩ = some (.int .i64 v.i) ∧ wv.cell? ⟨gv, ov + k * 3 + 2, none⟩ = some (.string v.s) ∧ gv < wv.heap.size) := hid fun wv HC => by
          rw [hKL] at HC
          have b0 := HC.cst_ 0 rfl
          obtain ⟨gv', ov', e', hl, e0, e1, e2⟩ := (HC.ro 3 rfl).now.at_ HVV.out
          obtain ⟨rfl, rfl⟩ : gv = gv' ∧ ov = ov' := by injection e' with e'; injection e' with a1 a2; exact ⟨a1, a2⟩
          exact ⟨⟨cell_of_row _ _ 0 _ _ _ b0, cell_of_row _ _ 1 _ _ _ b0, cell_of_row _ _ 2 _ _ _ b0, cell_of_row _ _ 3 _ _ _ b0⟩, Blk.lt b0, e0, e1, e2, hl⟩
        go_wp2_with fail
        rw [← hgb]
        have HGB := hid hgb
        have HKL := hid hKL
        clear hgb hKL
        generalize wr.alloc (.cells #[.string x.name, .int .i64 x.ty, .bool x.nn, .bool x.key] 147) = w2 at *
        refine wp_region_any (by kernel_rfl) ?_
        refine wpAny_hold 6 32 (KL) (spL [(27, IsV (.int .i64 (fitsV x v)))]) (by kernel_rfl) (by kernel_rfl) (by kernel_rfl) rfl ?_ (K1.drew) ?_
        · exact stays_cons isV_mono (stays_nil _)
        simp only [List.take_succ_cons, List.take_zero, List.drop_succ_cons, List.drop_zero, Act.put, List.getElem_toArray, List.getElem_cons_zero, List.getElem_cons_succ, List.setIfInBounds_toArray, List.set_cons_succ, List.set_cons_zero]
        refine dw_val rfl rfl rfl ?_; apply Exists.intro; refine ⟨fun wv HC => ?_, ?_⟩
        · obtain ⟨⟨f0, f1, f2, f3⟩, f4, f5, f6, f7, f8⟩ := HF.out _ HC; go_simp <;> rfl
        simp only [Act.put, List.setIfInBounds_toArray, List.set_cons_succ, List.set_cons_zero]
        refine dw_val rfl rfl rfl ?_; apply Exists.intro; refine ⟨fun wv HC => ?_, ?_⟩
        · obtain ⟨⟨f0, f1, f2, f3⟩, f4, f5, f6, f7, f8⟩ := HF.out _ HC; go_simp <;> rfl
        simp only [Act.put, List.setIfInBounds_toArray, List.set_cons_succ, List.set_cons_zero]
        refine dw_val rfl rfl rfl ?_; apply Exists.intro; refine ⟨fun wv HC => ?_, ?_⟩
        · obtain ⟨⟨f0, f1, f2, f3⟩, f4, f5, f6, f7, f8⟩ := HF.out _ HC; go_simp <;> rfl
        simp only [Act.put, List.setIfInBounds_toArray, List.set_cons_succ, List.set_cons_zero]
        refine dw_val rfl rfl rfl ?_; apply Exists.intro; refine ⟨fun wv HC => ?_, ?_⟩
        · obtain ⟨⟨f0, f1, f2, f3⟩, f4, f5, f6, f7, f8⟩ := HF.out _ HC; go_simp <;> rfl
        simp only [Act.put, List.setIfInBounds_toArray, List.set_cons_succ, List.set_cons_zero]
        refine dw_val rfl rfl rfl ?_; apply Exists.intro; refine ⟨fun wv HC => ?_, ?_⟩
        · obtain ⟨⟨f0, f1, f2, f3⟩, f4, f5, f6, f7, f8⟩ := HF.out _ HC; go_simp <;> rfl
        simp only [Act.put, List.setIfInBounds_toArray, List.set_cons_succ, List.set_cons_zero]
        refine dw_callR 27 (IsV (.int .i64 (fitsV x v))) (f := 142) (args := #[.agg #[.string x.name, .int .i64 x.ty, .bool x.nn, .bool x.key], .agg #[.int .i64 v.k, .int .i64 v.i, .string v.s]]) rfl rfl rfl rfl (fun wv => ?_) (fun wv HC hrm hD => ?_) ?_
        · go_simp <;> rfl
        · refine (rfits_val x v hvok.2.2 wv).mono ?_
          rintro e w5 ⟨rfl, b5⟩
          exact ⟨_, rfl, rfl, HC.call b5, RM.below b5⟩
        rintro u wx HCx hu
        obtain rfl : u = _ := hu
        clear HCx
        simp only [Act.put, List.setIfInBounds_toArray, List.set_cons_succ, List.set_cons_zero]
        refine rel_nil ?_
        rintro wx2 HX2
        rintro _hrm _HG
        rw [HKL.out] at HX2
        clear _hrm _HG
        by_cases hz : fitsV x v = 0
        · have HN := hid (show fitsT cs vs = fitsL (cs.drop (k + 1)) (vs.drop (k + 1)) by rw [HE.out, fitsL_step HX.out HVV.out hz])
          rw [hz]
          clear hz
          go_wp2_with fail
          go_roundw
          case rel => exact ⟨k + 1, by omega, by go_num, HN, HX2.drop (List.sublist_cons_self _ _)⟩
          case measure => simp [intOf]; omega
        · have HN := hid (show fitsT cs vs = fitsV x v by rw [HE.out, fitsL_bad HX.out HVV.out hz])
          have hz2 : (fitsV x v != 0) = true := by simp [hz]
          clear hz
          go_wp2_with fail
          go_ret
          exact ⟨by rw [HN.out] <;> rfl, HX2.below⟩
      · obtain rfl : k = m := by omega
        have hd : decide ((k : Int) < (k : Int)) = false := by simp
        have HN := hid (show fitsT cs vs = 0 by rw [HE.out, fitsL_end (by rw [HL.out]; exact Nat.le_refl _)])
        go_wp2_with fail
        go_ret
        exact ⟨by rw [HN.out] <;> rfl, H.below⟩
  · have hb : ((m : Int) != (n : Int)) = true := by rw [bne_iff_ne]; omega
    have HF := hid (show fitsT cs vs = 17 by unfold fitsT; rw [if_neg (by rw [HL.out, HV.out]; exact hnm)])
    go_wp2_with fail
    go_ret
    exact ⟨by rw [HF.out] <;> rfl, K0.below⟩
end Go.Proofs.YtedogodccblfeaaGreatDoor

namespace Go.Proofs.YtedogodccblfeaaGreatDoor
open Go.RowKit
set_option linter.unusedVariables false
set_option linter.unusedSimpArgs false

theorem bytesEq {a b : ByteArray} (h : a.toList = b.toList) : a = b := Go.WideShapes.bytes_inj (by rw [← ByteArray.toList_eq, ← ByteArray.toList_eq]; exact h)
theorem beqL_no {α : Type} [DecidableEq α] {xs ys : List α} {k : Nat} {x y : α} (hx : xs[k]? = some x) (hy : ys[k]? = some y) (h : x ≠ y) : decide (xs = ys) = false := by
  rw [decide_eq_false_iff_not]
  rintro rfl
  rw [hx] at hy
  exact h (by injection hy)
theorem takeEq_succ {α : Type} {xs ys : List α} {k : Nat} {x y : α} (hx : xs[k]? = some x) (hy : ys[k]? = some y) (h : xs.take k = ys.take k) (he : x = y) : xs.take (k + 1) = ys.take (k + 1) := by
  rw [List.take_add_one, List.take_add_one, hx, hy, h, he]
set_option maxHeartbeats 4000000 in
set_option maxRecDepth 100000 in
theorem eqVls_any (w : World) (A : Option Addr) (n c : Nat) (xs : List Vl) (B : Option Addr) (m d : Nat) (ys : List Vl) (hD : VlsIn A n xs w) (hE : VlsIn B m ys w) (hn : n ≤ 4398046511104) :
    Calls Tryz.prog 148 #[.slice A n c, .slice B m d] w fun e w' => e = .returned (.bool (decide (xs = ys))) ∧ ∃ q, w' = w.drewN q := by
  have HL := hid (show xs.length = n from hD.len)
  have HK := hid (show ys.length = m from hE.len)
  by_cases hnm : n = m
  · subst hnm
    have hb : ((n : Int) != (n : Int)) = false := by simp
    go_enter Tryz.func148, Tryz.ntmps148
    go_wp2_with fail
    go_loopw [13] (fun i wr => ∃ (k q : Nat), k ≤ n ∧ i = .int .i64 k ∧ wr = w.drewN q ∧ Hid (xs.take k = ys.take k)) (fun i _ => n - (intOf i).toNat)
    case atStart => exact ⟨0, 0, by omega, rfl, rfl, hid (by simp)⟩
    case round =>
      obtain ⟨k, q, hk, rfl, rfl, HTK⟩ := hrel
      by_cases hlt : k < n
      · have hd : decide ((k : Int) < (n : Int)) = true := by simp; omega
        have i0 : (0 : Int) ≤ (k : Int) := by omega
        have i1 : (k : Int) < (n : Int) := by omega
        obtain ⟨x, hx⟩ := get_of HL.out hlt
        obtain ⟨y, hy⟩ := get_of HK.out hlt
        obtain ⟨g, o, rfl, hbx, x0, x1, x2⟩ := hD.at_ hx
        obtain ⟨g', o', rfl, hby, y0, y1, y2⟩ := hE.at_ hy
        have HX := hid hx; have HY := hid hy; clear hx hy
        by_cases h0 : x.k = y.k
        · have e0 : (x.k == y.k) = true := by simp [h0]
          by_cases h1 : x.i = y.i
          · have e1 : (x.i == y.i) = true := by simp [h1]
            by_cases h2 : x.s = y.s
            · have e2 : (x.s.toList == y.s.toList) = true := by simp [h2]
              have HXY := hid (show x = y by cases x; cases y; simp_all)
              clear h0 h1 h2
              go_wp2_with fail
              go_quiet (fail)
              go_wp2_with fail
              go_roundw
              case rel => exact ⟨k + 1, q + nq, by omega, by go_num, by first | rfl | exact World.drewN_drewN .., hid (takeEq_succ HX.out HY.out HTK.out HXY.out)⟩
              case measure => simp [intOf]; omega
            · have e2 : (x.s.toList == y.s.toList) = false := by rw [beq_eq_false_iff_ne]; exact fun h => h2 (bytesEq h)
              have HN := hid (beqL_no HX.out HY.out (by intro h; exact h2 (by rw [h])))
              clear h0 h1 h2
              go_wp2_with fail
              go_quiet (fail)
              go_wp2_with fail
              go_ret
              exact ⟨by rw [HN.out] <;> rfl, q + nq, World.drewN_drewN ..⟩
          · have e1 : (x.i == y.i) = false := by simpa using h1
            have HN := hid (beqL_no HX.out HY.out (by intro h; exact h1 (by rw [h])))
            clear h0 h1
            go_wp2_with fail
            go_quiet (fail)
            go_wp2_with fail
            go_ret
            exact ⟨by rw [HN.out] <;> rfl, q + nq, World.drewN_drewN ..⟩
        · have e0 : (x.k == y.k) = false := by simpa using h0
          have HN := hid (beqL_no HX.out HY.out (by intro h; exact h0 (by rw [h])))
          clear h0
          go_wp2_with fail
          go_quiet (fail)
          go_wp2_with fail
          go_ret
          exact ⟨by rw [HN.out] <;> rfl, q + nq, World.drewN_drewN ..⟩
      · obtain rfl : n = k := by omega
        have hd : decide ((n : Int) < (n : Int)) = false := by simp
        have HE := hid (show decide (xs = ys) = true by
          have h := HTK.out
          rw [List.take_of_length_le (by rw [HL.out]; exact Nat.le_refl _), List.take_of_length_le (by rw [HK.out]; exact Nat.le_refl _)] at h
          simp [h])
        go_wp2_with fail
        go_ret
        exact ⟨by rw [HE.out] <;> rfl, q, rfl⟩
  · have hb : ((n : Int) != (m : Int)) = true := by simp; omega
    have HB := hid (show decide (xs = ys) = false by
      rw [decide_eq_false_iff_not]; rintro rfl; have := HL.out; have := HK.out; omega)
    go_enter Tryz.func148, Tryz.ntmps148
    go_wp2_with fail
    go_ret
    exact ⟨by rw [HB.out] <;> rfl, 0, rfl⟩
set_option maxHeartbeats 4000000 in
set_option maxRecDepth 100000 in
theorem eqCols_any (w : World) (A : Option Addr) (n c : Nat) (xs : List Col) (B : Option Addr) (m d : Nat) (ys : List Col) (hD : ColsIn A n xs w) (hE : ColsIn B m ys w) (hn : n ≤ 4398046511104) :
    Calls Tryz.prog 194 #[.slice A n c, .slice B m d] w fun e w' => e = .returned (.bool (decide (xs = ys))) ∧ ∃ q, w' = w.drewN q := by
  have HL := hid (show xs.length = n from (RdC.of_sl hD).len)
  have HK := hid (show ys.length = m from (RdC.of_sl hE).len)
  by_cases hnm : n = m
  · subst hnm
    have hb : ((n : Int) != (n : Int)) = false := by simp
    go_enter Tryz.func194, Tryz.ntmps194
    go_wp2_with fail
    go_loopw [13] (fun i wr => ∃ (k q : Nat), k ≤ n ∧ i = .int .i64 k ∧ wr = w.drewN q ∧ Hid (xs.take k = ys.take k)) (fun i _ => n - (intOf i).toNat)
    case atStart => exact ⟨0, 0, by omega, rfl, rfl, hid (by simp)⟩
    case round =>
      obtain ⟨k, q, hk, rfl, rfl, HTK⟩ := hrel
      by_cases hlt : k < n
      · have hd : decide ((k : Int) < (n : Int)) = true := by simp; omega
        have i0 : (0 : Int) ≤ (k : Int) := by omega
        have i1 : (k : Int) < (n : Int) := by omega
        obtain ⟨x, hx⟩ := get_of HL.out hlt
        obtain ⟨y, hy⟩ := get_of HK.out hlt
        obtain ⟨g, o, rfl, hbx, x0, x1, x2, x3⟩ := (RdC.of_sl hD).at_ hx
        obtain ⟨g', o', rfl, hby, y0, y1, y2, y3⟩ := (RdC.of_sl hE).at_ hy
        have HX := hid hx; have HY := hid hy; clear hx hy
        by_cases h0 : x.name = y.name
        · have e0 : (x.name.toList == y.name.toList) = true := by simp [h0]
          by_cases h1 : x.ty = y.ty
          · have e1 : (x.ty == y.ty) = true := by simp [h1]
            by_cases h2 : x.nn = y.nn
            · have e2 : (x.nn == y.nn) = true := by simp [h2]
              by_cases h3 : x.key = y.key
              · have e3 : (x.key == y.key) = true := by simp [h3]
                have HXY := hid (show x = y by cases x; cases y; simp_all)
                clear h0 h1 h2 h3
                go_wp2_with fail
                go_quiet (fail)
                go_wp2_with fail
                go_roundw
                case rel => exact ⟨k + 1, q + nq, by omega, by go_num, by first | rfl | exact World.drewN_drewN .., hid (takeEq_succ HX.out HY.out HTK.out HXY.out)⟩
                case measure => simp [intOf]; omega
              · have e3 : (x.key == y.key) = false := by simpa using h3
                have HN := hid (beqL_no HX.out HY.out (by intro h; exact h3 (by rw [h])))
                clear h0 h1 h2 h3
                go_wp2_with fail
                go_quiet (fail)
                go_wp2_with fail
                go_ret
                exact ⟨by rw [HN.out] <;> rfl, q + nq, World.drewN_drewN ..⟩
            · have e2 : (x.nn == y.nn) = false := by simpa using h2
              have HN := hid (beqL_no HX.out HY.out (by intro h; exact h2 (by rw [h])))
              clear h0 h1 h2
              go_wp2_with fail
              go_quiet (fail)
              go_wp2_with fail
              go_ret
              exact ⟨by rw [HN.out] <;> rfl, q + nq, World.drewN_drewN ..⟩
          · have e1 : (x.ty == y.ty) = false := by simpa using h1
            have HN := hid (beqL_no HX.out HY.out (by intro h; exact h1 (by rw [h])))
            clear h0 h1
            go_wp2_with fail
            go_quiet (fail)
            go_wp2_with fail
            go_ret
            exact ⟨by rw [HN.out] <;> rfl, q + nq, World.drewN_drewN ..⟩
        · have e0 : (x.name.toList == y.name.toList) = false := by rw [beq_eq_false_iff_ne]; exact fun h => h0 (bytesEq h)
          have HN := hid (beqL_no HX.out HY.out (by intro h; exact h0 (by rw [h])))
          clear h0
          go_wp2_with fail
          go_quiet (fail)
          go_wp2_with fail
          go_ret
          exact ⟨by rw [HN.out] <;> rfl, q + nq, World.drewN_drewN ..⟩
      · obtain rfl : n = k := by omega
        have hd : decide ((n : Int) < (n : Int)) = false := by simp
        have HE := hid (show decide (xs = ys) = true by
          have h := HTK.out
          rw [List.take_of_length_le (by rw [HL.out]; exact Nat.le_refl _), List.take_of_length_le (by rw [HK.out]; exact Nat.le_refl _)] at h
          simp [h])
        go_wp2_with fail
        go_ret
        exact ⟨by rw [HE.out] <;> rfl, q, rfl⟩
  · have hb : ((n : Int) != (m : Int)) = true := by simp; omega
    have HB := hid (show decide (xs = ys) = false by
      rw [decide_eq_false_iff_not]; rintro rfl; have := HL.out; have := HK.out; omega)
    go_enter Tryz.func194, Tryz.ntmps194
    go_wp2_with fail
    go_ret
    exact ⟨by rw [HB.out] <;> rfl, 0, rfl⟩
end Go.Proofs.YtedogodccblfeaaGreatDoor

namespace Go.Proofs.YtedogodccblfeaaGreatDoor
open Go.RowKit
set_option linter.unusedVariables false
set_option linter.unusedSimpArgs false

theorem vl_ext {x y : Vl} (h0 : x.k = y.k) (h1 : x.i = y.i) (h2 : x.s = y.s) : x = y := by
  obtain ⟨a, b, c⟩ := x; obtain ⟨d, e, f⟩ := y; simp only at h0 h1 h2; rw [h0, h1, h2]
end Go.Proofs.YtedogodccblfeaaGreatDoor

namespace Go.Proofs.YtedogodccblfeaaGreatDoor
open Go.RowKit Go.Maps
set_option linter.unusedVariables false

/-- Keys of one type, said by plain data. -/
structure KeyFam (P : Program) (k : TypeId) (κ : Type) where
  val : κ → Value
  ok : κ → Prop
  key : ∀ x, ok x → ∃ kl, keyOf P k (val x) = some kl
  inj : ∀ x y, val x = val y → x = y
/-- The map's type: key, element, its laws. -/
structure SetT (P : Program) (t k e : TypeId) : Prop where
  ht : P.underlying t = some (.map k e)
  he : P.underlying e = some .bool
  hz : ∀ w : World, (zeroValue e).run P w = .ok (.bool false) w
  law : Keyed P k
/-- Block b is a map that says true at the keys of S, and at no other. -/
def MSet {P : Program} {k : TypeId} {κ : Type} (e : TypeId) (F : KeyFam P k κ) (b n : Nat) (S : κ → Prop) (w : World) : Prop :=
  ∃ D : DataW Unit, w.ownsMap P k (plainElem P e) b n D ∧ ∀ x, F.ok x → ∀ kl, keyOf P k (F.val x) = some kl → ∃ c : Bool, D.atKey kl (.lit (.bool false)) = .lit (.bool c) ∧ (c = true ↔ S x)
section
variable {P : Program} {t k e : TypeId} {κ : Type} {F : KeyFam P k κ} {b n : Nat} {S : κ → Prop} {w w' : World}
theorem MSet.stay (h : MSet e F b n S w) (hb : w'.heap[b]? = w.heap[b]?) : MSet e F b n S w' := by
  obtain ⟨D, ⟨es, clock, h1, h2⟩, h3⟩ := h
  exact ⟨D, ⟨es, clock, hb.trans h1, h2⟩, h3⟩
theorem MSet.made (e : TypeId) (F : KeyFam P k κ) (w : World) (h : w.heap[b]? = some (.map #[] 0)) : MSet e F b 0 (fun _ => False) w := by
  have h0 := World.ownsMap_made w P k (plainElem (H := Unit) P e)
  obtain ⟨es, clock, h1, h2⟩ := h0
  have h3 : (w.alloc (.map #[] 0)).heap[w.heap.size]? = some (.map #[] 0) := heap_alloc_new w _
  rw [h3] at h1
  injection h1 with h1
  injection h1 with h4 h5
  subst h4 h5
  refine ⟨.map [], ⟨#[], 0, h, h2⟩, fun x _ kl _ => ⟨false, rfl, by simp⟩⟩
theorem plainElem_bool_inv {H : Type} (he : P.underlying e = some .bool) {v : Value} {z : DataW H × List MemPlace} (h : plainElem P e v = some z) : ∃ c, v = .bool c ∧ z = (.lit (.bool c), []) := by
  unfold plainElem at h
  rw [he] at h
  cases v <;> simp at h
  subst h
  exact ⟨_, rfl, rfl⟩
/-- m[x] -/
theorem MSet.look (T : SetT P t k e) (h : MSet e F b n S w) {x : κ} (hx : F.ok x) : ∃ c : Bool, (Instr.lookup t (.map (some b)) (F.val x) false).run P w = .ok (.bool c) w ∧ (c = true ↔ S x) := by
  obtain ⟨D, h1, h2⟩ := h
  obtain ⟨kl, hk⟩ := F.key x hx
  obtain ⟨c, h3, h4⟩ := h2 x hx kl hk
  obtain ⟨v, ps, hrun, hv⟩ := h1.lookup T.law T.ht (T.hz w) (plainElem_bool T.he false) hk
  obtain ⟨c', rfl, h5⟩ := plainElem_bool_inv T.he hv
  rw [h3] at h5
  injection h5 with h5
  injection h5 with h5
  injection h5 with h5
  subst h5
  exact ⟨c, hrun, h4⟩
/-- m[x] = true -/
theorem MSet.put (T : SetT P t k e) (h : MSet e F b n S w) {x : κ} (hx : F.ok x) (hn : n < maxLen) : ∃ w', (Instr.mapUpdate t (.map (some b)) (F.val x) (.bool true)).run P w = .ok () w' ∧ MSet e F b (n + 1) (fun y => y = x ∨ S y) w' ∧ w.grownBy w' (some b) := by
  obtain ⟨D, h1, h2⟩ := h
  obtain ⟨kl, hk⟩ := F.key x hx
  obtain ⟨w', hrun, h3, h4⟩ := h1.update T.law T.ht hn hk (plainElem_bool T.he true)
  refine ⟨w', hrun, ⟨_, h3, fun y hy kl' hk' => ?_⟩, h4⟩
  by_cases hxy : y = x
  · subst hxy
    rw [hk] at hk'
    injection hk' with hk'
    subst hk'
    refine ⟨true, ?_, by simp⟩
    have hD : IsMap D := by
      obtain ⟨es, clock, _, _, _, rfl⟩ := h1
      exact ⟨_, rfl⟩
    rw [atKey_put_same hD (T.law.key hk)]
  · have hne : kl' ≠ kl := fun e => by
      subst e
      exact hxy (F.inj _ _ (T.law.inj hk' hk))
    obtain ⟨c, h5, h6⟩ := h2 y hy kl' hk'
    exact ⟨c, by rw [atKey_put_other hne]; exact h5, by rw [h6]; simp [hxy]⟩
end
section
variable {P : Program} {M : Nat → Prop} {row : Option Nat} {w0 w : World} {L : List Hp} {t k e : TypeId} {κ : Type} {F : KeyFam P k κ} {b n : Nat} {S : κ → Prop}
theorem Hold.mset (K : Hold M row w0 w L) (e : TypeId) (F : KeyFam P k κ) : Hold M row w0 (w.alloc (.map #[] 0)) (.ob w.heap.size (MSet e F w.heap.size 0 (fun _ => False)) :: L) :=
  K.allocOb _ _ fun w' hw' => MSet.made e F w' hw'
/-- m[x] at the operation -/
theorem wpList_look (K : Hold M row w0 w L) (i : Nat) (hi : L[i]? = some (.ob b (MSet e F b n S))) (T : SetT P t k e) {ops : Array Oper} {rest : List Oper} {o : Oper} {a : Act} {Q : Exit → Act → World → Prop}
    (hg : o.guard = none) (m x : Operand) (hop : o.op = Op.lookup t m x false) (hm : a.eval m = .map (some b)) (y : κ) (hx : a.eval x = F.val y) (hy : F.ok y)
    (h : ∀ c : Bool, (c = true ↔ S y) → wpList P ops Q rest (a.put o.dst (.bool c)) w) : wpList P ops Q (o :: rest) a w := by
  refine wpList_plain hg fun K' hK' => ?_
  obtain ⟨c, hrun, hc⟩ := (K.ob_ i hi).look T hy
  unfold Oper.wp
  simp [execOp, hop, hm, hx, hrun, Result.andThen]
  exact hK' _ _ (h c hc)
/-- m[x] = true at the operation -/
theorem wpList_put (K : Hold M row w0 w L) (i : Nat) (hi : L[i]? = some (.ob b (MSet e F b n S))) (T : SetT P t k e) {ops : Array Oper} {rest : List Oper} {o : Oper} {a : Act} {Q : Exit → Act → World → Prop}
    (hg : o.guard = none) (m x v : Operand) (hop : o.op = Op.mapUpdate t m x v) (hm : a.eval m = .map (some b)) (y : κ) (hx : a.eval x = F.val y) (hv : a.eval v = .bool true) (hy : F.ok y) (hn : n < maxLen)
    (h : ∀ w', Hold M row w0 w' (L.set i (.ob b (MSet e F b (n + 1) (fun z => z = y ∨ S z)))) → wpList P ops Q rest (a.put o.dst undef) w') : wpList P ops Q (o :: rest) a w := by
  refine wpList_plain hg fun K' hK' => ?_
  obtain ⟨w', hrun, h1, h2⟩ := (K.ob_ i hi).put T hy hn
  unfold Oper.wp
  simp [execOp, hop, hm, hx, hv, hrun, Result.andThen]
  exact hK' _ _ (h w' (K.turnOb i hi h2 fun w2 hw2 => h1.stay hw2))
end
/-- a key of three fields: two numbers and a text -/
theorem keyOf_iis {P : Program} {k : TypeId} {f0 f1 f2 : Field} (hu : P.underlying k = some (.struct #[f0, f1, f2])) (hk : P.keyType k = true) (hc : P.cellsOf k = 3) (hs : 0 < P.types.size) (n0 : (f0.name != "_") = true) (n1 : (f1.name != "_") = true) (n2 : (f2.name != "_") = true)
    (o0 : f0.offset = 0) (o1 : f1.offset = 1) (o2 : f2.offset = 2) (u0 : P.underlying f0.type = some (.int .i64)) (u1 : P.underlying f1.type = some (.int .i64)) (u2 : P.underlying f2.type = some .string) (c0 : P.cellsOf f0.type = 1) (c1 : P.cellsOf f1.type = 1) (c2 : P.cellsOf f2.type = 1)
    {a b : Int} {s : ByteArray} (wa : (Lit.int .i64 a).wf = true) (wb : (Lit.int .i64 b).wf = true) (hl : s.size ≤ maxLen) : ∃ kl, keyOf P k (.agg #[.int .i64 a, .int .i64 b, .string s]) = some kl := by
  obtain ⟨m, hm⟩ : ∃ m, P.types.size = m + 1 := ⟨P.types.size - 1, by omega⟩
  simp [keyOf, hu, hk, Value.formed, hc, hm, Program.keyLits, Value.cells, n0, n1, n2, o0, o1, o2, u0, u1, u2, c0, c1, c2, wa, wb, hl]
end Go.Proofs.YtedogodccblfeaaGreatDoor

namespace Go.Proofs.YtedogodccblfeaaGreatDoor
open Go.RowKit Go.Maps
set_option linter.unusedVariables false
set_option linter.unusedSimpArgs false

theorem Tryz.laidOutV : laidOutB Tryz.prog = true := by kernel_rfl
theorem Tryz.valKeyed : Keyed Tryz.prog 117 := Keyed.of_law (deep_law_laid Tryz.laidOutV (m := 8) (by omega) (of_decide_eq_true (by kernel_rfl)) (by kernel_rfl) (by kernel_rfl))
theorem wf_i64 {x : Int} (h : I64 x) : (Lit.int .i64 x).wf = true := by
  simp [Lit.wf, IntKind.min, IntKind.max, IntKind.signed, IntKind.bits]
  obtain ⟨h1, h2⟩ := h
  omega
theorem keyOf_vl (x : Vl) (h : x.ok) : ∃ kl, keyOf Tryz.prog 117 x.val = some kl :=
  keyOf_iis Tryz.underlying117 (by kernel_rfl) (by kernel_rfl) (of_decide_eq_true (by kernel_rfl)) (by rfl) (by rfl) (by rfl) rfl rfl rfl Tryz.underlying3 Tryz.underlying2 Tryz.underlying9 (by kernel_rfl) (by kernel_rfl) (by kernel_rfl) (wf_i64 h.1) (wf_i64 h.2.1) h.2.2
/-- values as keys -/
def vlFam : KeyFam Tryz.prog 117 Vl where
  val := Vl.val
  ok := Vl.ok
  key := keyOf_vl
  inj := fun x y h => by
    cases x; cases y
    simp [Vl.val] at h
    obtain ⟨rfl, rfl, rfl⟩ := h
    rfl
theorem Tryz.setV : SetT Tryz.prog 208 117 4 := ⟨Tryz.underlying208, Tryz.underlying4, fun w => by kernel_rfl, Tryz.valKeyed⟩
theorem dupF_hit {κ : Nat} {seen : List Vl} {l : List (List Vl)} {j : Nat} {r : List Vl} {v : Vl} (hr : l[j]? = some r) (hv : r[κ]? = some v) (hs : v ∈ seen) : dupF κ seen (l.drop j) = true := by
  rw [drop_cons hr, dupF, if_pos (by omega), Int.toNat_natCast, hv]; simp [hs]
theorem dupF_new {κ : Nat} {seen : List Vl} {l : List (List Vl)} {j : Nat} {r : List Vl} {v : Vl} (hr : l[j]? = some r) (hv : r[κ]? = some v) (hs : v ∉ seen) : dupF κ seen (l.drop j) = dupF κ (v :: seen) (l.drop (j + 1)) := by
  rw [drop_cons hr, dupF, if_pos (by omega), Int.toNat_natCast, hv]; simp [hs]
theorem dupF_skip {κ : Nat} {seen : List Vl} {l : List (List Vl)} {j : Nat} {r : List Vl} (hr : l[j]? = some r) (hv : r.length ≤ κ) : dupF κ seen (l.drop j) = dupF κ seen (l.drop (j + 1)) := by
  rw [drop_cons hr, dupF, if_pos (by omega), Int.toNat_natCast, List.getElem?_eq_none hv]
theorem dupF_end {κ : Int} {seen : List Vl} {l : List (List Vl)} {j : Nat} (h : l.length ≤ j) : dupF κ seen (l.drop j) = false := by rw [List.drop_of_length_le h]; rfl
theorem dupB_eq (cs : List Col) (l : List Rw) : dupB cs (l.map Rw.row) = dupF (findB Col.key cs) [] (l.map Rw.vs) := by
  unfold dupB; rw [List.map_map]; rfl
theorem mem_set (v : Vl) (seen : List Vl) : (fun z => z = v ∨ z ∈ seen) = (fun z => z ∈ v :: seen) := by funext z; simp
set_option maxHeartbeats 4000000 in
set_option maxRecDepth 100000 in
theorem dup_any (M : Nat → Prop) (w : World) (hM : ∀ b, M b → b < w.heap.size) (nm : ByteArray) (A : Option Addr) (n c : Nat) (cs : List Col) (nx : Int) (B : Option Addr) (m d : Nat) (l : List Rw) (hD : Ro w M (SlR 4 A n (colCells cs))) (hE : Ro w M (RwsIn B m l)) (hn : n ≤ 9223372036854775807) (hm : m ≤ 4611686018427387904) (hok : ∀ r ∈ l, r.ok) :
    Calls Tryz.prog 154 #[.agg #[.string nm, .slice A n c, .int .i64 nx, .slice B m d]] w fun e w' => e = .returned (.bool (dupB cs (l.map Rw.row))) ∧ Below w.heap.size w w' := by
  have HL := hid hE.now.len
  have K0 := (((Hold.start M w hM).add (hE.less (by simp [Mut]))).add (hD.less (by simp [Mut, Hp.foot]))).alloc_cst #[.string nm, .slice A n c, .int .i64 nx, .slice B m d] 58
  have F0 := K0.facts
  simp only [World.size_alloc, World.size_drew, factsL, cellsF, Nat.reduceAdd, List.toList_toArray, List.set_cons_zero, List.set_cons_succ, List.setIfInBounds_toArray, and_true, true_and] at F0
  have hmm := @run_makeMap Tryz.prog
  clear hD hE
  go_enter Tryz.func154, Tryz.ntmps154
  go_wp2_with fail
  refine (keycol_any _ _ K0.mutLt nm A n c cs (K0.ro 1 rfl) hn).mono ?_
  rintro e w1 ⟨rfl, b1⟩
  have K1 := K0.call b1
  clear K0 b1 F0
  have F1 := K1.facts
  simp only [World.size_alloc, World.size_drew, factsL, cellsF, Nat.reduceAdd, List.toList_toArray, List.set_cons_zero, List.set_cons_succ, List.setIfInBounds_toArray, and_true, true_and] at F1
  by_cases hneg : findB Col.key cs < 0
  · have hd : decide (findB Col.key cs < 0) = true := by simpa using hneg
    have HB := hid (show dupB cs (l.map Rw.row) = false by rw [dupB_eq]; exact dupF_neg hneg _ _)
    go_wp2_with fail
    go_ret
    exact ⟨by rw [HB.out] <;> rfl, K1.below⟩
  · have hd : decide (findB Col.key cs < 0) = false := by simpa using hneg
    have HB0 := hid (dupB_eq cs l)
    obtain ⟨κ, hκ⟩ := Int.eq_ofNat_of_zero_le (show 0 ≤ findB Col.key cs by omega)
    rw [hκ] at HB0 hd ⊢
    clear hneg hκ
    have KM := Hold.mset K1 4 vlFam
    rw [show (fun _ : Vl => False) = (fun z => z ∈ ([] : List Vl)) by funext z; simp] at KM
    obtain ⟨gm, hgm⟩ : ∃ gm, gm = w1.heap.size := ⟨_, rfl⟩
    rw [← hgm] at KM
    have HGM := hid hgm
    go_wp2_with fail
    rw [← hgm]
    clear hgm K1 F1
    go_loopw [16] (fun iv wr => ∃ (j q : Nat) (seen : List Vl), j ≤ m ∧ iv = .int .i64 j ∧ q ≤ j ∧ Hid (dupF κ [] (l.map Rw.vs) = dupF κ seen ((l.map Rw.vs).drop j)) ∧ Hold M none w wr [.ob gm (MSet 4 vlFam gm q (fun z => z ∈ seen)), .cst w.heap.size 58 #[.string nm, .slice A n c, .int .i64 nx, .slice B m d], .ro (SlR 4 A n (colCells cs)), .ro (RwsIn B m l)]) (fun iv _ => m - (intOf iv).toNat)
    case atStart => exact ⟨0, 0, [], by omega, rfl, by omega, hid rfl, KM⟩
    case round =>
      clear KM
      obtain ⟨j, q, seen, hj, rfl, hq, HS, H⟩ := hrel
      by_cases hlt : j < m
      · have hdd : decide ((j : Int) < (m : Int)) = true := by simp; omega
        have j0 : (0 : Int) ≤ (j : Int) := by omega
        obtain ⟨x, hx⟩ := get_of HL.out hlt
        obtain ⟨g, o, rfl, hgb, c0, c1, hvi⟩ := (H.ro 3 rfl).now.at_ hx
        have hrok := hok x (List.mem_of_getElem? hx)
        have HX := hid (show (l.map Rw.vs)[j]? = some x.vs by simp [hx])
        have HVL := hid (show x.vs.length = x.n from hvi.len)
        have K2 := H.alloc_cst #[.int .i64 x.id, .slice x.A x.n x.c] 119
        clear hx
        have hk0 : decide ((κ : Int) ≥ 0) = true := by simp
        by_cases hkl : κ < x.n
        · have hd2 : decide ((κ : Int) ≥ (x.n : Int)) = false := by simp; omega
          have hd2' : decide ((κ : Int) < (x.n : Int)) = true := by simp; omega
          have k0 : (0 : Int) ≤ (κ : Int) := by omega
          have k1 : (κ : Int) < (x.n : Int) := by omega
          obtain ⟨v, hv⟩ := get_of HVL.out hkl
          obtain ⟨gv, ov, hA, hgv, v0, v1, v2⟩ := hvi.at_ hv
          have hvok := hrok.vs v (List.mem_of_getElem? hv)
          have HV := hid hv; clear hv
          rw [hA] at K2 c1
          by_cases hin : v ∈ seen
          · have HB := hid (show dupB cs (l.map Rw.row) = true by rw [HB0.out, HS.out, dupF_hit HX.out HV.out hin])
            have HIN := hid hin; clear hin
            go_wp2_with (at_lookup; go_must (refine wpList_look K2 1 rfl Tryz.setV rfl (.tmp 25) (.tmp 30) rfl rfl v rfl hvok ?_); intro cb hcb; obtain rfl : cb = true := hcb.2 HIN.out; clear hcb)
            go_ret
            exact ⟨by rw [HB.out] <;> rfl, K2.below⟩
          · have HS2 := hid (show dupF κ [] (l.map Rw.vs) = dupF κ (v :: seen) ((l.map Rw.vs).drop (j + 1)) by rw [HS.out, dupF_new HX.out HV.out hin])
            have HIN := hid hin; clear hin
            go_wp2_with (first
              | (at_lookup; go_must (refine wpList_look K2 1 rfl Tryz.setV rfl (.tmp 25) (.tmp 30) rfl rfl v rfl hvok ?_); intro cb hcb; obtain rfl : cb = false := (by cases cb; rfl; exact absurd (hcb.1 rfl) HIN.out); clear hcb)
              | (at_mapUpdate; go_must (refine wpList_put K2 1 rfl Tryz.setV rfl (.tmp 32) (.tmp 37) _ rfl rfl v rfl rfl hvok (by unfold maxLen; omega) ?_); intro w5 K5))
            have K6 := K5.drop (List.sublist_cons_self _ _)
            rw [mem_set] at K6
            go_roundw
            case rel => exact ⟨j + 1, q + 1, v :: seen, by omega, by go_num, by omega, HS2, K6⟩
            case measure => simp [intOf]; omega
        · have hd2 : decide ((κ : Int) ≥ (x.n : Int)) = true := by simp; omega
          have hd2' : decide ((κ : Int) < (x.n : Int)) = false := by simp; omega
          have HS2 := hid (show dupF κ [] (l.map Rw.vs) = dupF κ seen ((l.map Rw.vs).drop (j + 1)) by rw [HS.out, dupF_skip HX.out (by rw [HVL.out]; omega)])
          go_wp2_with fail
          go_roundw
          case rel => exact ⟨j + 1, q, seen, by omega, by go_num, by omega, HS2, K2.drop (List.sublist_cons_self _ _)⟩
          case measure => simp [intOf]; omega
      · obtain rfl : j = m := by omega
        have hdd : decide ((j : Int) < (j : Int)) = false := by simp
        have HB := hid (show dupB cs (l.map Rw.row) = false by rw [HB0.out, HS.out, dupF_end (by rw [List.length_map, HL.out]; exact Nat.le_refl _)])
        go_wp2_with fail
        go_ret
        exact ⟨by rw [HB.out] <;> rfl, H.below⟩
set_option maxHeartbeats 4000000 in
set_option maxRecDepth 100000 in
theorem rdup_any (M : Nat → Prop) (w : World) (hM : ∀ b, M b → b < w.heap.size) (nm : ByteArray) (A : Option Addr) (n c : Nat) (cs : List Col) (nx : Int) (B : Option Addr) (m d : Nat) (l : List Rw) (hD : Ro w M (SlR 4 A n (colCells cs))) (hE : Ro w M (RwsIn B m l)) (hn : n ≤ 9223372036854775807) (hm : m ≤ 4611686018427387904) (hok : ∀ r ∈ l, r.ok) :
    Calls Tryz.prog 77 #[.agg #[.string nm, .slice A n c, .int .i64 nx, .slice B m d]] w fun e w' => e = .returned (.bool (dupB cs (l.map Rw.row))) ∧ Below w.heap.size w w' := by
  have HL := hid hE.now.len
  have K0 := (((Hold.start M w hM).add (hE.less (by simp [Mut]))).add (hD.less (by simp [Mut, Hp.foot]))).alloc_cst #[.string nm, .slice A n c, .int .i64 nx, .slice B m d] 58
  have F0 := K0.facts
  simp only [World.size_alloc, World.size_drew, factsL, cellsF, Nat.reduceAdd, List.toList_toArray, List.set_cons_zero, List.set_cons_succ, List.setIfInBounds_toArray, and_true, true_and] at F0
  have hmm := @run_makeMap Tryz.prog
  clear hD hE
  go_enter Tryz.func77, Tryz.ntmps77
  go_wp2_with fail
  refine (rkeycol_any _ _ K0.mutLt nm A n c cs (K0.ro 1 rfl) hn).mono ?_
  rintro e w1 ⟨rfl, b1⟩
  have K1 := K0.call b1
  clear K0 b1 F0
  have F1 := K1.facts
  simp only [World.size_alloc, World.size_drew, factsL, cellsF, Nat.reduceAdd, List.toList_toArray, List.set_cons_zero, List.set_cons_succ, List.setIfInBounds_toArray, and_true, true_and] at F1
  by_cases hneg : findB Col.key cs < 0
  · have hd : decide (findB Col.key cs < 0) = true := by simpa using hneg
    have HB := hid (show dupB cs (l.map Rw.row) = false by rw [dupB_eq]; exact dupF_neg hneg _ _)
    have hd0 : decide (findB Col.key cs ≥ 0) = false := by simpa using hneg
    generalize findB Col.key cs = κ at *
    have KM := Hold.mset K1 4 vlFam
    obtain ⟨gm, hgm⟩ : ∃ gm, gm = w1.heap.size := ⟨_, rfl⟩
    rw [← hgm] at KM
    go_wp2_with fail
    rw [← hgm]
    clear hgm K1 F1
    go_loopw [14] (fun iv wr => ∃ (j : Nat), j ≤ m ∧ iv = .int .i64 j ∧ Hold M none w wr [.ob gm (MSet 4 vlFam gm 0 (fun _ => False)), .cst w.heap.size 58 #[.string nm, .slice A n c, .int .i64 nx, .slice B m d], .ro (SlR 4 A n (colCells cs)), .ro (RwsIn B m l)]) (fun iv _ => m - (intOf iv).toNat)
    case atStart => exact ⟨0, by omega, rfl, KM⟩
    case round =>
      clear KM
      obtain ⟨j, hj, rfl, H⟩ := hrel
      by_cases hlt : j < m
      · have hdd : decide ((j : Int) < (m : Int)) = true := by simp; omega
        have j0 : (0 : Int) ≤ (j : Int) := by omega
        obtain ⟨x, hx⟩ := get_of HL.out hlt
        obtain ⟨g, o, rfl, hgb, c0, c1, hvi⟩ := (H.ro 3 rfl).now.at_ hx
        have K2 := H.alloc_cst #[.int .i64 x.id, .slice x.A x.n x.c] 119
        clear hx
        go_wp2_with fail
        go_roundw
        case rel => exact ⟨j + 1, by omega, by go_num, K2.drop (List.sublist_cons_self _ _)⟩
        case measure => simp [intOf]; omega
      · obtain rfl : j = m := by omega
        have hdd : decide ((j : Int) < (j : Int)) = false := by simp
        go_wp2_with fail
        go_ret
        exact ⟨by rw [HB.out] <;> rfl, H.below⟩
  · have hd : decide (findB Col.key cs < 0) = false := by simpa using hneg
    have HB0 := hid (dupB_eq cs l)
    obtain ⟨κ, hκ⟩ := Int.eq_ofNat_of_zero_le (show 0 ≤ findB Col.key cs by omega)
    rw [hκ] at HB0 hd ⊢
    clear hneg hκ
    have KM := Hold.mset K1 4 vlFam
    rw [show (fun _ : Vl => False) = (fun z => z ∈ ([] : List Vl)) by funext z; simp] at KM
    obtain ⟨gm, hgm⟩ : ∃ gm, gm = w1.heap.size := ⟨_, rfl⟩
    rw [← hgm] at KM
    have HGM := hid hgm
    go_wp2_with fail
    rw [← hgm]
    clear hgm K1 F1
    go_loopw [14] (fun iv wr => ∃ (j q : Nat) (seen : List Vl), j ≤ m ∧ iv = .int .i64 j ∧ q ≤ j ∧ Hid (dupF κ [] (l.map Rw.vs) = dupF κ seen ((l.map Rw.vs).drop j)) ∧ Hold M none w wr [.ob gm (MSet 4 vlFam gm q (fun z => z ∈ seen)), .cst w.heap.size 58 #[.string nm, .slice A n c, .int .i64 nx, .slice B m d], .ro (SlR 4 A n (colCells cs)), .ro (RwsIn B m l)]) (fun iv _ => m - (intOf iv).toNat)
    case atStart => exact ⟨0, 0, [], by omega, rfl, by omega, hid rfl, KM⟩
    case round =>
      clear KM
      obtain ⟨j, q, seen, hj, rfl, hq, HS, H⟩ := hrel
      by_cases hlt : j < m
      · have hdd : decide ((j : Int) < (m : Int)) = true := by simp; omega
        have j0 : (0 : Int) ≤ (j : Int) := by omega
        obtain ⟨x, hx⟩ := get_of HL.out hlt
        obtain ⟨g, o, rfl, hgb, c0, c1, hvi⟩ := (H.ro 3 rfl).now.at_ hx
        have hrok := hok x (List.mem_of_getElem? hx)
        have HX := hid (show (l.map Rw.vs)[j]? = some x.vs by simp [hx])
        have HVL := hid (show x.vs.length = x.n from hvi.len)
        have K2 := H.alloc_cst #[.int .i64 x.id, .slice x.A x.n x.c] 119
        clear hx
        have hk0 : decide ((κ : Int) ≥ 0) = true := by simp
        by_cases hkl : κ < x.n
        · have hd2 : decide ((κ : Int) ≥ (x.n : Int)) = false := by simp; omega
          have hd2' : decide ((κ : Int) < (x.n : Int)) = true := by simp; omega
          have k0 : (0 : Int) ≤ (κ : Int) := by omega
          have k1 : (κ : Int) < (x.n : Int) := by omega
          obtain ⟨v, hv⟩ := get_of HVL.out hkl
          obtain ⟨gv, ov, hA, hgv, v0, v1, v2⟩ := hvi.at_ hv
          have hvok := hrok.vs v (List.mem_of_getElem? hv)
          have HV := hid hv; clear hv
          rw [hA] at K2 c1
          by_cases hin : v ∈ seen
          · have HB := hid (show dupB cs (l.map Rw.row) = true by rw [HB0.out, HS.out, dupF_hit HX.out HV.out hin])
            have HIN := hid hin; clear hin
            go_wp2_with (at_lookup; go_must (refine wpList_look K2 1 rfl Tryz.setV rfl (.tmp 27) (.tmp 32) rfl rfl v rfl hvok ?_); intro cb hcb; obtain rfl : cb = true := hcb.2 HIN.out; clear hcb)
            go_ret
            exact ⟨by rw [HB.out] <;> rfl, K2.below⟩
          · have HS2 := hid (show dupF κ [] (l.map Rw.vs) = dupF κ (v :: seen) ((l.map Rw.vs).drop (j + 1)) by rw [HS.out, dupF_new HX.out HV.out hin])
            have HIN := hid hin; clear hin
            go_wp2_with (first
              | (at_lookup; go_must (refine wpList_look K2 1 rfl Tryz.setV rfl (.tmp 27) (.tmp 32) rfl rfl v rfl hvok ?_); intro cb hcb; obtain rfl : cb = false := (by cases cb; rfl; exact absurd (hcb.1 rfl) HIN.out); clear hcb)
              | (at_mapUpdate; go_must (refine wpList_put K2 1 rfl Tryz.setV rfl (.tmp 34) (.tmp 39) _ rfl rfl v rfl rfl hvok (by unfold maxLen; omega) ?_); intro w5 K5))
            have K6 := K5.drop (List.sublist_cons_self _ _)
            rw [mem_set] at K6
            go_roundw
            case rel => exact ⟨j + 1, q + 1, v :: seen, by omega, by go_num, by omega, HS2, K6⟩
            case measure => simp [intOf]; omega
        · have hd2 : decide ((κ : Int) ≥ (x.n : Int)) = true := by simp; omega
          have hd2' : decide ((κ : Int) < (x.n : Int)) = false := by simp; omega
          have HS2 := hid (show dupF κ [] (l.map Rw.vs) = dupF κ seen ((l.map Rw.vs).drop (j + 1)) by rw [HS.out, dupF_skip HX.out (by rw [HVL.out]; omega)])
          go_wp2_with fail
          go_roundw
          case rel => exact ⟨j + 1, q, seen, by omega, by go_num, by omega, HS2, K2.drop (List.sublist_cons_self _ _)⟩
          case measure => simp [intOf]; omega
      · obtain rfl : j = m := by omega
        have hdd : decide ((j : Int) < (j : Int)) = false := by simp
        have HB := hid (show dupB cs (l.map Rw.row) = false by rw [HB0.out, HS.out, dupF_end (by rw [List.length_map, HL.out]; exact Nat.le_refl _)])
        go_wp2_with fail
        go_ret
        exact ⟨by rw [HB.out] <;> rfl, H.below⟩
end Go.Proofs.YtedogodccblfeaaGreatDoor

namespace Go.Proofs.YtedogodccblfeaaGreatDoor
open Go.RowKit
set_option linter.unusedVariables false
set_option linter.unusedSimpArgs false

set_option maxHeartbeats 4000000 in
theorem rvalidname_any (s : ByteArray) (w : World) (hs : s.size ≤ maxLen) :
    Calls Tryz.prog 170 #[.string s] w fun e w' => e = .returned (.bool (nameB s)) ∧ w = w' := by
  unfold maxLen at hs
  by_cases h1 : s.size < 1
  · have HN := hid (nameB_len0 h1)
    go_enter Tryz.func170, Tryz.ntmps170
    go_wp2
    go_ret
    exact ⟨by rw [HN.out] <;> rfl, rfl⟩
  by_cases h2 : 12 < s.size
  · have HN := hid (nameB_long h2)
    go_enter Tryz.func170, Tryz.ntmps170
    go_wp2
    go_ret
    exact ⟨by rw [HN.out] <;> rfl, rfl⟩
  have p0 : 0 < s.size := by omega
  have p1 : 1 ≤ s.size := by omega
  have p2 : s.size ≤ 12 := by omega
  have hf := hid (first_at s p0)
  have hlt : s[0].toNat < 256 := s[0].toNat_lt
  by_cases h3 : s[0].toNat < 97 ∨ 122 < s[0].toNat
  · have HN := hid (nameB_first hf.out (by simp [letterN]; omega))
    rcases h3 with h3 | h3
    · go_enter Tryz.func170, Tryz.ntmps170
      go_wp2
      go_ret
      exact ⟨by rw [HN.out] <;> rfl, rfl⟩
    · have h97 : 97 ≤ s[0].toNat := by omega
      have d1 : decide ((s[0].toNat : Int) ≤ 122) = false := by simp; omega
      have d0 : decide ((97 : Int) ≤ (s[0].toNat : Int)) = true := by simp; omega
      go_enter Tryz.func170, Tryz.ntmps170
      go_wp2
      go_ret
      exact ⟨by rw [HN.out] <;> rfl, rfl⟩
  have h97 : 97 ≤ s[0].toNat := by omega
  have h122 : s[0].toNat ≤ 122 := by omega
  have hl := hid (show letterN s[0].toNat = true by simp [letterN]; omega)
  clear h3
  have d1 : decide ((s[0].toNat : Int) ≤ 122) = true := by simp; omega
  have d0 : decide ((97 : Int) ≤ (s[0].toNat : Int)) = true := by simp; omega
  go_enter Tryz.func170, Tryz.ntmps170
  go_wp2
  go_loop [3] (fun i => ∃ k : Nat, k ≤ s.size ∧ i = .int .i64 k ∧ (s.data.toList.take k).all (fun c => nameN c.toNat) = true) (fun i => s.size - (intOf i).toNat)
  case atStart => exact ⟨0, by omega, rfl, rfl⟩
  case round =>
    obtain ⟨k, hk, rfl, hall⟩ := hrel
    have HA := hid hall; clear hall
    by_cases hlt : k < s.size
    · have HK := hid (byte_at s hlt)
      have hx : s[k].toNat < 256 := s[k].toNat_lt
      by_cases hcls : (97 ≤ s[k].toNat ∧ s[k].toNat ≤ 122) ∨ (48 ≤ s[k].toNat ∧ s[k].toNat ≤ 57) ∨ s[k].toNat = 95
      · have HN : Hid (nameN s[k].toNat = true) := by
          unfold Hid
          rcases hcls with ⟨a, b⟩ | ⟨a, b⟩ | a
          · exact nameN_letter a b
          · exact nameN_digit a b
          · rw [a]; rfl
        rcases hcls with ⟨a, b⟩ | ⟨a, b⟩ | a
        · have e0 : decide ((97 : Int) ≤ (s[k].toNat : Int)) = true := by simp; omega
          have e1 : decide ((s[k].toNat : Int) ≤ 122) = true := by simp; omega
          go_wp2
          go_round
          case rel => exact ⟨k + 1, by omega, by go_num, all_snoc HK.out HA.out HN.out⟩
          case measure => simp [intOf]; omega
        · have c1 : s[k].toNat < 97 := by omega
          have e0 : decide ((97 : Int) ≤ (s[k].toNat : Int)) = false := by simp; omega
          have e2 : decide ((48 : Int) ≤ (s[k].toNat : Int)) = true := by simp; omega
          have e3 : decide ((s[k].toNat : Int) ≤ 57) = true := by simp; omega
          go_wp2
          go_round
          case rel => exact ⟨k + 1, by omega, by go_num, all_snoc HK.out HA.out HN.out⟩
          case measure => simp [intOf]; omega
        · have c1 : s[k].toNat < 97 := by omega
          have c2 : 57 < s[k].toNat := by omega
          have c3 : ((s[k].toNat : Int) != 95) = false := by rw [bne_eq_false_iff_eq]; omega
          have e0 : decide ((97 : Int) ≤ (s[k].toNat : Int)) = false := by simp; omega
          have e2 : decide ((48 : Int) ≤ (s[k].toNat : Int)) = true := by simp; omega
          have e3 : decide ((s[k].toNat : Int) ≤ 57) = false := by simp; omega
          clear a
          go_wp2
          go_round
          case rel => exact ⟨k + 1, by omega, by go_num, all_snoc HK.out HA.out HN.out⟩
          case measure => simp [intOf]; omega
      · have HN : Hid (nameB s = false) := nameB_bad HK.out (nameN_false (by omega) (by omega) (by omega))
        have c3 : ((s[k].toNat : Int) != 95) = true := by rw [bne_iff_ne]; omega
        have hx : s[k].toNat < 48 ∨ (57 < s[k].toNat ∧ s[k].toNat < 97) ∨ 122 < s[k].toNat := by omega
        clear hcls
        rcases hx with h | ⟨h, h'⟩ | h
        · have e0 : decide ((97 : Int) ≤ (s[k].toNat : Int)) = false := by simp; omega
          have e2 : decide ((48 : Int) ≤ (s[k].toNat : Int)) = false := by simp; omega
          go_wp2
          go_ret
          exact ⟨by rw [HN.out] <;> rfl, rfl⟩
        · have e0 : decide ((97 : Int) ≤ (s[k].toNat : Int)) = false := by simp; omega
          have e2 : decide ((48 : Int) ≤ (s[k].toNat : Int)) = true := by simp; omega
          have e3 : decide ((s[k].toNat : Int) ≤ 57) = false := by simp; omega
          go_wp2
          go_ret
          exact ⟨by rw [HN.out] <;> rfl, rfl⟩
        · have e0 : decide ((97 : Int) ≤ (s[k].toNat : Int)) = true := by simp; omega
          have e1 : decide ((s[k].toNat : Int) ≤ 122) = false := by simp; omega
          have e2 : decide ((48 : Int) ≤ (s[k].toNat : Int)) = true := by simp; omega
          have e3 : decide ((s[k].toNat : Int) ≤ 57) = false := by simp; omega
          go_wp2
          go_ret
          exact ⟨by rw [HN.out] <;> rfl, rfl⟩
    · obtain rfl : k = s.size := by omega
      have HN := hid (nameB_ok p1 p2 hf.out hl.out (all_end HA.out))
      go_wp2
      go_ret
      exact ⟨by rw [HN.out] <;> rfl, rfl⟩
end Go.Proofs.YtedogodccblfeaaGreatDoor

namespace Go.Proofs.YtedogodccblfeaaGreatDoor
open Go.RowKit
set_option linter.unusedVariables false
set_option linter.unusedSimpArgs false

def colOk (l : List Col) (k : Nat) (c : Col) : Bool := nameB c.name && (findB (named c.name) l == (k : Int)) && decide (1 ≤ c.ty) && decide (c.ty ≤ 3) && (!c.key || c.nn)
def schemaB (nm : ByteArray) (l : List Col) : Bool := nameB nm && decide (1 ≤ l.length) && decide (l.length ≤ 6) && okFrom (colOk l) 0 l && decide ((l.filter Col.key).length ≤ 1)
theorem named_self (c : Col) : named c.name c = true := by simp [named]
theorem schemaB_bad {nm : ByteArray} {l : List Col} (h : okFrom (colOk l) 0 l = false) : schemaB nm l = false := by simp [schemaB, h]
theorem schemaB_end {nm : ByteArray} {l : List Col} {n : Nat} (hv : nameB nm = true) (hl : l.length = n) (h1 : 1 ≤ n) (h2 : n ≤ 6) (h : okFrom (colOk l) 0 l = true) : schemaB nm l = decide (((l.filter Col.key).length : Int) ≤ 1) := by
  simp [schemaB, hv, hl, h1, h2, h]; omega
theorem keys_end {l : List Col} {n : Nat} (hl : l.length = n) : ((l.take n).filter Col.key).length = (l.filter Col.key).length := by rw [List.take_of_length_le (by omega)]
theorem keys_le (l : List Col) (k : Nat) : ((l.take k).filter Col.key).length ≤ k := Nat.le_trans (List.length_filter_le _ _) (List.length_take_le _ _)

set_option maxHeartbeats 8000000 in
theorem svalid_any (M : Nat → Prop) (w : World) (hM : ∀ b, M b → b < w.heap.size) (nm : ByteArray) (A : Option Addr) (n c : Nat) (l : List Col) (hD : Ro w M (SlR 4 A n (colCells l))) (hn : n ≤ 9223372036854775807) (hs : nm.size ≤ maxLen) (hok : ∀ x ∈ l, x.name.size ≤ maxLen) :
    Calls Tryz.prog 152 #[.agg #[.string nm, .slice A n c]] w fun e w' => e = .returned (.bool (schemaB nm l)) ∧ Below w.heap.size w w' := by
  have HL := hid (RdC.of_sl hD.now).len
  have K0 := ((Hold.start M w hM).add (hD.less (by simp [Mut]))).alloc_cst #[.string nm, .slice A n c] 49
  cases hv : nameB nm
  · have HN : Hid (schemaB nm l = false) := by unfold Hid; simp [schemaB, hv]
    have HV := hid hv; clear hv
    go_enter Tryz.func152, Tryz.ntmps152
    go_wp2_with fail
    refine (validname_any nm _ hs).mono ?_
    rintro e w1 ⟨rfl, b1⟩
    have K1 := Hold.call (K0) b1
    clear b1
    try simp only [World.size_alloc] at K1
    have F1 := K1.facts
    simp only [World.size_alloc, World.size_drew, factsL, cellsF, Nat.reduceAdd, List.toList_toArray, List.set_cons_zero, List.set_cons_succ, List.setIfInBounds_toArray, and_true, true_and] at F1
    rw [HV.out]
    go_wp2_with fail
    go_ret
    exact ⟨by rw [HN.out] <;> rfl, K1.below⟩
  have HV := hid hv; clear hv
  by_cases h1 : n < 1
  · have HN : Hid (schemaB nm l = false) := by unfold Hid; have := HL.out; simp [schemaB]; intros; omega
    go_enter Tryz.func152, Tryz.ntmps152
    go_wp2_with fail
    refine (validname_any nm _ hs).mono ?_
    rintro e w1 ⟨rfl, b1⟩
    have K1 := Hold.call (K0) b1
    clear b1
    try simp only [World.size_alloc] at K1
    have F1 := K1.facts
    simp only [World.size_alloc, World.size_drew, factsL, cellsF, Nat.reduceAdd, List.toList_toArray, List.set_cons_zero, List.set_cons_succ, List.setIfInBounds_toArray, and_true, true_and] at F1
    rw [HV.out]
    go_wp2_with fail
    go_ret
    exact ⟨by rw [HN.out] <;> rfl, K1.below⟩
  by_cases h6 : 6 < n
  · have HN : Hid (schemaB nm l = false) := by unfold Hid; have := HL.out; simp [schemaB]; intros; omega
    go_enter Tryz.func152, Tryz.ntmps152
    go_wp2_with fail
    refine (validname_any nm _ hs).mono ?_
    rintro e w1 ⟨rfl, b1⟩
    have K1 := Hold.call (K0) b1
    clear b1
    try simp only [World.size_alloc] at K1
    have F1 := K1.facts
    simp only [World.size_alloc, World.size_drew, factsL, cellsF, Nat.reduceAdd, List.toList_toArray, List.set_cons_zero, List.set_cons_succ, List.setIfInBounds_toArray, and_true, true_and] at F1
    rw [HV.out]
    go_wp2_with fail
    go_ret
    exact ⟨by rw [HN.out] <;> rfl, K1.below⟩
  have n1 : 1 ≤ n := by omega
  have n6 : n ≤ 6 := by omega
  go_enter Tryz.func152, Tryz.ntmps152
  go_wp2_with fail
  refine (validname_any nm _ hs).mono ?_
  rintro e w1 ⟨rfl, b1⟩
  have K1 := Hold.call (K0) b1
  clear b1
  try simp only [World.size_alloc] at K1
  have F1 := K1.facts
  simp only [World.size_alloc, World.size_drew, factsL, cellsF, Nat.reduceAdd, List.toList_toArray, List.set_cons_zero, List.set_cons_succ, List.setIfInBounds_toArray, and_true, true_and] at F1
  rw [HV.out]
  go_wp2_with fail
  go_loopw [3, 25] (fun q i wr => ∃ k : Nat, k ≤ n ∧ i = .int .i64 k ∧ q = .int .i64 ((l.take k).filter Col.key).length ∧ okFrom (colOk l) 0 l = okFrom (colOk l) k (l.drop k) ∧ Hold M none w wr [.cst w.heap.size 49 #[.string nm, .slice A n c], .ro (SlR 4 A n (colCells l))]) (fun _ i _ => n - (intOf i).toNat)
  case atStart => exact ⟨0, by omega, rfl, rfl, rfl, K1⟩
  case round =>
    obtain ⟨k, hk, rfl, rfl, hf, H⟩ := hrel
    have HF := hid hf; clear hf F1
    by_cases hlt : k < n
    · obtain ⟨x, hc⟩ := get_col HL.out hlt
      have hx : x.name.size ≤ maxLen := hok x (List.mem_of_getElem? hc)
      have hfl := find_le (named_self x) hc
      have HQ := hid (filter_snoc Col.key hc)
      have hql := keys_le l k
      have hql1 := keys_le l (k + 1)
      obtain ⟨b, o, rfl, hb, c0, c1, c2, c3⟩ := (RdC.of_sl (H.ro 1 rfl).now).at_ hc
      have HOk : Hid (colOk l k x = (nameB x.name && (findB (named x.name) l == (k : Int)) && decide (1 ≤ x.ty) && decide (x.ty ≤ 3) && (!x.key || x.nn))) := rfl
      have HBad : Hid (colOk l k x = false → schemaB nm l = false) := fun h => schemaB_bad (ok_bad HF.out hc h)
      have HGood : Hid (colOk l k x = true → okFrom (colOk l) 0 l = okFrom (colOk l) (k + 1) (l.drop (k + 1))) := fun h => ok_good HF.out hc h
      obtain ⟨nx, ty, nn, key⟩ := x
      simp only at c0 c1 c2 c3 hx hfl
      have HX := hid (find_any M)
      obtain ⟨f, hfe⟩ : ∃ f, f = findB (named nx) l := ⟨_, rfl⟩
      rw [← hfe] at hfl
      have HFE := hid hfe; clear hfe
      obtain ⟨q, hqe⟩ : ∃ q, q = ((l.take k).filter Col.key).length := ⟨_, rfl⟩
      rw [← hqe] at hql
      have HQE := hid hqe
      rw [← hqe]
      clear hqe hc
      simp only at HOk HQ
      rw [← HFE.out] at HOk
      cases hvx : nameB nx
      · have HC : Hid (colOk l k ⟨nx, ty, nn, key⟩ = false) := by unfold Hid; rw [HOk.out, hvx]; rfl
        have HVX := hid hvx; clear hvx
        have KB := H.alloc_cst #[.string nx, .int .i64 ty, .bool nn, .bool key] 147
        go_wp2_with fail
        refine (validname_any nx _ hx).mono ?_
        rintro e w2 ⟨rfl, b2⟩
        have K2 := Hold.call (KB) b2
        clear b2
        try simp only [World.size_alloc] at K2
        have F2 := K2.facts
        simp only [World.size_alloc, World.size_drew, factsL, cellsF, Nat.reduceAdd, List.toList_toArray, List.set_cons_zero, List.set_cons_succ, List.setIfInBounds_toArray, and_true, true_and] at F2
        rw [HVX.out]
        go_wp2_with fail
        go_ret
        exact ⟨by rw [HBad.out HC.out] <;> rfl, K2.below⟩
      have HVX := hid hvx; clear hvx
      by_cases hfk : f < k
      · have HC : Hid (colOk l k ⟨nx, ty, nn, key⟩ = false) := by unfold Hid; rw [HOk.out, show (f == (k : Int)) = false from by rw [beq_eq_false_iff_ne]; omega]; simp
        have KB := H.alloc_cst #[.string nx, .int .i64 ty, .bool nn, .bool key] 147
        go_wp2_with fail
        refine (validname_any nx _ hx).mono ?_
        rintro e w2 ⟨rfl, b2⟩
        have K2 := Hold.call (KB) b2
        clear b2
        try simp only [World.size_alloc] at K2
        have F2 := K2.facts
        simp only [World.size_alloc, World.size_drew, factsL, cellsF, Nat.reduceAdd, List.toList_toArray, List.set_cons_zero, List.set_cons_succ, List.setIfInBounds_toArray, and_true, true_and] at F2
        rw [HVX.out]
        go_wp2_with fail
        refine (find_any (Mut M _) _ K2.mutLt nm _ n c l nx (K2.ro 2 rfl) hn).mono ?_
        rintro e w3 ⟨rfl, b3⟩
        have K3 := Hold.call K2 b3
        clear b3
        rw [← HFE.out]
        have F3 := K3.facts
        simp only [World.size_alloc, World.size_drew, factsL, cellsF, Nat.reduceAdd, List.toList_toArray, List.set_cons_zero, List.set_cons_succ, List.setIfInBounds_toArray, and_true, true_and] at F3
        go_wp2_with fail
        go_ret
        exact ⟨by rw [HBad.out HC.out] <;> rfl, K3.below⟩
      have hfe : f = k := by omega
      have HFK := hid hfe; clear hfe
      by_cases hlo : ty < 1
      · have HC : Hid (colOk l k ⟨nx, ty, nn, key⟩ = false) := by unfold Hid; rw [HOk.out, show decide (1 ≤ ty) = false from by simp; omega]; simp
        have KB := H.alloc_cst #[.string nx, .int .i64 ty, .bool nn, .bool key] 147
        go_wp2_with fail
        refine (validname_any nx _ hx).mono ?_
        rintro e w2 ⟨rfl, b2⟩
        have K2 := Hold.call (KB) b2
        clear b2
        try simp only [World.size_alloc] at K2
        have F2 := K2.facts
        simp only [World.size_alloc, World.size_drew, factsL, cellsF, Nat.reduceAdd, List.toList_toArray, List.set_cons_zero, List.set_cons_succ, List.setIfInBounds_toArray, and_true, true_and] at F2
        rw [HVX.out]
        go_wp2_with fail
        refine (find_any (Mut M _) _ K2.mutLt nm _ n c l nx (K2.ro 2 rfl) hn).mono ?_
        rintro e w3 ⟨rfl, b3⟩
        have K3 := Hold.call K2 b3
        clear b3
        rw [← HFE.out]
        have F3 := K3.facts
        simp only [World.size_alloc, World.size_drew, factsL, cellsF, Nat.reduceAdd, List.toList_toArray, List.set_cons_zero, List.set_cons_succ, List.setIfInBounds_toArray, and_true, true_and] at F3
        go_wp2_with fail
        go_ret
        exact ⟨by rw [HBad.out HC.out] <;> rfl, K3.below⟩
      have hlo1 : 1 ≤ ty := by omega
      by_cases hhi : 3 < ty
      · have HC : Hid (colOk l k ⟨nx, ty, nn, key⟩ = false) := by unfold Hid; rw [HOk.out, show decide (ty ≤ 3) = false from by simp; omega]; simp
        have KB := H.alloc_cst #[.string nx, .int .i64 ty, .bool nn, .bool key] 147
        go_wp2_with fail
        refine (validname_any nx _ hx).mono ?_
        rintro e w2 ⟨rfl, b2⟩
        have K2 := Hold.call (KB) b2
        clear b2
        try simp only [World.size_alloc] at K2
        have F2 := K2.facts
        simp only [World.size_alloc, World.size_drew, factsL, cellsF, Nat.reduceAdd, List.toList_toArray, List.set_cons_zero, List.set_cons_succ, List.setIfInBounds_toArray, and_true, true_and] at F2
        rw [HVX.out]
        go_wp2_with fail
        refine (find_any (Mut M _) _ K2.mutLt nm _ n c l nx (K2.ro 2 rfl) hn).mono ?_
        rintro e w3 ⟨rfl, b3⟩
        have K3 := Hold.call K2 b3
        clear b3
        rw [← HFE.out]
        have F3 := K3.facts
        simp only [World.size_alloc, World.size_drew, factsL, cellsF, Nat.reduceAdd, List.toList_toArray, List.set_cons_zero, List.set_cons_succ, List.setIfInBounds_toArray, and_true, true_and] at F3
        go_wp2_with fail
        go_ret
        exact ⟨by rw [HBad.out HC.out] <;> rfl, K3.below⟩
      have hhi3 : ty ≤ 3 := by omega
      by_cases hkn : key = false ∨ nn = true
      rotate_left
      · obtain ⟨rfl, rfl⟩ : key = true ∧ nn = false := by cases key <;> cases nn <;> simp at hkn ⊢
        have HC : Hid (colOk l k ⟨nx, ty, false, true⟩ = false) := by unfold Hid; rw [HOk.out]; simp
        clear hkn
        have KB := H.alloc_cst #[.string nx, .int .i64 ty, .bool false, .bool true] 147
        go_wp2_with fail
        refine (validname_any nx _ hx).mono ?_
        rintro e w2 ⟨rfl, b2⟩
        have K2 := Hold.call (KB) b2
        clear b2
        try simp only [World.size_alloc] at K2
        have F2 := K2.facts
        simp only [World.size_alloc, World.size_drew, factsL, cellsF, Nat.reduceAdd, List.toList_toArray, List.set_cons_zero, List.set_cons_succ, List.setIfInBounds_toArray, and_true, true_and] at F2
        rw [HVX.out]
        go_wp2_with fail
        refine (find_any (Mut M _) _ K2.mutLt nm _ n c l nx (K2.ro 2 rfl) hn).mono ?_
        rintro e w3 ⟨rfl, b3⟩
        have K3 := Hold.call K2 b3
        clear b3
        rw [← HFE.out]
        have F3 := K3.facts
        simp only [World.size_alloc, World.size_drew, factsL, cellsF, Nat.reduceAdd, List.toList_toArray, List.set_cons_zero, List.set_cons_succ, List.setIfInBounds_toArray, and_true, true_and] at F3
        go_wp2_with fail
        go_ret
        exact ⟨by rw [HBad.out HC.out] <;> rfl, K3.below⟩
      have HC : Hid (colOk l k ⟨nx, ty, nn, key⟩ = true) := by unfold Hid; rw [HOk.out, HVX.out, HFK.out, show decide (1 ≤ ty) = true from by simp; omega, show decide (ty ≤ 3) = true from by simp; omega]; rcases hkn with rfl | rfl <;> simp
      rcases hkn with rfl | rfl
      · have HQ0 : Hid (((l.take (k + 1)).filter Col.key).length = q) := by unfold Hid; rw [HQ.out, HQE.out]; rfl
        have KB := H.alloc_cst #[.string nx, .int .i64 ty, .bool nn, .bool false] 147
        go_wp2_with fail
        refine (validname_any nx _ hx).mono ?_
        rintro e w2 ⟨rfl, b2⟩
        have K2 := Hold.call (KB) b2
        clear b2
        try simp only [World.size_alloc] at K2
        have F2 := K2.facts
        simp only [World.size_alloc, World.size_drew, factsL, cellsF, Nat.reduceAdd, List.toList_toArray, List.set_cons_zero, List.set_cons_succ, List.setIfInBounds_toArray, and_true, true_and] at F2
        rw [HVX.out]
        go_wp2_with fail
        refine (find_any (Mut M _) _ K2.mutLt nm _ n c l nx (K2.ro 2 rfl) hn).mono ?_
        rintro e w3 ⟨rfl, b3⟩
        have K3 := Hold.call K2 b3
        clear b3
        rw [← HFE.out]
        have F3 := K3.facts
        simp only [World.size_alloc, World.size_drew, factsL, cellsF, Nat.reduceAdd, List.toList_toArray, List.set_cons_zero, List.set_cons_succ, List.setIfInBounds_toArray, and_true, true_and] at F3
        go_wp2_with fail
        go_roundw
        case rel => exact ⟨k + 1, by omega, by go_num, by rw [HQ0.out], HGood.out HC.out, K3.drop (List.sublist_cons_self _ _)⟩
        case measure => simp [intOf]; omega
      · cases key
        · have HQ0 : Hid (((l.take (k + 1)).filter Col.key).length = q) := by unfold Hid; rw [HQ.out, HQE.out]; rfl
          have KB := H.alloc_cst #[.string nx, .int .i64 ty, .bool true, .bool false] 147
          go_wp2_with fail
          refine (validname_any nx _ hx).mono ?_
          rintro e w2 ⟨rfl, b2⟩
          have K2 := Hold.call (KB) b2
          clear b2
          try simp only [World.size_alloc] at K2
          have F2 := K2.facts
          simp only [World.size_alloc, World.size_drew, factsL, cellsF, Nat.reduceAdd, List.toList_toArray, List.set_cons_zero, List.set_cons_succ, List.setIfInBounds_toArray, and_true, true_and] at F2
          rw [HVX.out]
          go_wp2_with fail
          refine (find_any (Mut M _) _ K2.mutLt nm _ n c l nx (K2.ro 2 rfl) hn).mono ?_
          rintro e w3 ⟨rfl, b3⟩
          have K3 := Hold.call K2 b3
          clear b3
          rw [← HFE.out]
          have F3 := K3.facts
          simp only [World.size_alloc, World.size_drew, factsL, cellsF, Nat.reduceAdd, List.toList_toArray, List.set_cons_zero, List.set_cons_succ, List.setIfInBounds_toArray, and_true, true_and] at F3
          go_wp2_with fail
          go_roundw
          case rel => exact ⟨k + 1, by omega, by go_num, by rw [HQ0.out], HGood.out HC.out, K3.drop (List.sublist_cons_self _ _)⟩
          case measure => simp [intOf]; omega
        · have HQ0 : Hid (((l.take (k + 1)).filter Col.key).length = q + 1) := by unfold Hid; rw [HQ.out, HQE.out]; rfl
          have KB := H.alloc_cst #[.string nx, .int .i64 ty, .bool true, .bool true] 147
          go_wp2_with fail
          refine (validname_any nx _ hx).mono ?_
          rintro e w2 ⟨rfl, b2⟩
          have K2 := Hold.call (KB) b2
          clear b2
          try simp only [World.size_alloc] at K2
          have F2 := K2.facts
          simp only [World.size_alloc, World.size_drew, factsL, cellsF, Nat.reduceAdd, List.toList_toArray, List.set_cons_zero, List.set_cons_succ, List.setIfInBounds_toArray, and_true, true_and] at F2
          rw [HVX.out]
          go_wp2_with fail
          refine (find_any (Mut M _) _ K2.mutLt nm _ n c l nx (K2.ro 2 rfl) hn).mono ?_
          rintro e w3 ⟨rfl, b3⟩
          have K3 := Hold.call K2 b3
          clear b3
          rw [← HFE.out]
          have F3 := K3.facts
          simp only [World.size_alloc, World.size_drew, factsL, cellsF, Nat.reduceAdd, List.toList_toArray, List.set_cons_zero, List.set_cons_succ, List.setIfInBounds_toArray, and_true, true_and] at F3
          go_wp2_with fail
          go_roundw
          case rel => exact ⟨k + 1, by omega, by go_num, by rw [HQ0.out]; go_num, HGood.out HC.out, K3.drop (List.sublist_cons_self _ _)⟩
          case measure => simp [intOf]; omega
    · obtain rfl : k = n := by omega
      have HN := hid (schemaB_end HV.out HL.out n1 n6 (ok_end HF.out (by rw [HL.out]; omega)))
      have HK := hid (keys_end HL.out)
      have hql := keys_le l k
      obtain ⟨q, hqe⟩ : ∃ q, q = ((l.take k).filter Col.key).length := ⟨_, rfl⟩
      rw [← hqe] at hql HK
      rw [← hqe]
      clear hqe
      go_wp2_with fail
      go_ret
      exact ⟨by rw [HN.out, ← HK.out] <;> rfl, H.below⟩

theorem rvalidname_b (s : ByteArray) (w : World) (hs : s.size ≤ maxLen) : Calls Tryz.prog 170 #[.string s] w fun e w' => e = .returned (.bool (nameB s)) ∧ Below w.heap.size w w' :=
  (rvalidname_any s w hs).mono fun e w' ⟨h1, h2⟩ => ⟨h1, by subst h2; exact Below.refl _ _⟩

set_option maxHeartbeats 8000000 in
theorem rsvalid_any (M : Nat → Prop) (w : World) (hM : ∀ b, M b → b < w.heap.size) (nm : ByteArray) (A : Option Addr) (n c : Nat) (l : List Col) (hD : Ro w M (SlR 4 A n (colCells l))) (hn : n ≤ 9223372036854775807) (hs : nm.size ≤ maxLen) (hok : ∀ x ∈ l, x.name.size ≤ maxLen) :
    Calls Tryz.prog 122 #[.agg #[.string nm, .slice A n c]] w fun e w' => e = .returned (.bool (schemaB nm l)) ∧ Below w.heap.size w w' := by
  have HL := hid (RdC.of_sl hD.now).len
  have K0 := ((Hold.start M w hM).add (hD.less (by simp [Mut]))).alloc_cst #[.string nm, .slice A n c] 49
  cases hv : nameB nm
  · have HN : Hid (schemaB nm l = false) := by unfold Hid; simp [schemaB, hv]
    have HV := hid hv; clear hv
    go_enter Tryz.func122, Tryz.ntmps122
    go_wp2_with fail
    refine (rvalidname_b nm _ hs).mono ?_
    rintro e w1 ⟨rfl, b1⟩
    have K1 := Hold.call (K0) b1
    clear b1
    try simp only [World.size_alloc] at K1
    have F1 := K1.facts
    simp only [World.size_alloc, World.size_drew, factsL, cellsF, Nat.reduceAdd, List.toList_toArray, List.set_cons_zero, List.set_cons_succ, List.setIfInBounds_toArray, and_true, true_and] at F1
    rw [HV.out]
    go_wp2_with fail
    go_ret
    exact ⟨by rw [HN.out] <;> rfl, K1.below⟩
  have HV := hid hv; clear hv
  by_cases h1 : n < 1
  · have HN : Hid (schemaB nm l = false) := by unfold Hid; have := HL.out; simp [schemaB]; intros; omega
    go_enter Tryz.func122, Tryz.ntmps122
    go_wp2_with fail
    refine (rvalidname_b nm _ hs).mono ?_
    rintro e w1 ⟨rfl, b1⟩
    have K1 := Hold.call (K0) b1
    clear b1
    try simp only [World.size_alloc] at K1
    have F1 := K1.facts
    simp only [World.size_alloc, World.size_drew, factsL, cellsF, Nat.reduceAdd, List.toList_toArray, List.set_cons_zero, List.set_cons_succ, List.setIfInBounds_toArray, and_true, true_and] at F1
    rw [HV.out]
    go_wp2_with fail
    go_ret
    exact ⟨by rw [HN.out] <;> rfl, K1.below⟩
  by_cases h6 : 6 < n
  · have HN : Hid (schemaB nm l = false) := by unfold Hid; have := HL.out; simp [schemaB]; intros; omega
    go_enter Tryz.func122, Tryz.ntmps122
    go_wp2_with fail
    refine (rvalidname_b nm _ hs).mono ?_
    rintro e w1 ⟨rfl, b1⟩
    have K1 := Hold.call (K0) b1
    clear b1
    try simp only [World.size_alloc] at K1
    have F1 := K1.facts
    simp only [World.size_alloc, World.size_drew, factsL, cellsF, Nat.reduceAdd, List.toList_toArray, List.set_cons_zero, List.set_cons_succ, List.setIfInBounds_toArray, and_true, true_and] at F1
    rw [HV.out]
    go_wp2_with fail
    go_ret
    exact ⟨by rw [HN.out] <;> rfl, K1.below⟩
  have n1 : 1 ≤ n := by omega
  have n6 : n ≤ 6 := by omega
  go_enter Tryz.func122, Tryz.ntmps122
  go_wp2_with fail
  refine (rvalidname_b nm _ hs).mono ?_
  rintro e w1 ⟨rfl, b1⟩
  have K1 := Hold.call (K0) b1
  clear b1
  try simp only [World.size_alloc] at K1
  have F1 := K1.facts
  simp only [World.size_alloc, World.size_drew, factsL, cellsF, Nat.reduceAdd, List.toList_toArray, List.set_cons_zero, List.set_cons_succ, List.setIfInBounds_toArray, and_true, true_and] at F1
  rw [HV.out]
  go_wp2_with fail
  go_loopw [3, 25] (fun q i wr => ∃ k : Nat, k ≤ n ∧ i = .int .i64 k ∧ q = .int .i64 ((l.take k).filter Col.key).length ∧ okFrom (colOk l) 0 l = okFrom (colOk l) k (l.drop k) ∧ Hold M none w wr [.cst w.heap.size 49 #[.string nm, .slice A n c], .ro (SlR 4 A n (colCells l))]) (fun _ i _ => n - (intOf i).toNat)
  case atStart => exact ⟨0, by omega, rfl, rfl, rfl, K1⟩
  case round =>
    obtain ⟨k, hk, rfl, rfl, hf, H⟩ := hrel
    have HF := hid hf; clear hf F1
    by_cases hlt : k < n
    · obtain ⟨x, hc⟩ := get_col HL.out hlt
      have hx : x.name.size ≤ maxLen := hok x (List.mem_of_getElem? hc)
      have hfl := find_le (named_self x) hc
      have HQ := hid (filter_snoc Col.key hc)
      have hql := keys_le l k
      have hql1 := keys_le l (k + 1)
      obtain ⟨b, o, rfl, hb, c0, c1, c2, c3⟩ := (RdC.of_sl (H.ro 1 rfl).now).at_ hc
      have HOk : Hid (colOk l k x = (nameB x.name && (findB (named x.name) l == (k : Int)) && decide (1 ≤ x.ty) && decide (x.ty ≤ 3) && (!x.key || x.nn))) := rfl
      have HBad : Hid (colOk l k x = false → schemaB nm l = false) := fun h => schemaB_bad (ok_bad HF.out hc h)
      have HGood : Hid (colOk l k x = true → okFrom (colOk l) 0 l = okFrom (colOk l) (k + 1) (l.drop (k + 1))) := fun h => ok_good HF.out hc h
      obtain ⟨nx, ty, nn, key⟩ := x
      simp only at c0 c1 c2 c3 hx hfl
      have HX := hid (find_any M)
      obtain ⟨f, hfe⟩ : ∃ f, f = findB (named nx) l := ⟨_, rfl⟩
      rw [← hfe] at hfl
      have HFE := hid hfe; clear hfe
      obtain ⟨q, hqe⟩ : ∃ q, q = ((l.take k).filter Col.key).length := ⟨_, rfl⟩
      rw [← hqe] at hql
      have HQE := hid hqe
      rw [← hqe]
      clear hqe hc
      simp only at HOk HQ
      rw [← HFE.out] at HOk
      cases hvx : nameB nx
      · have HC : Hid (colOk l k ⟨nx, ty, nn, key⟩ = false) := by unfold Hid; rw [HOk.out, hvx]; rfl
        have HVX := hid hvx; clear hvx
        have KB := H.alloc_cst #[.string nx, .int .i64 ty, .bool nn, .bool key] 147
        go_wp2_with fail
        refine (rvalidname_b nx _ hx).mono ?_
        rintro e w2 ⟨rfl, b2⟩
        have K2 := Hold.call (KB) b2
        clear b2
        try simp only [World.size_alloc] at K2
        have F2 := K2.facts
        simp only [World.size_alloc, World.size_drew, factsL, cellsF, Nat.reduceAdd, List.toList_toArray, List.set_cons_zero, List.set_cons_succ, List.setIfInBounds_toArray, and_true, true_and] at F2
        rw [HVX.out]
        go_wp2_with fail
        go_ret
        exact ⟨by rw [HBad.out HC.out] <;> rfl, K2.below⟩
      have HVX := hid hvx; clear hvx
      by_cases hlo : ty < 1
      · have HC : Hid (colOk l k ⟨nx, ty, nn, key⟩ = false) := by unfold Hid; rw [HOk.out, show decide (1 ≤ ty) = false from by simp; omega]; simp
        have KB := H.alloc_cst #[.string nx, .int .i64 ty, .bool nn, .bool key] 147
        go_wp2_with fail
        refine (rvalidname_b nx _ hx).mono ?_
        rintro e w2 ⟨rfl, b2⟩
        have K2 := Hold.call (KB) b2
        clear b2
        try simp only [World.size_alloc] at K2
        have F2 := K2.facts
        simp only [World.size_alloc, World.size_drew, factsL, cellsF, Nat.reduceAdd, List.toList_toArray, List.set_cons_zero, List.set_cons_succ, List.setIfInBounds_toArray, and_true, true_and] at F2
        rw [HVX.out]
        go_wp2_with fail
        go_ret
        exact ⟨by rw [HBad.out HC.out] <;> rfl, K2.below⟩
      have hlo1 : 1 ≤ ty := by omega
      by_cases hhi : 3 < ty
      · have HC : Hid (colOk l k ⟨nx, ty, nn, key⟩ = false) := by unfold Hid; rw [HOk.out, show decide (ty ≤ 3) = false from by simp; omega]; simp
        have KB := H.alloc_cst #[.string nx, .int .i64 ty, .bool nn, .bool key] 147
        go_wp2_with fail
        refine (rvalidname_b nx _ hx).mono ?_
        rintro e w2 ⟨rfl, b2⟩
        have K2 := Hold.call (KB) b2
        clear b2
        try simp only [World.size_alloc] at K2
        have F2 := K2.facts
        simp only [World.size_alloc, World.size_drew, factsL, cellsF, Nat.reduceAdd, List.toList_toArray, List.set_cons_zero, List.set_cons_succ, List.setIfInBounds_toArray, and_true, true_and] at F2
        rw [HVX.out]
        go_wp2_with fail
        go_ret
        exact ⟨by rw [HBad.out HC.out] <;> rfl, K2.below⟩
      have hhi3 : ty ≤ 3 := by omega
      by_cases hkn : key = false ∨ nn = true
      rotate_left
      · obtain ⟨rfl, rfl⟩ : key = true ∧ nn = false := by cases key <;> cases nn <;> simp at hkn ⊢
        have HC : Hid (colOk l k ⟨nx, ty, false, true⟩ = false) := by unfold Hid; rw [HOk.out]; simp
        clear hkn
        have KB := H.alloc_cst #[.string nx, .int .i64 ty, .bool false, .bool true] 147
        go_wp2_with fail
        refine (rvalidname_b nx _ hx).mono ?_
        rintro e w2 ⟨rfl, b2⟩
        have K2 := Hold.call (KB) b2
        clear b2
        try simp only [World.size_alloc] at K2
        have F2 := K2.facts
        simp only [World.size_alloc, World.size_drew, factsL, cellsF, Nat.reduceAdd, List.toList_toArray, List.set_cons_zero, List.set_cons_succ, List.setIfInBounds_toArray, and_true, true_and] at F2
        rw [HVX.out]
        go_wp2_with fail
        go_ret
        exact ⟨by rw [HBad.out HC.out] <;> rfl, K2.below⟩
      by_cases hfk : f < k
      · have HC : Hid (colOk l k ⟨nx, ty, nn, key⟩ = false) := by unfold Hid; rw [HOk.out, show (f == (k : Int)) = false from by rw [beq_eq_false_iff_ne]; omega]; simp
        have hne : (f != (k : Int)) = true := by rw [bne_iff_ne]; omega
        rcases hkn with rfl | rfl
        · have KB := H.alloc_cst #[.string nx, .int .i64 ty, .bool nn, .bool false] 147
          go_wp2_with fail
          refine (rvalidname_b nx _ hx).mono ?_
          rintro e w2 ⟨rfl, b2⟩
          have K2 := Hold.call (KB) b2
          clear b2
          try simp only [World.size_alloc] at K2
          have F2 := K2.facts
          simp only [World.size_alloc, World.size_drew, factsL, cellsF, Nat.reduceAdd, List.toList_toArray, List.set_cons_zero, List.set_cons_succ, List.setIfInBounds_toArray, and_true, true_and] at F2
          rw [HVX.out]
          go_wp2_with fail
          refine (rfind_any (Mut M _) _ K2.mutLt nm _ n c l nx (K2.ro 2 rfl) hn).mono ?_
          rintro e w3 ⟨rfl, b3⟩
          have K3 := Hold.call K2 b3
          clear b3
          rw [← HFE.out]
          have F3 := K3.facts
          simp only [World.size_alloc, World.size_drew, factsL, cellsF, Nat.reduceAdd, List.toList_toArray, List.set_cons_zero, List.set_cons_succ, List.setIfInBounds_toArray, and_true, true_and] at F3
          go_wp2_with fail
          go_ret
          exact ⟨by rw [HBad.out HC.out] <;> rfl, K3.below⟩
        · cases key
          · have KB := H.alloc_cst #[.string nx, .int .i64 ty, .bool true, .bool false] 147
            go_wp2_with fail
            refine (rvalidname_b nx _ hx).mono ?_
            rintro e w2 ⟨rfl, b2⟩
            have K2 := Hold.call (KB) b2
            clear b2
            try simp only [World.size_alloc] at K2
            have F2 := K2.facts
            simp only [World.size_alloc, World.size_drew, factsL, cellsF, Nat.reduceAdd, List.toList_toArray, List.set_cons_zero, List.set_cons_succ, List.setIfInBounds_toArray, and_true, true_and] at F2
            rw [HVX.out]
            go_wp2_with fail
            refine (rfind_any (Mut M _) _ K2.mutLt nm _ n c l nx (K2.ro 2 rfl) hn).mono ?_
            rintro e w3 ⟨rfl, b3⟩
            have K3 := Hold.call K2 b3
            clear b3
            rw [← HFE.out]
            have F3 := K3.facts
            simp only [World.size_alloc, World.size_drew, factsL, cellsF, Nat.reduceAdd, List.toList_toArray, List.set_cons_zero, List.set_cons_succ, List.setIfInBounds_toArray, and_true, true_and] at F3
            go_wp2_with fail
            go_ret
            exact ⟨by rw [HBad.out HC.out] <;> rfl, K3.below⟩
          · have KB := H.alloc_cst #[.string nx, .int .i64 ty, .bool true, .bool true] 147
            go_wp2_with fail
            refine (rvalidname_b nx _ hx).mono ?_
            rintro e w2 ⟨rfl, b2⟩
            have K2 := Hold.call (KB) b2
            clear b2
            try simp only [World.size_alloc] at K2
            have F2 := K2.facts
            simp only [World.size_alloc, World.size_drew, factsL, cellsF, Nat.reduceAdd, List.toList_toArray, List.set_cons_zero, List.set_cons_succ, List.setIfInBounds_toArray, and_true, true_and] at F2
            rw [HVX.out]
            go_wp2_with fail
            refine (rfind_any (Mut M _) _ K2.mutLt nm _ n c l nx (K2.ro 2 rfl) hn).mono ?_
            rintro e w3 ⟨rfl, b3⟩
            have K3 := Hold.call K2 b3
            clear b3
            rw [← HFE.out]
            have F3 := K3.facts
            simp only [World.size_alloc, World.size_drew, factsL, cellsF, Nat.reduceAdd, List.toList_toArray, List.set_cons_zero, List.set_cons_succ, List.setIfInBounds_toArray, and_true, true_and] at F3
            go_wp2_with fail
            go_ret
            exact ⟨by rw [HBad.out HC.out] <;> rfl, K3.below⟩
      have hfe : f = k := by omega
      have hne : (f != (k : Int)) = false := by rw [bne_eq_false_iff_eq]; omega
      have HFK := hid hfe; clear hfe
      have HC : Hid (colOk l k ⟨nx, ty, nn, key⟩ = true) := by unfold Hid; rw [HOk.out, HVX.out, HFK.out, show decide (1 ≤ ty) = true from by simp; omega, show decide (ty ≤ 3) = true from by simp; omega]; rcases hkn with rfl | rfl <;> simp
      rcases hkn with rfl | rfl
      · have HQ0 : Hid (((l.take (k + 1)).filter Col.key).length = q) := by unfold Hid; rw [HQ.out, HQE.out]; rfl
        have KB := H.alloc_cst #[.string nx, .int .i64 ty, .bool nn, .bool false] 147
        go_wp2_with fail
        refine (rvalidname_b nx _ hx).mono ?_
        rintro e w2 ⟨rfl, b2⟩
        have K2 := Hold.call (KB) b2
        clear b2
        try simp only [World.size_alloc] at K2
        have F2 := K2.facts
        simp only [World.size_alloc, World.size_drew, factsL, cellsF, Nat.reduceAdd, List.toList_toArray, List.set_cons_zero, List.set_cons_succ, List.setIfInBounds_toArray, and_true, true_and] at F2
        rw [HVX.out]
        go_wp2_with fail
        refine (rfind_any (Mut M _) _ K2.mutLt nm _ n c l nx (K2.ro 2 rfl) hn).mono ?_
        rintro e w3 ⟨rfl, b3⟩
        have K3 := Hold.call K2 b3
        clear b3
        rw [← HFE.out]
        have F3 := K3.facts
        simp only [World.size_alloc, World.size_drew, factsL, cellsF, Nat.reduceAdd, List.toList_toArray, List.set_cons_zero, List.set_cons_succ, List.setIfInBounds_toArray, and_true, true_and] at F3
        go_wp2_with fail
        go_roundw
        case rel => exact ⟨k + 1, by omega, by go_num, by rw [HQ0.out], HGood.out HC.out, K3.drop (List.sublist_cons_self _ _)⟩
        case measure => simp [intOf]; omega
      · cases key
        · have HQ0 : Hid (((l.take (k + 1)).filter Col.key).length = q) := by unfold Hid; rw [HQ.out, HQE.out]; rfl
          have KB := H.alloc_cst #[.string nx, .int .i64 ty, .bool true, .bool false] 147
          go_wp2_with fail
          refine (rvalidname_b nx _ hx).mono ?_
          rintro e w2 ⟨rfl, b2⟩
          have K2 := Hold.call (KB) b2
          clear b2
          try simp only [World.size_alloc] at K2
          have F2 := K2.facts
          simp only [World.size_alloc, World.size_drew, factsL, cellsF, Nat.reduceAdd, List.toList_toArray, List.set_cons_zero, List.set_cons_succ, List.setIfInBounds_toArray, and_true, true_and] at F2
          rw [HVX.out]
          go_wp2_with fail
          refine (rfind_any (Mut M _) _ K2.mutLt nm _ n c l nx (K2.ro 2 rfl) hn).mono ?_
          rintro e w3 ⟨rfl, b3⟩
          have K3 := Hold.call K2 b3
          clear b3
          rw [← HFE.out]
          have F3 := K3.facts
          simp only [World.size_alloc, World.size_drew, factsL, cellsF, Nat.reduceAdd, List.toList_toArray, List.set_cons_zero, List.set_cons_succ, List.setIfInBounds_toArray, and_true, true_and] at F3
          go_wp2_with fail
          go_roundw
          case rel => exact ⟨k + 1, by omega, by go_num, by rw [HQ0.out], HGood.out HC.out, K3.drop (List.sublist_cons_self _ _)⟩
          case measure => simp [intOf]; omega
        · have HQ0 : Hid (((l.take (k + 1)).filter Col.key).length = q + 1) := by unfold Hid; rw [HQ.out, HQE.out]; rfl
          have KB := H.alloc_cst #[.string nx, .int .i64 ty, .bool true, .bool true] 147
          go_wp2_with fail
          refine (rvalidname_b nx _ hx).mono ?_
          rintro e w2 ⟨rfl, b2⟩
          have K2 := Hold.call (KB) b2
          clear b2
          try simp only [World.size_alloc] at K2
          have F2 := K2.facts
          simp only [World.size_alloc, World.size_drew, factsL, cellsF, Nat.reduceAdd, List.toList_toArray, List.set_cons_zero, List.set_cons_succ, List.setIfInBounds_toArray, and_true, true_and] at F2
          rw [HVX.out]
          go_wp2_with fail
          refine (rfind_any (Mut M _) _ K2.mutLt nm _ n c l nx (K2.ro 2 rfl) hn).mono ?_
          rintro e w3 ⟨rfl, b3⟩
          have K3 := Hold.call K2 b3
          clear b3
          rw [← HFE.out]
          have F3 := K3.facts
          simp only [World.size_alloc, World.size_drew, factsL, cellsF, Nat.reduceAdd, List.toList_toArray, List.set_cons_zero, List.set_cons_succ, List.setIfInBounds_toArray, and_true, true_and] at F3
          go_wp2_with fail
          go_roundw
          case rel => exact ⟨k + 1, by omega, by go_num, by rw [HQ0.out]; go_num, HGood.out HC.out, K3.drop (List.sublist_cons_self _ _)⟩
          case measure => simp [intOf]; omega
    · obtain rfl : k = n := by omega
      have HN := hid (schemaB_end HV.out HL.out n1 n6 (ok_end HF.out (by rw [HL.out]; omega)))
      have HK := hid (keys_end HL.out)
      have hql := keys_le l k
      obtain ⟨q, hqe⟩ : ∃ q, q = ((l.take k).filter Col.key).length := ⟨_, rfl⟩
      rw [← hqe] at hql HK
      rw [← hqe]
      clear hqe
      go_wp2_with fail
      go_ret
      exact ⟨by rw [HN.out, ← HK.out] <;> rfl, H.below⟩
end Go.Proofs.YtedogodccblfeaaGreatDoor

namespace Go.Proofs.YtedogodccblfeaaGreatDoor
open Go.RowKit
set_option linter.unusedVariables false
set_option linter.unusedSimpArgs false

/-- which tables are valid -/
def tabB (nm : ByteArray) (cs : List Col) (nx : Int) (rs : List Row) : Bool := schemaB nm cs && decide (rs.length ≤ 100) && decide (1 ≤ nx) && decide (nx ≤ 2147483648) && okR cs nx 0 rs && !dupB cs rs
theorem tabB_1 {nm : ByteArray} {cs : List Col} {nx : Int} {rs : List Row} (h : schemaB nm cs = false) : tabB nm cs nx rs = false := by simp [tabB, h]
theorem tabB_2 {nm : ByteArray} {cs : List Col} {nx : Int} {rs : List Row} (h : 100 < rs.length) : tabB nm cs nx rs = false := by
  have : ¬ rs.length ≤ 100 := by omega
  simp [tabB, this]
theorem tabB_3 {nm : ByteArray} {cs : List Col} {nx : Int} {rs : List Row} (h : nx < 1) : tabB nm cs nx rs = false := by
  have : ¬ 1 ≤ nx := by omega
  simp [tabB, this]
theorem tabB_4 {nm : ByteArray} {cs : List Col} {nx : Int} {rs : List Row} (h : 2147483648 < nx) : tabB nm cs nx rs = false := by
  have : ¬ nx ≤ 2147483648 := by omega
  simp [tabB, this]
theorem tabB_5 {nm : ByteArray} {cs : List Col} {nx : Int} {rs : List Row} (h : okR cs nx 0 rs = false) : tabB nm cs nx rs = false := by simp [tabB, h]
theorem tabB_6 {nm : ByteArray} {cs : List Col} {nx : Int} {rs : List Row} (h1 : schemaB nm cs = true) (h2 : rs.length ≤ 100) (h3 : 1 ≤ nx) (h4 : nx ≤ 2147483648) (h5 : okR cs nx 0 rs = true) : tabB nm cs nx rs = !dupB cs rs := by simp [tabB, h1, h2, h3, h4, h5]
theorem okR_bad {cs : List Col} {nx lst : Int} {rs : List Row} {j : Nat} {r : Row} (hr : rs[j]? = some r) (h : r.1 ≤ lst ∨ nx ≤ r.1 ∨ fitsT cs r.2 ≠ 0) : okR cs nx lst (rs.drop j) = false := by
  rw [drop_cons hr, okR]
  rcases h with h | h | h
  · rw [decide_eq_false (show ¬ lst < r.1 by omega)]; rfl
  · rw [decide_eq_false (show ¬ r.1 < nx by omega)]; simp
  · rw [decide_eq_false h]; simp
theorem okR_good {cs : List Col} {nx lst : Int} {rs : List Row} {j : Nat} {r : Row} (hr : rs[j]? = some r) (h1 : lst < r.1) (h2 : r.1 < nx) (h3 : fitsT cs r.2 = 0) : okR cs nx lst (rs.drop j) = okR cs nx r.1 (rs.drop (j + 1)) := by
  rw [drop_cons hr, okR, decide_eq_true h1, decide_eq_true h2, decide_eq_true h3]; rfl
theorem okR_end {cs : List Col} {nx lst : Int} {rs : List Row} {j : Nat} (h : rs.length ≤ j) : okR cs nx lst (rs.drop j) = true := by rw [List.drop_of_length_le h]; rfl
set_option maxHeartbeats 4000000 in
set_option maxRecDepth 100000 in
theorem tvalid_any (M : Nat → Prop) (w : World) (hM : ∀ b, M b → b < w.heap.size) (nm : ByteArray) (A : Option Addr) (n c : Nat) (cs : List Col) (nx : Int) (B : Option Addr) (m d : Nat) (l : List Rw) (hD : Ro w M (SlR 4 A n (colCells cs))) (hE : Ro w M (RwsIn B m l)) (hn : n ≤ 9223372036854775807) (hm : m ≤ 4611686018427387904) (hok : ∀ r ∈ l, r.ok) (hs : nm.size ≤ maxLen) (hcs : ∀ x ∈ cs, x.name.size ≤ maxLen) :
    Calls Tryz.prog 87 #[.agg #[.string nm, .slice A n c, .int .i64 nx, .slice B m d]] w fun e w' => e = .returned (.bool (tabB nm cs nx (l.map Rw.row))) ∧ Below w.heap.size w w' := by
  have HL := hid hE.now.len
  have HML := hid (show (l.map Rw.row).length = m by rw [List.length_map, HL.out])
  have K0 := (((Hold.start M w hM).add (hE.less (by simp [Mut]))).add (hD.less (by simp [Mut, Hp.foot]))).alloc_cst #[.string nm, .slice A n c, .int .i64 nx, .slice B m d] 58
  have F0 := K0.facts
  simp only [World.size_alloc, World.size_drew, factsL, cellsF, Nat.reduceAdd, List.toList_toArray, List.set_cons_zero, List.set_cons_succ, List.setIfInBounds_toArray, and_true, true_and] at F0
  clear hD hE
  go_enter Tryz.func87, Tryz.ntmps87
  go_wp2_with fail
  refine (svalid_any _ _ K0.mutLt nm A n c cs (K0.ro 1 rfl) hn hs hcs).mono ?_
  rintro e w1 ⟨rfl, b1⟩
  have K1 := K0.call b1
  clear K0 b1 F0
  have F1 := K1.facts
  simp only [World.size_alloc, World.size_drew, factsL, cellsF, Nat.reduceAdd, List.toList_toArray, List.set_cons_zero, List.set_cons_succ, List.setIfInBounds_toArray, and_true, true_and] at F1
  cases hsb : schemaB nm cs
  · have HN := hid (show tabB nm cs nx (l.map Rw.row) = false from tabB_1 hsb)
    go_wp2_with fail
    go_ret
    exact ⟨by rw [HN.out] <;> rfl, K1.below⟩
  have HSB := hid hsb; clear hsb
  by_cases h1 : 100 < m
  · have h1d : decide ((m : Int) > 100) = true := by simp; omega
    have HN := hid (show tabB nm cs nx (l.map Rw.row) = false from tabB_2 (by rw [HML.out]; exact h1))
    go_wp2_with fail
    go_ret
    exact ⟨by rw [HN.out] <;> rfl, K1.below⟩
  have h1d : decide ((m : Int) > 100) = false := by simp; omega
  by_cases h2 : nx < 1
  · have h2d : decide (nx < 1) = true := by simpa using h2
    have HN := hid (show tabB nm cs nx (l.map Rw.row) = false from tabB_3 h2)
    go_wp2_with fail
    go_ret
    exact ⟨by rw [HN.out] <;> rfl, K1.below⟩
  have h2d : decide (nx < 1) = false := by simpa using h2
  by_cases h3 : 2147483648 < nx
  · have h3d : decide (nx > 2147483648) = true := by simpa using h3
    have HN := hid (show tabB nm cs nx (l.map Rw.row) = false from tabB_4 h3)
    go_wp2_with fail
    go_ret
    exact ⟨by rw [HN.out] <;> rfl, K1.below⟩
  have h3d : decide (nx > 2147483648) = false := by simpa using h3
  go_wp2_with fail
  clear F1
  go_loopw [3, 29] (fun lv iv wr => ∃ (j : Nat) (lst : Int), j ≤ m ∧ iv = .int .i64 j ∧ lv = .int .i64 lst ∧ Hid (okR cs nx 0 (l.map Rw.row) = okR cs nx lst ((l.map Rw.row).drop j)) ∧ Hold M none w wr [.cst w.heap.size 58 #[.string nm, .slice A n c, .int .i64 nx, .slice B m d], .ro (SlR 4 A n (colCells cs)), .ro (RwsIn B m l)]) (fun _ iv _ => m - (intOf iv).toNat)
  case atStart => exact ⟨0, 0, by omega, rfl, rfl, hid rfl, K1⟩
  case round =>
    clear K1
    obtain ⟨j, lst, hj, rfl, rfl, HS, H⟩ := hrel
    by_cases hlt : j < m
    · have hdd : decide ((j : Int) < (m : Int)) = true := by simp; omega
      have j0 : (0 : Int) ≤ (j : Int) := by omega
      obtain ⟨x, hx⟩ := get_of HL.out hlt
      obtain ⟨g, o, rfl, hgb, c0, c1, hvi⟩ := (H.ro 2 rfl).now.at_ hx
      have hrok := hok x (List.mem_of_getElem? hx)
      have HX := hid (show (l.map Rw.row)[j]? = some (x.id, x.vs) by simp [hx, Rw.row])
      have HXM := hid (List.mem_of_getElem? hx)
      have K2 := H.alloc_cst #[.int .i64 x.id, .slice x.A x.n x.c] 119
      clear hx
      have F2 := K2.facts
      simp only [World.size_alloc, World.size_drew, factsL, cellsF, Nat.reduceAdd, List.toList_toArray, List.set_cons_zero, List.set_cons_succ, List.setIfInBounds_toArray, and_true, true_and] at F2
      by_cases a1 : x.id ≤ lst
      · have a1d : decide (x.id ≤ lst) = true := by simpa using a1
        have HN := hid (show tabB nm cs nx (l.map Rw.row) = false from tabB_5 (by rw [HS.out]; exact okR_bad HX.out (.inl a1)))
        clear a1
        go_wp2_with fail
        go_ret
        exact ⟨by rw [HN.out] <;> rfl, K2.below⟩
      have a1d : decide (x.id ≤ lst) = false := by simpa using a1
      by_cases a2 : nx ≤ x.id
      · have a2d : decide (x.id ≥ nx) = true := by simpa using a2
        have HN := hid (show tabB nm cs nx (l.map Rw.row) = false from tabB_5 (by rw [HS.out]; exact okR_bad HX.out (.inr (.inl a2))))
        clear a1 a2
        go_wp2_with fail
        go_ret
        exact ⟨by rw [HN.out] <;> rfl, K2.below⟩
      have a2d : decide (x.id ≥ nx) = false := by simpa using a2
      have HA := hid (And.intro a1 a2)
      have hVR : Ro _ (Mut M _) (VlsIn x.A x.n x.vs) := (K2.ro 3 rfl).imp fun w2 h2 => h2.2 x HXM.out
      have hxn : x.n ≤ 9223372036854775807 := Nat.le_trans hrok.nc hrok.c
      clear a1 a2
      go_wp2_with fail
      refine (tfits_any _ _ K2.mutLt nm A n c cs x.A x.n x.c x.vs (K2.ro 2 rfl) hVR hn hxn hrok.vs).mono ?_
      rintro e w3 ⟨rfl, b3⟩
      have K3 := K2.call b3
      clear K2 b3 F2 hVR
      have F3 := K3.facts
      simp only [World.size_alloc, World.size_drew, factsL, cellsF, Nat.reduceAdd, List.toList_toArray, List.set_cons_zero, List.set_cons_succ, List.setIfInBounds_toArray, and_true, true_and] at F3
      by_cases a3 : fitsT cs x.vs = 0
      · have HS2 := hid (show okR cs nx 0 (l.map Rw.row) = okR cs nx x.id ((l.map Rw.row).drop (j + 1)) by rw [HS.out]; exact okR_good HX.out (by have := HA.out.1; omega) (by have := HA.out.2; omega) a3)
        rw [a3]
        clear a3
        go_wp2_with fail
        go_roundw
        case rel => exact ⟨j + 1, x.id, by omega, by go_num, rfl, HS2, K3.drop (List.sublist_cons_self _ _)⟩
        case measure => simp [intOf]; omega
      · have a3d : (fitsT cs x.vs != 0) = true := by simp [a3]
        have HN := hid (show tabB nm cs nx (l.map Rw.row) = false from tabB_5 (by rw [HS.out]; exact okR_bad HX.out (.inr (.inr a3))))
        clear a3
        go_wp2_with fail
        go_ret
        exact ⟨by rw [HN.out] <;> rfl, K3.below⟩
    · obtain rfl : j = m := by omega
      have hdd : decide ((j : Int) < (j : Int)) = false := by simp
      have HN := hid (show tabB nm cs nx (l.map Rw.row) = !dupB cs (l.map Rw.row) from tabB_6 HSB.out (by rw [HML.out]; omega) (by omega) (by omega) (by rw [HS.out]; exact okR_end (by rw [HML.out]; exact Nat.le_refl _)))
      have F3 := H.facts
      simp only [World.size_alloc, World.size_drew, factsL, cellsF, Nat.reduceAdd, List.toList_toArray, List.set_cons_zero, List.set_cons_succ, List.setIfInBounds_toArray, and_true, true_and] at F3
      go_wp2_with fail
      refine (dup_any _ _ H.mutLt nm A n c cs nx B j d l (H.ro 1 rfl) (H.ro 2 rfl) hn hm hok).mono ?_
      rintro e w3 ⟨rfl, b3⟩
      have K3 := H.call b3
      go_wp2_with fail
      go_ret
      exact ⟨by rw [HN.out] <;> rfl, K3.below⟩
end Go.Proofs.YtedogodccblfeaaGreatDoor

namespace Go.Proofs.YtedogodccblfeaaGreatDoor
open Go.RowKit
set_option linter.unusedVariables false
set_option linter.unusedSimpArgs false

end Go.Proofs.YtedogodccblfeaaGreatDoor

namespace Go.Proofs.YtedogodccblfeaaGreatDoor
open Go.RowKit
set_option linter.unusedVariables false
set_option linter.unusedSimpArgs false

def nmId : ByteArray := ⟨#[105, 100]⟩
def nmN : ByteArray := ⟨#[110]⟩
def nmS : ByteArray := ⟨#[115]⟩
def nmB : ByteArray := ⟨#[98]⟩
def nmM : ByteArray := ⟨#[109]⟩
def nmT : ByteArray := ⟨#[116]⟩
def nmU : ByteArray := ⟨#[117]⟩
def nmLog : ByteArray := ⟨#[108, 111, 103]⟩
def logCols : List Col := [⟨nmN, 1, false, false⟩, ⟨nmS, 3, false, false⟩]
def tCols : List Col := [⟨nmId, 1, true, true⟩, ⟨nmN, 1, false, false⟩, ⟨nmB, 2, false, false⟩, ⟨nmS, 3, false, false⟩]
def uCols : List Col := [⟨nmId, 1, true, true⟩, ⟨nmN, 1, true, false⟩, ⟨nmM, 1, false, false⟩]
/-- The schema of a name: its name and columns; of another name: none. -/
def schemaOf (s : ByteArray) : ByteArray × List Col :=
  if nmLog.toList == s.toList then (nmLog, logCols) else if nmT.toList == s.toList then (nmT, tCols) else if nmU.toList == s.toList then (nmU, uCols) else (⟨#[]⟩, [])

/-- What Schemas leaves. -/
def SchemasAre (w : World) (M : Nat → Prop) (e : Ending) (w' : World) : Prop :=
  ∃ (g g0 g1 g2 : Nat) (nl nt nu : ByteArray), nl = nmLog ∧ nt = nmT ∧ nu = nmU ∧ e = .returned (.slice (some ⟨g, 0, none⟩) 3 3) ∧ Below w.heap.size w w' ∧
    Ro w' M (fun w => w.heap[g]? = some (.cells #[.string nl, .slice (some ⟨g0, 0, none⟩) 2 2, .string nt, .slice (some ⟨g1, 0, none⟩) 4 4, .string nu, .slice (some ⟨g2, 0, none⟩) 3 3] 49 (0, 0))) ∧
    Ro w' M (SlR 4 (some ⟨g0, 0, none⟩) 2 (colCells logCols)) ∧ Ro w' M (SlR 4 (some ⟨g1, 0, none⟩) 4 (colCells tCols)) ∧ Ro w' M (SlR 4 (some ⟨g2, 0, none⟩) 3 (colCells uCols))

set_option maxHeartbeats 2000000 in
theorem schemas_any (M : Nat → Prop) (w : World) (hM : ∀ b, M b → b < w.heap.size) : Calls Tryz.prog 57 #[] w fun e w' => SchemasAre w M e w' := by
  have K0 := ((((Hold.start M w hM).alloc_cst (colCells logCols).toArray 147).alloc_cst (colCells tCols).toArray 147).alloc_cst (colCells uCols).toArray 147).alloc_cst
    #[.string nmLog, .slice (some ⟨w.heap.size, 0, none⟩) 2 2, .string nmT, .slice (some ⟨w.heap.size + 1, 0, none⟩) 4 4, .string nmU, .slice (some ⟨w.heap.size + 1 + 1, 0, none⟩) 3 3] 49
  simp only [World.size_alloc] at K0
  go_enter Tryz.func57, Tryz.ntmps57
  go_wp2
  go_ret
  refine ⟨w.heap.size + 1 + 1 + 1, w.heap.size, w.heap.size + 1, w.heap.size + 1 + 1, nmLog, nmT, nmU, rfl, rfl, rfl, rfl, K0.below, ?_, ?_, ?_, ?_⟩
  · exact Ro.less (K0.get 0 rfl) fun b hb => .inl hb
  · exact (ro_block (K0.get 3 rfl) (by rfl)).less fun b hb => .inl hb
  · exact (ro_block (K0.get 2 rfl) (by rfl)).less fun b hb => .inl hb
  · exact (ro_block (K0.get 1 rfl) (by rfl)).less fun b hb => .inl hb
end Go.Proofs.YtedogodccblfeaaGreatDoor

namespace Go.Proofs.YtedogodccblfeaaGreatDoor
open Go.RowKit
set_option linter.unusedVariables false
set_option linter.unusedSimpArgs false

/-- A schema returned: its name, its columns, in memory that nobody writes. -/
def SchemaIs (w : World) (M : Nat → Prop) (nm : ByteArray) (l : List Col) (e : Ending) (w' : World) : Prop :=
  ∃ (A : Option Addr) (n c : Nat), e = .returned (.agg #[.string nm, .slice A n c]) ∧ n ≤ c ∧ c ≤ 4 ∧ Ro w' M (SlR 4 A n (colCells l)) ∧ Below w.heap.size w w'

set_option maxHeartbeats 4000000 in
theorem schema_any (M : Nat → Prop) (w : World) (hM : ∀ b, M b → b < w.heap.size) (s : ByteArray) : Calls Tryz.prog 14 #[.string s] w fun e w' => SchemaIs w M (schemaOf s).1 (schemaOf s).2 e w' := by
  have K0 := (Hold.start M w hM).alloc #[.string ⟨#[]⟩, .slice none 0 0] 49
  go_enter Tryz.func14, Tryz.ntmps14
  go_wp2_with fail
  refine (schemas_any (Mut M _) _ K0.mutLt).mono ?_
  rintro e w1 ⟨g, g0, g1, g2, nl, nt, nu, e1, e2, e3, rfl, b1, r, r0, r1, r2⟩
  have E1 := hid e1; have E2 := hid e2; have E3 := hid e3
  clear e1 e2 e3
  have K1 := ((((K0.call b1).add r2).add (r1.less (mut_none rfl))).add ((r0.less (mut_none rfl)).less (mut_none rfl))).addCst (((r.less (mut_none rfl)).less (mut_none rfl)).less (mut_none rfl))
  clear b1 r r0 r1 r2 K0
  go_wp2_with fail
  go_loopw [7] (fun i wr => ∃ k : Nat, k ≤ 3 ∧ i = .int .i64 k ∧ (0 < k → (nl.toList == s.toList) = false) ∧ (1 < k → (nt.toList == s.toList) = false) ∧ (2 < k → (nu.toList == s.toList) = false) ∧
    Hold M none w wr [.cst g 49 #[.string nl, .slice (some ⟨g0, 0, none⟩) 2 2, .string nt, .slice (some ⟨g1, 0, none⟩) 4 4, .string nu, .slice (some ⟨g2, 0, none⟩) 3 3], .ro (SlR 4 (some ⟨g0, 0, none⟩) 2 (colCells logCols)), .ro (SlR 4 (some ⟨g1, 0, none⟩) 4 (colCells tCols)), .ro (SlR 4 (some ⟨g2, 0, none⟩) 3 (colCells uCols)), .blk w.heap.size 49 #[.string ⟨#[]⟩, .slice none 0 0]]) (fun i _ => 3 - (intOf i).toNat)
  case atStart => exact ⟨0, by omega, rfl, fun h => absurd h (by omega), fun h => absurd h (by omega), fun h => absurd h (by omega), K1⟩
  case round =>
    obtain ⟨k, hk, rfl, q0, q1, q2, H⟩ := hrel
    have F := H.facts
    simp only [World.size_alloc, factsL, cellsF, List.toList_toArray, Nat.reduceAdd, and_true, true_and] at F
    have hc : k = 0 ∨ k = 1 ∨ k = 2 ∨ k = 3 := by omega
    rcases hc with rfl | rfl | rfl | rfl
    · clear q0 q1 q2
      cases ht : (nl.toList == s.toList)
      · have KN := H.alloc_cst #[.string nl, .slice (some ⟨g0, 0, none⟩) 2 2] 49
        go_wp2_with fail
        go_roundw
        case rel => exact ⟨1, by omega, by go_num, by intros; first | exact ht | trivial, by intros; first | trivial | omega, by intros; first | trivial | omega, KN.drop (List.sublist_cons_self _ _)⟩
        case measure => simp [intOf]
      · have HR : Hid (schemaOf s = (nl, logCols)) := by
          unfold Hid schemaOf
          have h := ht
          rw [← E1.out, ← E2.out, ← E3.out, if_pos h]
        have KN := ((H.store 4 rfl 0 (.string nl)).store 4 rfl 1 (.slice (some ⟨g0, 0, none⟩) 2 2)).alloc_cst #[.string nl, .slice (some ⟨g0, 0, none⟩) 2 2] 49
        go_wp2_with fail
        exact bodyPost_ret (v := .agg #[.string nl, .slice (some ⟨g0, 0, none⟩) 2 2]) (by simp [results, Tryz.results14, go_sem, F]) rfl ⟨some ⟨g0, 0, none⟩, 2, 2, by rw [HR.out], by omega, by omega, by rw [HR.out]; exact KN.roOut 2 rfl, KN.below⟩
    · have Q0 := hid (q0 (by omega)); clear q0 q1 q2
      cases ht : (nt.toList == s.toList)
      · have KN := H.alloc_cst #[.string nt, .slice (some ⟨g1, 0, none⟩) 4 4] 49
        go_wp2_with fail
        go_roundw
        case rel => exact ⟨2, by omega, by go_num, by intros; first | exact Q0.out | trivial, by intros; first | exact ht | trivial, by intros; first | trivial | omega, KN.drop (List.sublist_cons_self _ _)⟩
        case measure => simp [intOf]
      · have HR : Hid (schemaOf s = (nt, tCols)) := by
          unfold Hid schemaOf
          have h := ht
          rw [← E1.out, ← E2.out, ← E3.out, if_neg (by rw [Q0.out]; simp), if_pos h]
        have KN := ((H.store 4 rfl 0 (.string nt)).store 4 rfl 1 (.slice (some ⟨g1, 0, none⟩) 4 4)).alloc_cst #[.string nt, .slice (some ⟨g1, 0, none⟩) 4 4] 49
        go_wp2_with fail
        exact bodyPost_ret (v := .agg #[.string nt, .slice (some ⟨g1, 0, none⟩) 4 4]) (by simp [results, Tryz.results14, go_sem, F]) rfl ⟨some ⟨g1, 0, none⟩, 4, 4, by rw [HR.out], by omega, by omega, by rw [HR.out]; exact KN.roOut 3 rfl, KN.below⟩
    · have Q0 := hid (q0 (by omega)); have Q1 := hid (q1 (by omega)); clear q0 q1 q2
      cases ht : (nu.toList == s.toList)
      · have KN := H.alloc_cst #[.string nu, .slice (some ⟨g2, 0, none⟩) 3 3] 49
        go_wp2_with fail
        go_roundw
        case rel => exact ⟨3, by omega, by go_num, by intros; first | exact Q0.out | trivial, by intros; first | exact Q1.out | trivial, by intros; first | exact ht | trivial, KN.drop (List.sublist_cons_self _ _)⟩
        case measure => simp [intOf]
      · have HR : Hid (schemaOf s = (nu, uCols)) := by
          unfold Hid schemaOf
          have h := ht
          rw [← E1.out, ← E2.out, ← E3.out, if_neg (by rw [Q0.out]; simp), if_neg (by rw [Q1.out]; simp), if_pos h]
        have KN := ((H.store 4 rfl 0 (.string nu)).store 4 rfl 1 (.slice (some ⟨g2, 0, none⟩) 3 3)).alloc_cst #[.string nu, .slice (some ⟨g2, 0, none⟩) 3 3] 49
        go_wp2_with fail
        exact bodyPost_ret (v := .agg #[.string nu, .slice (some ⟨g2, 0, none⟩) 3 3]) (by simp [results, Tryz.results14, go_sem, F]) rfl ⟨some ⟨g2, 0, none⟩, 3, 3, by rw [HR.out], by omega, by omega, by rw [HR.out]; exact KN.roOut 4 rfl, KN.below⟩
    · have Q0 := hid (q0 (by omega)); have Q1 := hid (q1 (by omega)); have Q2 := hid (q2 (by omega)); clear q0 q1 q2
      have HR : Hid (schemaOf s = (⟨#[]⟩, [])) := by
        unfold Hid schemaOf
        rw [← E1.out, ← E2.out, ← E3.out, if_neg (by rw [Q0.out]; simp), if_neg (by rw [Q1.out]; simp), if_neg (by rw [Q2.out]; simp)]
      have KN := (H.store 4 rfl 0 (.string ⟨#[]⟩)).store 4 rfl 1 (.slice none 0 0)
      go_wp2_with fail
      exact bodyPost_ret (v := .agg #[.string ⟨#[]⟩, .slice none 0 0]) (by simp [results, Tryz.results14, go_sem, F]) rfl ⟨none, 0, 0, by rw [HR.out], by omega, by omega, by rw [HR.out]; exact ro_nil, KN.below⟩
end Go.Proofs.YtedogodccblfeaaGreatDoor

namespace Go.Proofs.YtedogodccblfeaaGreatDoor
open Go.RowKit
set_option linter.unusedVariables false
set_option linter.unusedSimpArgs false

def vNil : Vl := ⟨0, 0, ⟨#[]⟩⟩
theorem schemaOf_log : schemaOf ⟨#[108, 111, 103]⟩ = (nmLog, logCols) := by kernel_rfl
theorem schema_log (M : Nat → Prop) (w : World) (hM : ∀ b, M b → b < w.heap.size) : Calls Tryz.prog 14 #[.string ⟨#[108, 111, 103]⟩] w fun e w' => SchemaIs w M nmLog logCols e w' := by
  have h := schema_any M w hM ⟨#[108, 111, 103]⟩
  rwa [schemaOf_log] at h
theorem empty_le : (⟨#[]⟩ : ByteArray).size ≤ maxLen := by unfold maxLen; decide
theorem vNil_ok : vNil.ok := ⟨show I64 0 by unfold I64; omega, show I64 0 by unfold I64; omega, empty_le⟩
theorem cols_n {w : World} {A : Option Addr} {n : Nat} {l : List Col} (h : ColsIn A n l w) : l.length = n := (RdC.of_sl h).len
end Go.Proofs.YtedogodccblfeaaGreatDoor

namespace Go.Proofs.YtedogodccblfeaaGreatDoor
open Go.RowKit
set_option linter.unusedVariables false
set_option linter.unusedSimpArgs false

theorem Wds.ro2 {w : World} {M : Nat → Prop} (h : Wds w) (hM : ¬ M 2) : Ro w M Wds := fun w2 _ h2 => h.keep (h2 _ h.lt hM)
def DrawnSm (w : World) (T : Nat) (e : Ending) (w' : World) : Prop :=
  ∃ x : Int, e = .returned (.int .i64 x) ∧ -3 ≤ x ∧ x ≤ 12 ∧ Tp w' T ∧ w.grownBy w' (some T)
set_option maxHeartbeats 400000 in
theorem small_any (T : Nat) (w : World) (ht : Tp w T) : Calls Tryz.prog 145 #[.pointer (some ⟨T, 0, none⟩)] w fun e w' => DrawnSm w T e w' := by
  go_enter Tryz.func145, Tryz.ntmps145
  go_wp2_with fail
  refine (next_any T 16 _ ht (by omega) (by omega)).mono ?_
  rintro e w1 ⟨r, rfl, r0, r1, t1, g1⟩
  go_wp2
  go_ret
  exact ⟨r - 3, by first | rfl | simp, by omega, by omega, t1, g1⟩

/-- values that fit the columns one by one -/
def fitsAll : List Col → List Vl → Prop
  | [], [] => True
  | c :: cs, v :: vs => fitsV c v = 0 ∧ fitsAll cs vs
  | _, _ => False
theorem fitsAll_len : ∀ {cs : List Col} {vs : List Vl}, fitsAll cs vs → vs.length = cs.length
  | [], [], _ => rfl
  | c :: cs, v :: vs, h => by simp [fitsAll_len h.2]
  | [], _ :: _, h => h.elim
  | _ :: _, [], h => h.elim
theorem fitsAll_T : ∀ {cs : List Col} {vs : List Vl}, fitsAll cs vs → fitsL cs vs = 0
  | [], [], _ => rfl
  | c :: cs, v :: vs, h => by rw [fitsL, if_pos h.1]; exact fitsAll_T h.2
  | [], _ :: _, h => h.elim
  | _ :: _, [], h => h.elim
theorem fitsT_all {cs : List Col} {vs : List Vl} (h : fitsAll cs vs) : fitsT cs vs = 0 := by
  unfold fitsT; rw [if_pos (fitsAll_len h)]; exact fitsAll_T h
theorem fitsAll_snoc : ∀ {cs : List Col} {vs : List Vl} {c : Col} {v : Vl}, fitsAll cs vs → fitsV c v = 0 → fitsAll (cs ++ [c]) (vs ++ [v])
  | [], [], _, _, _, h => ⟨h, trivial⟩
  | c :: cs, v :: vs, _, _, h, k => ⟨h.1, fitsAll_snoc h.2 k⟩
  | [], _ :: _, _, _, h, _ => h.elim
  | _ :: _, [], _, _, h, _ => h.elim
theorem fitsAll_take {cs : List Col} {vs : List Vl} {k : Nat} {c : Col} {v : Vl} (h : fitsAll (cs.take k) vs) (hc : cs[k]? = some c) (hv : fitsV c v = 0) : fitsAll (cs.take (k + 1)) (vs ++ [v]) := by
  rw [List.take_add_one, hc]
  exact fitsAll_snoc h hv
/-- a column of a kind -/
def ColOk (c : Col) : Prop := c.ty = 1 ∨ c.ty = 2 ∨ c.ty = 3
theorem fits_typed {c : Col} {k i : Int} {s : ByteArray} (hc : ColOk c) (h : OfKind c.ty k i s) : fitsV c ⟨k, i, s⟩ = 0 ∧ k = c.ty := by
  obtain ⟨h1, h2, _⟩ := h
  obtain rfl := h2 hc
  have h3 : (c.ty == 0) = false := by rcases hc with h | h | h <;> rw [h] <;> rfl
  refine ⟨?_, rfl⟩
  unfold fitsV
  rw [if_pos h1]
  simp [h3]
theorem fits_small {c : Col} (hc : c.ty = 1) (i : Int) (s : ByteArray) (j : Int) (h : fitsV c ⟨1, i, s⟩ = 0) : fitsV c ⟨1, j, s⟩ = 0 := by
  unfold fitsV at h ⊢
  have e : validB 1 j s = validB 1 i s := by unfold validB; rw [if_neg (by decide), if_pos rfl, if_neg (by decide), if_pos rfl]
  rw [e]
  exact h
theorem fits_null {c : Col} (hc : c.nn = false) : fitsV c vNil = 0 := by
  have e : validB 0 0 ⟨#[]⟩ = true := by decide +kernel
  simp [fitsV, vNil, e, hc]
/-- A row drawn: it fits, in a row of the call's own. -/
def DrawnRow (w : World) (T : Nat) (cs : List Col) (e : Ending) (w' : World) : Prop :=
  ∃ (A : Option Addr) (n c : Nat) (vs : List Vl), e = .returned (.slice A n c) ∧ n = vs.length ∧ (∀ v ∈ vs, v.ok) ∧ fitsAll cs vs ∧ w'.ownsRow w.heap.size 117 3 (.slice A n c) n (vlCells vs) ∧ Tp w' T ∧ w.grownBy w' (some T)
theorem vlCells_snoc (l : List Vl) (k i : Int) (s : ByteArray) : vlCells l ++ (#[Value.int .i64 k, .int .i64 i, .string s]).toList = vlCells (l ++ [⟨k, i, s⟩]) := by simp [vlCells, Vl.cells]
theorem oks_snoc {l : List Vl} {v : Vl} (h : ∀ x ∈ l, x.ok) (hv : v.ok) : ∀ x ∈ l ++ [v], x.ok := fun x hx => by
  rcases List.mem_append.1 hx with hx | hx
  · exact h x hx
  · simp at hx; subst hx; exact hv
set_option maxHeartbeats 4000000 in
set_option maxRecDepth 100000 in
theorem trow_any (M : Nat → Prop) (T : Nat) (w : World) (hM : ∀ b, M b → b < w.heap.size) (ht : Tp w T) (hMT : ∀ b, M b → T ≤ b) (nm : ByteArray) (A : Option Addr) (n c : Nat) (cs : List Col) (hD : Ro w (Mut M [.tp T]) (ColsIn A n cs)) (hW : Ro w (Mut M [.tp T]) Wds) (hT : 2 < T)
    (hn : n ≤ 1000) (hok : ∀ x ∈ cs, ColOk x) : Calls Tryz.prog 78 #[.pointer (some ⟨T, 0, none⟩), .agg #[.string nm, .slice A n c]] w fun e w' => DrawnRow w T cs e w' := by
  have HL := hid (cols_n hD.now)
  have HOKC := hid hok
  clear hok
  have K0 := ((((Hold.startT M w T hM ht hMT).add hD).add (hW.less (mut_none rfl))).alloc_cst #[.string nm, .slice A n c] 49).nil 117 3
  clear hD hW
  go_enter Tryz.func78, Tryz.ntmps78
  go_wp2_with fail
  go_loopw [5, 12] (fun ov iv wr => ∃ (k cap : Nat) (O : Option Addr) (outs : List Vl), k ≤ n ∧ iv = .int .i64 k ∧ ov = .slice O k cap ∧ Hid (∀ v ∈ outs, v.ok) ∧ Hid (fitsAll (cs.take k) outs) ∧ Hold M (some T) w wr [.own 117 3 (.slice O k cap) k (vlCells outs), .cst w.heap.size 49 #[.string nm, .slice A n c], .ro Wds, .ro (ColsIn A n cs), .tp T]) (fun _ iv _ => n - (intOf iv).toNat)
  case atStart => exact ⟨0, 0, none, [], by omega, rfl, rfl, hid (fun v hv => nomatch hv), hid trivial, K0⟩
  case round =>
    clear K0
    obtain ⟨k, cap, O, outs, hk, rfl, rfl, HO, HF, H⟩ := hrel
    by_cases hlt : k < n
    · have hd : decide ((k : Int) < (n : Int)) = true := by simp; omega
      have k0 : (0 : Int) ≤ (k : Int) := by omega
      have k1 : (k : Int) < (n : Int) := by omega
      obtain ⟨⟨xn, xt, xnn, xk⟩, hx⟩ := get_col HL.out hlt
      obtain ⟨g, o, rfl, hgb, c0, c1, c2, c3⟩ := (RdC.of_sl (H.ro 3 rfl).now).at_ hx
      dsimp only at c0 c1 c2 c3
      have HCO := hid (HOKC.out _ (List.mem_of_getElem? hx))
      have HX := hid hx
      clear hx
      have K1 := H.alloc_cst #[.string xn, .int .i64 xt, .bool xnn, .bool xk] 147
      obtain ⟨gc, hgc⟩ : ∃ gc, gc = wr.heap.size := ⟨_, rfl⟩
      rw [← hgc] at K1
      go_wp2_with fail
      rw [← hgc]
      clear hgc
      refine (typed_any T xt _ (K1.tp_ 5 rfl) (K1.ro 3 rfl).now hT).mono ?_
      rintro e w2 ⟨kk, ii, ss, rfl, hkk, hss, hii, t2, _, g2⟩
      have K2 := (Hold.callT K1 5 rfl g2 t2)
      obtain ⟨hfit, hkt⟩ := fits_typed (c := ⟨xn, xt, xnn, xk⟩) HCO.out hkk
      obtain rfl : kk = xt := hkt
      clear hkk g2 t2 K1
      have HFIT := hid hfit
      clear hfit
      have K3 := K2.alloc #[.int .i64 kk, .int .i64 ii, .string ss] 117
      clear K2
      have F3 := K3.facts
      simp only [World.size_alloc, World.size_drew, factsL, cellsF, Nat.reduceAdd, List.toList_toArray, List.set_cons_zero, List.set_cons_succ, List.setIfInBounds_toArray, and_true, true_and] at F3
      have hssm : ss.size ≤ maxLen := by unfold maxLen; omega
      by_cases h1 : kk = 1
      · subst h1
        have hb : ((1 : Int) == 1) = true := rfl
        go_wp2_with fail
        refine (bool_any T 9 _ (K3.tp_ 6 rfl) (by omega) (by omega)).mono ?_
        rintro e w3 ⟨b1, rfl, t3, g3⟩
        obtain ⟨gv, hgv⟩ : ∃ gv, gv = w2.heap.size := ⟨_, rfl⟩
        have K4 := Hold.callT K3 6 rfl g3 t3
        clear K3 g3 t3 F3
        rw [← hgv] at K4 ⊢
        clear hgv
        have F4 := K4.facts
        simp only [World.size_alloc, World.size_drew, factsL, cellsF, Nat.reduceAdd, List.toList_toArray, List.set_cons_zero, List.set_cons_succ, List.setIfInBounds_toArray, and_true, true_and] at F4
        cases b1
        · go_wp2_with fail
          refine (small_any T _ (K4.tp_ 6 rfl)).mono ?_
          rintro e w4 ⟨y, rfl, y0, y1, t4, g4⟩
          have K5 := (Hold.callT K4 6 rfl g4 t4).store 0 rfl 1 (.int .i64 y)
          have F5 := (Hold.callT K4 6 rfl g4 t4).facts
          simp only [factsL, cellsF, Nat.reduceAdd, List.toList_toArray, and_true, true_and] at F5
          clear K4 g4 t4 F4
          have hyI : I64 y := by unfold I64; omega
          cases xnn
          · skip
            have KN := K5
            try simp only [List.set_cons_zero, List.set_cons_succ, List.setIfInBounds_toArray] at KN
            have FN := KN.facts
            simp only [World.size_alloc, World.size_drew, factsL, cellsF, Nat.reduceAdd, List.toList_toArray, List.set_cons_zero, List.set_cons_succ, List.setIfInBounds_toArray, and_true, true_and] at FN
            go_wp2_with fail
            refine (bool_any T 5 _ (KN.tp_ 6 rfl) (by omega) (by omega)).mono ?_
            rintro e w8 ⟨b2, rfl, t8, g8⟩
            have KM := Hold.callT KN 6 rfl g8 t8
            clear KN FN g8 t8
            have FM := KM.facts
            simp only [World.size_alloc, World.size_drew, factsL, cellsF, Nat.reduceAdd, List.toList_toArray, List.set_cons_zero, List.set_cons_succ, List.setIfInBounds_toArray, and_true, true_and] at FM
            cases b2
            · skip
              have HFK := hid (fitsAll_take HF.out HX.out (v := ⟨1, y, ss⟩) (fits_small rfl ii ss y HFIT.out))
              have HOK := hid (oks_snoc HO.out (show Vl.ok ⟨1, y, ss⟩ from ⟨by show I64 1; unfold I64; omega, hyI, hssm⟩))
              have HCE := hid (vlCells_snoc outs 1 y ss)
              have KA := KM
              try simp only [List.set_cons_zero, List.set_cons_succ, List.setIfInBounds_toArray] at KA
              have FA := KA.facts
              simp only [World.size_alloc, World.size_drew, factsL, cellsF, Nat.reduceAdd, List.toList_toArray, List.set_cons_zero, List.set_cons_succ, List.setIfInBounds_toArray, and_true, true_and] at FA
              go_wp2_with (at_builtin; go_must (refine wpList_appH KA 2 rfl Tryz.elVl #[.int .i64 1, .int .i64 y, .string ss] rfl (.tmp 39) (.tmp 41) rfl rfl _ (by first | rfl | simp [World.setCell]) rfl rfl (by intro u hu; simp at hu; rcases hu with rfl | rfl | rfl <;> rfl) (by omega) (by omega) ?_); intro g6 cap6 w6 hc6 hm6 KB; rw [HCE.out] at KB; simp only [List.set_cons_zero, List.set_cons_succ] at KB; (have FB := KB.facts); simp only [World.size_alloc, World.size_drew, factsL, cellsF, Nat.reduceAdd, List.toList_toArray, List.set_cons_zero, List.set_cons_succ, List.setIfInBounds_toArray, and_true, true_and] at FB)
              have KC := (KB.drop (List.Sublist.cons _ (List.Sublist.cons _ (List.Sublist.refl _))))
              go_roundw
              case rel => exact ⟨k + 1, cap6, some ⟨g6, 0, none⟩, outs ++ [⟨1, y, ss⟩], by omega, by go_num, by first | rfl | trivial, HOK, HFK, KC⟩
              case measure => simp [intOf]; omega
            · skip
              have HFK := hid (fitsAll_take HF.out HX.out (v := ⟨0, 0, ⟨#[]⟩⟩) (fits_null rfl))
              have HOK := hid (oks_snoc HO.out (show Vl.ok ⟨0, 0, ⟨#[]⟩⟩ from vNil_ok))
              have HCE := hid (vlCells_snoc outs 0 0 ⟨#[]⟩)
              have KA := (((KM.store 0 rfl 0 (.int .i64 0)).store 0 rfl 1 (.int .i64 0)).store 0 rfl 2 (.string ⟨#[]⟩))
              try simp only [List.set_cons_zero, List.set_cons_succ, List.setIfInBounds_toArray] at KA
              have FA := KA.facts
              simp only [World.size_alloc, World.size_drew, factsL, cellsF, Nat.reduceAdd, List.toList_toArray, List.set_cons_zero, List.set_cons_succ, List.setIfInBounds_toArray, and_true, true_and] at FA
              go_wp2_with (at_builtin; go_must (refine wpList_appH KA 2 rfl Tryz.elVl #[.int .i64 0, .int .i64 0, .string ⟨#[]⟩] rfl (.tmp 39) (.tmp 41) rfl rfl _ (by first | rfl | simp [World.setCell]) rfl rfl (by intro u hu; simp at hu; rcases hu with rfl | rfl | rfl <;> rfl) (by omega) (by omega) ?_); intro g6 cap6 w6 hc6 hm6 KB; rw [HCE.out] at KB; simp only [List.set_cons_zero, List.set_cons_succ] at KB; (have FB := KB.facts); simp only [World.size_alloc, World.size_drew, factsL, cellsF, Nat.reduceAdd, List.toList_toArray, List.set_cons_zero, List.set_cons_succ, List.setIfInBounds_toArray, and_true, true_and] at FB)
              have KC := (KB.drop (List.Sublist.cons _ (List.Sublist.cons _ (List.Sublist.refl _))))
              go_roundw
              case rel => exact ⟨k + 1, cap6, some ⟨g6, 0, none⟩, outs ++ [⟨0, 0, ⟨#[]⟩⟩], by omega, by go_num, by first | rfl | trivial, HOK, HFK, KC⟩
              case measure => simp [intOf]; omega
          · skip
            have HFK := hid (fitsAll_take HF.out HX.out (v := ⟨1, y, ss⟩) (fits_small rfl ii ss y HFIT.out))
            have HOK := hid (oks_snoc HO.out (show Vl.ok ⟨1, y, ss⟩ from ⟨by show I64 1; unfold I64; omega, hyI, hssm⟩))
            have HCE := hid (vlCells_snoc outs 1 y ss)
            have KA := K5
            try simp only [List.set_cons_zero, List.set_cons_succ, List.setIfInBounds_toArray] at KA
            have FA := KA.facts
            simp only [World.size_alloc, World.size_drew, factsL, cellsF, Nat.reduceAdd, List.toList_toArray, List.set_cons_zero, List.set_cons_succ, List.setIfInBounds_toArray, and_true, true_and] at FA
            go_wp2_with (at_builtin; go_must (refine wpList_appH KA 2 rfl Tryz.elVl #[.int .i64 1, .int .i64 y, .string ss] rfl (.tmp 39) (.tmp 41) rfl rfl _ (by first | rfl | simp [World.setCell]) rfl rfl (by intro u hu; simp at hu; rcases hu with rfl | rfl | rfl <;> rfl) (by omega) (by omega) ?_); intro g6 cap6 w6 hc6 hm6 KB; rw [HCE.out] at KB; simp only [List.set_cons_zero, List.set_cons_succ] at KB; (have FB := KB.facts); simp only [World.size_alloc, World.size_drew, factsL, cellsF, Nat.reduceAdd, List.toList_toArray, List.set_cons_zero, List.set_cons_succ, List.setIfInBounds_toArray, and_true, true_and] at FB)
            have KC := (KB.drop (List.Sublist.cons _ (List.Sublist.cons _ (List.Sublist.refl _))))
            go_roundw
            case rel => exact ⟨k + 1, cap6, some ⟨g6, 0, none⟩, outs ++ [⟨1, y, ss⟩], by omega, by go_num, by first | rfl | trivial, HOK, HFK, KC⟩
            case measure => simp [intOf]; omega
        · skip
          cases xnn
          · skip
            have KN := K4
            try simp only [List.set_cons_zero, List.set_cons_succ, List.setIfInBounds_toArray] at KN
            have FN := KN.facts
            simp only [World.size_alloc, World.size_drew, factsL, cellsF, Nat.reduceAdd, List.toList_toArray, List.set_cons_zero, List.set_cons_succ, List.setIfInBounds_toArray, and_true, true_and] at FN
            go_wp2_with fail
            refine (bool_any T 5 _ (KN.tp_ 6 rfl) (by omega) (by omega)).mono ?_
            rintro e w8 ⟨b2, rfl, t8, g8⟩
            have KM := Hold.callT KN 6 rfl g8 t8
            clear KN FN g8 t8
            have FM := KM.facts
            simp only [World.size_alloc, World.size_drew, factsL, cellsF, Nat.reduceAdd, List.toList_toArray, List.set_cons_zero, List.set_cons_succ, List.setIfInBounds_toArray, and_true, true_and] at FM
            cases b2
            · skip
              have HFK := hid (fitsAll_take HF.out HX.out (v := ⟨1, ii, ss⟩) HFIT.out)
              have HOK := hid (oks_snoc HO.out (show Vl.ok ⟨1, ii, ss⟩ from ⟨by show I64 1; unfold I64; omega, hii, hssm⟩))
              have HCE := hid (vlCells_snoc outs 1 ii ss)
              have KA := KM
              try simp only [List.set_cons_zero, List.set_cons_succ, List.setIfInBounds_toArray] at KA
              have FA := KA.facts
              simp only [World.size_alloc, World.size_drew, factsL, cellsF, Nat.reduceAdd, List.toList_toArray, List.set_cons_zero, List.set_cons_succ, List.setIfInBounds_toArray, and_true, true_and] at FA
              go_wp2_with (at_builtin; go_must (refine wpList_appH KA 2 rfl Tryz.elVl #[.int .i64 1, .int .i64 ii, .string ss] rfl (.tmp 39) (.tmp 41) rfl rfl _ (by first | rfl | simp [World.setCell]) rfl rfl (by intro u hu; simp at hu; rcases hu with rfl | rfl | rfl <;> rfl) (by omega) (by omega) ?_); intro g6 cap6 w6 hc6 hm6 KB; rw [HCE.out] at KB; simp only [List.set_cons_zero, List.set_cons_succ] at KB; (have FB := KB.facts); simp only [World.size_alloc, World.size_drew, factsL, cellsF, Nat.reduceAdd, List.toList_toArray, List.set_cons_zero, List.set_cons_succ, List.setIfInBounds_toArray, and_true, true_and] at FB)
              have KC := (KB.drop (List.Sublist.cons _ (List.Sublist.cons _ (List.Sublist.refl _))))
              go_roundw
              case rel => exact ⟨k + 1, cap6, some ⟨g6, 0, none⟩, outs ++ [⟨1, ii, ss⟩], by omega, by go_num, by first | rfl | trivial, HOK, HFK, KC⟩
              case measure => simp [intOf]; omega
            · skip
              have HFK := hid (fitsAll_take HF.out HX.out (v := ⟨0, 0, ⟨#[]⟩⟩) (fits_null rfl))
              have HOK := hid (oks_snoc HO.out (show Vl.ok ⟨0, 0, ⟨#[]⟩⟩ from vNil_ok))
              have HCE := hid (vlCells_snoc outs 0 0 ⟨#[]⟩)
              have KA := (((KM.store 0 rfl 0 (.int .i64 0)).store 0 rfl 1 (.int .i64 0)).store 0 rfl 2 (.string ⟨#[]⟩))
              try simp only [List.set_cons_zero, List.set_cons_succ, List.setIfInBounds_toArray] at KA
              have FA := KA.facts
              simp only [World.size_alloc, World.size_drew, factsL, cellsF, Nat.reduceAdd, List.toList_toArray, List.set_cons_zero, List.set_cons_succ, List.setIfInBounds_toArray, and_true, true_and] at FA
              go_wp2_with (at_builtin; go_must (refine wpList_appH KA 2 rfl Tryz.elVl #[.int .i64 0, .int .i64 0, .string ⟨#[]⟩] rfl (.tmp 39) (.tmp 41) rfl rfl _ (by first | rfl | simp [World.setCell]) rfl rfl (by intro u hu; simp at hu; rcases hu with rfl | rfl | rfl <;> rfl) (by omega) (by omega) ?_); intro g6 cap6 w6 hc6 hm6 KB; rw [HCE.out] at KB; simp only [List.set_cons_zero, List.set_cons_succ] at KB; (have FB := KB.facts); simp only [World.size_alloc, World.size_drew, factsL, cellsF, Nat.reduceAdd, List.toList_toArray, List.set_cons_zero, List.set_cons_succ, List.setIfInBounds_toArray, and_true, true_and] at FB)
              have KC := (KB.drop (List.Sublist.cons _ (List.Sublist.cons _ (List.Sublist.refl _))))
              go_roundw
              case rel => exact ⟨k + 1, cap6, some ⟨g6, 0, none⟩, outs ++ [⟨0, 0, ⟨#[]⟩⟩], by omega, by go_num, by first | rfl | trivial, HOK, HFK, KC⟩
              case measure => simp [intOf]; omega
          · skip
            have HFK := hid (fitsAll_take HF.out HX.out (v := ⟨1, ii, ss⟩) HFIT.out)
            have HOK := hid (oks_snoc HO.out (show Vl.ok ⟨1, ii, ss⟩ from ⟨by show I64 1; unfold I64; omega, hii, hssm⟩))
            have HCE := hid (vlCells_snoc outs 1 ii ss)
            have KA := K4
            try simp only [List.set_cons_zero, List.set_cons_succ, List.setIfInBounds_toArray] at KA
            have FA := KA.facts
            simp only [World.size_alloc, World.size_drew, factsL, cellsF, Nat.reduceAdd, List.toList_toArray, List.set_cons_zero, List.set_cons_succ, List.setIfInBounds_toArray, and_true, true_and] at FA
            go_wp2_with (at_builtin; go_must (refine wpList_appH KA 2 rfl Tryz.elVl #[.int .i64 1, .int .i64 ii, .string ss] rfl (.tmp 39) (.tmp 41) rfl rfl _ (by first | rfl | simp [World.setCell]) rfl rfl (by intro u hu; simp at hu; rcases hu with rfl | rfl | rfl <;> rfl) (by omega) (by omega) ?_); intro g6 cap6 w6 hc6 hm6 KB; rw [HCE.out] at KB; simp only [List.set_cons_zero, List.set_cons_succ] at KB; (have FB := KB.facts); simp only [World.size_alloc, World.size_drew, factsL, cellsF, Nat.reduceAdd, List.toList_toArray, List.set_cons_zero, List.set_cons_succ, List.setIfInBounds_toArray, and_true, true_and] at FB)
            have KC := (KB.drop (List.Sublist.cons _ (List.Sublist.cons _ (List.Sublist.refl _))))
            go_roundw
            case rel => exact ⟨k + 1, cap6, some ⟨g6, 0, none⟩, outs ++ [⟨1, ii, ss⟩], by omega, by go_num, by first | rfl | trivial, HOK, HFK, KC⟩
            case measure => simp [intOf]; omega
      · have hb : (kk == 1) = false := by simpa using h1
        have hty : I64 kk := by rcases HCO.out with h | h | h <;> (have h : kk = _ := h; rw [h]; unfold I64; omega)
        clear h1
        cases xnn
        · skip
          have KN := K3
          try simp only [List.set_cons_zero, List.set_cons_succ, List.setIfInBounds_toArray] at KN
          have FN := KN.facts
          simp only [World.size_alloc, World.size_drew, factsL, cellsF, Nat.reduceAdd, List.toList_toArray, List.set_cons_zero, List.set_cons_succ, List.setIfInBounds_toArray, and_true, true_and] at FN
          go_wp2_with fail
          refine (bool_any T 5 _ (KN.tp_ 6 rfl) (by omega) (by omega)).mono ?_
          rintro e w8 ⟨b2, rfl, t8, g8⟩
          have KM := Hold.callT KN 6 rfl g8 t8
          clear KN FN g8 t8
          have FM := KM.facts
          simp only [World.size_alloc, World.size_drew, factsL, cellsF, Nat.reduceAdd, List.toList_toArray, List.set_cons_zero, List.set_cons_succ, List.setIfInBounds_toArray, and_true, true_and] at FM
          cases b2
          · skip
            have HFK := hid (fitsAll_take HF.out HX.out (v := ⟨kk, ii, ss⟩) HFIT.out)
            have HOK := hid (oks_snoc HO.out (show Vl.ok ⟨kk, ii, ss⟩ from ⟨hty, hii, hssm⟩))
            have HCE := hid (vlCells_snoc outs kk ii ss)
            have KA := KM
            try simp only [List.set_cons_zero, List.set_cons_succ, List.setIfInBounds_toArray] at KA
            have FA := KA.facts
            simp only [World.size_alloc, World.size_drew, factsL, cellsF, Nat.reduceAdd, List.toList_toArray, List.set_cons_zero, List.set_cons_succ, List.setIfInBounds_toArray, and_true, true_and] at FA
            go_wp2_with (at_builtin; go_must (refine wpList_appH KA 2 rfl Tryz.elVl #[.int .i64 kk, .int .i64 ii, .string ss] rfl (.tmp 39) (.tmp 41) rfl rfl _ (by first | rfl | simp [World.setCell]) rfl rfl (by intro u hu; simp at hu; rcases hu with rfl | rfl | rfl <;> rfl) (by omega) (by omega) ?_); intro g6 cap6 w6 hc6 hm6 KB; rw [HCE.out] at KB; simp only [List.set_cons_zero, List.set_cons_succ] at KB; (have FB := KB.facts); simp only [World.size_alloc, World.size_drew, factsL, cellsF, Nat.reduceAdd, List.toList_toArray, List.set_cons_zero, List.set_cons_succ, List.setIfInBounds_toArray, and_true, true_and] at FB)
            have KC := (KB.drop (List.Sublist.cons _ (List.Sublist.cons _ (List.Sublist.refl _))))
            go_roundw
            case rel => exact ⟨k + 1, cap6, some ⟨g6, 0, none⟩, outs ++ [⟨kk, ii, ss⟩], by omega, by go_num, by first | rfl | trivial, HOK, HFK, KC⟩
            case measure => simp [intOf]; omega
          · skip
            have HFK := hid (fitsAll_take HF.out HX.out (v := ⟨0, 0, ⟨#[]⟩⟩) (fits_null rfl))
            have HOK := hid (oks_snoc HO.out (show Vl.ok ⟨0, 0, ⟨#[]⟩⟩ from vNil_ok))
            have HCE := hid (vlCells_snoc outs 0 0 ⟨#[]⟩)
            have KA := (((KM.store 0 rfl 0 (.int .i64 0)).store 0 rfl 1 (.int .i64 0)).store 0 rfl 2 (.string ⟨#[]⟩))
            try simp only [List.set_cons_zero, List.set_cons_succ, List.setIfInBounds_toArray] at KA
            have FA := KA.facts
            simp only [World.size_alloc, World.size_drew, factsL, cellsF, Nat.reduceAdd, List.toList_toArray, List.set_cons_zero, List.set_cons_succ, List.setIfInBounds_toArray, and_true, true_and] at FA
            go_wp2_with (at_builtin; go_must (refine wpList_appH KA 2 rfl Tryz.elVl #[.int .i64 0, .int .i64 0, .string ⟨#[]⟩] rfl (.tmp 39) (.tmp 41) rfl rfl _ (by first | rfl | simp [World.setCell]) rfl rfl (by intro u hu; simp at hu; rcases hu with rfl | rfl | rfl <;> rfl) (by omega) (by omega) ?_); intro g6 cap6 w6 hc6 hm6 KB; rw [HCE.out] at KB; simp only [List.set_cons_zero, List.set_cons_succ] at KB; (have FB := KB.facts); simp only [World.size_alloc, World.size_drew, factsL, cellsF, Nat.reduceAdd, List.toList_toArray, List.set_cons_zero, List.set_cons_succ, List.setIfInBounds_toArray, and_true, true_and] at FB)
            have KC := (KB.drop (List.Sublist.cons _ (List.Sublist.cons _ (List.Sublist.refl _))))
            go_roundw
            case rel => exact ⟨k + 1, cap6, some ⟨g6, 0, none⟩, outs ++ [⟨0, 0, ⟨#[]⟩⟩], by omega, by go_num, by first | rfl | trivial, HOK, HFK, KC⟩
            case measure => simp [intOf]; omega
        · skip
          have HFK := hid (fitsAll_take HF.out HX.out (v := ⟨kk, ii, ss⟩) HFIT.out)
          have HOK := hid (oks_snoc HO.out (show Vl.ok ⟨kk, ii, ss⟩ from ⟨hty, hii, hssm⟩))
          have HCE := hid (vlCells_snoc outs kk ii ss)
          have KA := K3
          try simp only [List.set_cons_zero, List.set_cons_succ, List.setIfInBounds_toArray] at KA
          have FA := KA.facts
          simp only [World.size_alloc, World.size_drew, factsL, cellsF, Nat.reduceAdd, List.toList_toArray, List.set_cons_zero, List.set_cons_succ, List.setIfInBounds_toArray, and_true, true_and] at FA
          go_wp2_with (at_builtin; go_must (refine wpList_appH KA 2 rfl Tryz.elVl #[.int .i64 kk, .int .i64 ii, .string ss] rfl (.tmp 39) (.tmp 41) rfl rfl _ (by first | rfl | simp [World.setCell]) rfl rfl (by intro u hu; simp at hu; rcases hu with rfl | rfl | rfl <;> rfl) (by omega) (by omega) ?_); intro g6 cap6 w6 hc6 hm6 KB; rw [HCE.out] at KB; simp only [List.set_cons_zero, List.set_cons_succ] at KB; (have FB := KB.facts); simp only [World.size_alloc, World.size_drew, factsL, cellsF, Nat.reduceAdd, List.toList_toArray, List.set_cons_zero, List.set_cons_succ, List.setIfInBounds_toArray, and_true, true_and] at FB)
          have KC := (KB.drop (List.Sublist.cons _ (List.Sublist.cons _ (List.Sublist.refl _))))
          go_roundw
          case rel => exact ⟨k + 1, cap6, some ⟨g6, 0, none⟩, outs ++ [⟨kk, ii, ss⟩], by omega, by go_num, by first | rfl | trivial, HOK, HFK, KC⟩
          case measure => simp [intOf]; omega
    · obtain rfl : k = n := by omega
      have hd : decide ((k : Int) < (k : Int)) = false := by simp
      have HE := hid (show fitsAll cs outs by have h := HF.out; rwa [List.take_of_length_le (by rw [HL.out]; exact Nat.le_refl _)] at h)
      have HN := hid (show k = outs.length by have := fitsAll_len HE.out; have := HL.out; omega)
      go_wp2_with fail
      go_ret
      exact ⟨O, k, cap, outs, rfl, HN.out, HO.out, HE.out, H.get 0 rfl, H.tp_ 4 rfl, H.grow⟩
end Go.Proofs.YtedogodccblfeaaGreatDoor

namespace Go.Proofs.YtedogodccblfeaaGreatDoor
open Go.RowKit
set_option linter.unusedVariables false
set_option linter.unusedSimpArgs false

theorem okR_mono {cs : List Col} {nx nx' : Int} (h : nx ≤ nx') : ∀ {lst : Int} {rs : List Row}, okR cs nx lst rs = true → okR cs nx' lst rs = true
  | _, [], _ => rfl
  | lst, r :: rs, hr => by
    rw [okR] at hr ⊢
    simp only [Bool.and_eq_true, decide_eq_true_eq] at hr ⊢
    exact ⟨⟨⟨hr.1.1.1, by omega⟩, hr.1.2⟩, okR_mono h hr.2⟩
theorem okR_snoc {cs : List Col} {nx nx' : Int} {vs : List Vl} (hf : fitsT cs vs = 0) (hx : nx < nx') : ∀ {lst : Int} {rs : List Row}, lst < nx → okR cs nx lst rs = true → okR cs nx' lst (rs ++ [(nx, vs)]) = true
  | lst, [], hl, _ => by
    simp only [List.nil_append, okR, Bool.and_eq_true, decide_eq_true_eq, Bool.and_true]
    exact ⟨⟨hl, hx⟩, hf⟩
  | lst, r :: rs, hl, hr => by
    rw [okR] at hr
    rw [List.cons_append, okR]
    simp only [Bool.and_eq_true, decide_eq_true_eq] at hr ⊢
    exact ⟨⟨⟨hr.1.1.1, by omega⟩, hr.1.2⟩, okR_snoc hf hx (by omega) hr.2⟩
/-- the keys of rows -/
def keysF (κ : Nat) (l : List (List Vl)) : List Vl := l.filterMap (·[κ]?)
theorem dupF_iff {κ : Nat} : ∀ (l : List (List Vl)) (seen : List Vl), dupF κ seen l = false ↔ (∀ v ∈ keysF κ l, v ∉ seen) ∧ (keysF κ l).Nodup
  | [], seen => by simp [dupF, keysF]
  | r :: l, seen => by
    have h0 : (0 : Int) ≤ (κ : Int) := by omega
    rw [dupF, if_pos h0]
    simp only [Int.toNat_natCast]
    cases hr : r[κ]? with
    | none =>
      have e : keysF κ (r :: l) = keysF κ l := by simp [keysF, hr]
      rw [e]
      simpa using dupF_iff l seen
    | some v =>
      have e : keysF κ (r :: l) = v :: keysF κ l := by simp [keysF, hr]
      rw [e]
      simp only
      by_cases hv : v ∈ seen
      · simp [hv]
      · rw [if_neg hv, dupF_iff l (v :: seen)]
        simp only [List.mem_cons, not_or, List.nodup_cons, List.forall_mem_cons]
        constructor
        · rintro ⟨h1, h2⟩
          refine ⟨fun x hx => ?_, fun hm => (h1 v hm).1 rfl, h2⟩
          rcases hx with rfl | hx
          · exact hv
          · exact (h1 x hx).2
        · rintro ⟨h1, h2, h3⟩
          exact ⟨fun x hx => ⟨fun hxv => h2 (hxv ▸ hx), h1 x (.inr hx)⟩, h3⟩
theorem dupF_snoc {κ : Nat} {l : List (List Vl)} {vs : List Vl} (h : dupF κ [] l = false) (hn : ∀ x ∈ l, x[κ]? = none ∨ x[κ]? ≠ vs[κ]?) : dupF κ [] (l ++ [vs]) = false := by
  rw [dupF_iff] at h ⊢
  refine ⟨fun v _ hv => (List.not_mem_nil hv), ?_⟩
  have e : keysF κ (l ++ [vs]) = keysF κ l ++ (vs[κ]?).toList := by
    unfold keysF
    rw [List.filterMap_append]
    congr 1
  rw [e]
  cases hv : vs[κ]? with
  | none => simpa using h.2
  | some v =>
    simp only [Option.toList_some]
    rw [List.nodup_append]
    refine ⟨h.2, by simp, fun x hx y hy => ?_⟩
    simp only [List.mem_singleton] at hy
    subst hy
    rintro rfl
    obtain ⟨r, hr, hrx⟩ := List.mem_filterMap.1 hx
    rcases hn r hr with h1 | h1
    · rw [h1] at hrx; cases hrx
    · exact h1 (hrx.trans hv.symm)
theorem dupB_snoc {cs : List Col} {rs : List Row} {id : Int} {vs : List Vl} (h : dupB cs rs = false) (hn : findB Col.key cs < 0 ∨ ∀ x ∈ rs, x.2[(findB Col.key cs).toNat]? = none ∨ x.2[(findB Col.key cs).toNat]? ≠ vs[(findB Col.key cs).toNat]?) : dupB cs (rs ++ [(id, vs)]) = false := by
  rcases Int.lt_or_le (findB Col.key cs) 0 with hk | hk
  · exact dupF_neg hk _ _
  · obtain ⟨κ, hκ⟩ := Int.eq_ofNat_of_zero_le hk
    have hn2 := hn.resolve_left (by omega)
    unfold dupB at h ⊢
    rw [hκ] at h hn2 ⊢
    rw [List.map_append]
    exact dupF_snoc h fun x hx => by
      obtain ⟨r, hr, rfl⟩ := List.mem_map.1 hx
      exact hn2 r hr
theorem findFrom_lt {α : Type} (p : α → Bool) : ∀ (l : List α) (k f : Nat), findFrom p k l = (f : Int) → k ≤ f ∧ f < k + l.length
  | [], k, f, h => by rw [findFrom] at h; omega
  | c :: r, k, f, h => by
    rw [findFrom] at h
    split at h
    · simp only [List.length_cons]; omega
    · have := findFrom_lt p r (k + 1) f h
      simp only [List.length_cons]; omega
theorem key_lt {cs : List Col} {κ : Nat} (h : (κ : Int) = findB Col.key cs) : κ < cs.length := by
  have := findFrom_lt Col.key cs 0 κ h.symm
  omega
/-- every key column is the first one -/
def KeyOne (cs : List Col) : Prop := ∀ (i : Nat) (c : Col), cs[i]? = some c → c.key = true → findB Col.key cs = i
theorem tab_ok {nm : ByteArray} {cs : List Col} {nx : Int} {rs : List Row} (h1 : schemaB nm cs = true) (h2 : rs.length ≤ 100) (h3 : 1 ≤ nx) (h4 : nx ≤ 2147483648) (h5 : okR cs nx 0 rs = true) (h6 : dupB cs rs = false) : tabB nm cs nx rs = true := by
  rw [tabB_6 h1 h2 h3 h4 h5, h6]; rfl
end Go.Proofs.YtedogodccblfeaaGreatDoor

namespace Go.Proofs.YtedogodccblfeaaGreatDoor
open Go.RowKit
set_option linter.unusedVariables false
set_option linter.unusedSimpArgs false
section
variable {P : Program} {M : Nat → Prop} {row : Option Nat} {w0 w1 : World} {L : List Hp} {sp : SpW} {F : Act → Prop} {S0 : Array Bool}
variable {ops : Array Oper} {o : Oper} {rest : List Oper} {a : Act} {k : Nat}
theorem dw_valC (d : Tmp) (V : Value → World → Prop) (hS : S0.getD k false = false) (hw : Region.wanted o (yielded ops a.tmps) = true) (hd : o.dst = some d) (hsp : sp d = some V) (u : Value) (hrun : ∀ w, Hold M row w0 w L → (execOp a.eval o).run P w = .ok (.value u) w)
    (hV : ∀ w, Hold M row w0 w L → Deps ops (GW sp) o a w → V u w) (hn : wpRel P ops (HC M row w0 w1 L) (GW sp) (RM (Mut M L)) S0 F (k + 1) rest (a.put (some d) u)) : wpRel P ops (HC M row w0 w1 L) (GW sp) (RM (Mut M L)) S0 F k (o :: rest) a :=
  rel_val (fun w _ => RM.refl _ w) hS hw u (fun w hC _ => hrun w hC.1) (fun w hC hD => by rw [hd]; exact (GW_on hsp).2 (hV w hC.1 hD)) (by rw [hd]; exact hn)
end
/-- a clone's slot -/
def VlsSlot (M : Nat → Prop) (vs : List Vl) (u : Value) (w : World) : Prop := ∃ (A : Option Addr) (n c : Nat), u = .slice A n c ∧ n = vs.length ∧ n ≤ c ∧ c ≤ 9223372036854775807 ∧ Ro w M (VlsIn A n vs)
/-- a row's slot -/
def RowSlot (M : Nat → Prop) (id : Int) (vs : List Vl) (u : Value) (w : World) : Prop := ∃ (A : Option Addr) (n c : Nat), u = .agg #[.int .i64 id, .slice A n c] ∧ n = vs.length ∧ n ≤ c ∧ c ≤ 9223372036854775807 ∧ Ro w M (VlsIn A n vs)
/-- the slot of a block of one row -/
def RBoxSlot (M : Nat → Prop) (id : Int) (vs : List Vl) (u : Value) (w : World) : Prop := ∃ (g : Nat) (A : Option Addr) (n c : Nat), u = .slice (some ⟨g, 0, none⟩) 1 1 ∧ n = vs.length ∧ n ≤ c ∧ c ≤ 9223372036854775807 ∧ Ro w M (VlsIn A n vs) ∧ Ro w M (SlR 2 (some ⟨g, 0, none⟩) 1 [.int .i64 id, .slice A n c])
theorem vlsSlot_mono {M : Nat → Prop} {vs : List Vl} (u : Value) (w w' : World) (hr : RM M w w') (h : VlsSlot M vs u w) : VlsSlot M vs u w' := by
  obtain ⟨A, n, c, h1, h2, h3, h4, h5⟩ := h
  exact ⟨A, n, c, h1, h2, h3, h4, hr.ro h5⟩
theorem rowSlot_mono {M : Nat → Prop} {id : Int} {vs : List Vl} (u : Value) (w w' : World) (hr : RM M w w') (h : RowSlot M id vs u w) : RowSlot M id vs u w' := by
  obtain ⟨A, n, c, h1, h2, h3, h4, h5⟩ := h
  exact ⟨A, n, c, h1, h2, h3, h4, hr.ro h5⟩
theorem rboxSlot_mono {M : Nat → Prop} {id : Int} {vs : List Vl} (u : Value) (w w' : World) (hr : RM M w w') (h : RBoxSlot M id vs u w) : RBoxSlot M id vs u w' := by
  obtain ⟨g, A, n, c, h1, h2, h3, h4, h5, h6⟩ := h
  exact ⟨g, A, n, c, h1, h2, h3, h4, hr.ro h5, hr.ro h6⟩
theorem rwCells_snoc1 (l : List Rw) (id : Int) (A : Option Addr) (n c : Nat) (vs : List Vl) : rwCells l ++ [.int .i64 id, .slice A n c] = rwCells (l ++ [⟨id, A, n, c, vs⟩]) := by simp [rwCells, Rw.cells]
theorem vals_snoc {M : Nat → Prop} {w : World} {rs : List Rw} {r : Rw} (h : Ro w M (ValsIn rs)) (k : Ro w M (VlsIn r.A r.n r.vs)) : Ro w M (ValsIn (rs ++ [r])) := fun w2 h1 h2 x hx => by
  rcases List.mem_append.1 hx with hx | hx
  · exact h w2 h1 h2 x hx
  · simp at hx; subst hx; exact k w2 h1 h2
theorem ro_vals_nil (w : World) (M : Nat → Prop) : Ro w M (ValsIn []) := fun _ _ _ r hr => nomatch hr
end Go.Proofs.YtedogodccblfeaaGreatDoor

namespace Go.Proofs.YtedogodccblfeaaGreatDoor
open Go.RowKit
set_option linter.unusedVariables false
set_option linter.unusedSimpArgs false

/-- the values of the row with a number -/
def getR (rs : List Row) (id : Int) : Option (List Vl) := (rs.find? fun r => r.1 == id).map (·.2)
end Go.Proofs.YtedogodccblfeaaGreatDoor

namespace Go.Proofs.YtedogodccblfeaaGreatDoor
open Go.RowKit
set_option linter.unusedVariables false
set_option linter.unusedSimpArgs false

def iCells (l : List Int) : List Value := l.map (.int .i64)
theorem iCells_len (l : List Int) : (iCells l).length = l.length := by simp [iCells]
theorem iCells_one (l : List Int) : ∀ u ∈ iCells l, u.oneCell' = true := by
  intro u hu
  obtain ⟨x, _, rfl⟩ := List.mem_map.1 hu
  rfl
def IsIn (A : Option Addr) (n : Nat) (l : List Int) : World → Prop := SlR 1 A n (iCells l)
theorem IsIn.len {w : World} {A : Option Addr} {n : Nat} {l : List Int} (h : IsIn A n l w) : l.length = n := by
  have := (show Rd w w.heap.size 1 A n (iCells l) from h).1
  rw [iCells_len] at this
  omega
theorem IsIn.cells {w : World} {A : Option Addr} {n : Nat} {l : List Int} (h : IsIn A n l w) (h0 : 0 < n) : ∃ b o, A = some ⟨b, o, none⟩ ∧ b < w.heap.size ∧ ∀ j, j < l.length → w.cell? ⟨b, o + j, none⟩ = some (.int .i64 (l.getD j 0)) := by
  obtain ⟨b, o, rfl, hb, hc⟩ := (show Rd w w.heap.size 1 A n (iCells l) from h).2 h0
  refine ⟨b, o, rfl, hb, fun j hj => hc j _ ?_⟩
  simp [iCells, List.getD, hj]
end Go.Proofs.YtedogodccblfeaaGreatDoor

namespace Go.Proofs.YtedogodccblfeaaGreatDoor
open Go.RowKit
set_option linter.unusedVariables false
set_option linter.unusedSimpArgs false

/-- A row without a number in memory: the slice of its values, the values. -/
structure Sl where
  A : Option Addr
  n : Nat
  c : Nat
  vs : List Vl
def Sl.cells (r : Sl) : List Value := [.slice r.A r.n r.c]
def slCells (l : List Sl) : List Value := l.flatMap Sl.cells
theorem slCells_len (l : List Sl) : (slCells l).length = l.length := by have := flat_len Sl.cells 1 (fun _ => rfl) l; simpa [slCells] using this
def SlsIn (A : Option Addr) (n : Nat) (l : List Sl) (w : World) : Prop := SlR 1 A n (slCells l) w ∧ ∀ r ∈ l, VlsIn r.A r.n r.vs w
theorem SlsIn.len {w : World} {A : Option Addr} {n : Nat} {l : List Sl} (h : SlsIn A n l w) : l.length = n := by
  have := (show Rd w w.heap.size 1 A n (slCells l) from h.1).1
  rw [slCells_len] at this
  omega
theorem SlsIn.at_ {w : World} {A : Option Addr} {n : Nat} {l : List Sl} (h : SlsIn A n l w) {k : Nat} {x : Sl} (hx : l[k]? = some x) :
    ∃ b o, A = some ⟨b, o, none⟩ ∧ b < w.heap.size ∧ w.cell? ⟨b, o + k, none⟩ = some (.slice x.A x.n x.c) ∧ VlsIn x.A x.n x.vs w := by
  have hk : k < n := by rw [← h.len]; exact (List.getElem?_eq_some_iff.1 hx).1
  obtain ⟨b, o, e, hb, hc⟩ := (show Rd w w.heap.size 1 A n (slCells l) from h.1).2 (by omega)
  have h0 := flat_get Sl.cells 1 (fun _ => rfl) l k 0 x (by omega) hx
  rw [Nat.mul_one, Nat.add_zero] at h0
  exact ⟨b, o, e, hb, hc _ _ h0, h.2 x (List.mem_of_getElem? hx)⟩
structure Sl.ok (r : Sl) : Prop where
  nc : r.n ≤ r.c
  c : r.c ≤ 9223372036854775807
  vs : ∀ v ∈ r.vs, v.ok
/-- An update in memory. -/
structure Pr where
  id : Int
  oA : Option Addr
  on : Nat
  oc : Nat
  old : List Vl
  nA : Option Addr
  nn : Nat
  nc : Nat
  new : List Vl
def Pr.cells (r : Pr) : List Value := [.int .i64 r.id, .slice r.oA r.on r.oc, .slice r.nA r.nn r.nc]
def prCells (l : List Pr) : List Value := l.flatMap Pr.cells
theorem prCells_len (l : List Pr) : (prCells l).length = l.length * 3 := flat_len _ 3 (fun _ => rfl) l
def PrsIn (A : Option Addr) (n : Nat) (l : List Pr) (w : World) : Prop := SlR 3 A n (prCells l) w ∧ ∀ r ∈ l, VlsIn r.oA r.on r.old w ∧ VlsIn r.nA r.nn r.new w
theorem PrsIn.len {w : World} {A : Option Addr} {n : Nat} {l : List Pr} (h : PrsIn A n l w) : l.length = n := by
  have := (show Rd w w.heap.size 3 A n (prCells l) from h.1).1
  rw [prCells_len] at this
  omega
theorem PrsIn.at_ {w : World} {A : Option Addr} {n : Nat} {l : List Pr} (h : PrsIn A n l w) {k : Nat} {x : Pr} (hx : l[k]? = some x) :
    ∃ b o, A = some ⟨b, o, none⟩ ∧ b < w.heap.size ∧ w.cell? ⟨b, o + k * 3, none⟩ = some (.int .i64 x.id) ∧ w.cell? ⟨b, o + k * 3 + 1, none⟩ = some (.slice x.oA x.on x.oc) ∧ w.cell? ⟨b, o + k * 3 + 2, none⟩ = some (.slice x.nA x.nn x.nc) ∧ VlsIn x.oA x.on x.old w ∧ VlsIn x.nA x.nn x.new w := by
  have hk : k < n := by rw [← h.len]; exact (List.getElem?_eq_some_iff.1 hx).1
  obtain ⟨b, o, e, hb, hc⟩ := (show Rd w w.heap.size 3 A n (prCells l) from h.1).2 (by omega)
  have h2 := h.2 x (List.mem_of_getElem? hx)
  exact ⟨b, o, e, hb, hc _ _ (flat_get Pr.cells 3 (fun _ => rfl) l k 0 x (by omega) hx), hc _ _ (flat_get Pr.cells 3 (fun _ => rfl) l k 1 x (by omega) hx), hc _ _ (flat_get Pr.cells 3 (fun _ => rfl) l k 2 x (by omega) hx), h2.1, h2.2⟩
structure Pr.ok (r : Pr) : Prop where
  id : I64 r.id
  oc : r.on ≤ r.oc
  oc2 : r.oc ≤ 9223372036854775807
  nc : r.nn ≤ r.nc
  nc2 : r.nc ≤ 9223372036854775807
  old : ∀ v ∈ r.old, v.ok
  new : ∀ v ∈ r.new, v.ok
abbrev Upd := Int × List Vl × List Vl
def Pr.upd (r : Pr) : Upd := (r.id, r.old, r.new)

end Go.Proofs.YtedogodccblfeaaGreatDoor

namespace Go.Proofs.YtedogodccblfeaaGreatDoor
open Go.RowKit
set_option linter.unusedVariables false
set_option linter.unusedSimpArgs false

set_option maxHeartbeats 1000000 in
set_option maxRecDepth 100000 in
theorem samerow_any (w : World) (x y : Rw) (hD : VlsIn x.A x.n x.vs w) (hE : VlsIn y.A y.n y.vs w) (hn : x.n ≤ 4398046511104) :
    Calls Tryz.prog 140 #[.agg #[.int .i64 x.id, .slice x.A x.n x.c], .agg #[.int .i64 y.id, .slice y.A y.n y.c]] w fun e w' => e = .returned (.bool (decide (x.row = y.row))) ∧ Below w.heap.size w w' := by
  have K0 := ((((Hold.start None_ w (fun b hb => hb.elim)).add (Rd.ro hE (Nat.le_refl _) (by simp [Mut, None_]) : Ro w _ (VlsIn y.A y.n y.vs))).add (Rd.ro hD (Nat.le_refl _) (by simp [Mut, None_, Hp.foot]) : Ro w _ (VlsIn x.A x.n x.vs))).alloc_cst #[.int .i64 x.id, .slice x.A x.n x.c] 119).alloc_cst #[.int .i64 y.id, .slice y.A y.n y.c] 119
  rw [World.size_alloc] at K0
  have F0 := K0.facts
  simp only [World.size_alloc, World.size_drew, factsL, cellsF, Nat.reduceAdd, List.toList_toArray, List.set_cons_zero, List.set_cons_succ, List.setIfInBounds_toArray, and_true, true_and] at F0
  clear hD hE
  by_cases hi : x.id = y.id
  · have h1 : (x.id == y.id) = true := by simp [hi]
    have HI := hid hi; clear hi
    go_enter Tryz.func140, Tryz.ntmps140
    go_wp2_with fail
    refine (eqVls_any _ x.A x.n x.c x.vs y.A y.n y.c y.vs (K0.ro 2 rfl).now (K0.ro 3 rfl).now hn).mono ?_
    rintro e w1 ⟨rfl, q, rfl⟩
    have K1 := K0.drewN q
    have HB := hid (show decide (x.row = y.row) = decide (x.vs = y.vs) by simp [Rw.row, HI.out])
    go_wp2_with fail
    go_ret
    exact ⟨by rw [HB.out] <;> first | rfl | simp, K1.below⟩
  · have h1 : (x.id == y.id) = false := by simpa using hi
    have HB := hid (show decide (x.row = y.row) = false by simp [Rw.row, hi])
    clear hi
    go_enter Tryz.func140, Tryz.ntmps140
    go_wp2_with fail
    go_ret
    exact ⟨by rw [HB.out] <;> rfl, K0.below⟩
set_option maxHeartbeats 1000000 in
set_option maxRecDepth 100000 in
theorem eqRws_any (w : World) (A : Option Addr) (n c : Nat) (xs : List Rw) (B : Option Addr) (m d : Nat) (ys : List Rw) (hD : RwsIn A n xs w) (hE : RwsIn B m ys w) (hn : n ≤ 4398046511104) (hr : ∀ r ∈ xs, r.n ≤ 4398046511104) :
    Calls Tryz.prog 139 #[.slice A n c, .slice B m d, .func (.func 140) #[] #[]] w fun e w' => e = .returned (.bool (decide (xs.map Rw.row = ys.map Rw.row))) ∧ Below w.heap.size w w' := by
  have HL := hid hD.len
  have HK := hid hE.len
  by_cases hnm : n = m
  · subst hnm
    have hb : ((n : Int) != (n : Int)) = false := by simp
    have K0 := ((Hold.start None_ w (fun b hb => hb.elim)).add (show Ro w _ (RwsIn B n ys) from (Rd.ro hE.1 (Nat.le_refl _) (by simp [Mut, None_]) : Ro w _ (SlR 2 B n (rwCells ys))).and (fun w2 h1 h2 r hr => (Rd.ro (hE.2 r hr) (Nat.le_refl _) (by simp [Mut, None_]) : Ro w (Mut None_ []) (VlsIn r.A r.n r.vs)) w2 h1 h2))).add (show Ro w _ (RwsIn A n xs) from (Rd.ro hD.1 (Nat.le_refl _) (by simp [Mut, None_, Hp.foot]) : Ro w _ (SlR 2 A n (rwCells xs))).and (fun w2 h1 h2 r hr => (Rd.ro (hD.2 r hr) (Nat.le_refl _) (by simp [Mut, None_]) : Ro w (Mut None_ []) (VlsIn r.A r.n r.vs)) w2 h1 (fun b hb hn => h2 b hb (fun hm => by simp [Mut, None_, Hp.foot] at hm))))
    clear hD hE
    go_enter Tryz.func139, Tryz.ntmps139
    go_wp2_with fail
    go_loopw [17] (fun i wr => ∃ (k : Nat), k ≤ n ∧ i = .int .i64 k ∧ Hid ((xs.map Rw.row).take k = (ys.map Rw.row).take k) ∧ Hold None_ none w wr [.ro (RwsIn A n xs), .ro (RwsIn B n ys)]) (fun i _ => n - (intOf i).toNat)
    case atStart => exact ⟨0, by omega, rfl, hid (by simp), K0⟩
    case round =>
      clear K0
      obtain ⟨k, hk, rfl, HTK, H⟩ := hrel
      by_cases hlt : k < n
      · have hd : decide ((k : Int) < (n : Int)) = true := by simp; omega
        have i0 : (0 : Int) ≤ (k : Int) := by omega
        have i1 : (k : Int) < (n : Int) := by omega
        obtain ⟨x, hx⟩ := get_of HL.out hlt
        obtain ⟨y, hy⟩ := get_of HK.out hlt
        obtain ⟨g, o, rfl, hbx, x0, x1, _⟩ := (H.ro 0 rfl).now.at_ hx
        have hxn := hr x (List.mem_of_getElem? hx)
        have HX := hid (show (xs.map Rw.row)[k]? = some x.row by simp [hx]); have HY := hid (show (ys.map Rw.row)[k]? = some y.row by simp [hy])
        have HXM := hid (List.mem_of_getElem? hx)
        have HYM := hid (List.mem_of_getElem? hy)
        have HYY := hid hy
        clear hx hy
        have K1 := H.alloc_cst #[.int .i64 x.id, .slice x.A x.n x.c] 119
        obtain ⟨g', o', rfl, hby, y0, y1, _⟩ := (K1.ro 2 rfl).now.at_ HYY.out
        have K2 := K1.alloc_cst #[.int .i64 y.id, .slice y.A y.n y.c] 119
        rw [World.size_alloc] at K2
        have F2 := K2.facts
        simp only [World.size_alloc, World.size_drew, factsL, cellsF, Nat.reduceAdd, List.toList_toArray, List.set_cons_zero, List.set_cons_succ, List.setIfInBounds_toArray, and_true, true_and] at F2
        go_wp2_with fail
        refine (samerow_any _ x y ((K2.ro 2 rfl).now.2 x HXM.out) ((K2.ro 3 rfl).now.2 y HYM.out) hxn).mono ?_
        rintro e w3 ⟨rfl, b3⟩
        have K3 := (K2.call b3).drop ((List.sublist_cons_self _ _).trans (List.sublist_cons_self _ _))
        clear K1 K2 F2 b3 H
        by_cases hb : x.row = y.row
        · have HB := hid (takeEq_succ HX.out HY.out HTK.out hb)
          rw [decide_eq_true hb]
          clear hb
          go_wp2_with fail
          go_roundw
          case rel => exact ⟨k + 1, by omega, by go_num, HB, K3⟩
          case measure => simp [intOf]; omega
        · have HB := hid (beqL_no HX.out HY.out hb)
          rw [decide_eq_false hb]
          clear hb
          go_wp2_with fail
          go_ret
          exact ⟨by rw [HB.out] <;> rfl, K3.below⟩
      · obtain rfl : n = k := by omega
        have hd : decide ((n : Int) < (n : Int)) = false := by simp
        have HB := hid (show decide (xs.map Rw.row = ys.map Rw.row) = true by
          have h := HTK.out
          rw [List.take_of_length_le (by rw [List.length_map, HL.out]; exact Nat.le_refl _), List.take_of_length_le (by rw [List.length_map, HK.out]; exact Nat.le_refl _)] at h
          simp [h])
        go_wp2_with fail
        go_ret
        exact ⟨by rw [HB.out] <;> rfl, H.below⟩
  · have hb : ((n : Int) != (m : Int)) = true := by simp; omega
    have HB := hid (show decide (xs.map Rw.row = ys.map Rw.row) = false by
      rw [decide_eq_false_iff_not]; intro h; have h1 := congrArg List.length h; rw [List.length_map, List.length_map, HL.out, HK.out] at h1; exact hnm h1)
    go_enter Tryz.func139, Tryz.ntmps139
    go_wp2_with fail
    go_ret
    exact ⟨by rw [HB.out] <;> rfl, Below.refl _ _⟩
set_option maxHeartbeats 1000000 in
set_option maxRecDepth 100000 in
theorem sameschema_any (w : World) (nm : ByteArray) (A : Option Addr) (n c : Nat) (cs : List Col) (nm2 : ByteArray) (B : Option Addr) (m d : Nat) (ds : List Col) (hD : ColsIn A n cs w) (hE : ColsIn B m ds w) (hn : n ≤ 4398046511104) :
    Calls Tryz.prog 138 #[.agg #[.string nm, .slice A n c], .agg #[.string nm2, .slice B m d]] w fun e w' => e = .returned (.bool (decide (nm = nm2 ∧ cs = ds))) ∧ Below w.heap.size w w' := by
  have K0 := ((((Hold.start None_ w (fun b hb => hb.elim)).add (Rd.ro hE (Nat.le_refl _) (by simp [Mut, None_]) : Ro w _ (ColsIn B m ds))).add (Rd.ro hD (Nat.le_refl _) (by simp [Mut, None_, Hp.foot]) : Ro w _ (ColsIn A n cs))).alloc_cst #[.string nm, .slice A n c] 49).alloc_cst #[.string nm2, .slice B m d] 49
  rw [World.size_alloc] at K0
  have F0 := K0.facts
  simp only [World.size_alloc, World.size_drew, factsL, cellsF, Nat.reduceAdd, List.toList_toArray, List.set_cons_zero, List.set_cons_succ, List.setIfInBounds_toArray, and_true, true_and] at F0
  clear hD hE
  by_cases hi : nm = nm2
  · have h1 : (nm.toList == nm2.toList) = true := by simp [hi]
    have HI := hid hi; clear hi
    go_enter Tryz.func138, Tryz.ntmps138
    go_wp2_with fail
    refine (eqCols_any _ A n c cs B m d ds (K0.ro 2 rfl).now (K0.ro 3 rfl).now hn).mono ?_
    rintro e w1 ⟨rfl, q, rfl⟩
    have K1 := K0.drewN q
    have HB := hid (show decide (nm = nm2 ∧ cs = ds) = decide (cs = ds) by simp [HI.out])
    go_wp2_with fail
    go_ret
    exact ⟨by rw [HB.out] <;> first | rfl | simp, K1.below⟩
  · have h1 : (nm.toList == nm2.toList) = false := by rw [beq_eq_false_iff_ne]; exact fun h => hi (bytesEq h)
    have HB := hid (show decide (nm = nm2 ∧ cs = ds) = false by simp [hi])
    clear hi
    go_enter Tryz.func138, Tryz.ntmps138
    go_wp2_with fail
    go_ret
    exact ⟨by rw [HB.out] <;> rfl, K0.below⟩
/-- a table in plain words -/
structure Tb where
  nm : ByteArray
  cs : List Col
  nx : Int
  rs : List Row
deriving DecidableEq
/-- A value that is a table in memory that nobody writes. -/
def TbAt (w : World) (M : Nat → Prop) (v : Value) (t : Tb) : Prop :=
  ∃ (A : Option Addr) (n c : Nat) (B : Option Addr) (m d : Nat) (l : List Rw), v = .agg #[.string t.nm, .slice A n c, .int .i64 t.nx, .slice B m d] ∧ n ≤ c ∧ c ≤ 9223372036854775807 ∧ m ≤ d ∧ d ≤ 9223372036854775807 ∧ Ro w M (ColsIn A n t.cs) ∧ Ro w M (RwsIn B m l) ∧ (∀ r ∈ l, r.ok) ∧ l.map Rw.row = t.rs
set_option maxHeartbeats 1000000 in
set_option maxRecDepth 100000 in
theorem sametable_any (w : World) (nm : ByteArray) (A : Option Addr) (n c : Nat) (cs : List Col) (nx : Int) (A2 : Option Addr) (n2 c2 : Nat) (xs : List Rw) (nm2 : ByteArray) (B : Option Addr) (m d : Nat) (ds : List Col) (nx2 : Int) (B2 : Option Addr) (m2 d2 : Nat) (ys : List Rw) (hD : ColsIn A n cs w) (hE : ColsIn B m ds w) (hX : RwsIn A2 n2 xs w) (hY : RwsIn B2 m2 ys w) (hn : n ≤ 4398046511104) (hn2 : n2 ≤ 4398046511104) (hr : ∀ r ∈ xs, r.n ≤ 4398046511104) :
    Calls Tryz.prog 69 #[.agg #[.string nm, .slice A n c, .int .i64 nx, .slice A2 n2 c2], .agg #[.string nm2, .slice B m d, .int .i64 nx2, .slice B2 m2 d2]] w fun e w' => e = .returned (.bool (decide ((⟨nm, cs, nx, xs.map Rw.row⟩ : Tb) = ⟨nm2, ds, nx2, ys.map Rw.row⟩))) ∧ Below w.heap.size w w' := by
  have hro : ∀ (A : Option Addr) (n : Nat) (l : List Rw), RwsIn A n l w → Ro w None_ (RwsIn A n l) := fun A n l h => (Rd.ro h.1 (Nat.le_refl _) (fun _ _ h => h) : Ro w None_ (SlR 2 A n (rwCells l))).and (fun w2 h1 h2 r hr => (Rd.ro (h.2 r hr) (Nat.le_refl _) (fun _ _ h => h) : Ro w None_ (VlsIn r.A r.n r.vs)) w2 h1 h2)
  have K0 := ((((((Hold.start None_ w (fun b hb => hb.elim)).add ((hro _ _ _ hY).less (by simp [Mut, None_]))).add ((hro _ _ _ hX).less (by simp [Mut, None_, Hp.foot]))).add (Rd.ro hE (Nat.le_refl _) (by simp [Mut, None_, Hp.foot]) : Ro w _ (ColsIn B m ds))).add (Rd.ro hD (Nat.le_refl _) (by simp [Mut, None_, Hp.foot]) : Ro w _ (ColsIn A n cs))).alloc_cst #[.string nm, .slice A n c, .int .i64 nx, .slice A2 n2 c2] 58).alloc_cst #[.string nm2, .slice B m d, .int .i64 nx2, .slice B2 m2 d2] 58
  rw [World.size_alloc] at K0
  have F0 := K0.facts
  simp only [World.size_alloc, World.size_drew, factsL, cellsF, Nat.reduceAdd, List.toList_toArray, List.set_cons_zero, List.set_cons_succ, List.setIfInBounds_toArray, and_true, true_and] at F0
  clear hD hE hX hY hro
  go_enter Tryz.func69, Tryz.ntmps69
  go_wp2_with fail
  refine (sameschema_any _ nm A n c cs nm2 B m d ds (K0.ro 2 rfl).now (K0.ro 3 rfl).now hn).mono ?_
  rintro e w1 ⟨rfl, b1⟩
  have K1 := K0.call b1
  clear K0 b1 F0
  have F1 := K1.facts
  simp only [World.size_alloc, World.size_drew, factsL, cellsF, Nat.reduceAdd, List.toList_toArray, List.set_cons_zero, List.set_cons_succ, List.setIfInBounds_toArray, and_true, true_and] at F1
  by_cases h1 : nm = nm2 ∧ cs = ds
  · rw [decide_eq_true h1]
    by_cases h2 : nx = nx2
    · have h2d : (nx == nx2) = true := by simp [h2]
      have HB := hid (show decide ((⟨nm, cs, nx, xs.map Rw.row⟩ : Tb) = ⟨nm2, ds, nx2, ys.map Rw.row⟩) = decide (xs.map Rw.row = ys.map Rw.row) by simp [h1.1, h1.2, h2])
      clear h1 h2
      go_wp2_with fail
      refine (eqRws_any _ A2 n2 c2 xs B2 m2 d2 ys (K1.ro 4 rfl).now (K1.ro 5 rfl).now hn2 hr).mono ?_
      rintro e w2 ⟨rfl, b2⟩
      have K2 := K1.call b2
      go_wp2_with fail
      go_ret
      exact ⟨by rw [HB.out] <;> first | rfl | simp, K2.below⟩
    · have h2d : (nx == nx2) = false := by simpa using h2
      have HB := hid (show decide ((⟨nm, cs, nx, xs.map Rw.row⟩ : Tb) = ⟨nm2, ds, nx2, ys.map Rw.row⟩) = false by simp [h2])
      clear h1 h2
      go_wp2_with fail
      go_ret
      exact ⟨by rw [HB.out] <;> first | rfl | simp, K1.below⟩
  · have HB := hid (show decide ((⟨nm, cs, nx, xs.map Rw.row⟩ : Tb) = ⟨nm2, ds, nx2, ys.map Rw.row⟩) = false by
      rw [decide_eq_false_iff_not]; intro h; exact h1 ⟨congrArg Tb.nm h, congrArg Tb.cs h⟩)
    rw [decide_eq_false h1]
    clear h1
    go_wp2_with fail
    go_ret
    exact ⟨by rw [HB.out] <;> first | rfl | simp, K1.below⟩
end Go.Proofs.YtedogodccblfeaaGreatDoor

namespace Go.Proofs.YtedogodccblfeaaGreatDoor
open Go.RowKit
set_option linter.unusedVariables false
set_option linter.unusedSimpArgs false

/-- an update's slot -/
def PrSlot (M : Nat → Prop) (x : Upd) (u : Value) (w : World) : Prop := ∃ p : Pr, u = .agg #[.int .i64 p.id, .slice p.oA p.on p.oc, .slice p.nA p.nn p.nc] ∧ p.upd = x ∧ p.ok ∧ Ro w M (VlsIn p.oA p.on p.old) ∧ Ro w M (VlsIn p.nA p.nn p.new)
/-- a list's of updates -/
def PrsSlot (M : Nat → Prop) (l : List Upd) (u : Value) (w : World) : Prop := ∃ (A : Option Addr) (n c : Nat) (ps : List Pr), u = .slice A n c ∧ n ≤ c ∧ c ≤ 9223372036854775807 ∧ ps.map Pr.upd = l ∧ (∀ p ∈ ps, p.ok) ∧ Ro w M (PrsIn A n ps)
/-- a new block's, to be written -/
def NewSlot (M : Nat → Prop) (H : Nat) (t : TypeId) (cs : Array Value) (u : Value) (w : World) : Prop := ∃ g : Nat, u = .pointer (some ⟨g, 0, none⟩) ∧ H ≤ g ∧ Ro w M (fun w => w.heap[g]? = some (.cells cs t (0, 0)))
theorem newSlot_mono {M : Nat → Prop} {H : Nat} {t : TypeId} {cs : Array Value} (u : Value) (w w' : World) (hr : RM M w w') (h : NewSlot M H t cs u w) : NewSlot M H t cs u w' := by
  obtain ⟨g, h1, h2, h3⟩ := h
  exact ⟨g, h1, h2, hr.ro h3⟩
/-- A block that came since w1, known whole. -/
theorem Hold.addFreshBlk {M : Nat → Prop} {row : Option Nat} {w0 w1 w : World} {L : List Hp} (K1 : Hold M row w0 w1 L) (K : Hold M row w0 w L) (hr : RM (Mut M L) w1 w) {g : Nat} {t : TypeId} {cs : Array Value} (hg : w1.heap.size ≤ g) (hb : w.heap[g]? = some (.cells cs t (0, 0))) :
    Hold M row w0 w (.blk g t cs :: L) := by
  have hgl : g < w.heap.size := Blk.lt (t := t) (cs := cs) hb
  have hno : ∀ k ∈ L, k.foot ≠ some g := fun k hk hf => by have := (K1.fresh k hk g hf).2; omega
  have ee : ∀ b, b < w1.heap.size → Mut M (.blk g t cs :: L) b → Mut M L b := fun b hl hb => by
    rcases mut_cons.1 hb with hf | hm
    · have : some g = some b := hf
      injection this with this
      omega
    · exact hm
  refine ⟨K.grow, K.low, fun k hk => ?_, fun k hk b hf => ?_, ⟨fun b hf k hk he => ?_, K.sep⟩⟩
  · rcases List.mem_cons.1 hk with rfl | hk
    · exact hb
    · have h1 := K1.sat k hk
      have h2 := K.sat k hk
      cases k with
      | blk g' t' cs' => exact h2
      | own e s v n' xs => exact h2
      | tp T =>
        refine ⟨h2.1, fun b hb' => ?_⟩
        have hT : T < w1.heap.size := (K1.fresh _ hk T rfl).2
        rcases mut_cons.1 hb' with hf | hm'
        · have : some g = some b := hf
          injection this with this
          omega
        · exact h2.2 b hm'
      | ro S => exact Ro.step h1 hr.1 hr.2 ee
      | cst g' t' cs' => exact Ro.step h1 hr.1 hr.2 ee
      | ob g' F' => exact h2
  · rcases List.mem_cons.1 hk with rfl | hk
    · have : some g = some b := hf
      injection this with this
      subst this
      exact ⟨.inl (Nat.le_trans K1.grow.size hg), hgl⟩
    · exact K.fresh k hk b hf
  · have : some g = some b := hf
    injection this with this
    subst this
    exact hno k hk he
/-- What is read is apart from a block whose cells do not fit. -/
theorem Ro.apartBlk {w : World} {Q : Nat → Prop} {size n : Nat} {A : Option Addr} {xs : List Value} (h : Ro w Q (SlR size A n xs)) {ga : Nat} {t : TypeId} {cs : Array Value} (hg : w.heap[ga]? = some (.cells cs t (0, 0))) (hx : n = 0 ∨ ∃ u, xs[0]? = some u ∧ u ∉ cs.toList) : Ro w (fun b => b = ga ∨ Q b) (SlR size A n xs) := by
  rcases hx with rfl | ⟨u0, hu0, hnu⟩
  · exact fun w2 _ _ => ⟨(show Rd w w.heap.size size A 0 xs from h.now).1, fun h0 => absurd h0 (by omega)⟩
  · intro w2 h1 h2
    have hgl : ga < w.heap.size := Blk.lt (t := t) (cs := cs) hg
    have hgs : (w2.heap.setIfInBounds ga (.cells cs t (0, 0)))[ga]? = some (.cells cs t (0, 0)) := by
      rw [Array.getElem?_setIfInBounds, if_pos rfl, if_pos (by omega)]
    have hne : ∀ b, b ≠ ga → (w2.heap.setIfInBounds ga (.cells cs t (0, 0)))[b]? = w2.heap[b]? := fun b hb => by
      rw [Array.getElem?_setIfInBounds, if_neg (fun e => hb e.symm)]
    have h3 : Rd { w2 with heap := w2.heap.setIfInBounds ga (.cells cs t (0, 0)) } _ size A n xs := h { w2 with heap := w2.heap.setIfInBounds ga (.cells cs t (0, 0)) } (by simpa using h1) (fun b hb hn => by
      by_cases e : b = ga
      · subst e; exact hgs.trans hg.symm
      · exact (hne b e).trans (h2 b hb (fun hm => hm.elim e hn)))
    refine ⟨h3.1, fun hn => ?_⟩
    obtain ⟨b, o, e, hb, hc⟩ := h3.2 hn
    have hbg : b ≠ ga := by
      rintro rfl
      have h4 := hc 0 u0 hu0
      rw [cell_of_row _ _ _ _ _ _ hgs] at h4
      exact hnu (Array.mem_toList_iff.2 (Array.mem_of_getElem? h4))
    refine ⟨b, o, e, by simpa using hb, fun j u hu => ?_⟩
    rw [← hc j u hu]
    exact (World.cell?_of_block (w := w2) (w' := { w2 with heap := w2.heap.setIfInBounds ga (.cells cs t (0, 0)) }) (a := ⟨b, o + j, none⟩) (hne b hbg)).symm
def zeroTc : Array Value := #[.string ⟨#[]⟩, .slice none 0 0, .int .i64 0, .slice none 0 0]
theorem int_apart {x : Int} (h : x ≠ 0) : Value.int .i64 x ∉ zeroTc.toList := by simp [zeroTc, h]
section
variable {M : Nat → Prop}
theorem prSlot_mono {x : Upd} (u : Value) (w w' : World) (hr : RM M w w') (h : PrSlot M x u w) : PrSlot M x u w' := by
  obtain ⟨p, h1, h2, h3, h4, h5⟩ := h
  exact ⟨p, h1, h2, h3, hr.ro h4, hr.ro h5⟩
theorem prsSlot_mono {l : List Upd} (u : Value) (w w' : World) (hr : RM M w w') (h : PrsSlot M l u w) : PrsSlot M l u w' := by
  obtain ⟨A, n, c, ps, h1, h2, h3, h4, h5, h6⟩ := h
  exact ⟨A, n, c, ps, h1, h2, h3, h4, h5, hr.ro h6⟩
/-- a clone's slot and another make an update's -/
theorem prSlot_of {id : Int} {old new : List Vl} {a b : Value} {w : World} (hid : I64 id) (ho : ∀ v ∈ old, v.ok) (hn : ∀ v ∈ new, v.ok) (h : VlsSlot M old a w) (k : VlsSlot M new b w) : PrSlot M (id, old, new) (.agg #[.int .i64 id, a, b]) w := by
  obtain ⟨A, n, c, rfl, h1, h2, h3, h4⟩ := h
  obtain ⟨B, m, d, rfl, k1, k2, k3, k4⟩ := k
  exact ⟨⟨id, A, n, c, old, B, m, d, new⟩, rfl, rfl, ⟨hid, h2, h3, k2, k3, ho, hn⟩, h4, k4⟩
theorem prsSlot_one {x : Upd} {a : Value} {w : World} {g : Nat} {t : TypeId} {cs : Array Value} (hg : Ro w M (fun w => w.heap[g]? = some (.cells cs t (0, 0)))) (hc : ∀ i j k, a = .agg #[i, j, k] → cs = #[i, j, k]) (h : PrSlot M x a w) : PrsSlot M [x] (.slice (some ⟨g, 0, none⟩) 1 1) w := by
  obtain ⟨p, rfl, rfl, h3, h4, h5⟩ := h
  obtain rfl := hc _ _ _ rfl
  refine ⟨_, 1, 1, [p], rfl, by omega, by omega, rfl, fun z hz => ?_, ?_⟩
  · simp only [List.mem_cons, List.not_mem_nil, or_false] at hz
    subst hz; assumption
  · exact (show Ro w M (SlR 3 (some ⟨g, 0, none⟩) 1 (prCells [p])) from ro_block hg rfl).and fun w2 h1 h2 r hr => by
      simp only [List.mem_cons, List.not_mem_nil, or_false] at hr
      subst hr
      exact ⟨h4 w2 h1 h2, h5 w2 h1 h2⟩
end
end Go.Proofs.YtedogodccblfeaaGreatDoor

namespace Go.Proofs.YtedogodccblfeaaGreatDoor
open Go.RowKit
set_option linter.unusedVariables false
theorem Ro.vlsAt {w : World} {M : Nat → Prop} {A : Option Addr} {n : Nat} {l : List Vl} (h : Ro w M (VlsIn A n l)) {k : Nat} {x : Vl} (hx : l[k]? = some x) :
    ∃ b o, A = some ⟨b, o, none⟩ ∧ Ro w M (fun w => b < w.heap.size ∧ w.cell? ⟨b, o + k * 3, none⟩ = some (.int .i64 x.k) ∧ w.cell? ⟨b, o + k * 3 + 1, none⟩ = some (.int .i64 x.i) ∧ w.cell? ⟨b, o + k * 3 + 2, none⟩ = some (.string x.s)) := by
  obtain ⟨b, o, e, _⟩ := h.now.at_ hx
  refine ⟨b, o, e, fun w2 h1 h2 => ?_⟩
  obtain ⟨b', o', e', h3, h4, h5, h6⟩ := (h w2 h1 h2).at_ hx
  rw [e] at e'
  injection e' with e'
  injection e' with e1 e2
  subst e1; subst e2
  exact ⟨h3, h4, h5, h6⟩
/-- the items under one name -/
theorem Hold.name {M : Nat → Prop} {row : Option Nat} {w0 w : World} {L : List Hp} (h : Hold M row w0 w L) : ∃ KL, KL = L ∧ Hold M row w0 w KL := ⟨L, rfl, h⟩
end Go.Proofs.YtedogodccblfeaaGreatDoor

namespace Go.Proofs.YtedogodccblfeaaGreatDoor
open Go.RowKit
set_option linter.unusedVariables false
set_option linter.unusedSimpArgs false

theorem cont_hit {xs : List Int} {k : Nat} {x y : Int} (hx : xs[k]? = some y) (h : x = y) : xs.contains x = true := by
  subst h; simpa using List.mem_of_getElem? hx
theorem cont_step {xs : List Int} {k : Nat} {x y : Int} (hx : xs[k]? = some y) (h : x ≠ y) (hk : (xs.take k).contains x = false) : (xs.take (k + 1)).contains x = false := by
  rw [List.take_add_one, hx]
  simp at hk ⊢
  exact ⟨hk, h⟩
set_option maxHeartbeats 1000000 in
set_option maxRecDepth 100000 in
theorem kindex_any (w : World) (A : Option Addr) (n c : Nat) (xs : List Int) (x : Int) (hD : IsIn A n xs w) (hn : n ≤ 9223372036854775807) :
    Calls Tryz.prog 190 #[.slice A n c, .int .i64 x] w fun e w' => (∃ r : Int, e = .returned (.int .i64 r) ∧ decide (r ≥ 0) = xs.contains x ) ∧ w = w' := by
  have HL := hid hD.len
  go_enter Tryz.func190, Tryz.ntmps190
  go_wp2_with fail
  go_loopw [8] (fun iv wr => ∃ (k : Nat), k ≤ n ∧ iv = .int .i64 k ∧ wr = w ∧ Hid ((xs.take k).contains x = false)) (fun iv _ => n - (intOf iv).toNat)
  case atStart => exact ⟨0, by omega, rfl, rfl, hid (by simp)⟩
  case round =>
    obtain ⟨k, hk, rfl, rfl, HC⟩ := hrel
    by_cases hlt : k < n
    · have hd : decide ((k : Int) < (n : Int)) = true := by simp; omega
      have i0 : (0 : Int) ≤ (k : Int) := by omega
      have i1 : (k : Int) < (n : Int) := by omega
      obtain ⟨b, o, rfl, _, hcc⟩ := hD.cells (by omega)
      have HX := hid (show xs[k]? = some (xs.getD k 0) by simp [List.getD, show k < xs.length by rw [HL.out]; exact hlt])
      have ck : wr.cell? ⟨b, o + k, none⟩ = some (.int .i64 (xs.getD k 0)) := hcc k (by rw [HL.out]; exact hlt)
      clear hcc
      generalize xs.getD k 0 = y at *
      by_cases hxy : x = y
      · have e1 : (x == y) = true := by simp [hxy]
        have HN := hid (cont_hit HX.out hxy)
        clear hxy
        go_wp2_with fail
        go_ret
        exact ⟨⟨k, rfl, by rw [HN.out]; simp⟩, rfl⟩
      · have e1 : (x == y) = false := by simpa using hxy
        have HN := hid (cont_step HX.out hxy HC.out)
        clear hxy
        go_wp2_with fail
        go_roundw
        case rel => exact ⟨k + 1, by omega, by go_num, by first | rfl | trivial, HN⟩
        case measure => simp [intOf]; omega
    · obtain rfl : n = k := by omega
      have hd : decide ((n : Int) < (n : Int)) = false := by simp
      have HN := hid (show xs.contains x = false by have h := HC.out; rwa [List.take_of_length_le (by rw [HL.out]; exact Nat.le_refl _)] at h)
      go_wp2_with fail
      go_ret
      exact ⟨⟨-1, rfl, by rw [HN.out]; rfl⟩, rfl⟩
theorem kcont_any (w : World) (A : Option Addr) (n c : Nat) (xs : List Int) (x : Int) (hD : IsIn A n xs w) (hn : n ≤ 9223372036854775807) :
    Calls Tryz.prog 131 #[.slice A n c, .int .i64 x] w fun e w' => e = .returned (.bool (xs.contains x)) ∧ w = w' := by
  go_enter Tryz.func131, Tryz.ntmps131
  go_wp2_with fail
  refine (kindex_any w A n c xs x hD hn).mono ?_
  rintro e w1 ⟨⟨r, rfl, hr⟩, rfl⟩
  go_wp2_with fail
  go_ret
  exact ⟨by first | rw [hr] <;> rfl | simp [← hr], rfl⟩
end Go.Proofs.YtedogodccblfeaaGreatDoor

namespace Go.Proofs.YtedogodccblfeaaGreatDoor
open Go.RowKit
set_option linter.unusedVariables false
set_option linter.unusedSimpArgs false

end Go.Proofs.YtedogodccblfeaaGreatDoor

namespace Go.Proofs.YtedogodccblfeaaGreatDoor
open Go.RowKit
set_option linter.unusedVariables false
set_option linter.unusedSimpArgs false

theorem okR_fits {cs : List Col} {nx : Int} : ∀ {lst : Int} {rs : List Row}, okR cs nx lst rs = true → ∀ r ∈ rs, fitsT cs r.2 = 0
  | _, [], _, r, hr => nomatch hr
  | lst, x :: rs, h, r, hr => by
    rw [okR] at h
    simp only [Bool.and_eq_true, decide_eq_true_eq] at h
    rcases List.mem_cons.1 hr with rfl | hr
    · exact h.1.2
    · exact okR_fits h.2 r hr
theorem fitsT_len {cs : List Col} {vs : List Vl} (h : fitsT cs vs = 0) : vs.length = cs.length := by
  unfold fitsT at h
  split at h
  · assumption
  · omega
theorem tabB_cols {nm : ByteArray} {cs : List Col} {nx : Int} {rs : List Row} (h : tabB nm cs nx rs = true) : cs.length ≤ 6 := by
  unfold tabB at h
  simp only [Bool.and_eq_true] at h
  have h1 := h.1.1.1.1.1
  unfold schemaB at h1
  simp only [Bool.and_eq_true, decide_eq_true_eq] at h1
  exact h1.1.1.2
theorem tabB_row {nm : ByteArray} {cs : List Col} {nx : Int} {rs : List Row} (h : tabB nm cs nx rs = true) {r : Row} (hr : r ∈ rs) : r.2.length = cs.length := by
  unfold tabB at h
  simp only [Bool.and_eq_true] at h
  exact fitsT_len (okR_fits h.1.2 r hr)
theorem tabB_rows {nm : ByteArray} {cs : List Col} {nx : Int} {rs : List Row} (h : tabB nm cs nx rs = true) : rs.length ≤ 100 ∧ 1 ≤ nx ∧ nx ≤ 2147483648 := by
  unfold tabB at h
  simp only [Bool.and_eq_true, decide_eq_true_eq] at h
  exact ⟨h.1.1.1.1.2, h.1.1.1.2, h.1.1.2⟩
/-- rows of a valid table are short, in memory too -/
theorem rw_short {w : World} {B : Option Addr} {m : Nat} {l : List Rw} {nm : ByteArray} {cs : List Col} {nx : Int} (hE : RwsIn B m l w) (h : tabB nm cs nx (l.map Rw.row) = true) : ∀ r ∈ l, r.n ≤ 6 := fun r hr => by
  have h1 := tabB_row h (List.mem_map_of_mem (f := Rw.row) hr)
  have h2 := tabB_cols h
  have h3 := (hE.2 r hr).len
  have : r.vs.length = cs.length := h1
  omega
end Go.Proofs.YtedogodccblfeaaGreatDoor

/- DPlain: differences as data; what Between answers, in plain words. No program in sight. -/
import Derived.StillTail
import Derived.Tactics
import Derived.KernelRfl
import Derived.Test.YtjpgbhakkfgecaaDoorTFitSaidMA
import Derived.Maps.OwnOps
import Derived.Maps.Views
import Derived.DeepKeys4
import Derived.Laws.BytesArg
import Derived.Shelf.SlGeneric
import Derived.Shelf.SlSortCmp.NoneTotal
import Derived.Ground.SlsfProg
import Derived.Test.YtjpgbhakkfgecaaDoorProg
import Derived.Deep.RegionHeld3
import Derived.Shelf.SlSortCmp.QuietGrown
import Derived.WalkSpells
import Derived.Sort.Statements
import Derived.Shelf.SlSortCmp.Insertion
import Derived.StillTailTactics
import Derived.Deep.LoopGhost
import Derived.IntWalk
namespace Go.Proofs.YtjpgbhakkfgecaaDoor
open Go
set_option linter.unusedVariables false
set_option linter.unusedSectionVars false
set_option linter.unusedSimpArgs false

def slot (a : Act) : Option Tmp → Value
  | some t => a.tmps.getD t undef
  | none => undef

section
variable (P : Program) (ops : Array Oper) (C : World → Prop) (G : Option Tmp → Value → World → Prop) (R : World → World → Prop)

/-- What an operation waits for lies there. -/
def Deps (o : Oper) (a : Act) (w : World) : Prop := ∀ e ∈ o.after, Region.binds .any e = true → ∀ oe, ops[e.on]? = some oe → G oe.dst (slot a oe.dst) w
def goodUpon (d : Option Tmp) (w : World) : Result Next → Prop
  | .ok (.value u) w' => G d u w' ∧ C w' ∧ R w w'
  | .ok .skip w' => G d undef w' ∧ C w' ∧ R w w'
  | .ok (.enter f args) w' => Calls P f args w' fun e w'' => ∃ u, e = .returned u ∧ G d u w'' ∧ C w'' ∧ R w w''
  | _ => False
def Good (o : Oper) (a : Act) (w : World) : Prop := goodUpon P C G R o.dst w ((execOp a.eval o).run P w)
def mayUpon (u : Value) : Result Next → Prop
  | .ok (.value x) _ => u = x
  | .ok .skip _ => u = undef
  | .ok (.enter _ _) _ => True
  | _ => False
def StepOk (o : Oper) (a : Act) : Prop :=
  if Region.wanted o (yielded ops a.tmps) = true then ∀ w, C w → Deps ops G o a w → Good P C G R o a w else ∀ w, C w → G o.dst undef w
def May (o : Oper) (a : Act) (u : Value) : Prop :=
  if Region.wanted o (yielded ops a.tmps) = true then ∃ w, C w ∧ Deps ops G o a w ∧ mayUpon u ((execOp a.eval o).run P w) else u = undef
/-- Some world has all that is done so far. -/
def Inh (S : Array Bool) (k : Nat) (a : Act) : Prop := ∃ w, C w ∧ ∀ j oj, ops[j]? = some oj → (S.getD j false = true ∨ j < k) → G oj.dst (slot a oj.dst) w
/-- The walk in the order of the text, over what is still to come (S: what has come up). -/
def Wk (S : Array Bool) (F : Act → Prop) : Nat → Nat → Act → Prop
  | 0, k, a => Inh ops C G S k a → F a
  | m + 1, k, a => Inh ops C G S k a → match ops[k]? with
    | none => False
    | some o => if S.getD k false = true then Wk S F m (k + 1) a else StepOk P ops C G R o a ∧ ∀ u, May P ops C G o a u → Inh ops C G S (k + 1) (a.put o.dst u) → Wk S F m (k + 1) (a.put o.dst u)
def Inv (S : Array Bool) (a : Act) (w : World) : Prop := C w ∧ ∀ j oj, ops[j]? = some oj → S.getD j false = true → G oj.dst (slot a oj.dst) w
end

section
variable {P : Program} {ops : Array Oper} {C : World → Prop} {G : Option Tmp → Value → World → Prop} {R : World → World → Prop}

/-- no two operations of the region fill one slot; each slot lies in the frame -/
def dstsB (ops : Array Oper) (n : Nat) : Bool :=
  (List.range ops.size).all fun i => match (ops[i]?).bind (·.dst) with
    | none => true
    | some d => decide (d < n) && (List.range ops.size).all fun j => j == i || (ops[j]?).bind (·.dst) != some d
theorem dstsB_in {n i : Nat} {o : Oper} {d : Tmp} (h : dstsB ops n = true) (hi : ops[i]? = some o) (hd : o.dst = some d) : d < n := by
  have h1 := List.all_eq_true.1 h i (List.mem_range.2 (Array.getElem?_eq_some_iff.1 hi).1)
  simp only [hi, Option.bind_some, hd, Bool.and_eq_true, decide_eq_true_eq] at h1
  exact h1.1
theorem dstsB_ne {n i j : Nat} {o o' : Oper} {d : Tmp} (h : dstsB ops n = true) (hi : ops[i]? = some o) (hj : ops[j]? = some o') (hd : o.dst = some d) (hij : j ≠ i) : o'.dst ≠ some d := by
  have h1 := List.all_eq_true.1 h i (List.mem_range.2 (Array.getElem?_eq_some_iff.1 hi).1)
  simp only [hi, Option.bind_some, hd, Bool.and_eq_true] at h1
  have h2 := List.all_eq_true.1 h1.2 j (List.mem_range.2 (Array.getElem?_eq_some_iff.1 hj).1)
  simp only [hj, Option.bind_some, Bool.or_eq_true, beq_iff_eq, bne_iff_ne, ne_eq] at h2
  exact h2.resolve_left hij

theorem slot_put_ne {a : Act} {x y : Option Tmp} {v : Value} (h : ∀ d, x = some d → y ≠ some d) : slot (a.put x v) y = slot a y := by
  cases x with
  | none => rfl
  | some d =>
    cases y with
    | none => rfl
    | some t =>
      have hne : d ≠ t := fun e => h d rfl (by rw [e])
      simp only [Act.put, slot, Array.getD_eq_getD_getElem?, Array.getElem?_setIfInBounds_ne hne]
theorem slot_put_same {a : Act} {d : Tmp} {v : Value} (h : d < a.tmps.size) : slot (a.put (some d) v) (some d) = v := by
  simp [Act.put, slot, h]
theorem size_put {a : Act} {x : Option Tmp} {v : Value} : (a.put x v).tmps.size = a.tmps.size := by
  cases x <;> simp [Act.put]

/-- o' is apart from o: its coming up makes no difference to o -/
structure Aside (ops : Array Oper) (o o' : Oper) : Prop where
  sel : ∀ cs b, o.op ≠ .select cs b
  look : ∀ d, o'.dst = some d → d ∉ o.looksAt ops
  deps : ∀ e ∈ o.after, Region.binds .any e = true → ∀ oe, ops[e.on]? = some oe → ∀ d, o'.dst = some d → oe.dst ≠ some d

theorem Aside.wanted {o o' : Oper} (h : Aside ops o o') (a : Act) (v : Value) : Region.wanted o (yielded ops (a.put o'.dst v).tmps) = Region.wanted o (yielded ops a.tmps) := wanted_put o a o'.dst v h.look
theorem Aside.exec {o o' : Oper} (h : Aside ops o o') (a : Act) (v : Value) : execOp (a.put o'.dst v).eval o = execOp a.eval o := execOp_put (ops := ops) o h.sel a o'.dst v h.look
theorem Aside.deps_ {o o' : Oper} (h : Aside ops o o') (a : Act) (v : Value) (w : World) : Deps ops G o (a.put o'.dst v) w ↔ Deps ops G o a w := by
  constructor
  · intro k e he hb oe hoe
    have := k e he hb oe hoe
    rwa [slot_put_ne (h.deps e he hb oe hoe)] at this
  · intro k e he hb oe hoe
    rw [slot_put_ne (h.deps e he hb oe hoe)]
    exact k e he hb oe hoe
theorem Aside.step {o o' : Oper} (h : Aside ops o o') (a : Act) (v : Value) : StepOk P ops C G R o (a.put o'.dst v) ↔ StepOk P ops C G R o a := by
  unfold StepOk Good
  rw [h.wanted, h.exec]
  simp only [h.deps_]
theorem Aside.may {o o' : Oper} (h : Aside ops o o') (a : Act) (v u : Value) : May P ops C G o (a.put o'.dst v) u ↔ May P ops C G o a u := by
  unfold May
  rw [h.wanted, h.exec]
  simp only [h.deps_]

variable {n N : Nat} {F : Act → Prop}

/-- What is known of the region by looking. -/
structure Shape (ops : Array Oper) (n N : Nat) : Prop where
  dsts : dstsB ops N = true
  le : n ≤ ops.size
  /-- a head waits for earlier operations alone, and what comes behind it waits for it or is apart from it -/
  back : ∀ k o, ops[k]? = some o → k < n → ∀ e ∈ o.after, Region.binds .any e = true → e.on < k
  aside : ∀ k i ok oi, k < i → i < n → ops[k]? = some ok → ops[i]? = some oi → (∀ e ∈ oi.after, Region.binds .any e = true → e.on ≠ k) → ok.apart ops oi = true
  sel : ∀ (j : Nat) (o : Oper) cs b, ops[j]? = some o → o.op ≠ .select cs b

theorem Shape.aside_of (h : Shape ops n N) {k i : Nat} {ok oi : Oper} (hki : k < i) (hi : i < n) (hk' : ops[k]? = some ok) (hi' : ops[i]? = some oi) (hno : ∀ e ∈ oi.after, Region.binds .any e = true → e.on ≠ k) : Aside ops oi ok ∧ Aside ops ok oi := by
  obtain ⟨h1, h2, h3⟩ := Oper.apart_spec (h.aside k i ok oi hki hi hk' hi' hno)
  refine ⟨⟨fun cs b => h.sel i oi cs b hi', h1, fun e he hb oe hoe d hd => ?_⟩, ⟨fun cs b => h.sel k ok cs b hk', h3, fun e he hb oe hoe d hd => ?_⟩⟩
  · exact dstsB_ne h.dsts hk' hoe hd (hno e he hb)
  · have := h.back k ok hk' (by omega) e he hb
    exact dstsB_ne h.dsts hi' hoe hd (by omega)

section
variable (sh : Shape ops n N) (hmono : ∀ d u w w', R w w' → G d u w → G d u w')
include sh hmono

theorem slots_keep {S : Array Bool} {i : Nat} {oi : Oper} {a : Act} {u : Value} (hi : ops[i]? = some oi) {j : Nat} {oj : Oper} (hj : ops[j]? = some oj) (hji : j ≠ i) : slot (a.put oi.dst u) oj.dst = slot a oj.dst :=
  slot_put_ne fun d hd => dstsB_ne sh.dsts hi hj hd hji
theorem slots_new {i : Nat} {oi : Oper} {a : Act} {u : Value} (hN : a.tmps.size = N) (hi : ops[i]? = some oi) {w : World} (h : G oi.dst u w) (hu : oi.dst = none → G none undef w) : G oi.dst (slot (a.put oi.dst u) oi.dst) w := by
  cases hd : oi.dst with
  | none => simpa [slot] using hu hd
  | some d =>
    rw [slot_put_same (by rw [hN]; exact dstsB_in sh.dsts hi hd), ← hd]
    exact h

/-- Some result comes, and a world that has it. -/
theorem StepOk.some_ {k : Nat} {o : Oper} {a : Act} {w : World} (h : StepOk P ops C G R o a) (hC : C w) (hD : Deps ops G o a w) (hR : R w w) : ∃ u w', May P ops C G o a u ∧ C w' ∧ R w w' ∧ G o.dst u w' := by
  unfold StepOk at h
  unfold May
  split at h
  · rename_i hw
    simp only [hw, if_true]
    have hg := h w hC hD
    unfold Good at hg
    have key : ∀ r, (execOp a.eval o).run P w = r → goodUpon P C G R o.dst w r → ∃ u w', (∃ w, C w ∧ Deps ops G o a w ∧ mayUpon u ((execOp a.eval o).run P w)) ∧ C w' ∧ R w w' ∧ G o.dst u w' := by
      intro r hr hg
      cases r with
      | ok nx w' =>
        cases nx <;> simp only [goodUpon] at hg
        case value u => exact ⟨u, w', ⟨w, hC, hD, by rw [hr]; rfl⟩, hg.2.1, hg.2.2, hg.1⟩
        case skip => exact ⟨undef, w', ⟨w, hC, hD, by rw [hr]; rfl⟩, hg.2.1, hg.2.2, hg.1⟩
        case enter f args =>
          obtain ⟨e, w2, fr, ⟨u, _, h1, h2, h3⟩, _⟩ := hg []
          exact ⟨u, w2, ⟨w, hC, hD, by rw [hr]; trivial⟩, h2, h3, h1⟩
      | halt x w' => simp only [goodUpon] at hg
    exact key _ rfl hg
  · rename_i hw
    simp only [hw, if_false]
    exact ⟨undef, w, rfl, hC, hR, h w hC⟩

/-- Behind operation i the walk is as it was. -/
theorem Wk.past {S : Array Bool} {i : Nat} : ∀ (m k : Nat) (a : Act), i < k → i < S.size → Wk P ops C G R S F m k a → Wk P ops C G R (S.setIfInBounds i true) F m k a
  | 0, k, a, hk, hS, h => fun ⟨w, hw, hg⟩ => h ⟨w, hw, fun j oj hj hs => hg j oj hj (hs.imp (getD_set_true ·) id)⟩
  | m + 1, k, a, hk, hS, h => fun hI => by
    obtain ⟨w, hw, hg⟩ := hI
    have hI' : Inh ops C G S k a := ⟨w, hw, fun j oj hj hs => hg j oj hj (hs.imp (getD_set_true ·) id)⟩
    have h1 := h hI'
    cases ho : ops[k]? with
    | none => simp only [ho] at h1
    | some o =>
      simp only [ho] at h1 ⊢
      rw [getD_set_ne false (by omega : i ≠ k)]
      split at h1
      · rename_i hs
        simp only [hs, if_true]
        exact Wk.past m (k + 1) a (by omega) hS h1
      · rename_i hs
        simp only [hs, if_false]
        refine ⟨h1.1, fun u hu hI2 => Wk.past m (k + 1) _ (by omega) hS (h1.2 u hu ?_)⟩
        obtain ⟨w, hw, hg⟩ := hI2
        exact ⟨w, hw, fun j oj hj hs => hg j oj hj (hs.imp (getD_set_true ·) id)⟩

/-- Operation i comes up first. -/
theorem Wk.front {S : Array Bool} {i : Nat} {oi : Oper} (hi : ops[i]? = some oi) (hin : i < n) (hS : S.size = ops.size) (hun : S.getD i false = false) (hw : ∀ e ∈ oi.after, Region.binds .any e = true → S.getD e.on false = true) {u : Value} :
    ∀ (m k : Nat) (a : Act), k ≤ i → k + m = n → a.tmps.size = N → May P ops C G oi a u → Wk P ops C G R S F m k a → Wk P ops C G R (S.setIfInBounds i true) F m k (a.put oi.dst u)
  | 0, k, a, hk, hkm, _, _, h => by omega
  | m + 1, k, a, hk, hkm, hN, hu, h => fun hI => by
    have hiS : i < S.size := by rw [hS]; exact (Array.getElem?_eq_some_iff.1 hi).1
    obtain ⟨w, hw', hg⟩ := hI
    have hI' : Inh ops C G S k a := ⟨w, hw', fun j oj hj hs => by
      have hji : j ≠ i := by rintro rfl; rcases hs with hs | hs; · rw [hun] at hs; cases hs
                             · omega
      have := hg j oj hj (hs.imp (getD_set_true ·) id)
      rwa [slots_keep sh hmono (S := S) hi hj hji] at this⟩
    have h1 := h hI'
    by_cases hki : k = i
    · subst hki
      simp only [hi, hun, if_false, Bool.false_eq_true] at h1
      simp only [hi]
      have hst : (S.setIfInBounds k true).getD k false = true := by simp [hiS]
      simp only [hst, if_true]
      refine Wk.past sh hmono m (k + 1) _ (by omega) hiS (h1.2 u hu ⟨w, hw', fun j oj hj hs => hg j oj hj ?_⟩)
      by_cases hjk : j = k
      · subst hjk; exact .inl hst
      · rcases hs with hs | hs
        · exact .inl (getD_set_true hs)
        · exact .inr (by omega)
    · cases ho : ops[k]? with
      | none => simp only [ho] at h1
      | some o =>
        simp only [ho] at h1 ⊢
        rw [getD_set_ne false (Ne.symm hki)]
        split at h1
        · rename_i hs
          simp only [hs, if_true]
          exact Wk.front hi hin hS hun hw m (k + 1) a (by omega) (by omega) hN hu h1
        · rename_i hs
          simp only [hs, if_false]
          have hno : ∀ e ∈ oi.after, Region.binds .any e = true → e.on ≠ k := fun e he hb hek => by
            have := hw e he hb
            rw [hek] at this
            exact hs this
          obtain ⟨as1, as2⟩ := sh.aside_of (show k < i by omega) hin ho hi hno
          refine ⟨(as2.step a u).2 h1.1, fun v hv hI2 => ?_⟩
          rw [as2.may] at hv
          have hdd : ∀ d, o.dst = some d → oi.dst ≠ some d := fun d hd => dstsB_ne sh.dsts ho hi hd (Ne.symm hki)
          have hcomm : (a.put oi.dst u).put o.dst v = (a.put o.dst v).put oi.dst u := (Act.put_comm a v u hdd).symm
          rw [hcomm] at hI2 ⊢
          refine Wk.front hi hin hS hun hw m (k + 1) _ (by omega) (by omega) (by rw [size_put]; exact hN) ((as1.may a v u).2 hu) (h1.2 v hv ?_)
          obtain ⟨w2, hw2, hg2⟩ := hI2
          refine ⟨w2, hw2, fun j oj hj hs2 => ?_⟩
          have hji : j ≠ i := by rintro rfl; rcases hs2 with hs2 | hs2; · rw [hun] at hs2; cases hs2
                                 · omega
          have := hg2 j oj hj (hs2.imp (getD_set_true ·) id)
          rwa [slots_keep sh hmono (S := S) hi hj hji] at this

/-- An operation that is ready is good. -/
theorem Wk.ready {S : Array Bool} {i : Nat} {oi : Oper} (hR : ∀ w, C w → R w w) (hu : ∀ w, C w → G none undef w) (hi : ops[i]? = some oi) (hin : i < n) (hun : S.getD i false = false) (hw : ∀ e ∈ oi.after, Region.binds .any e = true → S.getD e.on false = true) :
    ∀ (m k : Nat) (a : Act) (w : World), k ≤ i → k + m = n → a.tmps.size = N → C w → (∀ j oj, ops[j]? = some oj → (S.getD j false = true ∨ j < k) → G oj.dst (slot a oj.dst) w) → Wk P ops C G R S F m k a → StepOk P ops C G R oi a
  | 0, k, a, w, hk, hkm, _, _, _, h => by omega
  | m + 1, k, a, w, hk, hkm, hN, hC, hg, h => by
    have h1 := h ⟨w, hC, hg⟩
    by_cases hki : k = i
    · subst hki
      simp only [hi, hun, if_false, Bool.false_eq_true] at h1
      exact h1.1
    · cases ho : ops[k]? with
      | none => simp only [ho] at h1
      | some o =>
        simp only [ho] at h1
        split at h1
        · rename_i hs
          exact Wk.ready hR hu hi hin hun hw m (k + 1) a w (by omega) (by omega) hN hC (fun j oj hj hs2 => hg j oj hj (by
            rcases hs2 with hs2 | hs2
            · exact .inl hs2
            · rcases Nat.lt_or_ge j k with h' | h'
              · exact .inr h'
              · obtain rfl : j = k := by omega
                exact .inl hs)) h1
        · rename_i hs
          have hno : ∀ e ∈ oi.after, Region.binds .any e = true → e.on ≠ k := fun e he hb hek => by
            have := hw e he hb
            rw [hek] at this
            exact hs this
          obtain ⟨as1, as2⟩ := sh.aside_of (show k < i by omega) hin ho hi hno
          have hD : Deps ops G o a w := fun e he hb oe hoe => hg e.on oe hoe (.inr (sh.back k o ho (by omega) e he hb))
          obtain ⟨u, w', hm, hC', hR', hG'⟩ := StepOk.some_ sh hmono (k := k) h1.1 hC hD (hR w hC)
          have hg' : ∀ j oj, ops[j]? = some oj → (S.getD j false = true ∨ j < k + 1) → G oj.dst (slot (a.put o.dst u) oj.dst) w' := fun j oj hj hs2 => by
            by_cases hjk : j = k
            · subst hjk
              obtain rfl : o = oj := Option.some.inj (ho.symm.trans hj)
              exact slots_new sh hmono hN hj hG' (fun _ => hu w' hC')
            · rw [slots_keep sh hmono (S := S) ho hj hjk]
              exact hmono _ _ _ _ hR' (hg j oj hj (hs2.imp id (by omega)))
          have := Wk.ready hR hu hi hin hun hw m (k + 1) (a.put o.dst u) w' (by omega) (by omega) (by rw [size_put]; exact hN) hC' hg' (h1.2 u hm ⟨w', hC', hg'⟩)
          exact (as1.step a u).1 this
/-- All has come up. -/
theorem Wk.done {S : Array Bool} : ∀ (m k : Nat) (a : Act) (w : World), k + m = n → (∀ j, j < n → S.getD j false = true) → C w → (∀ j oj, ops[j]? = some oj → (S.getD j false = true ∨ j < k) → G oj.dst (slot a oj.dst) w) → Wk P ops C G R S F m k a → F a
  | 0, k, a, w, hkm, hall, hC, hg, h => h ⟨w, hC, hg⟩
  | m + 1, k, a, w, hkm, hall, hC, hg, h => by
    have h1 := h ⟨w, hC, hg⟩
    have hk := hall k (by omega)
    cases ho : ops[k]? with
    | none => simp only [ho] at h1
    | some o =>
      simp only [ho, hk, if_true] at h1
      exact Wk.done m (k + 1) a w (by omega) hall hC (fun j oj hj hs2 => hg j oj hj (by
        rcases hs2 with hs2 | hs2
        · exact .inl hs2
        · exact .inl (hall j (by omega)))) h1
end

/-! ### Every order -/
theorem count_one {i : Nat} {p q : Nat → Bool} (hp : p i = true) (hq : q i = false) (he : ∀ j, j ≠ i → q j = p j) : ∀ l : List Nat, l.Nodup → (i ∈ l → l.countP p = l.countP q + 1) ∧ (i ∉ l → l.countP p = l.countP q)
  | [], _ => ⟨(fun h => nomatch h), fun _ => rfl⟩
  | x :: l, h => by
    obtain ⟨h1, h2⟩ := List.nodup_cons.1 h
    obtain ⟨i1, i2⟩ := count_one hp hq he l h2
    by_cases hx : x = i
    · subst hx
      refine ⟨fun _ => ?_, fun hn => absurd (List.mem_cons_self ..) hn⟩
      have := i2 h1
      simp [List.countP_cons, hp, hq, this]
    · refine ⟨fun hm => ?_, fun hn => ?_⟩
      · have := i1 ((List.mem_cons.1 hm).resolve_left (Ne.symm hx))
        simp only [List.countP_cons, he x hx, this]
        omega
      · have := i2 fun hm => hn (List.mem_cons_of_mem _ hm)
        simp only [List.countP_cons, he x hx, this]
def unl (n : Nat) (S : Array Bool) : Nat := (List.range n).countP fun i => S.getD i true == false
theorem unl_set {n i : Nat} {S : Array Bool} (hi : i < n) (hun : S.getD i true = false) : unl n S = unl n (S.setIfInBounds i true) + 1 := by
  refine ((count_one (i := i) (by simp [hun]) ?_ fun j hj => ?_) (List.range n) List.nodup_range).1 (List.mem_range.2 hi)
  · rcases Nat.lt_or_ge i S.size with h | h
    · simp [h]
    · simp [Array.getElem?_eq_none h] at hun
  · rw [getD_set_ne true (Ne.symm hj)]
theorem unl_zero {n : Nat} {S : Array Bool} (h : unl n S = 0) (hs : n ≤ S.size) : ∀ j, j < n → S.getD j false = true := fun j hj => by
  have := List.countP_eq_zero.1 h j (List.mem_range.2 hj)
  have hl : j < S.size := by omega
  simpa [hl] using this
theorem unl_pos {n m : Nat} {S : Array Bool} (h : unl n S = m + 1) : ∃ j, j < n ∧ S.getD j true = false := by
  have : 0 < (List.range n).countP fun i => S.getD i true == false := by unfold unl at h; omega
  obtain ⟨j, hj, hp⟩ := List.countP_pos_iff.1 this
  exact ⟨j, List.mem_range.1 hj, by simpa using hp⟩
theorem least {p : Nat → Prop} : ∀ k, p k → ∃ j, p j ∧ ∀ i, i < j → ¬ p i := fun k h => by
  induction k using Nat.strongRecOn with
  | _ k ih =>
    by_cases hh : ∃ i, i < k ∧ p i
    · obtain ⟨i, hi, hp⟩ := hh; exact ih i hi hp
    · exact ⟨k, h, fun i hi hp => hh ⟨i, hi, hp⟩⟩

theorem good_wp {o : Oper} {a : Act} {w : World} {K : Act → World → Prop} {Q : Exit → Act → World → Prop} (hC : C w) (hD : Deps ops G o a w) (hw : Region.wanted o (yielded ops a.tmps) = true) (h : Good P C G R o a w)
    (hK : ∀ u w', May P ops C G o a u → C w' → R w w' → G o.dst u w' → K (a.put o.dst u) w') : o.wp P a w K Q := by
  unfold Good at h
  unfold May at hK
  simp only [hw, if_true] at hK
  unfold Oper.wp
  have key : ∀ r, (execOp a.eval o).run P w = r → goodUpon P C G R o.dst w r → Oper.upon P o a K Q r := by
    intro r hr hg
    cases r with
    | ok nx w' =>
      cases nx <;> simp only [goodUpon] at hg
      case value u => exact hK u w' ⟨w, hC, hD, by rw [hr]; rfl⟩ hg.2.1 hg.2.2 hg.1
      case skip => exact hK undef w' ⟨w, hC, hD, by rw [hr]; rfl⟩ hg.2.1 hg.2.2 hg.1
      case enter f args =>
        exact Calls.mono hg fun e w2 ⟨u, he, h1, h2, h3⟩ => by subst he; exact hK u w2 ⟨w, hC, hD, by rw [hr]; trivial⟩ h2 h3 h1
    | halt x w' => simp only [goodUpon] at hg
  exact key _ rfl h

theorem wpAny_of_wk (sh : Shape ops n N) (hmono : ∀ d u w w', R w w' → G d u w → G d u w') (hR : ∀ w, C w → R w w) (hu : ∀ w, C w → G none undef w) {g : Nat} {Q : Exit → Act → World → Prop} (S0 : Array Bool)
    (htail : ∀ S, HeadInv .any ops n S → (∀ j, S0.getD j false = true → S.getD j false = true) → (∃ i, i < n ∧ S.getD i true = false) → ∀ t, n ≤ t → t ∉ Region.ready .any ops S)
    (hend : ∀ S a w, HeadInv .any ops n S → (∀ j, j < n → S.getD j false = true) → C w → (∀ j oj, ops[j]? = some oj → j < n → G oj.dst (slot a oj.dst) w) → F a → wpAny P .any ops Q g S a w) :
    ∀ (f : Nat) (S : Array Bool) (a : Act) (w : World), HeadInv .any ops n S → (∀ j, S0.getD j false = true → S.getD j false = true) → unl n S = f → a.tmps.size = N → Inv ops C G S a w → Wk P ops C G R S F n 0 a → wpAny P .any ops Q (f + g) S a w
  | 0, S, a, w, hd, h0s, hf, hN, hI, h => by
    have hall := unl_zero hf (by rw [hd.size]; exact sh.le)
    rw [Nat.zero_add]
    exact hend S a w hd hall hI.1 (fun j oj hj hjn => hI.2 j oj hj (hall j hjn)) (Wk.done sh hmono n 0 a w (by omega) hall hI.1 (fun j oj hj hs => hI.2 j oj hj (hs.resolve_right (by omega))) h)
  | f + 1, S, a, w, hd, h0s, hf, hN, hI, h => by
    obtain ⟨k0, hk0, hun0⟩ := unl_pos hf
    obtain ⟨k, ⟨hk, hun⟩, hmin⟩ := least (p := fun j => j < n ∧ S.getD j true = false) k0 ⟨hk0, hun0⟩
    have hrk : k ∈ Region.ready .any ops S := by
      have hks : k < ops.size := by have := sh.le; omega
      refine mem_ready.2 ⟨hun, ops[k], Array.getElem?_eq_getElem hks, fun e he hb => ?_⟩
      have hlt := sh.back k _ (Array.getElem?_eq_getElem hks) hk e he hb
      cases hS : S.getD e.on false with
      | true => rfl
      | false => exact absurd ⟨by omega, getD_in (by rw [hd.size]; have := sh.le; omega) hS⟩ (hmin e.on hlt)
    rw [show f + 1 + g = (f + g) + 1 by omega]
    refine ⟨fun h0 => (by rw [h0] at hrk; cases hrk), fun i hi => ?_⟩
    have hin : i < n := by
      rcases Nat.lt_or_ge i n with h' | h'
      · exact h'
      · exact absurd hi (htail S hd h0s ⟨k, hk, hun⟩ i h')
    obtain ⟨huni, oi, hoi, hall⟩ := mem_ready.1 hi
    have hunf : S.getD i false = false := getD_both huni
    have hst := Wk.ready sh hmono hR hu hoi hin hunf hall n 0 a w (by omega) (by omega) hN hI.1 (fun j oj hj hs => hI.2 j oj hj (hs.resolve_right (by omega))) h
    have hD : Deps ops G oi a w := fun e he hb oe hoe => hI.2 e.on oe hoe (hall e he hb)
    have hnext : ∀ u w', May P ops C G oi a u → C w' → R w w' → G oi.dst u w' → wpAny P .any ops Q (f + g) (S.setIfInBounds i true) (a.put oi.dst u) w' := fun u w' hm hC' hR' hG' => by
      refine wpAny_of_wk sh hmono hR hu S0 htail hend f _ _ w' (hd.set hi hin) (fun j hj => getD_set_true (h0s j hj)) ?_ (by rw [size_put]; exact hN) ⟨hC', fun j oj hj hs => ?_⟩ (Wk.front sh hmono hoi hin (by rw [hd.size]) hunf hall n 0 a (by omega) (by omega) hN hm h)
      · have := unl_set hin huni; omega
      · by_cases hji : j = i
        · subst hji
          obtain rfl : oi = oj := Option.some.inj (hoi.symm.trans hj)
          exact slots_new sh hmono hN hj hG' (fun _ => hu w' hC')
        · rw [slots_keep sh hmono (S := S) hoi hj hji]
          rw [getD_set_ne false (Ne.symm hji)] at hs
          exact hmono _ _ _ _ hR' (hI.2 j oj hj hs)
    unfold wpOp
    simp only [hoi]
    split
    · rename_i hw
      refine .inl (good_wp hI.1 hD hw ?_ hnext)
      unfold StepOk at hst
      simp only [hw, if_true] at hst
      exact hst w hI.1 hD
    · rename_i hw
      unfold StepOk at hst
      rw [if_neg hw] at hst
      exact hnext undef w (by unfold May; rw [if_neg hw]) hI.1 (hR w hI.1) (hst w hI.1)

/-! ### What is looked at, as a Bool -/
def headList (n m : Nat) : Array Bool := (List.replicate n true ++ List.replicate (m - n) false).toArray
def backB (ops : Array Oper) (n : Nat) : Bool := (List.range n).all fun k => match ops[k]? with
  | some o => o.after.all fun e => !Region.binds .any e || decide (e.on < k)
  | none => true
def asideB (ops : Array Oper) (n : Nat) : Bool := (List.range n).all fun i => (List.range i).all fun k => match ops[i]?, ops[k]? with
  | some oi, some ok => oi.after.any (fun e => Region.binds .any e && e.on == k) || ok.apart ops oi
  | _, _ => true
/-- every operation below n, but those of S0, is waited for by a later one up to n -/
def sinkS (ops : Array Oper) (S0 : Array Bool) (n : Nat) : Bool := (List.range n).all fun i => S0.getD i false || (List.range (n + 1)).any fun j => decide (i < j) && Region.waitsFor .any ops j i
/-- S0 holds what its operations wait for, and nothing from n on -/
def closedB (ops : Array Oper) (S0 : Array Bool) (n : Nat) : Bool := decide (S0.size = ops.size) && (List.range ops.size).all fun j => !S0.getD j false || (decide (j < n) && match ops[j]? with
  | some o => o.after.all fun e => !Region.binds .any e || S0.getD e.on false
  | none => true)
/-- what comes behind n waits for something from n on -/
def laterB (ops : Array Oper) (n : Nat) : Bool := (List.range ops.size).all fun t => decide (t ≤ n) || (List.range ops.size).any fun j => decide (n ≤ j) && Region.waitsFor .any ops t j
def relC (ops : Array Oper) (S0 : Array Bool) (n N : Nat) : Bool :=
  Region.noSelect ops && dstsB ops N && decide (n ≤ ops.size) && backB ops n && asideB ops n && (decide (n = ops.size) || (decide (n < ops.size) && sinkS ops S0 n && laterB ops n)) && closedB ops S0 n
def relB (ops : Array Oper) (S0 : Array Bool) (n N : Nat) : Bool := relC ops S0 n N && Region.seqB .any ops (ops.size - n) n (headList n ops.size)
theorem closedB_head {S0 : Array Bool} {n : Nat} (h : closedB ops S0 n = true) : HeadInv .any ops n S0 := by
  simp only [closedB, Bool.and_eq_true, decide_eq_true_eq] at h
  have key : ∀ j, S0.getD j false = true → j < ops.size ∧ j < n ∧ ∀ o, ops[j]? = some o → ∀ e ∈ o.after, Region.binds .any e = true → S0.getD e.on false = true := fun j hj => by
    have hjs : j < ops.size := by
      rcases Nat.lt_or_ge j S0.size with h' | h'
      · rw [← h.1]; exact h'
      · simp [Array.getElem?_eq_none h'] at hj
    have h1 := List.all_eq_true.1 h.2 j (List.mem_range.2 hjs)
    simp only [hj, Bool.not_true, Bool.false_or, Bool.and_eq_true, decide_eq_true_eq] at h1
    refine ⟨hjs, h1.1, fun o ho e he hb => ?_⟩
    have h2 := h1.2
    simp only [ho] at h2
    have h3 := Array.all_eq_true'.1 h2 e he
    simpa only [hb, Bool.not_true, Bool.false_or] using h3
  refine ⟨h.1, fun j oj hj hl e he hb => (key j hl).2.2 oj hj e he hb, fun t ht htl => ?_⟩
  cases hS : S0.getD t true with
  | false => rfl
  | true =>
    have : S0.getD t false = true := by
      have hl : t < S0.size := by rw [h.1]; exact htl
      simpa [hl] using hS
    have := (key t this).2.1
    omega
theorem tail_waitsS {n : Nat} {S0 listed : Array Bool} (hs : sinkS ops S0 n = true) (hc : laterB ops n = true) (hn : n < ops.size) (inv : HeadInv .any ops n listed) (h0 : ∀ j, S0.getD j false = true → listed.getD j false = true) :
    ∀ (d i : Nat), n - i = d → i < n → listed.getD i true = false → ∀ t, n ≤ t → t ∉ Region.ready .any ops listed := by
  intro d
  induction d using Nat.strongRecOn with
  | _ d ih =>
    intro i hd hi hun t ht hr
    obtain ⟨_, ot, hot, hall⟩ := mem_ready.1 hr
    have htlt : t < ops.size := (Array.getElem?_eq_some_iff.1 hot).1
    by_cases htn : t = n
    · subst htn
      have h1 := List.all_eq_true.1 hs i (List.mem_range.2 hi)
      have hnot : S0.getD i false = false := by
        cases hS : S0.getD i false with
        | false => rfl
        | true => have := h0 i hS; rw [getD_both hun] at this; cases this
      rw [hnot, Bool.false_or] at h1
      obtain ⟨j, hj, hj2⟩ := List.any_eq_true.1 h1
      simp only [Bool.and_eq_true, decide_eq_true_eq] at hj2
      obtain ⟨oj, hoj, e, he, hb, hon⟩ := Region.waitsFor_spec hj2.2
      have hjle : j ≤ t := by have := List.mem_range.1 hj; omega
      by_cases hjt : j = t
      · subst hjt
        have : oj = ot := Option.some.inj (hoj.symm.trans hot)
        subst this
        have h2 := hall e he hb
        rw [hon, getD_both hun] at h2
        cases h2
      · cases hl : listed.getD j false with
        | true =>
          have h2 := inv.closed j oj hoj hl e he hb
          rw [hon, getD_both hun] at h2
          cases h2
        | false =>
          have hjs : j < listed.size := by rw [inv.size]; omega
          exact ih (t - j) (by omega) j rfl (by omega) (getD_in hjs hl) t (Nat.le_refl _) hr
    · have h1 := List.all_eq_true.1 hc t (List.mem_range.2 htlt)
      simp only [Bool.or_eq_true, decide_eq_true_eq] at h1
      rcases h1 with h1 | h1
      · omega
      · obtain ⟨j, hj, hj2⟩ := List.any_eq_true.1 h1
        simp only [Bool.and_eq_true, decide_eq_true_eq] at hj2
        obtain ⟨o', ho', e, he, hb, hon⟩ := Region.waitsFor_spec hj2.2
        have : o' = ot := Option.some.inj (ho'.symm.trans hot)
        subst this
        have h2 := hall e he hb
        rw [hon, getD_both (inv.tail j hj2.1 (List.mem_range.1 hj))] at h2
        cases h2
theorem relC_shape {S0 : Array Bool} {n N : Nat} (h : relC ops S0 n N = true) : Shape ops n N := by
  simp only [relC, Bool.and_eq_true, decide_eq_true_eq] at h
  obtain ⟨⟨⟨⟨⟨⟨hsel, hd⟩, hn⟩, hb⟩, ha⟩, _⟩, _⟩ := h
  refine ⟨hd, hn, fun k o hk hkn e he hbd => ?_, fun k i ok oi hki hin hk hi hno => ?_, Region.noSelect_spec hsel⟩
  · have h1 := List.all_eq_true.1 hb k (List.mem_range.2 hkn)
    simp only [hk] at h1
    have h2 := Array.all_eq_true'.1 h1 e he
    simp only [hbd, Bool.not_true, Bool.false_or, decide_eq_true_eq] at h2
    exact h2
  · have h1 := List.all_eq_true.1 (List.all_eq_true.1 ha i (List.mem_range.2 hin)) k (List.mem_range.2 hki)
    simp only [hk, hi, Bool.or_eq_true] at h1
    refine h1.resolve_left fun h2 => ?_
    obtain ⟨e, he, hb2⟩ := Array.any_eq_true'.1 h2
    simp only [Bool.and_eq_true, beq_iff_eq] at hb2
    exact hno e he hb2.1 hb2.2
theorem headList_eq {S : Array Bool} (hs : S.size = ops.size) (hn : n ≤ ops.size) (h1 : ∀ j, j < n → S.getD j false = true) (h2 : ∀ t, n ≤ t → t < ops.size → S.getD t true = false) : S = headList n ops.size := by
  apply Array.ext
  · simp [headList, hs]; omega
  · intro j hj hj'
    rcases Nat.lt_or_ge j n with h | h
    · have := h1 j h
      simp [hj] at this
      simp [headList, List.getElem_append, h, this]
    · have := h2 j h (by omega)
      simp [hj] at this
      simp [headList, List.getElem_append, Nat.not_lt.2 h, this]

/-- The walk in the order of the text. -/
def InhL (ops : Array Oper) (C : World → Prop) (G : Option Tmp → Value → World → Prop) (k : Nat) (a : Act) : Prop := ∃ w, C w ∧ ∀ j oj, ops[j]? = some oj → j < k → G oj.dst (slot a oj.dst) w
def wpRel (P : Program) (ops : Array Oper) (C : World → Prop) (G : Option Tmp → Value → World → Prop) (R : World → World → Prop) (S0 : Array Bool) (F : Act → Prop) : Nat → List Oper → Act → Prop
  | k, [], a => InhL ops C G k a → F a
  | k, o :: rest, a => if S0.getD k false = true then wpRel P ops C G R S0 F (k + 1) rest a else StepOk P ops C G R o a ∧ ∀ u, May P ops C G o a u → (∀ d, o.dst = some d → ∃ w, C w ∧ G (some d) u w) → wpRel P ops C G R S0 F (k + 1) rest (a.put o.dst u)
theorem wk_of_rel {S0 : Array Bool} (sh : Shape ops n N) : ∀ (l : List Oper) (k : Nat) (a : Act), (∀ j, j < l.length → l[j]? = ops[k + j]?) → k + l.length = n → a.tmps.size = N → wpRel P ops C G R S0 F k l a → Wk P ops C G R S0 F l.length k a
  | [], k, a, _, hk, hN, h => fun ⟨w, hw, hg⟩ => h ⟨w, hw, fun j oj hj hjk => hg j oj hj (.inr hjk)⟩
  | o :: l, k, a, hl, hk, hN, h => fun _ => by
    have h0 : ops[k]? = some o := by simpa using (hl 0 (by simp)).symm
    simp only [h0]
    unfold wpRel at h
    split at h
    · rename_i hs
      simp only [hs, if_true]
      exact wk_of_rel sh l (k + 1) a (fun j hj => by have := hl (j + 1) (by simp; omega); simpa [Nat.add_assoc, Nat.add_comm 1 j] using this) (by simp only [List.length_cons] at hk; omega) hN h
    · rename_i hs
      rw [if_neg hs]
      refine ⟨h.1, fun u hu hI => wk_of_rel sh l (k + 1) _ (fun j hj => by have := hl (j + 1) (by simp; omega); simpa [Nat.add_assoc, Nat.add_comm 1 j] using this) (by simp only [List.length_cons] at hk; omega) (by rw [size_put]; exact hN) (h.2 u hu fun d hd => ?_)⟩
      obtain ⟨w, hw, hg⟩ := hI
      refine ⟨w, hw, ?_⟩
      have h1 := hg k o h0 (.inr (by omega))
      rw [hd, slot_put_same (by rw [hN]; exact dstsB_in sh.dsts h0 hd)] at h1
      exact h1

/-- A region that draws its order, the operations of S0 done: the first n operations in any order; then the others. -/
theorem wpAny_relC {Q : Exit → Act → World → Prop} {a : Act} {w : World} {l : List Oper} (S0 : Array Bool) (n N : Nat) (C : World → Prop) (G : Option Tmp → Value → World → Prop) (R : World → World → Prop) {fuel : Nat}
    (hB : relC l.toArray S0 n N = true) (hf : fuel = unl n S0 + (l.length - n)) (hN : a.tmps.size = N) (hmono : ∀ d u w w', R w w' → G d u w → G d u w') (hR : ∀ w, C w → R w w) (hu : ∀ w, C w → G none undef w) (hC : C w)
    (h0 : ∀ j oj, l[j]? = some oj → S0.getD j false = true → G oj.dst (slot a oj.dst) w)
    (h : wpRel P l.toArray C G R S0 (fun a' => ∀ w', C w' → (∀ j oj, l[j]? = some oj → j < n → G oj.dst (slot a' oj.dst) w') → wpAny P .any l.toArray Q (l.length - n) (headList n l.length) a' w') 0 (l.take n) a) : wpAny P .any l.toArray Q fuel S0 a w := by
  have sh := relC_shape hB
  have hB' := hB
  simp only [relC, Bool.and_eq_true, Bool.or_eq_true, decide_eq_true_eq] at hB'
  obtain ⟨⟨⟨⟨⟨⟨hsel, hd⟩, hn⟩, hb⟩, ha⟩, hsc⟩, hcl⟩ := hB'
  have hnl : n ≤ l.length := by simpa using hn
  have htl : (l.take n).length = n := by simp; omega
  have hw := wk_of_rel sh (l.take n) 0 a (fun j hj => by
    have hj' : j < n := by rw [htl] at hj; exact hj
    simp [hj']) (by simpa using htl) hN h
  rw [htl] at hw
  have := wpAny_of_wk (Q := Q) (g := l.length - n) sh hmono hR hu S0 (fun S hI h0s hex t ht hr => ?_) (fun S a' w' hI hall hC' hg hF => ?_) _ S0 a w
    (closedB_head hcl) (fun _ h => h) rfl hN ⟨hC, fun j oj hj hs => h0 j oj (by simpa using hj) hs⟩ hw
  · rw [hf]; exact this
  · obtain ⟨i, hi, hun⟩ := hex
    rcases hsc with hsc | ⟨⟨hlt, hs⟩, hc⟩
    · have := (mem_ready.1 hr).2
      obtain ⟨o, ho, _⟩ := this
      have := (Array.getElem?_eq_some_iff.1 ho).1
      omega
    · exact tail_waitsS hs hc hlt hI h0s _ i rfl hi hun t ht hr
  · have hSeq := headList_eq hI.size hn hall hI.tail
    rw [show l.toArray.size = l.length from by simp] at hSeq
    rw [hSeq]
    exact hF w' hC' fun j oj hj hjn => hg j oj (by simpa using hj) hjn
theorem wpRel_mono {F F' : Act → Prop} (hF : ∀ a, F a → F' a) {S0 : Array Bool} : ∀ (l' : List Oper) (k : Nat) (a : Act), wpRel P ops C G R S0 F k l' a → wpRel P ops C G R S0 F' k l' a
  | [], k, a, h => fun hI => hF a (h hI)
  | o :: l', k, a, h => by
    unfold wpRel at h ⊢
    split
    · rename_i hs; rw [if_pos hs] at h; exact wpRel_mono hF l' _ _ h
    · rename_i hs; rw [if_neg hs] at h; exact ⟨h.1, fun u hu hd => wpRel_mono hF l' _ _ (h.2 u hu hd)⟩
/-- The others as they stand. -/
theorem wpAny_rel {Q : Exit → Act → World → Prop} {a : Act} {w : World} {l : List Oper} (S0 : Array Bool) (n N : Nat) (C : World → Prop) (G : Option Tmp → Value → World → Prop) (R : World → World → Prop) {fuel : Nat}
    (hB : relB l.toArray S0 n N = true) (hf : fuel = unl n S0 + (l.length - n)) (hN : a.tmps.size = N) (hmono : ∀ d u w w', R w w' → G d u w → G d u w') (hR : ∀ w, C w → R w w) (hu : ∀ w, C w → G none undef w) (hC : C w)
    (h0 : ∀ j oj, l[j]? = some oj → S0.getD j false = true → G oj.dst (slot a oj.dst) w)
    (h : wpRel P l.toArray C G R S0 (fun a' => ∀ w', C w' → (∀ j oj, l[j]? = some oj → j < n → G oj.dst (slot a' oj.dst) w') → wpList P l.toArray Q (l.drop n) a' w') 0 (l.take n) a) : wpAny P .any l.toArray Q fuel S0 a w := by
  simp only [relB, Bool.and_eq_true] at hB
  have hdl : (l.drop n).length = l.length - n := by simp
  refine wpAny_relC S0 n N C G R hB.1 hf hN hmono hR hu hC h0 (wpRel_mono (fun a' hF w' hC' hg => ?_) _ _ _ h)
  have := wpAny_of_seq (md := .any) (Q' := Q) (ops := l.toArray) (l.drop n) n (headList n l.length) a' w' (fun j => by simp [List.getElem?_drop]) (by rw [hdl]; simpa using hB.2) (hF w' hC' hg)
  rwa [hdl] at this

/-! ### The steps of the walk -/
section
variable {o : Oper} {rest : List Oper} {a : Act} {k : Nat} {S0 : Array Bool}
theorem rel_nil (h : F a) : wpRel P ops C G R S0 F k [] a := fun _ => h
/-- it hands back one value, and leaves the world -/
theorem rel_val (hR : ∀ w, C w → R w w) (hS : S0.getD k false = false) (hw : Region.wanted o (yielded ops a.tmps) = true) (u : Value) (hrun : ∀ w, C w → Deps ops G o a w → (execOp a.eval o).run P w = .ok (.value u) w) (hG : ∀ w, C w → Deps ops G o a w → G o.dst u w) (hn : wpRel P ops C G R S0 F (k + 1) rest (a.put o.dst u)) : wpRel P ops C G R S0 F k (o :: rest) a := by
  unfold wpRel
  rw [hS, if_neg (by simp)]
  refine ⟨by unfold StepOk; simp only [hw, if_true]; intro w hC hD; unfold Good; rw [hrun w hC hD]; exact ⟨hG w hC hD, hC, hR w hC⟩, fun x hx _ => ?_⟩
  unfold May at hx
  simp only [hw, if_true] at hx
  obtain ⟨w, hC, hD, hm⟩ := hx
  rw [hrun w hC hD] at hm
  obtain rfl : x = u := hm
  exact hn
/-- a call: any value that its slot lets in -/
theorem rel_call (hS : S0.getD k false = false) (hw : Region.wanted o (yielded ops a.tmps) = true) (f : FuncId) (args : Array Value) (d : Tmp) (hd : o.dst = some d) (hrun : ∀ w, C w → Deps ops G o a w → (execOp a.eval o).run P w = .ok (.enter f args) w)
    (hc : ∀ w, C w → Deps ops G o a w → Calls P f args w fun e w' => ∃ u, e = .returned u ∧ G (some d) u w' ∧ C w' ∧ R w w') (hn : ∀ u w, C w → G (some d) u w → wpRel P ops C G R S0 F (k + 1) rest (a.put (some d) u)) : wpRel P ops C G R S0 F k (o :: rest) a := by
  unfold wpRel
  rw [hS, if_neg (by simp)]
  refine ⟨by unfold StepOk; simp only [hw, if_true]; intro w hC hD; unfold Good; rw [hrun w hC hD, hd]; exact hc w hC hD, fun x _ hx => ?_⟩
  obtain ⟨w, hC, hg⟩ := hx d hd
  rw [hd]
  exact hn x w hC hg
end
end
end Go.Proofs.YtjpgbhakkfgecaaDoor

namespace Go.Proofs.YtjpgbhakkfgecaaDoor
open Go
set_option linter.unusedVariables false
set_option linter.unusedSimpArgs false

abbrev Sp := Tmp → Option (Value → Prop)
section
variable {P : Program} {C : World → Prop} {sp : Sp} {F : Act → Prop} {S0 : Array Bool}
variable {ops : Array Oper} {o : Oper} {rest : List Oper} {a : Act} {k : Nat}
end
end Go.Proofs.YtjpgbhakkfgecaaDoor

namespace Go.Proofs.YtjpgbhakkfgecaaDoor
open Go.RowKit
set_option linter.unusedVariables false
set_option linter.unusedSimpArgs false
section
variable {sp : Sp} {F : Act → Prop} {S0 : Array Bool} {ops : Array Oper} {o : Oper} {rest : List Oper} {a : Act} {k : Nat} {M : Nat → Prop} {row : Option Nat} {w0 : World} {L : List Hp} {T : Nat}
end
end Go.Proofs.YtjpgbhakkfgecaaDoor

namespace Go.Proofs.YtjpgbhakkfgecaaDoor
open Go.RowKit
set_option linter.unusedVariables false
set_option linter.unusedSimpArgs false

abbrev SpW := Tmp → Option (Value → World → Prop)
def GW (sp : SpW) (d : Option Tmp) (u : Value) (w : World) : Prop := match d.bind sp with | some V => V u w | none => True
/-- from w to w' nothing but new blocks and those of M turned -/
def RM (M : Nat → Prop) (w w' : World) : Prop := w.heap.size ≤ w'.heap.size ∧ ∀ b, b < w.heap.size → ¬ M b → w'.heap[b]? = w.heap[b]?
theorem RM.refl (M : Nat → Prop) (w : World) : RM M w w := ⟨Nat.le_refl _, fun _ _ _ => rfl⟩
theorem RM.trans {M : Nat → Prop} {a b c : World} (h : RM M a b) (k : RM M b c) : RM M a c := ⟨Nat.le_trans h.1 k.1, fun x hx hn => (k.2 x (Nat.lt_of_lt_of_le hx h.1) hn).trans (h.2 x hx hn)⟩
theorem RM.below {M : Nat → Prop} {w w' : World} (h : Below w.heap.size w w') : RM M w w' := ⟨h.size, fun b hb _ => h.block b hb⟩
theorem RM.grown {M : Nat → Prop} {w w' : World} {T : Nat} (h : w.grownBy w' (some T)) (hT : M T) : RM M w w' := ⟨h.size, fun b hb hn => h.block b hb (fun e => by injection e with e; subst e; exact hn hT)⟩
theorem RM.alloc (M : Nat → Prop) (w : World) (o : Obj) : RM M w (w.alloc o) := ⟨by simp, fun b hb _ => Below.heap_alloc w o b hb⟩
theorem RM.ro {M : Nat → Prop} {w w' : World} (h : RM M w w') {S : World → Prop} (hs : Ro w M S) : Ro w' M S := hs.step h.1 h.2 (fun _ _ h => h)
/-- each class of values stays as the world goes on -/
def Stays (M : Nat → Prop) (sp : SpW) : Prop := ∀ d V, sp d = some V → ∀ u w w', RM M w w' → V u w → V u w'
/-- the classes as a list -/
def spL (l : List (Tmp × (Value → World → Prop))) : SpW := fun d => (l.find? fun p => p.1 == d).map (·.2)
theorem stays_nil (M : Nat → Prop) : Stays M (spL []) := fun d V h => nomatch h
theorem stays_cons {M : Nat → Prop} {d : Tmp} {V : Value → World → Prop} {l : List (Tmp × (Value → World → Prop))} (h : ∀ u w w', RM M w w' → V u w → V u w') (hl : Stays M (spL l)) : Stays M (spL ((d, V) :: l)) := fun t V' hV => by
  unfold spL at hV
  rw [List.find?_cons] at hV
  split at hV
  · simp only [Option.map_some, Option.some.injEq] at hV
    subst hV
    exact h
  · exact hl t V' hV
theorem GW_off {sp : SpW} {d : Option Tmp} {u : Value} {w : World} (h : d.bind sp = none) : GW sp d u w := by unfold GW; rw [h]; trivial
theorem GW_on {sp : SpW} {d : Tmp} {V : Value → World → Prop} (h : sp d = some V) {u : Value} {w : World} : GW sp (some d) u w ↔ V u w := by unfold GW; simp only [Option.bind_some, h]
def offW (ops : Array Oper) (S0 : Array Bool) (sp : SpW) : Bool := (List.range ops.size).all fun j => !S0.getD j false || (((ops[j]?).bind (·.dst)).bind sp).isNone
theorem offW_h {ops : Array Oper} {S0 : Array Bool} {sp : SpW} (h : offW ops S0 sp = true) {j : Nat} {o : Oper} (ho : ops[j]? = some o) (hs : S0.getD j false = true) {u : Value} {w : World} : GW sp o.dst u w := by
  have h1 := List.all_eq_true.1 h j (List.mem_range.2 (Array.getElem?_eq_some_iff.1 ho).1)
  simp only [hs, Bool.not_true, Bool.false_or, ho, Option.bind_some] at h1
  exact GW_off (Option.isNone_iff_eq_none.1 h1)

/-- the class: the items hold, and from the region's start w1 nothing but them and new blocks turned -/
def HC (M : Nat → Prop) (row : Option Nat) (w0 w1 : World) (L : List Hp) (w : World) : Prop := Hold M row w0 w L ∧ RM (Mut M L) w1 w
section
variable {P : Program} {M : Nat → Prop} {row : Option Nat} {w0 w1 : World} {L : List Hp} {sp : SpW} {F : Act → Prop} {S0 : Array Bool}
theorem wpAny_hold {Q : Exit → Act → World → Prop} {a : Act} {w : World} {l : List Oper} (n N : Nat) (L : List Hp) (sp : SpW) {fuel : Nat}
    (hB : relB l.toArray S0 n N = true) (hO : offW l.toArray S0 sp = true) (hf : fuel = unl n S0 + (l.length - n)) (hN : a.tmps.size = N) (hs : Stays (Mut M L) sp) (hC : Hold M row w0 w L)
    (h : wpRel P l.toArray (HC M row w0 w L) (GW sp) (RM (Mut M L)) S0 (fun a' => ∀ w', Hold M row w0 w' L → RM (Mut M L) w w' → (∀ j oj, l[j]? = some oj → j < n → GW sp oj.dst (slot a' oj.dst) w') → wpList P l.toArray Q (l.drop n) a' w') 0 (l.take n) a) : wpAny P .any l.toArray Q fuel S0 a w := by
  refine wpAny_rel S0 n N (HC M row w0 w L) (GW sp) (RM (Mut M L)) hB hf hN (fun d u w w' hr hg => ?_) (fun w _ => RM.refl _ w) (fun _ _ => trivial) ⟨hC, RM.refl _ _⟩ (fun j oj hj hs => offW_h hO (by simpa using hj) hs) (wpRel_mono (fun a' hF w' hC' hg => hF w' hC'.1 hC'.2 hg) _ _ _ h)
  unfold GW at hg ⊢
  cases hd : d.bind sp with
  | none => trivial
  | some V =>
    rw [hd] at hg
    obtain ⟨t, rfl, ht⟩ := Option.bind_eq_some_iff.1 hd
    exact hs t V ht u w w' hr hg

variable {ops : Array Oper} {o : Oper} {rest : List Oper} {a : Act} {k : Nat}
theorem dw_val (hS : S0.getD k false = false) (hw : Region.wanted o (yielded ops a.tmps) = true) (hoff : o.dst.bind sp = none) (h : ∃ u, (∀ w, Hold M row w0 w L → (execOp a.eval o).run P w = .ok (.value u) w) ∧ wpRel P ops (HC M row w0 w1 L) (GW sp) (RM (Mut M L)) S0 F (k + 1) rest (a.put o.dst u)) : wpRel P ops (HC M row w0 w1 L) (GW sp) (RM (Mut M L)) S0 F k (o :: rest) a :=
  let ⟨u, h1, h2⟩ := h
  rel_val (fun w _ => RM.refl _ w) hS hw u (fun w hC _ => h1 w hC.1) (fun _ _ _ => GW_off hoff) h2
end
section
variable {M : Nat → Prop} {row : Option Nat} {w0 w1 : World} {L : List Hp} {sp : SpW} {F : Act → Prop} {S0 : Array Bool} {ops : Array Oper} {o : Oper} {rest : List Oper} {a : Act} {k : Nat} {T : Nat}
end
end Go.Proofs.YtjpgbhakkfgecaaDoor

namespace Go.Proofs.YtjpgbhakkfgecaaDoor
open Go.RowKit
set_option linter.unusedVariables false
set_option linter.unusedSimpArgs false
section
variable {P : Program} {M : Nat → Prop} {row : Option Nat} {w0 w1 : World} {L : List Hp} {sp : SpW} {F : Act → Prop} {S0 : Array Bool}
variable {ops : Array Oper} {o : Oper} {rest : List Oper} {a : Act} {k : Nat}
/-- a call of any kind; what came since the region's start is at hand -/
theorem dw_callR {f : FuncId} {args : Array Value} (d : Tmp) (V : Value → World → Prop) (hS : S0.getD k false = false) (hw : Region.wanted o (yielded ops a.tmps) = true) (hd : o.dst = some d) (hsp : sp d = some V) (hrun : ∀ w, (execOp a.eval o).run P w = .ok (.enter f args) w)
    (hc : ∀ w, Hold M row w0 w L → RM (Mut M L) w1 w → Deps ops (GW sp) o a w → Calls P f args w fun e w' => ∃ u, e = .returned u ∧ V u w' ∧ Hold M row w0 w' L ∧ RM (Mut M L) w w') (hn : ∀ u w, Hold M row w0 w L → V u w → wpRel P ops (HC M row w0 w1 L) (GW sp) (RM (Mut M L)) S0 F (k + 1) rest (a.put (some d) u)) : wpRel P ops (HC M row w0 w1 L) (GW sp) (RM (Mut M L)) S0 F k (o :: rest) a :=
  rel_call hS hw f args d hd (fun w _ _ => hrun w) (fun w hC hD => (hc w hC.1 hC.2 hD).mono fun e' w' ⟨u, h1, h2, h3, h4⟩ => ⟨u, h1, (GW_on hsp).2 h2, ⟨h3, hC.2.trans h4⟩, h4⟩) fun u w hC hu => hn u w hC.1 ((GW_on hsp).1 hu)
end
theorem own_base {w : World} {b0 b1 : Nat} (h01 : b0 ≤ b1) {e : TypeId} {size n : Nat} {v : Value} {xs : List Value} (h : w.ownsRow b1 e size v n xs) : w.ownsRow b0 e size v n xs := by
  refine ⟨h.1, ?_⟩
  rcases h.2 with hn | ⟨g, cap, cur, hv, hg, rest⟩
  · exact .inl hn
  · exact .inr ⟨g, cap, cur, hv, Nat.le_trans h01 hg, rest⟩
/-- A row that came since w1, taken in. -/
theorem Hold.addOwn {M : Nat → Prop} {row : Option Nat} {w0 w1 w : World} {L : List Hp} (K1 : Hold M row w0 w1 L) (K : Hold M row w0 w L) (hr : RM (Mut M L) w1 w) {e : TypeId} {size n : Nat} {v : Value} {xs : List Value} (ho : w.ownsRow w1.heap.size e size v n xs) :
    Hold M row w0 w (.own e size v n xs :: L) := by
  have hbase : ∀ b, v.ownBlock = some b → w1.heap.size ≤ b ∧ b < w.heap.size := fun b hf => ho.lt b hf
  have ee : ∀ b, b < w1.heap.size → Mut M (.own e size v n xs :: L) b → Mut M L b := fun b hl hb => by
    rcases mut_cons.1 hb with hf | hm
    · have := (hbase b hf).1; omega
    · exact hm
  refine ⟨K.grow, K.low, fun k hk => ?_, fun k hk b hf => ?_, ⟨fun b hf k hk he => ?_, K.sep⟩⟩
  · rcases List.mem_cons.1 hk with rfl | hk
    · exact own_base K1.grow.size ho
    · have h1 := K1.sat k hk
      have h2 := K.sat k hk
      cases k with
      | blk g' t' cs' => exact h2
      | own e s v n' xs => exact h2
      | tp T =>
        refine ⟨h2.1, fun b hb' => ?_⟩
        have hT : T < w1.heap.size := (K1.fresh _ hk T rfl).2
        rcases mut_cons.1 hb' with hf | hm'
        · have := (hbase b hf).1
          omega
        · exact h2.2 b hm'
      | ro S => exact Ro.step h1 hr.1 hr.2 ee
      | cst g' t' cs' => exact Ro.step h1 hr.1 hr.2 ee
      | ob g' F' => exact h2
  · rcases List.mem_cons.1 hk with rfl | hk
    · have := hbase b hf
      exact ⟨.inl (Nat.le_trans K1.grow.size this.1), this.2⟩
    · exact K.fresh k hk b hf
  · have h1 := (hbase b hf).1
    have h2 := (K1.fresh k hk b he).2
    omega
/-- just that value -/
def IsV (x : Value) (u : Value) (_ : World) : Prop := u = x
theorem isV_mono {M : Nat → Prop} {x : Value} (u : Value) (w w' : World) (_ : RM M w w') (h : IsV x u w) : IsV x u w' := h
end Go.Proofs.YtjpgbhakkfgecaaDoor

namespace Go.Proofs.YtjpgbhakkfgecaaDoor
open Go.RowKit
set_option linter.unusedVariables false
set_option linter.unusedSimpArgs false

theorem fits_val (c : Col) (v : Vl) (hs : v.s.size ≤ maxLen) : Gives 83 #[.agg #[.string c.name, .int .i64 c.ty, .bool c.nn, .bool c.key], .agg #[.int .i64 v.k, .int .i64 v.i, .string v.s]] (.int .i64 (fitsV c v)) := fits_any c.name c.ty c.nn c.key v.k v.i v.s hs
set_option maxHeartbeats 4000000 in
set_option maxRecDepth 100000 in
theorem tfits_any (M : Nat → Prop) (w : World) (hM : ∀ b, M b → b < w.heap.size) (nm : ByteArray) (A : Option Addr) (n c : Nat) (cs : List Col) (B : Option Addr) (m d : Nat) (vs : List Vl) (hD : Ro w M (SlR 4 A n (colCells cs))) (hE : Ro w M (VlsIn B m vs)) (hn : n ≤ 9223372036854775807) (hm : m ≤ 9223372036854775807) (hok : ∀ v ∈ vs, v.ok) :
    Calls Tryd.prog 42 #[.agg #[.string nm, .slice A n c], .slice B m d] w fun e w' => e = .returned (.int .i64 (fitsT cs vs)) ∧ Below w.heap.size w w' := by
  have HL := hid (RdC.of_sl hD.now).len
  have HV := hid hE.now.len
  have K0 := (((Hold.start M w hM).add (hE.less (by simp [Mut]))).add (hD.less (by simp [Mut, Hp.foot]))).alloc_cst #[.string nm, .slice A n c] 24
  have F0 := K0.facts
  simp only [World.size_alloc, World.size_drew, factsL, cellsF, Nat.reduceAdd, List.toList_toArray, List.set_cons_zero, List.set_cons_succ, List.setIfInBounds_toArray, and_true, true_and] at F0
  go_enter Tryd.func42, Tryd.ntmps42
  by_cases hnm : m = n
  · subst hnm
    have hb : ((m : Int) != (m : Int)) = false := by simp
    have HE0 := hid (show fitsT cs vs = fitsL (cs.drop 0) (vs.drop 0) by unfold fitsT; rw [if_pos (by rw [HL.out, HV.out])]; rfl)
    clear hD hE
    go_wp2_with fail
    clear F0
    go_loopw [17] (fun iv wr => ∃ k : Nat, k ≤ m ∧ iv = .int .i64 k ∧ Hid (fitsT cs vs = fitsL (cs.drop k) (vs.drop k)) ∧ Hold M none w wr [.cst w.heap.size 24 #[.string nm, .slice A m c], .ro (SlR 4 A m (colCells cs)), .ro (VlsIn B m vs)]) (fun iv _ => m - (intOf iv).toNat)
    case atStart => exact ⟨0, by omega, rfl, HE0, K0⟩
    case round =>
      clear K0 HE0
      obtain ⟨k, hk, rfl, HE, H⟩ := hrel
      by_cases hlt : k < m
      · have hd : decide ((k : Int) < (m : Int)) = true := by simp; omega
        have k0 : (0 : Int) ≤ (k : Int) := by omega
        have k1 : (k : Int) < (m : Int) := by omega
        obtain ⟨x, hx⟩ := get_col HL.out hlt
        obtain ⟨v, hv⟩ := get_of HV.out hlt
        obtain ⟨g, o, rfl, hgb, c0, c1, c2, c3⟩ := (RdC.of_sl (H.ro 1 rfl).now).at_ hx
        have hvok := hok v (List.mem_of_getElem? hv)
        have HX := hid hx; have HVV := hid hv
        clear hx hv
        have K1 := H.alloc_cst #[.string x.name, .int .i64 x.ty, .bool x.nn, .bool x.key] 81
        obtain ⟨gb, hgb⟩ : ∃ gb, gb = wr.heap.size := ⟨_, rfl⟩
        obtain ⟨KL, hKL⟩ : ∃ KL : List Hp, KL = [Hp.cst wr.heap.size 81 #[.string x.name, .int .i64 x.ty, .bool x.nn, .bool x.key], .cst w.heap.size 24 #[.string nm, .slice (some ⟨g, o, none⟩) m c], .ro (SlR 4 (some ⟨g, o, none⟩) m (colCells cs)), .ro (VlsIn B m vs)] := ⟨_, rfl⟩
        rw [← hKL] at K1
        rw [← hgb] at hKL
        obtain ⟨gv, ov, rfl, _⟩ := (H.ro 2 rfl).now.at_ HVV.out
        have HF : Hid (∀ wv, Hold M none w wv KL → (wv.cell? ⟨gb, 0, none⟩ = some (.string x.name) ∧ wv.cell? ⟨gb, 1, none⟩ = some (.int .i64 x.ty) ∧ wv.cell? ⟨gb, 2, none⟩ = some (.bool x.nn) ∧ wv.cell? ⟨gb, 3, none⟩ = some (.bool x.key)) ∧ gb < wv.heap.size ∧ wv.cell? ⟨gv, ov + k * 3, none⟩ = some (.int .i64 v.k) ∧ wv.cell? ⟨gv, ov + k * 3 + 1, none⟩ = some (.int .i64 v.i) ∧ wv.cell? ⟨gv, ov + k * 3 + 2, none⟩ = some (.string v.s) ∧ gv < wv.heap.size) := hid fun wv HC => by
          rw [hKL] at HC
          have b0 := HC.cst_ 0 rfl
          obtain ⟨gv', ov', e', hl, e0, e1, e2⟩ := (HC.ro 3 rfl).now.at_ HVV.out
          obtain ⟨rfl, rfl⟩ : gv = gv' ∧ ov = ov' := by injection e' with e'; injection e' with a1 a2; exact ⟨a1, a2⟩
          exact ⟨⟨cell_of_row _ _ 0 _ _ _ b0, cell_of_row _ _ 1 _ _ _ b0, cell_of_row _ _ 2 _ _ _ b0, cell_of_row _ _ 3 _ _ _ b0⟩, Blk.lt b0, e0, e1, e2, hl⟩
        go_wp2_with fail
        rw [← hgb]
        have HGB := hid hgb
        have HKL := hid hKL
        clear hgb hKL
        generalize wr.alloc (.cells #[.string x.name, .int .i64 x.ty, .bool x.nn, .bool x.key] 81) = w2 at *
        refine wp_region_any (by kernel_rfl) ?_
        refine wpAny_hold 6 32 (KL) (spL [(27, IsV (.int .i64 (fitsV x v)))]) (by kernel_rfl) (by kernel_rfl) (by kernel_rfl) rfl ?_ (K1.drew) ?_
        · exact stays_cons isV_mono (stays_nil _)
        simp only [List.take_succ_cons, List.take_zero, List.drop_succ_cons, List.drop_zero, Act.put, List.getElem_toArray, List.getElem_cons_zero, List.getElem_cons_succ, List.setIfInBounds_toArray, List.set_cons_succ, List.set_cons_zero]
        refine dw_val rfl rfl rfl ?_; apply Exists.intro; refine ⟨fun wv HC => ?_, ?_⟩
        · obtain ⟨⟨f0, f1, f2, f3⟩, f4, f5, f6, f7, f8⟩ := HF.out _ HC; go_simp <;> rfl
        simp only [Act.put, List.setIfInBounds_toArray, List.set_cons_succ, List.set_cons_zero]
        refine dw_val rfl rfl rfl ?_; apply Exists.intro; refine ⟨fun wv HC => ?_, ?_⟩
        · obtain ⟨⟨f0, f1, f2, f3⟩, f4, f5, f6, f7, f8⟩ := HF.out _ HC; go_simp <;> rfl
        simp only [Act.put, List.setIfInBounds_toArray, List.set_cons_succ, List.set_cons_zero]
        refine dw_val rfl rfl rfl ?_; apply Exists.intro; refine ⟨fun wv HC => ?_, ?_⟩
        · obtain ⟨⟨f0, f1, f2, f3⟩, f4, f5, f6, f7, f8⟩ := HF.out _ HC; go_simp <;> rfl
        simp only [Act.put, List.setIfInBounds_toArray, List.set_cons_succ, List.set_cons_zero]
        refine dw_val rfl rfl rfl ?_; apply Exists.intro; refine ⟨fun wv HC => ?_, ?_⟩
        · obtain ⟨⟨f0, f1, f2, f3⟩, f4, f5, f6, f7, f8⟩ := HF.out _ HC; go_simp <;> rfl
        simp only [Act.put, List.setIfInBounds_toArray, List.set_cons_succ, List.set_cons_zero]
        refine dw_val rfl rfl rfl ?_; apply Exists.intro; refine ⟨fun wv HC => ?_, ?_⟩
        · obtain ⟨⟨f0, f1, f2, f3⟩, f4, f5, f6, f7, f8⟩ := HF.out _ HC; go_simp <;> rfl
        simp only [Act.put, List.setIfInBounds_toArray, List.set_cons_succ, List.set_cons_zero]
        refine dw_callR 27 (IsV (.int .i64 (fitsV x v))) (f := 83) (args := #[.agg #[.string x.name, .int .i64 x.ty, .bool x.nn, .bool x.key], .agg #[.int .i64 v.k, .int .i64 v.i, .string v.s]]) rfl rfl rfl rfl (fun wv => ?_) (fun wv HC hrm hD => ?_) ?_
        · go_simp <;> rfl
        · refine (fits_val x v hvok.2.2 wv).mono ?_
          rintro e w5 ⟨rfl, b5⟩
          exact ⟨_, rfl, rfl, HC.call b5, RM.below b5⟩
        rintro u wx HCx hu
        obtain rfl : u = _ := hu
        clear HCx
        simp only [Act.put, List.setIfInBounds_toArray, List.set_cons_succ, List.set_cons_zero]
        refine rel_nil ?_
        rintro wx2 HX2
        rintro _hrm _HG
        rw [HKL.out] at HX2
        clear _hrm _HG
        by_cases hz : fitsV x v = 0
        · have HN := hid (show fitsT cs vs = fitsL (cs.drop (k + 1)) (vs.drop (k + 1)) by rw [HE.out, fitsL_step HX.out HVV.out hz])
          rw [hz]
          clear hz
          go_wp2_with fail
          go_roundw
          case rel => exact ⟨k + 1, by omega, by go_num, HN, HX2.drop (List.sublist_cons_self _ _)⟩
          case measure => simp [intOf]; omega
        · have HN := hid (show fitsT cs vs = fitsV x v by rw [HE.out, fitsL_bad HX.out HVV.out hz])
          have hz2 : (fitsV x v != 0) = true := by simp [hz]
          clear hz
          go_wp2_with fail
          go_ret
          exact ⟨by rw [HN.out] <;> rfl, HX2.below⟩
      · obtain rfl : k = m := by omega
        have hd : decide ((k : Int) < (k : Int)) = false := by simp
        have HN := hid (show fitsT cs vs = 0 by rw [HE.out, fitsL_end (by rw [HL.out]; exact Nat.le_refl _)])
        go_wp2_with fail
        go_ret
        exact ⟨by rw [HN.out] <;> rfl, H.below⟩
  · have hb : ((m : Int) != (n : Int)) = true := by rw [bne_iff_ne]; omega
    have HF := hid (show fitsT cs vs = 17 by unfold fitsT; rw [if_neg (by rw [HL.out, HV.out]; exact hnm)])
    go_wp2_with fail
    go_ret
    exact ⟨by rw [HF.out] <;> rfl, K0.below⟩
theorem rfits_val (c : Col) (v : Vl) (hs : v.s.size ≤ maxLen) : Gives 84 #[.agg #[.string c.name, .int .i64 c.ty, .bool c.nn, .bool c.key], .agg #[.int .i64 v.k, .int .i64 v.i, .string v.s]] (.int .i64 (fitsV c v)) := rfits_any c.name c.ty c.nn c.key v.k v.i v.s hs
set_option maxHeartbeats 4000000 in
set_option maxRecDepth 100000 in
theorem rtfits_any (M : Nat → Prop) (w : World) (hM : ∀ b, M b → b < w.heap.size) (nm : ByteArray) (A : Option Addr) (n c : Nat) (cs : List Col) (B : Option Addr) (m d : Nat) (vs : List Vl) (hD : Ro w M (SlR 4 A n (colCells cs))) (hE : Ro w M (VlsIn B m vs)) (hn : n ≤ 9223372036854775807) (hm : m ≤ 9223372036854775807) (hok : ∀ v ∈ vs, v.ok) :
    Calls Tryd.prog 44 #[.agg #[.string nm, .slice A n c], .slice B m d] w fun e w' => e = .returned (.int .i64 (fitsT cs vs)) ∧ Below w.heap.size w w' := by
  have HL := hid (RdC.of_sl hD.now).len
  have HV := hid hE.now.len
  have K0 := (((Hold.start M w hM).add (hE.less (by simp [Mut]))).add (hD.less (by simp [Mut, Hp.foot]))).alloc_cst #[.string nm, .slice A n c] 24
  have F0 := K0.facts
  simp only [World.size_alloc, World.size_drew, factsL, cellsF, Nat.reduceAdd, List.toList_toArray, List.set_cons_zero, List.set_cons_succ, List.setIfInBounds_toArray, and_true, true_and] at F0
  go_enter Tryd.func44, Tryd.ntmps44
  by_cases hnm : m = n
  · subst hnm
    have hb : ((m : Int) != (m : Int)) = false := by simp
    have HE0 := hid (show fitsT cs vs = fitsL (cs.drop 0) (vs.drop 0) by unfold fitsT; rw [if_pos (by rw [HL.out, HV.out])]; rfl)
    clear hD hE
    go_wp2_with fail
    clear F0
    go_loopw [17] (fun iv wr => ∃ k : Nat, k ≤ m ∧ iv = .int .i64 k ∧ Hid (fitsT cs vs = fitsL (cs.drop k) (vs.drop k)) ∧ Hold M none w wr [.cst w.heap.size 24 #[.string nm, .slice A m c], .ro (SlR 4 A m (colCells cs)), .ro (VlsIn B m vs)]) (fun iv _ => m - (intOf iv).toNat)
    case atStart => exact ⟨0, by omega, rfl, HE0, K0⟩
    case round =>
      clear K0 HE0
      obtain ⟨k, hk, rfl, HE, H⟩ := hrel
      by_cases hlt : k < m
      · have hd : decide ((k : Int) < (m : Int)) = true := by simp; omega
        have k0 : (0 : Int) ≤ (k : Int) := by omega
        have k1 : (k : Int) < (m : Int) := by omega
        obtain ⟨x, hx⟩ := get_col HL.out hlt
        obtain ⟨v, hv⟩ := get_of HV.out hlt
        obtain ⟨g, o, rfl, hgb, c0, c1, c2, c3⟩ := (RdC.of_sl (H.ro 1 rfl).now).at_ hx
        have hvok := hok v (List.mem_of_getElem? hv)
        have HX := hid hx; have HVV := hid hv
        clear hx hv
        have K1 := H.alloc_cst #[.string x.name, .int .i64 x.ty, .bool x.nn, .bool x.key] 81
        obtain ⟨gb, hgb⟩ : ∃ gb, gb = wr.heap.size := ⟨_, rfl⟩
        obtain ⟨KL, hKL⟩ : ∃ KL : List Hp, KL = [Hp.cst wr.heap.size 81 #[.string x.name, .int .i64 x.ty, .bool x.nn, .bool x.key], .cst w.heap.size 24 #[.string nm, .slice (some ⟨g, o, none⟩) m c], .ro (SlR 4 (some ⟨g, o, none⟩) m (colCells cs)), .ro (VlsIn B m vs)] := ⟨_, rfl⟩
        rw [← hKL] at K1
        rw [← hgb] at hKL
        obtain ⟨gv, ov, rfl, _⟩ := (H.ro 2 rfl).now.at_ HVV.out
        have HF : Hid (∀ wv, Hold M none w wv KL → (wv.cell? ⟨gb, 0, none⟩ = some (.string x.name) ∧ wv.cell? ⟨gb, 1, none⟩ = some (.int .i64 x.ty) ∧ wv.cell? ⟨gb, 2, none⟩ = some (.bool x.nn) ∧ wv.cell? ⟨gb, 3, none⟩ = some (.bool x.key)) ∧ gb < wv.heap.size ∧ wv.cell? ⟨gv, ov + k * 3, none⟩ = some (.int .i64 v.k) ∧ wv.cell? ⟨gv, ov + k * 3 + 1, none⟩ = some (.int .i64 v.i) ∧ wv.cell? ⟨gv, ov + k * 3 + 2, none⟩ = some (.string v.s) ∧ gv < wv.heap.size) := hid fun wv HC => by
          rw [hKL] at HC
          have b0 := HC.cst_ 0 rfl
          obtain ⟨gv', ov', e', hl, e0, e1, e2⟩ := (HC.ro 3 rfl).now.at_ HVV.out
          obtain ⟨rfl, rfl⟩ : gv = gv' ∧ ov = ov' := by injection e' with e'; injection e' with a1 a2; exact ⟨a1, a2⟩
          exact ⟨⟨cell_of_row _ _ 0 _ _ _ b0, cell_of_row _ _ 1 _ _ _ b0, cell_of_row _ _ 2 _ _ _ b0, cell_of_row _ _ 3 _ _ _ b0⟩, Blk.lt b0, e0, e1, e2, hl⟩
        go_wp2_with fail
        rw [← hgb]
        have HGB := hid hgb
        have HKL := hid hKL
        clear hgb hKL
        generalize wr.alloc (.cells #[.string x.name, .int .i64 x.ty, .bool x.nn, .bool x.key] 81) = w2 at *
        refine wp_region_any (by kernel_rfl) ?_
        refine wpAny_hold 6 32 (KL) (spL [(27, IsV (.int .i64 (fitsV x v)))]) (by kernel_rfl) (by kernel_rfl) (by kernel_rfl) rfl ?_ (K1.drew) ?_
        · exact stays_cons isV_mono (stays_nil _)
        simp only [List.take_succ_cons, List.take_zero, List.drop_succ_cons, List.drop_zero, Act.put, List.getElem_toArray, List.getElem_cons_zero, List.getElem_cons_succ, List.setIfInBounds_toArray, List.set_cons_succ, List.set_cons_zero]
        refine dw_val rfl rfl rfl ?_; apply Exists.intro; refine ⟨fun wv HC => ?_, ?_⟩
        · obtain ⟨⟨f0, f1, f2, f3⟩, f4, f5, f6, f7, f8⟩ := HF.out _ HC; go_simp <;> rfl
        simp only [Act.put, List.setIfInBounds_toArray, List.set_cons_succ, List.set_cons_zero]
        refine dw_val rfl rfl rfl ?_; apply Exists.intro; refine ⟨fun wv HC => ?_, ?_⟩
        · obtain ⟨⟨f0, f1, f2, f3⟩, f4, f5, f6, f7, f8⟩ := HF.out _ HC; go_simp <;> rfl
        simp only [Act.put, List.setIfInBounds_toArray, List.set_cons_succ, List.set_cons_zero]
        refine dw_val rfl rfl rfl ?_; apply Exists.intro; refine ⟨fun wv HC => ?_, ?_⟩
        · obtain ⟨⟨f0, f1, f2, f3⟩, f4, f5, f6, f7, f8⟩ := HF.out _ HC; go_simp <;> rfl
        simp only [Act.put, List.setIfInBounds_toArray, List.set_cons_succ, List.set_cons_zero]
        refine dw_val rfl rfl rfl ?_; apply Exists.intro; refine ⟨fun wv HC => ?_, ?_⟩
        · obtain ⟨⟨f0, f1, f2, f3⟩, f4, f5, f6, f7, f8⟩ := HF.out _ HC; go_simp <;> rfl
        simp only [Act.put, List.setIfInBounds_toArray, List.set_cons_succ, List.set_cons_zero]
        refine dw_val rfl rfl rfl ?_; apply Exists.intro; refine ⟨fun wv HC => ?_, ?_⟩
        · obtain ⟨⟨f0, f1, f2, f3⟩, f4, f5, f6, f7, f8⟩ := HF.out _ HC; go_simp <;> rfl
        simp only [Act.put, List.setIfInBounds_toArray, List.set_cons_succ, List.set_cons_zero]
        refine dw_callR 27 (IsV (.int .i64 (fitsV x v))) (f := 84) (args := #[.agg #[.string x.name, .int .i64 x.ty, .bool x.nn, .bool x.key], .agg #[.int .i64 v.k, .int .i64 v.i, .string v.s]]) rfl rfl rfl rfl (fun wv => ?_) (fun wv HC hrm hD => ?_) ?_
        · go_simp <;> rfl
        · refine (rfits_val x v hvok.2.2 wv).mono ?_
          rintro e w5 ⟨rfl, b5⟩
          exact ⟨_, rfl, rfl, HC.call b5, RM.below b5⟩
        rintro u wx HCx hu
        obtain rfl : u = _ := hu
        clear HCx
        simp only [Act.put, List.setIfInBounds_toArray, List.set_cons_succ, List.set_cons_zero]
        refine rel_nil ?_
        rintro wx2 HX2
        rintro _hrm _HG
        rw [HKL.out] at HX2
        clear _hrm _HG
        by_cases hz : fitsV x v = 0
        · have HN := hid (show fitsT cs vs = fitsL (cs.drop (k + 1)) (vs.drop (k + 1)) by rw [HE.out, fitsL_step HX.out HVV.out hz])
          rw [hz]
          clear hz
          go_wp2_with fail
          go_roundw
          case rel => exact ⟨k + 1, by omega, by go_num, HN, HX2.drop (List.sublist_cons_self _ _)⟩
          case measure => simp [intOf]; omega
        · have HN := hid (show fitsT cs vs = fitsV x v by rw [HE.out, fitsL_bad HX.out HVV.out hz])
          have hz2 : (fitsV x v != 0) = true := by simp [hz]
          clear hz
          go_wp2_with fail
          go_ret
          exact ⟨by rw [HN.out] <;> rfl, HX2.below⟩
      · obtain rfl : k = m := by omega
        have hd : decide ((k : Int) < (k : Int)) = false := by simp
        have HN := hid (show fitsT cs vs = 0 by rw [HE.out, fitsL_end (by rw [HL.out]; exact Nat.le_refl _)])
        go_wp2_with fail
        go_ret
        exact ⟨by rw [HN.out] <;> rfl, H.below⟩
  · have hb : ((m : Int) != (n : Int)) = true := by rw [bne_iff_ne]; omega
    have HF := hid (show fitsT cs vs = 17 by unfold fitsT; rw [if_neg (by rw [HL.out, HV.out]; exact hnm)])
    go_wp2_with fail
    go_ret
    exact ⟨by rw [HF.out] <;> rfl, K0.below⟩
end Go.Proofs.YtjpgbhakkfgecaaDoor

namespace Go.Proofs.YtjpgbhakkfgecaaDoor
open Go.RowKit
set_option linter.unusedVariables false
set_option linter.unusedSimpArgs false

theorem bytesEq {a b : ByteArray} (h : a.toList = b.toList) : a = b := Go.WideShapes.bytes_inj (by rw [← ByteArray.toList_eq, ← ByteArray.toList_eq]; exact h)
theorem beqL_no {α : Type} [DecidableEq α] {xs ys : List α} {k : Nat} {x y : α} (hx : xs[k]? = some x) (hy : ys[k]? = some y) (h : x ≠ y) : decide (xs = ys) = false := by
  rw [decide_eq_false_iff_not]
  rintro rfl
  rw [hx] at hy
  exact h (by injection hy)
theorem takeEq_succ {α : Type} {xs ys : List α} {k : Nat} {x y : α} (hx : xs[k]? = some x) (hy : ys[k]? = some y) (h : xs.take k = ys.take k) (he : x = y) : xs.take (k + 1) = ys.take (k + 1) := by
  rw [List.take_add_one, List.take_add_one, hx, hy, h, he]
set_option maxHeartbeats 4000000 in
set_option maxRecDepth 100000 in
theorem eqVls_any (w : World) (A : Option Addr) (n c : Nat) (xs : List Vl) (B : Option Addr) (m d : Nat) (ys : List Vl) (hD : VlsIn A n xs w) (hE : VlsIn B m ys w) (hn : n ≤ 4398046511104) :
    Calls Tryd.prog 62 #[.slice A n c, .slice B m d] w fun e w' => e = .returned (.bool (decide (xs = ys))) ∧ ∃ q, w' = w.drewN q := by
  have HL := hid (show xs.length = n from hD.len)
  have HK := hid (show ys.length = m from hE.len)
  by_cases hnm : n = m
  · subst hnm
    have hb : ((n : Int) != (n : Int)) = false := by simp
    go_enter Tryd.func62, Tryd.ntmps62
    go_wp2_with fail
    go_loopw [13] (fun i wr => ∃ (k q : Nat), k ≤ n ∧ i = .int .i64 k ∧ wr = w.drewN q ∧ Hid (xs.take k = ys.take k)) (fun i _ => n - (intOf i).toNat)
    case atStart => exact ⟨0, 0, by omega, rfl, rfl, hid (by simp)⟩
    case round =>
      obtain ⟨k, q, hk, rfl, rfl, HTK⟩ := hrel
      by_cases hlt : k < n
      · have hd : decide ((k : Int) < (n : Int)) = true := by simp; omega
        have i0 : (0 : Int) ≤ (k : Int) := by omega
        have i1 : (k : Int) < (n : Int) := by omega
        obtain ⟨x, hx⟩ := get_of HL.out hlt
        obtain ⟨y, hy⟩ := get_of HK.out hlt
        obtain ⟨g, o, rfl, hbx, x0, x1, x2⟩ := hD.at_ hx
        obtain ⟨g', o', rfl, hby, y0, y1, y2⟩ := hE.at_ hy
        have HX := hid hx; have HY := hid hy; clear hx hy
        by_cases h0 : x.k = y.k
        · have e0 : (x.k == y.k) = true := by simp [h0]
          by_cases h1 : x.i = y.i
          · have e1 : (x.i == y.i) = true := by simp [h1]
            by_cases h2 : x.s = y.s
            · have e2 : (x.s.toList == y.s.toList) = true := by simp [h2]
              have HXY := hid (show x = y by cases x; cases y; simp_all)
              clear h0 h1 h2
              go_wp2_with fail
              go_quiet (fail)
              go_wp2_with fail
              go_roundw
              case rel => exact ⟨k + 1, q + nq, by omega, by go_num, by first | rfl | exact World.drewN_drewN .., hid (takeEq_succ HX.out HY.out HTK.out HXY.out)⟩
              case measure => simp [intOf]; omega
            · have e2 : (x.s.toList == y.s.toList) = false := by rw [beq_eq_false_iff_ne]; exact fun h => h2 (bytesEq h)
              have HN := hid (beqL_no HX.out HY.out (by intro h; exact h2 (by rw [h])))
              clear h0 h1 h2
              go_wp2_with fail
              go_quiet (fail)
              go_wp2_with fail
              go_ret
              exact ⟨by rw [HN.out] <;> rfl, q + nq, World.drewN_drewN ..⟩
          · have e1 : (x.i == y.i) = false := by simpa using h1
            have HN := hid (beqL_no HX.out HY.out (by intro h; exact h1 (by rw [h])))
            clear h0 h1
            go_wp2_with fail
            go_quiet (fail)
            go_wp2_with fail
            go_ret
            exact ⟨by rw [HN.out] <;> rfl, q + nq, World.drewN_drewN ..⟩
        · have e0 : (x.k == y.k) = false := by simpa using h0
          have HN := hid (beqL_no HX.out HY.out (by intro h; exact h0 (by rw [h])))
          clear h0
          go_wp2_with fail
          go_quiet (fail)
          go_wp2_with fail
          go_ret
          exact ⟨by rw [HN.out] <;> rfl, q + nq, World.drewN_drewN ..⟩
      · obtain rfl : n = k := by omega
        have hd : decide ((n : Int) < (n : Int)) = false := by simp
        have HE := hid (show decide (xs = ys) = true by
          have h := HTK.out
          rw [List.take_of_length_le (by rw [HL.out]; exact Nat.le_refl _), List.take_of_length_le (by rw [HK.out]; exact Nat.le_refl _)] at h
          simp [h])
        go_wp2_with fail
        go_ret
        exact ⟨by rw [HE.out] <;> rfl, q, rfl⟩
  · have hb : ((n : Int) != (m : Int)) = true := by simp; omega
    have HB := hid (show decide (xs = ys) = false by
      rw [decide_eq_false_iff_not]; rintro rfl; have := HL.out; have := HK.out; omega)
    go_enter Tryd.func62, Tryd.ntmps62
    go_wp2_with fail
    go_ret
    exact ⟨by rw [HB.out] <;> rfl, 0, rfl⟩
end Go.Proofs.YtjpgbhakkfgecaaDoor

namespace Go.Proofs.YtjpgbhakkfgecaaDoor
open Go.RowKit
set_option linter.unusedVariables false
set_option linter.unusedSimpArgs false

end Go.Proofs.YtjpgbhakkfgecaaDoor

namespace Go.Proofs.YtjpgbhakkfgecaaDoor
open Go.RowKit Go.Maps
set_option linter.unusedVariables false

/-- Keys of one type, said by plain data. -/
structure KeyFam (P : Program) (k : TypeId) (κ : Type) where
  val : κ → Value
  ok : κ → Prop
  key : ∀ x, ok x → ∃ kl, keyOf P k (val x) = some kl
  inj : ∀ x y, val x = val y → x = y
/-- The map's type: key, element, its laws. -/
structure SetT (P : Program) (t k e : TypeId) : Prop where
  ht : P.underlying t = some (.map k e)
  he : P.underlying e = some .bool
  hz : ∀ w : World, (zeroValue e).run P w = .ok (.bool false) w
  law : Keyed P k
/-- Block b is a map that says true at the keys of S, and at no other. -/
def MSet {P : Program} {k : TypeId} {κ : Type} (e : TypeId) (F : KeyFam P k κ) (b n : Nat) (S : κ → Prop) (w : World) : Prop :=
  ∃ D : DataW Unit, w.ownsMap P k (plainElem P e) b n D ∧ ∀ x, F.ok x → ∀ kl, keyOf P k (F.val x) = some kl → ∃ c : Bool, D.atKey kl (.lit (.bool false)) = .lit (.bool c) ∧ (c = true ↔ S x)
section
variable {P : Program} {t k e : TypeId} {κ : Type} {F : KeyFam P k κ} {b n : Nat} {S : κ → Prop} {w w' : World}
theorem plainElem_bool_inv {H : Type} (he : P.underlying e = some .bool) {v : Value} {z : DataW H × List MemPlace} (h : plainElem P e v = some z) : ∃ c, v = .bool c ∧ z = (.lit (.bool c), []) := by
  unfold plainElem at h
  rw [he] at h
  cases v <;> simp at h
  subst h
  exact ⟨_, rfl, rfl⟩
/-- m[x] -/
theorem MSet.look (T : SetT P t k e) (h : MSet e F b n S w) {x : κ} (hx : F.ok x) : ∃ c : Bool, (Instr.lookup t (.map (some b)) (F.val x) false).run P w = .ok (.bool c) w ∧ (c = true ↔ S x) := by
  obtain ⟨D, h1, h2⟩ := h
  obtain ⟨kl, hk⟩ := F.key x hx
  obtain ⟨c, h3, h4⟩ := h2 x hx kl hk
  obtain ⟨v, ps, hrun, hv⟩ := h1.lookup T.law T.ht (T.hz w) (plainElem_bool T.he false) hk
  obtain ⟨c', rfl, h5⟩ := plainElem_bool_inv T.he hv
  rw [h3] at h5
  injection h5 with h5
  injection h5 with h5
  injection h5 with h5
  subst h5
  exact ⟨c, hrun, h4⟩
/-- m[x] = true -/
theorem MSet.put (T : SetT P t k e) (h : MSet e F b n S w) {x : κ} (hx : F.ok x) (hn : n < maxLen) : ∃ w', (Instr.mapUpdate t (.map (some b)) (F.val x) (.bool true)).run P w = .ok () w' ∧ MSet e F b (n + 1) (fun y => y = x ∨ S y) w' ∧ w.grownBy w' (some b) := by
  obtain ⟨D, h1, h2⟩ := h
  obtain ⟨kl, hk⟩ := F.key x hx
  obtain ⟨w', hrun, h3, h4⟩ := h1.update T.law T.ht hn hk (plainElem_bool T.he true)
  refine ⟨w', hrun, ⟨_, h3, fun y hy kl' hk' => ?_⟩, h4⟩
  by_cases hxy : y = x
  · subst hxy
    rw [hk] at hk'
    injection hk' with hk'
    subst hk'
    refine ⟨true, ?_, by simp⟩
    have hD : IsMap D := by
      obtain ⟨es, clock, _, _, _, rfl⟩ := h1
      exact ⟨_, rfl⟩
    rw [atKey_put_same hD (T.law.key hk)]
  · have hne : kl' ≠ kl := fun e => by
      subst e
      exact hxy (F.inj _ _ (T.law.inj hk' hk))
    obtain ⟨c, h5, h6⟩ := h2 y hy kl' hk'
    exact ⟨c, by rw [atKey_put_other hne]; exact h5, by rw [h6]; simp [hxy]⟩
end
section
variable {P : Program} {M : Nat → Prop} {row : Option Nat} {w0 w : World} {L : List Hp} {t k e : TypeId} {κ : Type} {F : KeyFam P k κ} {b n : Nat} {S : κ → Prop}
end
end Go.Proofs.YtjpgbhakkfgecaaDoor

namespace Go.Proofs.YtjpgbhakkfgecaaDoor
open Go.RowKit Go.Maps
set_option linter.unusedVariables false
set_option linter.unusedSimpArgs false

end Go.Proofs.YtjpgbhakkfgecaaDoor

namespace Go.Proofs.YtjpgbhakkfgecaaDoor
open Go.RowKit
set_option linter.unusedVariables false
set_option linter.unusedSimpArgs false

/-- which tables are valid -/
def tabB (nm : ByteArray) (cs : List Col) (nx : Int) (rs : List Row) : Bool := schemaB nm cs && decide (rs.length ≤ 100) && decide (1 ≤ nx) && decide (nx ≤ 2147483648) && okR cs nx 0 rs && !dupB cs rs
end Go.Proofs.YtjpgbhakkfgecaaDoor

namespace Go.Proofs.YtjpgbhakkfgecaaDoor
open Go.RowKit
set_option linter.unusedVariables false
set_option linter.unusedSimpArgs false

end Go.Proofs.YtjpgbhakkfgecaaDoor

namespace Go.Proofs.YtjpgbhakkfgecaaDoor
open Go.RowKit
set_option linter.unusedVariables false
set_option linter.unusedSimpArgs false

end Go.Proofs.YtjpgbhakkfgecaaDoor

namespace Go.Proofs.YtjpgbhakkfgecaaDoor
open Go.RowKit
set_option linter.unusedVariables false
set_option linter.unusedSimpArgs false

end Go.Proofs.YtjpgbhakkfgecaaDoor

namespace Go.Proofs.YtjpgbhakkfgecaaDoor
open Go.RowKit
set_option linter.unusedVariables false
set_option linter.unusedSimpArgs false

set_option maxHeartbeats 400000 in
theorem num_any (n : Int) : Gives 102 #[.int .i64 n] (.agg #[.int .i64 1, .int .i64 n, .string ⟨#[]⟩]) := by
  intro w
  have K0 := (Hold.begin_ w).alloc #[.int .i64 1, .int .i64 n, .string ⟨#[]⟩] 71
  have F0 := K0.facts
  simp only [World.size_alloc, World.size_drew, factsL, cellsF, Nat.reduceAdd, List.toList_toArray, List.set_cons_zero, List.set_cons_succ, List.setIfInBounds_toArray, and_true, true_and] at F0
  go_enter Tryd.func102, Tryd.ntmps102
  go_wp2_with fail
  exact bodyPost_ret (v := .agg #[.int .i64 1, .int .i64 n, .string ⟨#[]⟩]) (by simp [results, Tryd.results102, go_sem, F0]) rfl ⟨rfl, K0.below⟩
def vNil : Vl := ⟨0, 0, ⟨#[]⟩⟩
theorem empty_le : (⟨#[]⟩ : ByteArray).size ≤ maxLen := by unfold maxLen; decide
theorem vNil_ok : vNil.ok := ⟨show I64 0 by unfold I64; omega, show I64 0 by unfold I64; omega, empty_le⟩
theorem cols_n {w : World} {A : Option Addr} {n : Nat} {l : List Col} (h : ColsIn A n l w) : l.length = n := (RdC.of_sl h).len
end Go.Proofs.YtjpgbhakkfgecaaDoor

namespace Go.Proofs.YtjpgbhakkfgecaaDoor
open Go.RowKit
set_option linter.unusedVariables false
set_option linter.unusedSimpArgs false

theorem Wds.ro2 {w : World} {M : Nat → Prop} (h : Wds w) (hM : ¬ M 1) : Ro w M Wds := fun w2 _ h2 => h.keep (h2 _ h.lt hM)
def DrawnSm (w : World) (T : Nat) (e : Ending) (w' : World) : Prop :=
  ∃ x : Int, e = .returned (.int .i64 x) ∧ -3 ≤ x ∧ x ≤ 12 ∧ Tp w' T ∧ w.grownBy w' (some T)
set_option maxHeartbeats 400000 in
theorem small_any (T : Nat) (w : World) (ht : Tp w T) : Calls Tryd.prog 82 #[.pointer (some ⟨T, 0, none⟩)] w fun e w' => DrawnSm w T e w' := by
  go_enter Tryd.func82, Tryd.ntmps82
  go_wp2_with fail
  refine (next_any T 16 _ ht (by omega) (by omega)).mono ?_
  rintro e w1 ⟨r, rfl, r0, r1, t1, g1⟩
  go_wp2
  go_ret
  exact ⟨r - 3, by first | rfl | simp, by omega, by omega, t1, g1⟩

/-- values that fit the columns one by one -/
def fitsAll : List Col → List Vl → Prop
  | [], [] => True
  | c :: cs, v :: vs => fitsV c v = 0 ∧ fitsAll cs vs
  | _, _ => False
theorem fitsAll_len : ∀ {cs : List Col} {vs : List Vl}, fitsAll cs vs → vs.length = cs.length
  | [], [], _ => rfl
  | c :: cs, v :: vs, h => by simp [fitsAll_len h.2]
  | [], _ :: _, h => h.elim
  | _ :: _, [], h => h.elim
theorem fitsAll_T : ∀ {cs : List Col} {vs : List Vl}, fitsAll cs vs → fitsL cs vs = 0
  | [], [], _ => rfl
  | c :: cs, v :: vs, h => by rw [fitsL, if_pos h.1]; exact fitsAll_T h.2
  | [], _ :: _, h => h.elim
  | _ :: _, [], h => h.elim
theorem fitsT_all {cs : List Col} {vs : List Vl} (h : fitsAll cs vs) : fitsT cs vs = 0 := by
  unfold fitsT; rw [if_pos (fitsAll_len h)]; exact fitsAll_T h
theorem fitsAll_snoc : ∀ {cs : List Col} {vs : List Vl} {c : Col} {v : Vl}, fitsAll cs vs → fitsV c v = 0 → fitsAll (cs ++ [c]) (vs ++ [v])
  | [], [], _, _, _, h => ⟨h, trivial⟩
  | c :: cs, v :: vs, _, _, h, k => ⟨h.1, fitsAll_snoc h.2 k⟩
  | [], _ :: _, _, _, h, _ => h.elim
  | _ :: _, [], _, _, h, _ => h.elim
theorem fitsAll_take {cs : List Col} {vs : List Vl} {k : Nat} {c : Col} {v : Vl} (h : fitsAll (cs.take k) vs) (hc : cs[k]? = some c) (hv : fitsV c v = 0) : fitsAll (cs.take (k + 1)) (vs ++ [v]) := by
  rw [List.take_add_one, hc]
  exact fitsAll_snoc h hv
/-- a column of a kind -/
def ColOk (c : Col) : Prop := c.ty = 1 ∨ c.ty = 2 ∨ c.ty = 3
theorem fits_typed {c : Col} {k i : Int} {s : ByteArray} (hc : ColOk c) (h : OfKind c.ty k i s) : fitsV c ⟨k, i, s⟩ = 0 ∧ k = c.ty := by
  obtain ⟨h1, h2, _⟩ := h
  obtain rfl := h2 hc
  have h3 : (c.ty == 0) = false := by rcases hc with h | h | h <;> rw [h] <;> rfl
  refine ⟨?_, rfl⟩
  unfold fitsV
  rw [if_pos h1]
  simp [h3]
theorem fits_small {c : Col} (hc : c.ty = 1) (i : Int) (s : ByteArray) (j : Int) (h : fitsV c ⟨1, i, s⟩ = 0) : fitsV c ⟨1, j, s⟩ = 0 := by
  unfold fitsV at h ⊢
  have e : validB 1 j s = validB 1 i s := by unfold validB; rw [if_neg (by decide), if_pos rfl, if_neg (by decide), if_pos rfl]
  rw [e]
  exact h
theorem fits_null {c : Col} (hc : c.nn = false) : fitsV c vNil = 0 := by
  have e : validB 0 0 ⟨#[]⟩ = true := by decide +kernel
  simp [fitsV, vNil, e, hc]
/-- A row drawn: it fits, in a row of the call's own. -/
def DrawnRow (w : World) (T : Nat) (cs : List Col) (e : Ending) (w' : World) : Prop :=
  ∃ (A : Option Addr) (n c : Nat) (vs : List Vl), e = .returned (.slice A n c) ∧ n = vs.length ∧ (∀ v ∈ vs, v.ok) ∧ fitsAll cs vs ∧ w'.ownsRow w.heap.size 71 3 (.slice A n c) n (vlCells vs) ∧ Tp w' T ∧ w.grownBy w' (some T)
theorem vlCells_snoc (l : List Vl) (k i : Int) (s : ByteArray) : vlCells l ++ (#[Value.int .i64 k, .int .i64 i, .string s]).toList = vlCells (l ++ [⟨k, i, s⟩]) := by simp [vlCells, Vl.cells]
theorem oks_snoc {l : List Vl} {v : Vl} (h : ∀ x ∈ l, x.ok) (hv : v.ok) : ∀ x ∈ l ++ [v], x.ok := fun x hx => by
  rcases List.mem_append.1 hx with hx | hx
  · exact h x hx
  · simp at hx; subst hx; exact hv
set_option maxHeartbeats 4000000 in
set_option maxRecDepth 100000 in
theorem trow_any (M : Nat → Prop) (T : Nat) (w : World) (hM : ∀ b, M b → b < w.heap.size) (ht : Tp w T) (hMT : ∀ b, M b → T ≤ b) (nm : ByteArray) (A : Option Addr) (n c : Nat) (cs : List Col) (hD : Ro w (Mut M [.tp T]) (ColsIn A n cs)) (hW : Ro w (Mut M [.tp T]) Wds) (hT : 1 < T)
    (hn : n ≤ 1000) (hok : ∀ x ∈ cs, ColOk x) : Calls Tryd.prog 41 #[.pointer (some ⟨T, 0, none⟩), .agg #[.string nm, .slice A n c]] w fun e w' => DrawnRow w T cs e w' := by
  have HL := hid (cols_n hD.now)
  have HOKC := hid hok
  clear hok
  have K0 := ((((Hold.startT M w T hM ht hMT).add hD).add (hW.less (mut_none rfl))).alloc_cst #[.string nm, .slice A n c] 24).nil 71 3
  clear hD hW
  go_enter Tryd.func41, Tryd.ntmps41
  go_wp2_with fail
  go_loopw [5, 12] (fun ov iv wr => ∃ (k cap : Nat) (O : Option Addr) (outs : List Vl), k ≤ n ∧ iv = .int .i64 k ∧ ov = .slice O k cap ∧ Hid (∀ v ∈ outs, v.ok) ∧ Hid (fitsAll (cs.take k) outs) ∧ Hold M (some T) w wr [.own 71 3 (.slice O k cap) k (vlCells outs), .cst w.heap.size 24 #[.string nm, .slice A n c], .ro Wds, .ro (ColsIn A n cs), .tp T]) (fun _ iv _ => n - (intOf iv).toNat)
  case atStart => exact ⟨0, 0, none, [], by omega, rfl, rfl, hid (fun v hv => nomatch hv), hid trivial, K0⟩
  case round =>
    clear K0
    obtain ⟨k, cap, O, outs, hk, rfl, rfl, HO, HF, H⟩ := hrel
    by_cases hlt : k < n
    · have hd : decide ((k : Int) < (n : Int)) = true := by simp; omega
      have k0 : (0 : Int) ≤ (k : Int) := by omega
      have k1 : (k : Int) < (n : Int) := by omega
      obtain ⟨⟨xn, xt, xnn, xk⟩, hx⟩ := get_col HL.out hlt
      obtain ⟨g, o, rfl, hgb, c0, c1, c2, c3⟩ := (RdC.of_sl (H.ro 3 rfl).now).at_ hx
      dsimp only at c0 c1 c2 c3
      have HCO := hid (HOKC.out _ (List.mem_of_getElem? hx))
      have HX := hid hx
      clear hx
      have K1 := H.alloc_cst #[.string xn, .int .i64 xt, .bool xnn, .bool xk] 81
      obtain ⟨gc, hgc⟩ : ∃ gc, gc = wr.heap.size := ⟨_, rfl⟩
      rw [← hgc] at K1
      go_wp2_with fail
      rw [← hgc]
      clear hgc
      refine (typed_any T xt _ (K1.tp_ 5 rfl) (K1.ro 3 rfl).now hT).mono ?_
      rintro e w2 ⟨kk, ii, ss, rfl, hkk, hss, hii, t2, _, g2⟩
      have K2 := (Hold.callT K1 5 rfl g2 t2)
      obtain ⟨hfit, hkt⟩ := fits_typed (c := ⟨xn, xt, xnn, xk⟩) HCO.out hkk
      obtain rfl : kk = xt := hkt
      clear hkk g2 t2 K1
      have HFIT := hid hfit
      clear hfit
      have K3 := K2.alloc #[.int .i64 kk, .int .i64 ii, .string ss] 71
      clear K2
      have F3 := K3.facts
      simp only [World.size_alloc, World.size_drew, factsL, cellsF, Nat.reduceAdd, List.toList_toArray, List.set_cons_zero, List.set_cons_succ, List.setIfInBounds_toArray, and_true, true_and] at F3
      have hssm : ss.size ≤ maxLen := by unfold maxLen; omega
      by_cases h1 : kk = 1
      · subst h1
        have hb : ((1 : Int) == 1) = true := rfl
        go_wp2_with fail
        refine (bool_any T 9 _ (K3.tp_ 6 rfl) (by omega) (by omega)).mono ?_
        rintro e w3 ⟨b1, rfl, t3, g3⟩
        obtain ⟨gv, hgv⟩ : ∃ gv, gv = w2.heap.size := ⟨_, rfl⟩
        have K4 := Hold.callT K3 6 rfl g3 t3
        clear K3 g3 t3 F3
        rw [← hgv] at K4 ⊢
        clear hgv
        have F4 := K4.facts
        simp only [World.size_alloc, World.size_drew, factsL, cellsF, Nat.reduceAdd, List.toList_toArray, List.set_cons_zero, List.set_cons_succ, List.setIfInBounds_toArray, and_true, true_and] at F4
        cases b1
        · go_wp2_with fail
          refine (small_any T _ (K4.tp_ 6 rfl)).mono ?_
          rintro e w4 ⟨y, rfl, y0, y1, t4, g4⟩
          have K5 := (Hold.callT K4 6 rfl g4 t4).store 0 rfl 1 (.int .i64 y)
          have F5 := (Hold.callT K4 6 rfl g4 t4).facts
          simp only [factsL, cellsF, Nat.reduceAdd, List.toList_toArray, and_true, true_and] at F5
          clear K4 g4 t4 F4
          have hyI : I64 y := by unfold I64; omega
          cases xnn
          · skip
            have KN := K5
            try simp only [List.set_cons_zero, List.set_cons_succ, List.setIfInBounds_toArray] at KN
            have FN := KN.facts
            simp only [World.size_alloc, World.size_drew, factsL, cellsF, Nat.reduceAdd, List.toList_toArray, List.set_cons_zero, List.set_cons_succ, List.setIfInBounds_toArray, and_true, true_and] at FN
            go_wp2_with fail
            refine (bool_any T 5 _ (KN.tp_ 6 rfl) (by omega) (by omega)).mono ?_
            rintro e w8 ⟨b2, rfl, t8, g8⟩
            have KM := Hold.callT KN 6 rfl g8 t8
            clear KN FN g8 t8
            have FM := KM.facts
            simp only [World.size_alloc, World.size_drew, factsL, cellsF, Nat.reduceAdd, List.toList_toArray, List.set_cons_zero, List.set_cons_succ, List.setIfInBounds_toArray, and_true, true_and] at FM
            cases b2
            · skip
              have HFK := hid (fitsAll_take HF.out HX.out (v := ⟨1, y, ss⟩) (fits_small rfl ii ss y HFIT.out))
              have HOK := hid (oks_snoc HO.out (show Vl.ok ⟨1, y, ss⟩ from ⟨by show I64 1; unfold I64; omega, hyI, hssm⟩))
              have HCE := hid (vlCells_snoc outs 1 y ss)
              have KA := KM
              try simp only [List.set_cons_zero, List.set_cons_succ, List.setIfInBounds_toArray] at KA
              have FA := KA.facts
              simp only [World.size_alloc, World.size_drew, factsL, cellsF, Nat.reduceAdd, List.toList_toArray, List.set_cons_zero, List.set_cons_succ, List.setIfInBounds_toArray, and_true, true_and] at FA
              go_wp2_with (at_builtin; go_must (refine wpList_appH KA 2 rfl Tryd.elVl #[.int .i64 1, .int .i64 y, .string ss] rfl (.tmp 39) (.tmp 41) rfl rfl _ (by first | rfl | simp [World.setCell]) rfl rfl (by intro u hu; simp at hu; rcases hu with rfl | rfl | rfl <;> rfl) (by omega) (by omega) ?_); intro g6 cap6 w6 hc6 hm6 KB; rw [HCE.out] at KB; simp only [List.set_cons_zero, List.set_cons_succ] at KB; (have FB := KB.facts); simp only [World.size_alloc, World.size_drew, factsL, cellsF, Nat.reduceAdd, List.toList_toArray, List.set_cons_zero, List.set_cons_succ, List.setIfInBounds_toArray, and_true, true_and] at FB)
              have KC := (KB.drop (List.Sublist.cons _ (List.Sublist.cons _ (List.Sublist.refl _))))
              go_roundw
              case rel => exact ⟨k + 1, cap6, some ⟨g6, 0, none⟩, outs ++ [⟨1, y, ss⟩], by omega, by go_num, by first | rfl | trivial, HOK, HFK, KC⟩
              case measure => simp [intOf]; omega
            · skip
              have HFK := hid (fitsAll_take HF.out HX.out (v := ⟨0, 0, ⟨#[]⟩⟩) (fits_null rfl))
              have HOK := hid (oks_snoc HO.out (show Vl.ok ⟨0, 0, ⟨#[]⟩⟩ from vNil_ok))
              have HCE := hid (vlCells_snoc outs 0 0 ⟨#[]⟩)
              have KA := (((KM.store 0 rfl 0 (.int .i64 0)).store 0 rfl 1 (.int .i64 0)).store 0 rfl 2 (.string ⟨#[]⟩))
              try simp only [List.set_cons_zero, List.set_cons_succ, List.setIfInBounds_toArray] at KA
              have FA := KA.facts
              simp only [World.size_alloc, World.size_drew, factsL, cellsF, Nat.reduceAdd, List.toList_toArray, List.set_cons_zero, List.set_cons_succ, List.setIfInBounds_toArray, and_true, true_and] at FA
              go_wp2_with (at_builtin; go_must (refine wpList_appH KA 2 rfl Tryd.elVl #[.int .i64 0, .int .i64 0, .string ⟨#[]⟩] rfl (.tmp 39) (.tmp 41) rfl rfl _ (by first | rfl | simp [World.setCell]) rfl rfl (by intro u hu; simp at hu; rcases hu with rfl | rfl | rfl <;> rfl) (by omega) (by omega) ?_); intro g6 cap6 w6 hc6 hm6 KB; rw [HCE.out] at KB; simp only [List.set_cons_zero, List.set_cons_succ] at KB; (have FB := KB.facts); simp only [World.size_alloc, World.size_drew, factsL, cellsF, Nat.reduceAdd, List.toList_toArray, List.set_cons_zero, List.set_cons_succ, List.setIfInBounds_toArray, and_true, true_and] at FB)
              have KC := (KB.drop (List.Sublist.cons _ (List.Sublist.cons _ (List.Sublist.refl _))))
              go_roundw
              case rel => exact ⟨k + 1, cap6, some ⟨g6, 0, none⟩, outs ++ [⟨0, 0, ⟨#[]⟩⟩], by omega, by go_num, by first | rfl | trivial, HOK, HFK, KC⟩
              case measure => simp [intOf]; omega
          · skip
            have HFK := hid (fitsAll_take HF.out HX.out (v := ⟨1, y, ss⟩) (fits_small rfl ii ss y HFIT.out))
            have HOK := hid (oks_snoc HO.out (show Vl.ok ⟨1, y, ss⟩ from ⟨by show I64 1; unfold I64; omega, hyI, hssm⟩))
            have HCE := hid (vlCells_snoc outs 1 y ss)
            have KA := K5
            try simp only [List.set_cons_zero, List.set_cons_succ, List.setIfInBounds_toArray] at KA
            have FA := KA.facts
            simp only [World.size_alloc, World.size_drew, factsL, cellsF, Nat.reduceAdd, List.toList_toArray, List.set_cons_zero, List.set_cons_succ, List.setIfInBounds_toArray, and_true, true_and] at FA
            go_wp2_with (at_builtin; go_must (refine wpList_appH KA 2 rfl Tryd.elVl #[.int .i64 1, .int .i64 y, .string ss] rfl (.tmp 39) (.tmp 41) rfl rfl _ (by first | rfl | simp [World.setCell]) rfl rfl (by intro u hu; simp at hu; rcases hu with rfl | rfl | rfl <;> rfl) (by omega) (by omega) ?_); intro g6 cap6 w6 hc6 hm6 KB; rw [HCE.out] at KB; simp only [List.set_cons_zero, List.set_cons_succ] at KB; (have FB := KB.facts); simp only [World.size_alloc, World.size_drew, factsL, cellsF, Nat.reduceAdd, List.toList_toArray, List.set_cons_zero, List.set_cons_succ, List.setIfInBounds_toArray, and_true, true_and] at FB)
            have KC := (KB.drop (List.Sublist.cons _ (List.Sublist.cons _ (List.Sublist.refl _))))
            go_roundw
            case rel => exact ⟨k + 1, cap6, some ⟨g6, 0, none⟩, outs ++ [⟨1, y, ss⟩], by omega, by go_num, by first | rfl | trivial, HOK, HFK, KC⟩
            case measure => simp [intOf]; omega
        · skip
          cases xnn
          · skip
            have KN := K4
            try simp only [List.set_cons_zero, List.set_cons_succ, List.setIfInBounds_toArray] at KN
            have FN := KN.facts
            simp only [World.size_alloc, World.size_drew, factsL, cellsF, Nat.reduceAdd, List.toList_toArray, List.set_cons_zero, List.set_cons_succ, List.setIfInBounds_toArray, and_true, true_and] at FN
            go_wp2_with fail
            refine (bool_any T 5 _ (KN.tp_ 6 rfl) (by omega) (by omega)).mono ?_
            rintro e w8 ⟨b2, rfl, t8, g8⟩
            have KM := Hold.callT KN 6 rfl g8 t8
            clear KN FN g8 t8
            have FM := KM.facts
            simp only [World.size_alloc, World.size_drew, factsL, cellsF, Nat.reduceAdd, List.toList_toArray, List.set_cons_zero, List.set_cons_succ, List.setIfInBounds_toArray, and_true, true_and] at FM
            cases b2
            · skip
              have HFK := hid (fitsAll_take HF.out HX.out (v := ⟨1, ii, ss⟩) HFIT.out)
              have HOK := hid (oks_snoc HO.out (show Vl.ok ⟨1, ii, ss⟩ from ⟨by show I64 1; unfold I64; omega, hii, hssm⟩))
              have HCE := hid (vlCells_snoc outs 1 ii ss)
              have KA := KM
              try simp only [List.set_cons_zero, List.set_cons_succ, List.setIfInBounds_toArray] at KA
              have FA := KA.facts
              simp only [World.size_alloc, World.size_drew, factsL, cellsF, Nat.reduceAdd, List.toList_toArray, List.set_cons_zero, List.set_cons_succ, List.setIfInBounds_toArray, and_true, true_and] at FA
              go_wp2_with (at_builtin; go_must (refine wpList_appH KA 2 rfl Tryd.elVl #[.int .i64 1, .int .i64 ii, .string ss] rfl (.tmp 39) (.tmp 41) rfl rfl _ (by first | rfl | simp [World.setCell]) rfl rfl (by intro u hu; simp at hu; rcases hu with rfl | rfl | rfl <;> rfl) (by omega) (by omega) ?_); intro g6 cap6 w6 hc6 hm6 KB; rw [HCE.out] at KB; simp only [List.set_cons_zero, List.set_cons_succ] at KB; (have FB := KB.facts); simp only [World.size_alloc, World.size_drew, factsL, cellsF, Nat.reduceAdd, List.toList_toArray, List.set_cons_zero, List.set_cons_succ, List.setIfInBounds_toArray, and_true, true_and] at FB)
              have KC := (KB.drop (List.Sublist.cons _ (List.Sublist.cons _ (List.Sublist.refl _))))
              go_roundw
              case rel => exact ⟨k + 1, cap6, some ⟨g6, 0, none⟩, outs ++ [⟨1, ii, ss⟩], by omega, by go_num, by first | rfl | trivial, HOK, HFK, KC⟩
              case measure => simp [intOf]; omega
            · skip
              have HFK := hid (fitsAll_take HF.out HX.out (v := ⟨0, 0, ⟨#[]⟩⟩) (fits_null rfl))
              have HOK := hid (oks_snoc HO.out (show Vl.ok ⟨0, 0, ⟨#[]⟩⟩ from vNil_ok))
              have HCE := hid (vlCells_snoc outs 0 0 ⟨#[]⟩)
              have KA := (((KM.store 0 rfl 0 (.int .i64 0)).store 0 rfl 1 (.int .i64 0)).store 0 rfl 2 (.string ⟨#[]⟩))
              try simp only [List.set_cons_zero, List.set_cons_succ, List.setIfInBounds_toArray] at KA
              have FA := KA.facts
              simp only [World.size_alloc, World.size_drew, factsL, cellsF, Nat.reduceAdd, List.toList_toArray, List.set_cons_zero, List.set_cons_succ, List.setIfInBounds_toArray, and_true, true_and] at FA
              go_wp2_with (at_builtin; go_must (refine wpList_appH KA 2 rfl Tryd.elVl #[.int .i64 0, .int .i64 0, .string ⟨#[]⟩] rfl (.tmp 39) (.tmp 41) rfl rfl _ (by first | rfl | simp [World.setCell]) rfl rfl (by intro u hu; simp at hu; rcases hu with rfl | rfl | rfl <;> rfl) (by omega) (by omega) ?_); intro g6 cap6 w6 hc6 hm6 KB; rw [HCE.out] at KB; simp only [List.set_cons_zero, List.set_cons_succ] at KB; (have FB := KB.facts); simp only [World.size_alloc, World.size_drew, factsL, cellsF, Nat.reduceAdd, List.toList_toArray, List.set_cons_zero, List.set_cons_succ, List.setIfInBounds_toArray, and_true, true_and] at FB)
              have KC := (KB.drop (List.Sublist.cons _ (List.Sublist.cons _ (List.Sublist.refl _))))
              go_roundw
              case rel => exact ⟨k + 1, cap6, some ⟨g6, 0, none⟩, outs ++ [⟨0, 0, ⟨#[]⟩⟩], by omega, by go_num, by first | rfl | trivial, HOK, HFK, KC⟩
              case measure => simp [intOf]; omega
          · skip
            have HFK := hid (fitsAll_take HF.out HX.out (v := ⟨1, ii, ss⟩) HFIT.out)
            have HOK := hid (oks_snoc HO.out (show Vl.ok ⟨1, ii, ss⟩ from ⟨by show I64 1; unfold I64; omega, hii, hssm⟩))
            have HCE := hid (vlCells_snoc outs 1 ii ss)
            have KA := K4
            try simp only [List.set_cons_zero, List.set_cons_succ, List.setIfInBounds_toArray] at KA
            have FA := KA.facts
            simp only [World.size_alloc, World.size_drew, factsL, cellsF, Nat.reduceAdd, List.toList_toArray, List.set_cons_zero, List.set_cons_succ, List.setIfInBounds_toArray, and_true, true_and] at FA
            go_wp2_with (at_builtin; go_must (refine wpList_appH KA 2 rfl Tryd.elVl #[.int .i64 1, .int .i64 ii, .string ss] rfl (.tmp 39) (.tmp 41) rfl rfl _ (by first | rfl | simp [World.setCell]) rfl rfl (by intro u hu; simp at hu; rcases hu with rfl | rfl | rfl <;> rfl) (by omega) (by omega) ?_); intro g6 cap6 w6 hc6 hm6 KB; rw [HCE.out] at KB; simp only [List.set_cons_zero, List.set_cons_succ] at KB; (have FB := KB.facts); simp only [World.size_alloc, World.size_drew, factsL, cellsF, Nat.reduceAdd, List.toList_toArray, List.set_cons_zero, List.set_cons_succ, List.setIfInBounds_toArray, and_true, true_and] at FB)
            have KC := (KB.drop (List.Sublist.cons _ (List.Sublist.cons _ (List.Sublist.refl _))))
            go_roundw
            case rel => exact ⟨k + 1, cap6, some ⟨g6, 0, none⟩, outs ++ [⟨1, ii, ss⟩], by omega, by go_num, by first | rfl | trivial, HOK, HFK, KC⟩
            case measure => simp [intOf]; omega
      · have hb : (kk == 1) = false := by simpa using h1
        have hty : I64 kk := by rcases HCO.out with h | h | h <;> (have h : kk = _ := h; rw [h]; unfold I64; omega)
        clear h1
        cases xnn
        · skip
          have KN := K3
          try simp only [List.set_cons_zero, List.set_cons_succ, List.setIfInBounds_toArray] at KN
          have FN := KN.facts
          simp only [World.size_alloc, World.size_drew, factsL, cellsF, Nat.reduceAdd, List.toList_toArray, List.set_cons_zero, List.set_cons_succ, List.setIfInBounds_toArray, and_true, true_and] at FN
          go_wp2_with fail
          refine (bool_any T 5 _ (KN.tp_ 6 rfl) (by omega) (by omega)).mono ?_
          rintro e w8 ⟨b2, rfl, t8, g8⟩
          have KM := Hold.callT KN 6 rfl g8 t8
          clear KN FN g8 t8
          have FM := KM.facts
          simp only [World.size_alloc, World.size_drew, factsL, cellsF, Nat.reduceAdd, List.toList_toArray, List.set_cons_zero, List.set_cons_succ, List.setIfInBounds_toArray, and_true, true_and] at FM
          cases b2
          · skip
            have HFK := hid (fitsAll_take HF.out HX.out (v := ⟨kk, ii, ss⟩) HFIT.out)
            have HOK := hid (oks_snoc HO.out (show Vl.ok ⟨kk, ii, ss⟩ from ⟨hty, hii, hssm⟩))
            have HCE := hid (vlCells_snoc outs kk ii ss)
            have KA := KM
            try simp only [List.set_cons_zero, List.set_cons_succ, List.setIfInBounds_toArray] at KA
            have FA := KA.facts
            simp only [World.size_alloc, World.size_drew, factsL, cellsF, Nat.reduceAdd, List.toList_toArray, List.set_cons_zero, List.set_cons_succ, List.setIfInBounds_toArray, and_true, true_and] at FA
            go_wp2_with (at_builtin; go_must (refine wpList_appH KA 2 rfl Tryd.elVl #[.int .i64 kk, .int .i64 ii, .string ss] rfl (.tmp 39) (.tmp 41) rfl rfl _ (by first | rfl | simp [World.setCell]) rfl rfl (by intro u hu; simp at hu; rcases hu with rfl | rfl | rfl <;> rfl) (by omega) (by omega) ?_); intro g6 cap6 w6 hc6 hm6 KB; rw [HCE.out] at KB; simp only [List.set_cons_zero, List.set_cons_succ] at KB; (have FB := KB.facts); simp only [World.size_alloc, World.size_drew, factsL, cellsF, Nat.reduceAdd, List.toList_toArray, List.set_cons_zero, List.set_cons_succ, List.setIfInBounds_toArray, and_true, true_and] at FB)
            have KC := (KB.drop (List.Sublist.cons _ (List.Sublist.cons _ (List.Sublist.refl _))))
            go_roundw
            case rel => exact ⟨k + 1, cap6, some ⟨g6, 0, none⟩, outs ++ [⟨kk, ii, ss⟩], by omega, by go_num, by first | rfl | trivial, HOK, HFK, KC⟩
            case measure => simp [intOf]; omega
          · skip
            have HFK := hid (fitsAll_take HF.out HX.out (v := ⟨0, 0, ⟨#[]⟩⟩) (fits_null rfl))
            have HOK := hid (oks_snoc HO.out (show Vl.ok ⟨0, 0, ⟨#[]⟩⟩ from vNil_ok))
            have HCE := hid (vlCells_snoc outs 0 0 ⟨#[]⟩)
            have KA := (((KM.store 0 rfl 0 (.int .i64 0)).store 0 rfl 1 (.int .i64 0)).store 0 rfl 2 (.string ⟨#[]⟩))
            try simp only [List.set_cons_zero, List.set_cons_succ, List.setIfInBounds_toArray] at KA
            have FA := KA.facts
            simp only [World.size_alloc, World.size_drew, factsL, cellsF, Nat.reduceAdd, List.toList_toArray, List.set_cons_zero, List.set_cons_succ, List.setIfInBounds_toArray, and_true, true_and] at FA
            go_wp2_with (at_builtin; go_must (refine wpList_appH KA 2 rfl Tryd.elVl #[.int .i64 0, .int .i64 0, .string ⟨#[]⟩] rfl (.tmp 39) (.tmp 41) rfl rfl _ (by first | rfl | simp [World.setCell]) rfl rfl (by intro u hu; simp at hu; rcases hu with rfl | rfl | rfl <;> rfl) (by omega) (by omega) ?_); intro g6 cap6 w6 hc6 hm6 KB; rw [HCE.out] at KB; simp only [List.set_cons_zero, List.set_cons_succ] at KB; (have FB := KB.facts); simp only [World.size_alloc, World.size_drew, factsL, cellsF, Nat.reduceAdd, List.toList_toArray, List.set_cons_zero, List.set_cons_succ, List.setIfInBounds_toArray, and_true, true_and] at FB)
            have KC := (KB.drop (List.Sublist.cons _ (List.Sublist.cons _ (List.Sublist.refl _))))
            go_roundw
            case rel => exact ⟨k + 1, cap6, some ⟨g6, 0, none⟩, outs ++ [⟨0, 0, ⟨#[]⟩⟩], by omega, by go_num, by first | rfl | trivial, HOK, HFK, KC⟩
            case measure => simp [intOf]; omega
        · skip
          have HFK := hid (fitsAll_take HF.out HX.out (v := ⟨kk, ii, ss⟩) HFIT.out)
          have HOK := hid (oks_snoc HO.out (show Vl.ok ⟨kk, ii, ss⟩ from ⟨hty, hii, hssm⟩))
          have HCE := hid (vlCells_snoc outs kk ii ss)
          have KA := K3
          try simp only [List.set_cons_zero, List.set_cons_succ, List.setIfInBounds_toArray] at KA
          have FA := KA.facts
          simp only [World.size_alloc, World.size_drew, factsL, cellsF, Nat.reduceAdd, List.toList_toArray, List.set_cons_zero, List.set_cons_succ, List.setIfInBounds_toArray, and_true, true_and] at FA
          go_wp2_with (at_builtin; go_must (refine wpList_appH KA 2 rfl Tryd.elVl #[.int .i64 kk, .int .i64 ii, .string ss] rfl (.tmp 39) (.tmp 41) rfl rfl _ (by first | rfl | simp [World.setCell]) rfl rfl (by intro u hu; simp at hu; rcases hu with rfl | rfl | rfl <;> rfl) (by omega) (by omega) ?_); intro g6 cap6 w6 hc6 hm6 KB; rw [HCE.out] at KB; simp only [List.set_cons_zero, List.set_cons_succ] at KB; (have FB := KB.facts); simp only [World.size_alloc, World.size_drew, factsL, cellsF, Nat.reduceAdd, List.toList_toArray, List.set_cons_zero, List.set_cons_succ, List.setIfInBounds_toArray, and_true, true_and] at FB)
          have KC := (KB.drop (List.Sublist.cons _ (List.Sublist.cons _ (List.Sublist.refl _))))
          go_roundw
          case rel => exact ⟨k + 1, cap6, some ⟨g6, 0, none⟩, outs ++ [⟨kk, ii, ss⟩], by omega, by go_num, by first | rfl | trivial, HOK, HFK, KC⟩
          case measure => simp [intOf]; omega
    · obtain rfl : k = n := by omega
      have hd : decide ((k : Int) < (k : Int)) = false := by simp
      have HE := hid (show fitsAll cs outs by have h := HF.out; rwa [List.take_of_length_le (by rw [HL.out]; exact Nat.le_refl _)] at h)
      have HN := hid (show k = outs.length by have := fitsAll_len HE.out; have := HL.out; omega)
      go_wp2_with fail
      go_ret
      exact ⟨O, k, cap, outs, rfl, HN.out, HO.out, HE.out, H.get 0 rfl, H.tp_ 4 rfl, H.grow⟩
end Go.Proofs.YtjpgbhakkfgecaaDoor

namespace Go.Proofs.YtjpgbhakkfgecaaDoor
open Go.RowKit
set_option linter.unusedVariables false
set_option linter.unusedSimpArgs false

/-- Some value, drawn, its numbers Go's. -/
def DrawnO2 (w : World) (T : Nat) (e : Ending) (w' : World) : Prop :=
  ∃ (k i : Int) (s : ByteArray), e = .returned (.agg #[.int .i64 k, .int .i64 i, .string s]) ∧ (s.size ≤ 100 ∧ I64 k ∧ I64 i) ∧ Tp w' T ∧ w.grownBy w' (some T)
theorem validB_k2 {k i : Int} {s : ByteArray} (h : validB k i s = true) : I64 k := by
  unfold validB at h
  unfold I64
  split at h
  · omega
  · split at h
    · omega
    · split at h
      · omega
      · split at h
        · omega
        · cases h
theorem i64_wrap64 (x : Int) : I64 (wrap64 x) := by
  unfold I64 wrap64
  omega

/-- The state of Odd's walk: the value's box V, the result's box R. -/
structure OddSt (w : World) (T V R : Nat) (wr : World) (k i : Int) (s : ByteArray) : Prop where
  bv : Blk wr V 71 #[.int .i64 k, .int .i64 i, .string s]
  br : Blk wr R 71 #[.int .i64 0, .int .i64 0, .string ⟨#[]⟩]
  tp : Tp wr T
  gr : w.grownBy wr (some T)
  hi : I64 i
  hs : s.size ≤ 100

theorem OddSt.grown {w : World} {T V R : Nat} {wr w' : World} {k i : Int} {s : ByteArray} (h : OddSt w T V R wr k i s) (hV : T < V) (hR : T < R) (t : Tp w' T) (g : wr.grownBy w' (some T)) : OddSt w T V R w' k i s :=
  ⟨h.bv.grown g (by intro e; injection e with e; omega), h.br.grown g (by intro e; injection e with e; omega), t, only_trans h.gr g, h.hi, h.hs⟩

theorem OddSt.drew {w : World} {T V R : Nat} {wr : World} {k i : Int} {s : ByteArray} (h : OddSt w T V R wr k i s) : OddSt w T V R wr.drew k i s := ⟨h.bv, h.br, h.tp, only_drew h.gr, h.hi, h.hs⟩
theorem drawnO_mk {w w1 : World} {T g : Nat} {k i : Int} {s : ByteArray} (hk : I64 k) (hi : I64 i) (hs : s.size ≤ 100) (t1 : Tp w1 T) (hTg : T < g) (g1 : w.grownBy w1 (some T)) (hg : w.heap.size ≤ g) :
    DrawnO2 w T (.returned (.agg #[.int .i64 k, .int .i64 i, .string s])) (((w1.setCell ⟨g, 0, none⟩ (.int .i64 k)).setCell ⟨g, 1, none⟩ (.int .i64 i)).setCell ⟨g, 2, none⟩ (.string s)) :=
  ⟨k, i, s, rfl, ⟨hs, hk, hi⟩, tp_set3 t1 hTg _ _ _, only_set3 g1 hg _ _ _⟩

theorem DrawnO2.alloc {w w' : World} {T : Nat} {e : Ending} (h : DrawnO2 w T e w') (o : Obj) : DrawnO2 w T e (w'.alloc o) := by
  obtain ⟨k, i, s, h1, h2, h3, h4⟩ := h
  exact ⟨k, i, s, h1, h2, h3.alloc o, only_alloc h4 o⟩
theorem conv1 (W : World) (x : Int) : (convert 117 9 (.slice (some ⟨W.heap.size, 0, none⟩) 1 1)).run Tryd.prog (W.alloc (.cells #[.int .u8 x] 5)) = .ok (.string (strOfNums [x])) (W.alloc (.cells #[.int .u8 x] 5)) :=
  run_convert_bytes_arg _ _ _ Tryd.underlying117 Tryd.underlying5 W.heap.size 0 1 1 [x] rfl (fun i hi => by
    obtain rfl : i = 0 := by omega
    exact (Blk.new W 5 #[.int .u8 x]).cell 0) _ Tryd.underlying9

set_option maxHeartbeats 2000000 in
theorem odd2_any (T : Nat) (w : World) (ht : Tp w T) (hw : Wds w) (hT : 1 < T) :
    Calls Tryd.prog 43 #[.pointer (some ⟨T, 0, none⟩)] w fun e w' => DrawnO2 w T e w' := by
  have hlt := ht.lt
  have B0 := Blk.new w 71 #[.int .i64 0, .int .i64 0, .string ⟨#[]⟩]
  have t0 := ht.alloc (.cells #[.int .i64 0, .int .i64 0, .string ⟨#[]⟩] 71)
  have g0 : w.grownBy (w.alloc (.cells #[.int .i64 0, .int .i64 0, .string ⟨#[]⟩] 71)) (some T) := only_alloc (World.grownBy.refl _ _) _
  have w0 : Wds (w.alloc (.cells #[.int .i64 0, .int .i64 0, .string ⟨#[]⟩] 71)) := hw.grown g0 (by intro e; injection e with e; omega)
  go_enter Tryd.func43, Tryd.ntmps43
  go_wp2_with fail
  refine (value_any T _ t0 w0 hT).mono ?_
  rintro e w1 ⟨k, i, s, rfl, hv, hs, hi, t1, _, g1⟩
  have B1 := B0.grown g1 (by intro e; injection e with e; omega)
  have V1 := Blk.new w1 71 #[.int .i64 k, .int .i64 i, .string s]
  have R1 := B1.alloc (.cells #[.int .i64 k, .int .i64 i, .string s] 71)
  have t2 := t1.alloc (.cells #[.int .i64 k, .int .i64 i, .string s] 71)
  have g2 := only_alloc (only_trans g0 g1) (.cells #[.int .i64 k, .int .i64 i, .string s] 71)
  have hRV : w.heap.size < w1.heap.size := B1.lt
  have HK := hid (validB_k2 hv)
  have HI := hid hi
  clear hv w0 t0 B0 g0 g1 B1 t1
  go_wp2_with fail
  refine (next_any T 5 _ t2 (by omega) (by omega)).mono ?_
  rintro e w2 ⟨x, rfl, x0, x1, t3, g3⟩
  have hTV : T < w1.heap.size := by omega
  have V2 := V1.grown g3 (by intro e; injection e with e; omega)
  have R2 := R1.grown g3 (by intro e; injection e with e; omega)
  have g4 := only_trans g2 g3
  have ST : OddSt w T w1.heap.size w.heap.size w2 k i s := ⟨V2, R2, t3, g4, hi, by omega⟩
  clear V1 R1 t2 g2 g3 V2 R2 t3 g4
  obtain ⟨V, hV⟩ : ∃ V, V = w1.heap.size := ⟨_, rfl⟩
  rw [← hV] at ST hRV hTV ⊢
  clear hV
  have hcase : x = 0 ∨ x = 1 ∨ x = 2 ∨ x = 3 ∨ x = 4 := by omega
  rcases hcase with rfl | rfl | rfl | rfl | rfl
  · go_wp2_with fail
    refine (next_any T 7 _ ST.tp (by omega) (by omega)).mono ?_
    rintro e w3 ⟨y, rfl, y0, y1, t3, g3⟩
    have S3 := ST.grown hTV hlt t3 g3
    obtain ⟨c0, c1, c2, cl⟩ := S3.bv.c3
    obtain ⟨r0, r1, r2, rl⟩ := S3.br.c3
    have f0 := S3.bv.frozen 0; have f1 := S3.bv.frozen 1; have f2 := S3.bv.frozen 2
    have q0 := S3.br.frozen 0; have q1 := S3.br.frozen 1; have q2 := S3.br.frozen 2
    go_wp2
    exact bodyPost_ret (v := .agg #[.int .i64 (y - 2), .int .i64 i, .string s]) (by simp [results, Tryd.results43, go_sem, c0, c1, c2, r0, r1, r2]) rfl (drawnO_mk (by unfold I64; omega) HI.out S3.hs (Tp.setCell (p := ⟨V, 0, none⟩) S3.tp hTV _) hlt (only_setCell (p := ⟨V, 0, none⟩) S3.gr (.inr (Nat.le_of_lt hRV)) _) (Nat.le_refl _))
  · obtain ⟨c0, c1, c2, cl⟩ := ST.bv.c3
    obtain ⟨r0, r1, r2, rl⟩ := ST.br.c3
    have f0 := ST.bv.frozen 0; have f1 := ST.bv.frozen 1; have f2 := ST.bv.frozen 2
    have q0 := ST.br.frozen 0; have q1 := ST.br.frozen 1; have q2 := ST.br.frozen 2
    go_wp2
    have HJ := hid (i64_wrap64 (i + 1))
    generalize wrap64 (i + 1) = j at HJ ⊢
    exact bodyPost_ret (v := .agg #[.int .i64 k, .int .i64 j, .string s]) (by simp [results, Tryd.results43, go_sem, c0, c1, c2, r0, r1, r2]) rfl (drawnO_mk HK.out HJ.out ST.hs (Tp.setCell (p := ⟨V, 1, none⟩) ST.tp hTV _) hlt (only_setCell (p := ⟨V, 1, none⟩) ST.gr (.inr (Nat.le_of_lt hRV)) _) (Nat.le_refl _))
  · obtain ⟨c0, c1, c2, cl⟩ := ST.bv.c3
    obtain ⟨r0, r1, r2, rl⟩ := ST.br.c3
    have f0 := ST.bv.frozen 0; have f1 := ST.bv.frozen 1; have f2 := ST.bv.frozen 2
    have q0 := ST.br.frozen 0; have q1 := ST.br.frozen 1; have q2 := ST.br.frozen 2
    go_wp2_with fail
    have kc := conv1
    have hsz := ST.hs
    have hsb : ∀ y : Int, (s ++ strOfNums [y]).size ≤ 100 := fun y => by
      rw [ByteArray.size_append, strOfNums_size]; simp only [List.length_cons, List.length_nil]; omega
    have hss : ∀ x, (strOfNums [x]).size = 1 := fun x => strOfNums_size [x]
    go_region_with (first
      | (go_at_call 38; refine (next_any T 256 _ (Tp.drew ST.tp) (by omega) (by omega)).mono ?_; rintro e w3 ⟨y, rfl, y0, y1, t3, g3⟩; have S3 := OddSt.grown (OddSt.drew ST) hTV hlt t3 g3; obtain ⟨c30, c31, c32, c3l⟩ := S3.bv.c3; obtain ⟨r30, r31, r32, r3l⟩ := S3.br.c3; have f30 := S3.bv.frozen 2; have q30 := S3.br.frozen 0; have q31 := S3.br.frozen 1; have q32 := S3.br.frozen 2))
    all_goals
      go_wp2
      refine bodyPost_ret (v := .agg #[.int .i64 k, .int .i64 i, .string (s ++ strOfNums [y])]) (by simp [results, Tryd.results43, go_sem, c30, c31, c32, r30, r31, r32, c3l, r3l]) rfl ?_
      refine DrawnO2.alloc ?_ _
      exact drawnO_mk HK.out HI.out (hsb y) (Tp.setCell (p := ⟨V, 2, none⟩) S3.tp hTV _) hlt (only_setCell (p := ⟨V, 2, none⟩) S3.gr (.inr (Nat.le_of_lt hRV)) _) (Nat.le_refl _)
  · obtain ⟨c0, c1, c2, cl⟩ := ST.bv.c3
    obtain ⟨r0, r1, r2, rl⟩ := ST.br.c3
    have f0 := ST.bv.frozen 0; have f1 := ST.bv.frozen 1; have f2 := ST.bv.frozen 2
    have q0 := ST.br.frozen 0; have q1 := ST.br.frozen 1; have q2 := ST.br.frozen 2
    go_wp2_with fail
    have g5 := only_set3 ST.gr (Nat.le_of_lt hRV) (.int .i64 3) (.int .i64 0) (.string ⟨#[]⟩)
    have bv5 : Blk (((w2.setCell ⟨V, 0, none⟩ (.int .i64 3)).setCell ⟨V, 1, none⟩ (.int .i64 0)).setCell ⟨V, 2, none⟩ (.string ⟨#[]⟩)) V 71 #[.int .i64 3, .int .i64 0, .string ⟨#[]⟩] := by
      have := ((ST.bv.set_ 0 (.int .i64 3)).set_ 1 (.int .i64 0)).set_ 2 (.string ⟨#[]⟩)
      simpa using this
    have br5 : Blk (((w2.setCell ⟨V, 0, none⟩ (.int .i64 3)).setCell ⟨V, 1, none⟩ (.int .i64 0)).setCell ⟨V, 2, none⟩ (.string ⟨#[]⟩)) w.heap.size 71 #[.int .i64 0, .int .i64 0, .string ⟨#[]⟩] :=
      Blk.far (p := ⟨V, 2, none⟩) (Blk.far (p := ⟨V, 1, none⟩) (Blk.far (p := ⟨V, 0, none⟩) ST.br (Nat.ne_of_lt hRV) _) (Nat.ne_of_lt hRV) _) (Nat.ne_of_lt hRV) _
    have S5 : OddSt w T V w.heap.size _ 3 0 ⟨#[]⟩ := ⟨bv5, br5, tp_set3 ST.tp hTV _ _ _, g5, by unfold I64; omega, by decide⟩
    refine (next_any T 8 _ S5.tp (by omega) (by omega)).mono ?_
    rintro e w3 ⟨y, rfl, y0, y1, t3, g3⟩
    have S6 := OddSt.grown S5 hTV hlt t3 g3
    clear S5 bv5 br5 g5 c0 c1 c2 cl r0 r1 r2 rl f0 f1 f2 q0 q1 q2 ST g3 t3 hi
    go_wp2_with fail
    go_loopw [4] (fun j wr => ∃ (n : Nat) (s : ByteArray), j = .int .i64 n ∧ s.size + n ≤ 67 ∧ OddSt w T V w.heap.size wr 3 0 s) (fun j _ => (intOf j).toNat)
    case atStart => exact ⟨(60 + y).toNat, ⟨#[]⟩, by congr 1; omega, by simp [ByteArray.size]; omega, S6⟩
    case round =>
      obtain ⟨n, s, rfl, hsn, SS⟩ := hrel
      obtain ⟨c0, c1, c2, cl⟩ := SS.bv.c3
      obtain ⟨r0, r1, r2, rl⟩ := SS.br.c3
      have f0 := SS.bv.frozen 0; have f1 := SS.bv.frozen 1; have f2 := SS.bv.frozen 2
      have q0 := SS.br.frozen 0; have q1 := SS.br.frozen 1; have q2 := SS.br.frozen 2
      by_cases hn : 0 < n
      · obtain ⟨m, rfl⟩ : ∃ m, n = m + 1 := ⟨n - 1, by omega⟩
        have hbv := SS.bv.set_ 2 (.string (s ++ ⟨#[120]⟩))
        have hbr := SS.br.far (p := ⟨V, 2, none⟩) (Nat.ne_of_lt hRV) (.string (s ++ ⟨#[120]⟩))
        have hsz : (s ++ ⟨#[120]⟩ : ByteArray).size = s.size + 1 := by rw [ByteArray.size_append]; rfl
        have hS := hid (OddSt.mk (w := w) (T := T) (V := V) (R := w.heap.size) (k := 3) (i := 0) (s := s ++ ⟨#[120]⟩) (by simpa using hbv) hbr (Tp.setCell (p := ⟨V, 2, none⟩) SS.tp hTV _) (only_setCell (p := ⟨V, 2, none⟩) SS.gr (.inr (Nat.le_of_lt hRV)) _) SS.hi (by omega))
        have HZ := hid hsz
        clear hbv hbr hsz
        go_wp2_with fail
        refine ⟨⟨m, s ++ ⟨#[120]⟩, rfl, by have := HZ.out; omega, hS.out⟩, by simp [intOf]⟩
      · obtain rfl : n = 0 := by omega
        go_wp2
        refine bodyPost_ret (v := .agg #[.int .i64 3, .int .i64 0, .string s]) (by simp [results, Tryd.results43, go_sem, c0, c1, c2, r0, r1, r2]) rfl ?_
        exact drawnO_mk (by unfold I64; omega) (by unfold I64; omega) SS.hs SS.tp hlt SS.gr (Nat.le_refl _)
  · obtain ⟨c0, c1, c2, cl⟩ := ST.bv.c3
    obtain ⟨r0, r1, r2, rl⟩ := ST.br.c3
    have f0 := ST.bv.frozen 0; have f1 := ST.bv.frozen 1; have f2 := ST.bv.frozen 2
    have q0 := ST.br.frozen 0; have q1 := ST.br.frozen 1; have q2 := ST.br.frozen 2
    go_wp2
    exact bodyPost_ret (v := .agg #[.int .i64 k, .int .i64 i, .string s]) (by simp [results, Tryd.results43, go_sem, c0, c1, c2, r0, r1, r2]) rfl (drawnO_mk HK.out HI.out ST.hs ST.tp hlt ST.gr (Nat.le_refl _))
end Go.Proofs.YtjpgbhakkfgecaaDoor

namespace Go.Proofs.YtjpgbhakkfgecaaDoor
open Go.RowKit
set_option linter.unusedVariables false
set_option linter.unusedSimpArgs false
section
variable {P : Program} {M : Nat → Prop} {row : Option Nat} {w0 w1 : World} {L : List Hp} {sp : SpW} {F : Act → Prop} {S0 : Array Bool}
variable {ops : Array Oper} {o : Oper} {rest : List Oper} {a : Act} {k : Nat}
end
end Go.Proofs.YtjpgbhakkfgecaaDoor

namespace Go.Proofs.YtjpgbhakkfgecaaDoor
open Go.RowKit
set_option linter.unusedVariables false
set_option linter.unusedSimpArgs false
section
variable {P : Program} {ops : Array Oper} {C : World → Prop} {G : Option Tmp → Value → World → Prop} {R : World → World → Prop} {F : Act → Prop} {o : Oper} {rest : List Oper} {a : Act} {k : Nat} {S0 : Array Bool}
end
section
variable {P : Program} {M : Nat → Prop} {row : Option Nat} {w0 w1 : World} {L : List Hp} {sp : SpW} {F : Act → Prop} {S0 : Array Bool}
variable {ops : Array Oper} {o : Oper} {rest : List Oper} {a : Act} {k : Nat}
end
theorem vlCells_set : ∀ (l : List Vl) (k : Nat) (v : Vl), k < l.length → (((vlCells l).set (k * 3) (.int .i64 v.k)).set (k * 3 + 1) (.int .i64 v.i)).set (k * 3 + 2) (.string v.s) = vlCells (l.set k v)
  | [], k, v, h => by simp at h
  | x :: l, 0, v, h => by simp [vlCells, Vl.cells]
  | x :: l, k + 1, v, h => by
    have ih := vlCells_set l k v (by simpa using h)
    have e : ∀ (ys : List Value) (j : Nat) (u : Value), (x.cells ++ ys).set (j + 3) u = x.cells ++ ys.set j u := fun ys j u => by
      rw [List.set_append_right _ _ (by simp [Vl.cells])]
      simp [Vl.cells]
    have e0 : vlCells (x :: l) = x.cells ++ vlCells l := by simp [vlCells]
    have e1 : vlCells ((x :: l).set (k + 1) v) = x.cells ++ vlCells (l.set k v) := by simp [vlCells]
    rw [e0, e1, show (k + 1) * 3 = k * 3 + 3 by omega, e, show k * 3 + 3 + 1 = (k * 3 + 1) + 3 by omega, e, show k * 3 + 3 + 2 = (k * 3 + 2) + 3 by omega, e, ih]
/-- a value stored into an own row of values -/
theorem Hold.putVl {M : Nat → Prop} {row : Option Nat} {w0 w : World} {L : List Hp} (h : Hold M row w0 w L) (i : Nat) {e : TypeId} {n cap g : Nat} {vs : List Vl} (hi : L[i]? = some (.own e 3 (.slice (some ⟨g, 0, none⟩) n cap) n (vlCells vs))) (k : Nat) (hk : k < vs.length) (v : Vl) :
    Hold M row w0 (((w.setCell ⟨g, k * 3, none⟩ (.int .i64 v.k)).setCell ⟨g, k * 3 + 1, none⟩ (.int .i64 v.i)).setCell ⟨g, k * 3 + 2, none⟩ (.string v.s)) (L.set i (.own e 3 (.slice (some ⟨g, 0, none⟩) n cap) n (vlCells (vs.set k v)))) := by
  have hil := (List.getElem?_eq_some_iff.1 hi).1
  have h1 := h.put_ i hi (k * 3) (.int .i64 v.k)
  have hs : ∀ x : Hp, (L.set i x)[i]? = some x := fun x => by rw [List.getElem?_set, if_pos rfl, if_pos hil]
  have h2 := h1.put_ i (hs _) (k * 3 + 1) (.int .i64 v.i)
  rw [List.set_set] at h2
  have h3 := h2.put_ i (hs _) (k * 3 + 2) (.string v.s)
  rw [List.set_set, vlCells_set vs k v hk] at h3
  exact h3
theorem own_vl {w : World} {base g n cap k : Nat} {e : TypeId} {l : List Vl} {v : Vl} (h : w.ownsRow base e 3 (.slice (some ⟨g, 0, none⟩) n cap) n (vlCells l)) (hv : l[k]? = some v) :
    (w.cell? ⟨g, k * 3, none⟩ = some (.int .i64 v.k) ∧ w.cell? ⟨g, k * 3 + 1, none⟩ = some (.int .i64 v.i) ∧ w.cell? ⟨g, k * 3 + 2, none⟩ = some (.string v.s)) ∧
    (w.frozen? ⟨g, k * 3, none⟩ = false ∧ w.frozen? ⟨g, k * 3 + 1, none⟩ = false ∧ w.frozen? ⟨g, k * 3 + 2, none⟩ = false) ∧ g < w.heap.size := by
  have hk := (List.getElem?_eq_some_iff.1 hv).1
  have hl : l.length = n := by have := h.1; rw [vlCells_len] at this; omega
  have c0 := flat_get Vl.cells 3 (fun _ => rfl) l k 0 v (by omega) hv
  have c1 := flat_get Vl.cells 3 (fun _ => rfl) l k 1 v (by omega) hv
  have c2 := flat_get Vl.cells 3 (fun _ => rfl) l k 2 v (by omega) hv
  exact ⟨⟨(h.cellAt _ (by omega)).trans c0, (h.cellAt _ (by omega)).trans c1, (h.cellAt _ (by omega)).trans c2⟩, ⟨h.frozenAt _, h.frozenAt _, h.frozenAt _⟩, (h.lt g rfl).2⟩
theorem oks_set {l : List Vl} {k : Nat} {v : Vl} (h : ∀ x ∈ l, x.ok) (hv : v.ok) : ∀ x ∈ l.set k v, x.ok := fun x hx => by
  rcases List.mem_or_eq_of_mem_set hx with hx | rfl
  · exact h x hx
  · exact hv
end Go.Proofs.YtjpgbhakkfgecaaDoor

namespace Go.Proofs
open Go.Shelf
def Tryd.sortRows_ren : Go.Shelf.Ren := ⟨fun | 6 => 77 | 15 => 106 | 14 => 105 | 28 => 131 | 29 => 132 | 20 => 123 | 21 => 124 | 22 => 125 | 23 => 126 | 24 => 127 | 25 => 128 | 26 => 129 | 27 => 130 | 46 => 142 | 47 => 143 | 48 => 144 | 49 => 145 | 50 => 146 | 57 => 148 | n => n, fun | 22 => 56 | 24 => 51 | 25 => 65 | 3 => 3 | 39 => 130 | 0 => 0 | 53 => 150 | 55 => 152 | 4 => 4 | 46 => 143 | 45 => 142 | 50 => 147 | 5 => 5 | 9 => 9 | 66 => 158 | 70 => 162 | 76 => 164 | 77 => 165 | n => n, fun | n => n⟩
theorem Tryd.sortRows : Go.Proofs.SlLaysF.n6 Tryd.prog Tryd.sortRows_ren := {
  mixed := by kernel_rfl
  f6 := ⟨Tryd.f77.name, by decide, Tryd.func77.trans (congrArg some (by kernel_rfl))⟩
  f14 := ⟨Tryd.f105.name, by decide, Tryd.func105.trans (congrArg some (by kernel_rfl))⟩
  f15 := Tryd.func106.trans (congrArg some (by kernel_rfl))
  f20 := ⟨Tryd.f123.name, by decide, Tryd.func123.trans (congrArg some (by kernel_rfl))⟩
  f21 := ⟨Tryd.f124.name, by decide, Tryd.func124.trans (congrArg some (by kernel_rfl))⟩
  f22 := ⟨Tryd.f125.name, by decide, Tryd.func125.trans (congrArg some (by kernel_rfl))⟩
  f23 := ⟨Tryd.f126.name, by decide, Tryd.func126.trans (congrArg some (by kernel_rfl))⟩
  f24 := ⟨Tryd.f127.name, by decide, Tryd.func127.trans (congrArg some (by kernel_rfl))⟩
  f25 := ⟨Tryd.f128.name, by decide, Tryd.func128.trans (congrArg some (by kernel_rfl))⟩
  f26 := ⟨Tryd.f129.name, by decide, Tryd.func129.trans (congrArg some (by kernel_rfl))⟩
  f27 := ⟨Tryd.f130.name, by decide, Tryd.func130.trans (congrArg some (by kernel_rfl))⟩
  f28 := Tryd.func131.trans (congrArg some (by kernel_rfl))
  f29 := Tryd.func132.trans (congrArg some (by kernel_rfl))
  f46 := ⟨Tryd.f142.name, by decide, Tryd.func142.trans (congrArg some (by kernel_rfl))⟩
  f47 := Tryd.func143.trans (congrArg some (by kernel_rfl))
  f48 := Tryd.func144.trans (congrArg some (by kernel_rfl))
  f49 := ⟨Tryd.f145.name, by decide, Tryd.func145.trans (congrArg some (by kernel_rfl))⟩
  f50 := ⟨Tryd.f146.name, by decide, Tryd.func146.trans (congrArg some (by kernel_rfl))⟩
  f57 := ⟨Tryd.f148.name, by decide, Tryd.func148.trans (congrArg some (by kernel_rfl))⟩
  t0 := Tryd.underlying0
  a0 := Tryd.isAgg0
  z0 := Tryd.sizeOf0
  v0 := Tryd.zeroValue0
  t3 := Tryd.underlying3
  a3 := Tryd.isAgg3
  z3 := Tryd.sizeOf3
  v3 := Tryd.zeroValue3
  t4 := Tryd.underlying4
  a4 := Tryd.isAgg4
  z4 := Tryd.sizeOf4
  v4 := Tryd.zeroValue4
  t5 := Tryd.underlying5
  a5 := Tryd.isAgg5
  z5 := Tryd.sizeOf5
  v5 := Tryd.zeroValue5
  t9 := Tryd.underlying9
  a9 := Tryd.isAgg9
  z9 := Tryd.sizeOf9
  v9 := Tryd.zeroValue9
  t22 := Tryd.underlying56
  a22 := Tryd.isAgg56
  z22 := Tryd.sizeOf56
  v22 := Tryd.zeroValue56
  a24 := Tryd.isAgg51
  z24 := Tryd.sizeOf51
  t25 := Tryd.underlying65
  a25 := Tryd.isAgg65
  z25 := Tryd.sizeOf65
  v25 := Tryd.zeroValue65
  t39 := Tryd.underlying130
  a39 := Tryd.isAgg130
  z39 := Tryd.sizeOf130
  v39 := Tryd.zeroValue130
  t45 := Tryd.underlying142
  a45 := Tryd.isAgg142
  z45 := Tryd.sizeOf142
  v45 := Tryd.zeroValue142
  t46 := Tryd.underlying143
  a46 := Tryd.isAgg143
  z46 := Tryd.sizeOf143
  v46 := Tryd.zeroValue143
  t50 := Tryd.underlying147
  a50 := Tryd.isAgg147
  z50 := Tryd.sizeOf147
  v50 := Tryd.zeroValue147
  t53 := Tryd.underlying150
  a53 := Tryd.isAgg150
  z53 := Tryd.sizeOf150
  v53 := Tryd.zeroValue150
  t55 := Tryd.underlying152
  a55 := Tryd.isAgg152
  z55 := Tryd.sizeOf152
  v55 := Tryd.zeroValue152
  t66 := Tryd.underlying158
  a66 := Tryd.isAgg158
  z66 := Tryd.sizeOf158
  v66 := Tryd.zeroValue158
  t70 := Tryd.underlying162
  a70 := Tryd.isAgg162
  z70 := Tryd.sizeOf162
  v70 := Tryd.zeroValue162
  t76 := Tryd.underlying164
  a76 := Tryd.isAgg164
  z76 := Tryd.sizeOf164
  v76 := Tryd.zeroValue164
  t77 := Tryd.underlying165
  a77 := Tryd.isAgg165
  z77 := Tryd.sizeOf165
  v77 := Tryd.zeroValue165 }
end Go.Proofs

namespace Go.Proofs.YtjpgbhakkfgecaaDoor
open Go.RowKit
set_option linter.unusedVariables false

def cmpI (a b : Int) : Int := if a < b then -1 else if b < a then 1 else 0
def cmpS (a b : ByteArray) : Int := if Op.bytesLess a.toList b.toList then -1 else if a.toList == b.toList then 0 else 1

theorem cmp_int (a b : Int) (w : World) :
    Calls Tryd.prog 104 #[.int .i64 a, .int .i64 b] w fun e w' => e = .returned (.int .i64 (cmpI a b)) ∧ w = w' := by
  by_cases h1 : a < b
  · go_enter Tryd.func104, Tryd.ntmps104
    go_wp2
    go_ret
    exact ⟨by simp [cmpI, h1], rfl⟩
  · by_cases h2 : b < a
    · go_enter Tryd.func104, Tryd.ntmps104
      go_wp2
      go_ret
      exact ⟨by simp [cmpI, h1, h2], rfl⟩
    · go_enter Tryd.func104, Tryd.ntmps104
      go_wp2
      go_ret
      exact ⟨by rw [show cmpI a b = 0 from by unfold cmpI; rw [if_neg (by omega), if_neg (by omega)]]; rfl, rfl⟩

theorem cmp_int64 (a b : Int) (w : World) :
    Calls Tryd.prog 120 #[.int .i64 a, .int .i64 b] w fun e w' => e = .returned (.int .i64 (cmpI a b)) ∧ w = w' := by
  by_cases h1 : a < b
  · go_enter Tryd.func120, Tryd.ntmps120
    go_wp2
    go_ret
    exact ⟨by simp [cmpI, h1], rfl⟩
  · by_cases h2 : b < a
    · go_enter Tryd.func120, Tryd.ntmps120
      go_wp2
      go_ret
      exact ⟨by simp [cmpI, h1, h2], rfl⟩
    · go_enter Tryd.func120, Tryd.ntmps120
      go_wp2
      go_ret
      exact ⟨by rw [show cmpI a b = 0 from by unfold cmpI; rw [if_neg (by omega), if_neg (by omega)]]; rfl, rfl⟩

theorem cmp_string (a b : ByteArray) (w : World) :
    Calls Tryd.prog 121 #[.string a, .string b] w fun e w' => e = .returned (.int .i64 (cmpS a b)) ∧ w = w' := by
  cases h1 : Op.bytesLess a.toList b.toList
  · cases h2 : (a.toList == b.toList)
    · go_enter Tryd.func121, Tryd.ntmps121
      go_wp2
      go_ret
      exact ⟨by simp [cmpS, h1, h2], rfl⟩
    · go_enter Tryd.func121, Tryd.ntmps121
      go_wp2
      go_ret
      exact ⟨by simp [cmpS, h1, h2], rfl⟩
  · go_enter Tryd.func121, Tryd.ntmps121
    go_wp2
    go_ret
    exact ⟨by simp [cmpS, h1], rfl⟩

/-- The first number that is not 0, or 0. -/
def firstNZ : List Int → Int
  | [] => 0
  | x :: r => if x = 0 then firstNZ r else x

theorem firstNZ_skip (l : List Int) (k : Nat) (h : ∀ j, j < k → l.getD j 0 = 0) : firstNZ l = firstNZ (l.drop k) := by
  induction k generalizing l with
  | zero => simp
  | succ k ih =>
    cases l with
    | nil => simp
    | cons x r =>
      have h0 : x = 0 := by simpa using h 0 (by omega)
      simp only [firstNZ, h0, if_true, List.drop_succ_cons]
      exact ih r (fun j hj => by simpa using h (j + 1) (by omega))

set_option maxHeartbeats 1000000 in
theorem or_int (A : Option Addr) (n c : Nat) (zs : List Int) (w : World) (B : Nat) (hr : Rd w B 1 A n (zs.map (Value.int .i64))) (hn : n ≤ 9223372036854775807) :
    Calls Tryd.prog 119 #[.slice A n c] w fun e w' => e = .returned (.int .i64 (firstNZ zs)) ∧ w = w' := by
  have hl : zs.length = n := by simpa using hr.1
  have HL := hid hl; clear hl
  go_enter Tryd.func119, Tryd.ntmps119
  go_wp2_with fail
  go_loop [8] (fun i => ∃ k : Nat, k ≤ n ∧ i = .int .i64 k ∧ ∀ j, j < k → zs.getD j 0 = 0) (fun i => n - (intOf i).toNat)
  case atStart => exact ⟨0, by omega, rfl, fun j hj => absurd hj (by omega)⟩
  case round =>
    obtain ⟨k, hk, rfl, hz⟩ := hrel
    have HZ := hid hz; clear hz
    by_cases hlt : k < n
    · obtain ⟨b, o, rfl, hb, hc⟩ := hr.at1 hlt
      rw [ints_get _ _ _ (by rw [HL.out]; omega)] at hc
      obtain ⟨x, hx⟩ : ∃ x, x = zs.getD k 0 := ⟨_, rfl⟩
      rw [← hx] at hc
      have HX := hid hx; clear hx
      by_cases h0 : x = 0
      · have k0 : (x != 0) = false := by simpa using h0
        have H0 := hid h0; clear h0
        go_wp2_with fail
        go_round
        case rel =>
          refine ⟨k + 1, by omega, by go_num, fun j hj => ?_⟩
          by_cases e : j = k
          · subst e; rw [← HX.out]; exact H0.out
          · exact HZ.out j (by omega)
        case measure => simp [intOf]; omega
      · have k0 : (x != 0) = true := by simpa using h0
        have HF : Hid (firstNZ zs = x) := by
          unfold Hid
          rw [firstNZ_skip zs k HZ.out, List.drop_eq_getElem_cons (by rw [HL.out]; omega)]
          have : zs[k]'(by rw [HL.out]; omega) = x := by rw [HX.out]; simp [List.getD, show k < zs.length by rw [HL.out]; omega]
          rw [this, firstNZ, if_neg h0]
        clear h0
        go_wp2_with fail
        go_ret
        exact ⟨by rw [HF.out]; rfl, rfl⟩
    · obtain rfl : k = n := by omega
      have HF : Hid (firstNZ zs = 0) := by
        unfold Hid
        rw [firstNZ_skip zs k HZ.out, List.drop_of_length_le (by rw [HL.out]; omega)]; rfl
      go_wp2
      go_ret
      exact ⟨by rw [HF.out]; rfl, rfl⟩

theorem six {w : World} {g g' : Nat} {t : TypeId} {x y z x' y' z' : Value} (h : Blk w g t #[x, y, z]) (h' : Blk w g' t #[x', y', z']) :
    w.cell? ⟨g, 0, none⟩ = some x ∧ w.cell? ⟨g, 1, none⟩ = some y ∧ w.cell? ⟨g, 2, none⟩ = some z ∧ w.cell? ⟨g', 0, none⟩ = some x' ∧ w.cell? ⟨g', 1, none⟩ = some y' ∧ w.cell? ⟨g', 2, none⟩ = some z' := ⟨h.cell 0, h.cell 1, h.cell 2, h'.cell 0, h'.cell 1, h'.cell 2⟩

/-- The comparison of two values. -/
def cmpV (k1 i1 : Int) (s1 : ByteArray) (k2 i2 : Int) (s2 : ByteArray) : Int := firstNZ [cmpI k1 k2, cmpI i1 i2, cmpS s1 s2]

end Go.Proofs.YtjpgbhakkfgecaaDoor

namespace Go.Proofs.YtjpgbhakkfgecaaDoor
open Go.RowKit Go.Sort
set_option linter.unusedVariables false

/-- from w to w' nothing but draws and new blocks -/
def Gr (w w' : World) : Prop := ∃ (q : Nat) (os : Array Obj), w' = grow (w.drewN q) os
theorem Gr.refl (w : World) : Gr w w := ⟨0, #[], by rw [grow_empty]; rfl⟩
theorem Gr.trans {a b c : World} (h : Gr a b) (k : Gr b c) : Gr a c := by
  obtain ⟨q, os, rfl⟩ := h
  obtain ⟨q2, os2, rfl⟩ := k
  exact ⟨q + q2, os ++ os2, by show grow (grow ((a.drewN q).drewN q2) os) os2 = _; rw [grow_grow, World.drewN_drewN]⟩
theorem Gr.alloc (w : World) (o : Obj) : Gr w (w.alloc o) := ⟨0, #[o], by rw [alloc_eq_grow]; rfl⟩
theorem Gr.drew (w : World) : Gr w w.drew := ⟨1, #[], by rw [grow_empty]; rfl⟩
theorem Gr.drewN (w : World) (n : Nat) : Gr w (w.drewN n) := ⟨n, #[], by rw [grow_empty]⟩
theorem Gr.size {w w' : World} (h : Gr w w') : w.heap.size ≤ w'.heap.size := by
  obtain ⟨q, os, rfl⟩ := h
  rw [size_grow]
  exact Nat.le_add_right _ _
theorem Gr.block {w w' : World} (h : Gr w w') {k : Nat} (hk : k < w.heap.size) : w'.heap[k]? = w.heap[k]? := by
  obtain ⟨q, os, rfl⟩ := h
  exact heap_grow_old (w.drewN q) os hk
theorem Gr.below {w w' : World} (h : Gr w w') : Below w.heap.size w w' := by
  have h1 := h.size
  have h2 := fun k (hk : k < w.heap.size) => h.block hk
  obtain ⟨q, os, rfl⟩ := h
  exact ⟨rfl, rfl, rfl, h1, h2⟩
theorem Gr.ro {w w' : World} {M : Nat → Prop} {S : World → Prop} (h : Gr w w') (hs : Ro w M S) : Ro w' M S := hs.below h.below
end Go.Proofs.YtjpgbhakkfgecaaDoor

namespace Go.Proofs.YtjpgbhakkfgecaaDoor
open Go.RowKit Go.Sort
set_option linter.unusedVariables false
set_option linter.unusedSimpArgs false

set_option maxHeartbeats 1000000 in
theorem vcompare_gr (k1 i1 : Int) (s1 : ByteArray) (k2 i2 : Int) (s2 : ByteArray) (w : World) :
    Calls Tryd.prog 103 #[.agg #[.int .i64 k1, .int .i64 i1, .string s1], .agg #[.int .i64 k2, .int .i64 i2, .string s2]] w fun e w' => e = .returned (.int .i64 (cmpV k1 i1 s1 k2 i2 s2)) ∧ Gr w w' := by
  obtain ⟨x, hx⟩ : ∃ x, x = cmpI k1 k2 := ⟨_, rfl⟩
  obtain ⟨y, hy⟩ : ∃ y, y = cmpI i1 i2 := ⟨_, rfl⟩
  obtain ⟨z, hz⟩ : ∃ z, z = cmpS s1 s2 := ⟨_, rfl⟩
  have c1 := fun w => cmp_int k1 k2 w
  have c2 := fun w => cmp_int64 i1 i2 w
  have c3 := fun w => cmp_string s1 s2 w
  rw [← hx] at c1
  rw [← hy] at c2
  rw [← hz] at c3
  have HF : Hid (cmpV k1 i1 s1 k2 i2 s2 = firstNZ [x, y, z]) := by unfold Hid cmpV; rw [hx, hy, hz]
  have C1 := hid c1; have C2 := hid c2; have C3 := hid c3
  clear c1 c2 c3 hx hy hz
  have B0 := (Blk.new w 71 #[.int .i64 k1, .int .i64 i1, .string s1]).alloc (.cells #[.int .i64 k2, .int .i64 i2, .string s2] 71)
  have B1 : Blk ((w.alloc (.cells #[.int .i64 k1, .int .i64 i1, .string s1] 71)).alloc (.cells #[.int .i64 k2, .int .i64 i2, .string s2] 71)) (w.heap.size + 1) 71 #[.int .i64 k2, .int .i64 i2, .string s2] := by
    have := Blk.new (w.alloc (.cells #[.int .i64 k1, .int .i64 i1, .string s1] 71)) 71 #[.int .i64 k2, .int .i64 i2, .string s2]
    simpa using this
  have RO : Rd (((w.alloc (.cells #[.int .i64 k1, .int .i64 i1, .string s1] 71)).alloc (.cells #[.int .i64 k2, .int .i64 i2, .string s2] 71)).alloc (.cells #[.int .i64 x, .int .i64 y, .int .i64 z] 3)) (w.heap.size + 1 + 1 + 1) 1 (some ⟨w.heap.size + 1 + 1, 0, none⟩) 3 ([x, y, z].map (Value.int .i64)) := by
    have := Rd.lit ((w.alloc (.cells #[.int .i64 k1, .int .i64 i1, .string s1] 71)).alloc (.cells #[.int .i64 k2, .int .i64 i2, .string s2] 71)) #[.int .i64 x, .int .i64 y, .int .i64 z] 3 (size := 1) (n := 3) (xs := [x, y, z].map (Value.int .i64)) rfl rfl
    simpa using this
  go_enter Tryd.func103, Tryd.ntmps103
  go_wp2_with fail
  go_region_held3 (fun w' => w'.cell? ⟨w.heap.size, 0, none⟩ = some (.int .i64 k1) ∧ w'.cell? ⟨w.heap.size, 1, none⟩ = some (.int .i64 i1) ∧ w'.cell? ⟨w.heap.size, 2, none⟩ = some (.string s1) ∧ w'.cell? ⟨w.heap.size + 1, 0, none⟩ = some (.int .i64 k2) ∧ w'.cell? ⟨w.heap.size + 1, 1, none⟩ = some (.int .i64 i2) ∧ w'.cell? ⟨w.heap.size + 1, 2, none⟩ = some (.string s2))
    (first | exact six B0 B1 | exact six (B0.alloc _) (B1.alloc _))
    (first
      | (go_at_call 104; ((with_reducible refine (C1.out _).mono ?_); rintro e w3 ⟨rfl, rfl⟩))
      | (go_at_call 120; ((with_reducible refine (C2.out _).mono ?_); rintro e w3 ⟨rfl, rfl⟩))
      | (go_at_call 121; ((with_reducible refine (C3.out _).mono ?_); rintro e w3 ⟨rfl, rfl⟩))
      | (go_at_call 119; ((with_reducible refine (or_int _ 3 3 [x, y, z] _ _ (Rd.drew RO) (by omega)).mono ?_); rintro e w4 ⟨rfl, rfl⟩)))
  go_wp2_with fail
  go_ret
  exact ⟨by rw [HF.out]; rfl, (((Gr.alloc _ _).trans (Gr.alloc _ _)).trans (Gr.alloc _ _)).trans (Gr.drew _)⟩

/-- the order of values, of rows -/
def cmpVl (x y : Vl) : Int := cmpV x.k x.i x.s y.k y.i y.s
def rowC : List Vl → List Vl → Int
  | [], [] => 0
  | [], _ :: _ => -1
  | _ :: _, [] => 1
  | x :: xs, y :: ys => if cmpVl x y = 0 then rowC xs ys else cmpVl x y
theorem rowC_go {xs ys : List Vl} {k : Nat} {x y : Vl} (hx : xs[k]? = some x) (hy : ys[k]? = some y) (h : cmpVl x y = 0) : rowC (xs.drop k) (ys.drop k) = rowC (xs.drop (k + 1)) (ys.drop (k + 1)) := by
  rw [drop_cons hx, drop_cons hy, rowC, if_pos h]
theorem rowC_stop {xs ys : List Vl} {k : Nat} {x y : Vl} (hx : xs[k]? = some x) (hy : ys[k]? = some y) (h : cmpVl x y ≠ 0) : rowC (xs.drop k) (ys.drop k) = cmpVl x y := by
  rw [drop_cons hx, drop_cons hy, rowC, if_neg h]
theorem rowC_end {xs ys : List Vl} {k n m : Nat} (hn : xs.length = n) (hm : ys.length = m) (hk : k = min n m) : rowC (xs.drop k) (ys.drop k) = cmpI n m := by
  unfold cmpI
  rcases Nat.lt_trichotomy n m with h | h | h
  · have hk2 : k < ys.length := by omega
    rw [List.drop_of_length_le (show xs.length ≤ k by omega), List.drop_eq_getElem_cons hk2, rowC, if_pos (by omega)]
  · rw [List.drop_of_length_le (show xs.length ≤ k by omega), List.drop_of_length_le (show ys.length ≤ k by omega), rowC, if_neg (by omega), if_neg (by omega)]
  · have hk2 : k < xs.length := by omega
    rw [List.drop_of_length_le (show ys.length ≤ k by omega), List.drop_eq_getElem_cons hk2, rowC, if_neg (by omega), if_pos (by omega)]
set_option maxHeartbeats 4000000 in
set_option maxRecDepth 100000 in
theorem vcmprows_gr (w : World) (A : Option Addr) (n c : Nat) (xs : List Vl) (B : Option Addr) (m d : Nat) (ys : List Vl) (hD : Ro w None_ (VlsIn A n xs)) (hE : Ro w None_ (VlsIn B m ys)) (hn : n ≤ 9223372036854775807) (hm : m ≤ 9223372036854775807) :
    Calls Tryd.prog 76 #[.slice A n c, .slice B m d] w fun e w' => e = .returned (.int .i64 (rowC xs ys)) ∧ Gr w w' := by
  have HX := hid (show xs.length = n from hD.now.len)
  have HY := hid (show ys.length = m from hE.now.len)
  have HD := hid hD
  have HE := hid hE
  have mixed : Tryd.prog.follows .mixedOrders = true := by kernel_rfl
  clear hD hE
  obtain ⟨r, hr⟩ : ∃ r, r = rowC xs ys := ⟨_, rfl⟩
  rw [← hr]
  have HR := hid hr
  clear hr
  by_cases hnm : n ≤ m
  · have z1 : (n : Int) ≤ (m : Int) := by omega
    go_enter Tryd.func76, Tryd.ntmps76
    go_wp2_with fail
    go_loopw [12] (fun iv wr => ∃ k : Nat, k ≤ n ∧ iv = .int .i64 k ∧ Hid (r = rowC (xs.drop k) (ys.drop k)) ∧ Hid (Gr w wr)) (fun iv _ => n - (intOf iv).toNat)
    case atStart => exact ⟨0, by omega, rfl, hid (by rw [HR.out]; rfl), hid (Gr.refl w)⟩
    case round =>
      obtain ⟨k, hk, rfl, HK, HG⟩ := hrel
      by_cases hlt : k < n
      · have hd : decide ((k : Int) < (n : Int)) = true := by simp; omega
        have i0 : (0 : Int) ≤ (k : Int) := by omega
        have i1 : (k : Int) < (n : Int) := by omega
        have i2 : (k : Int) < (m : Int) := by omega
        obtain ⟨x, hx⟩ := get_of HX.out (show k < n by omega)
        obtain ⟨y, hy⟩ := get_of HY.out (show k < m by omega)
        have h1 := (HG.out.ro HD.out).now
        have h2 := (HG.out.ro HE.out).now
        obtain ⟨b, o, rfl, hb, c0, c1, c2⟩ := h1.at_ hx
        obtain ⟨b', o', rfl, hb', e0, e1, e2⟩ := h2.at_ hy
        clear h1 h2
        have g0 := fun p os => cell_grown (a := ⟨b, o + k * 3, none⟩) hb c0 p os
        have g1 := fun p os => cell_grown (a := ⟨b, o + k * 3 + 1, none⟩) hb c1 p os
        have g2 := fun p os => cell_grown (a := ⟨b, o + k * 3 + 2, none⟩) hb c2 p os
        have g3 := fun p os => cell_grown (a := ⟨b', o' + k * 3, none⟩) hb' e0 p os
        have g4 := fun p os => cell_grown (a := ⟨b', o' + k * 3 + 1, none⟩) hb' e1 p os
        have g5 := fun p os => cell_grown (a := ⟨b', o' + k * 3 + 2, none⟩) hb' e2 p os
        have HV := hid (fun W => vcompare_gr x.k x.i x.s y.k y.i y.s W)
        obtain ⟨cv, hcv⟩ : ∃ cv, cv = cmpVl x y := ⟨_, rfl⟩
        have HV2 : Hid (∀ W, Calls Tryd.prog 103 #[.agg #[.int .i64 x.k, .int .i64 x.i, .string x.s], .agg #[.int .i64 y.k, .int .i64 y.i, .string y.s]] W fun e w' => e = .returned (.int .i64 cv) ∧ ∃ q os', w' = grow (W.drewN q) os') := hid fun W => by rw [hcv]; exact HV.out W
        have HXK := hid hx
        have HYK := hid hy
        have HCV := hid hcv
        clear hx hy hcv HV c0 c1 c2 e0 e1 e2
        go_wp2_with fail
        go_quiet_grown (first | (go_at_call 103; refine Calls.grown_of (HV2.out _)))
        have HG2 := hid (HG.out.trans (show Gr wr (grow (wr.drewN nq) osq) from ⟨nq, osq, rfl⟩))
        clear g0 g1 g2 g3 g4 g5
        by_cases hz : cv = 0
        · have hb0 : (cv != 0) = false := by simp [hz]
          have HN := hid (show r = rowC (xs.drop (k + 1)) (ys.drop (k + 1)) by rw [HK.out]; exact rowC_go HXK.out HYK.out (by rw [← HCV.out, hz]))
          clear hz
          go_wp2_with fail
          go_roundw
          case rel => exact ⟨k + 1, by omega, by go_num, HN, HG2⟩
          case measure => simp [intOf]; omega
        · have hb0 : (cv != 0) = true := by simpa using hz
          have HN := hid (show r = cv by rw [HK.out, rowC_stop HXK.out HYK.out (by rw [← HCV.out]; exact hz), HCV.out])
          clear hz
          go_wp2_with fail
          go_ret
          exact ⟨by rw [HN.out] <;> rfl, HG2.out⟩
      · obtain rfl : n = k := by omega
        have hd : decide ((n : Int) < (n : Int)) = false := by simp
        have HN := hid (show r = cmpI n m by rw [HK.out]; exact rowC_end HX.out HY.out (by omega))
        go_wp2_with fail
        refine (cmp_int _ _ _).mono ?_
        rintro e w1 ⟨rfl, rfl⟩
        go_wp2_with fail
        go_ret
        exact ⟨by rw [HN.out] <;> rfl, HG.out⟩
  · have z1 : ¬ (n : Int) ≤ (m : Int) := by omega
    have z2 : (m : Int) ≤ (n : Int) := by omega
    have z3 : (m : Int) < (n : Int) := by omega
    go_enter Tryd.func76, Tryd.ntmps76
    go_wp2_with fail
    go_loopw [12] (fun iv wr => ∃ k : Nat, k ≤ m ∧ iv = .int .i64 k ∧ Hid (r = rowC (xs.drop k) (ys.drop k)) ∧ Hid (Gr w wr)) (fun iv _ => m - (intOf iv).toNat)
    case atStart => exact ⟨0, by omega, rfl, hid (by rw [HR.out]; rfl), hid (Gr.refl w)⟩
    case round =>
      obtain ⟨k, hk, rfl, HK, HG⟩ := hrel
      by_cases hlt : k < m
      · have hd : decide ((k : Int) < (m : Int)) = true := by simp; omega
        have i0 : (0 : Int) ≤ (k : Int) := by omega
        have i1 : (k : Int) < (n : Int) := by omega
        have i2 : (k : Int) < (m : Int) := by omega
        obtain ⟨x, hx⟩ := get_of HX.out (show k < n by omega)
        obtain ⟨y, hy⟩ := get_of HY.out (show k < m by omega)
        have h1 := (HG.out.ro HD.out).now
        have h2 := (HG.out.ro HE.out).now
        obtain ⟨b, o, rfl, hb, c0, c1, c2⟩ := h1.at_ hx
        obtain ⟨b', o', rfl, hb', e0, e1, e2⟩ := h2.at_ hy
        clear h1 h2
        have g0 := fun p os => cell_grown (a := ⟨b, o + k * 3, none⟩) hb c0 p os
        have g1 := fun p os => cell_grown (a := ⟨b, o + k * 3 + 1, none⟩) hb c1 p os
        have g2 := fun p os => cell_grown (a := ⟨b, o + k * 3 + 2, none⟩) hb c2 p os
        have g3 := fun p os => cell_grown (a := ⟨b', o' + k * 3, none⟩) hb' e0 p os
        have g4 := fun p os => cell_grown (a := ⟨b', o' + k * 3 + 1, none⟩) hb' e1 p os
        have g5 := fun p os => cell_grown (a := ⟨b', o' + k * 3 + 2, none⟩) hb' e2 p os
        have HV := hid (fun W => vcompare_gr x.k x.i x.s y.k y.i y.s W)
        obtain ⟨cv, hcv⟩ : ∃ cv, cv = cmpVl x y := ⟨_, rfl⟩
        have HV2 : Hid (∀ W, Calls Tryd.prog 103 #[.agg #[.int .i64 x.k, .int .i64 x.i, .string x.s], .agg #[.int .i64 y.k, .int .i64 y.i, .string y.s]] W fun e w' => e = .returned (.int .i64 cv) ∧ ∃ q os', w' = grow (W.drewN q) os') := hid fun W => by rw [hcv]; exact HV.out W
        have HXK := hid hx
        have HYK := hid hy
        have HCV := hid hcv
        clear hx hy hcv HV c0 c1 c2 e0 e1 e2
        go_wp2_with fail
        go_quiet_grown (first | (go_at_call 103; refine Calls.grown_of (HV2.out _)))
        have HG2 := hid (HG.out.trans (show Gr wr (grow (wr.drewN nq) osq) from ⟨nq, osq, rfl⟩))
        clear g0 g1 g2 g3 g4 g5
        by_cases hz : cv = 0
        · have hb0 : (cv != 0) = false := by simp [hz]
          have HN := hid (show r = rowC (xs.drop (k + 1)) (ys.drop (k + 1)) by rw [HK.out]; exact rowC_go HXK.out HYK.out (by rw [← HCV.out, hz]))
          clear hz
          go_wp2_with fail
          go_roundw
          case rel => exact ⟨k + 1, by omega, by go_num, HN, HG2⟩
          case measure => simp [intOf]; omega
        · have hb0 : (cv != 0) = true := by simpa using hz
          have HN := hid (show r = cv by rw [HK.out, rowC_stop HXK.out HYK.out (by rw [← HCV.out]; exact hz), HCV.out])
          clear hz
          go_wp2_with fail
          go_ret
          exact ⟨by rw [HN.out] <;> rfl, HG2.out⟩
      · obtain rfl : m = k := by omega
        have hd : decide ((m : Int) < (m : Int)) = false := by simp
        have HN := hid (show r = cmpI n m by rw [HK.out]; exact rowC_end HX.out HY.out (by omega))
        go_wp2_with fail
        refine (cmp_int _ _ _).mono ?_
        rintro e w1 ⟨rfl, rfl⟩
        go_wp2_with fail
        go_ret
        exact ⟨by rw [HN.out] <;> rfl, HG.out⟩
end Go.Proofs.YtjpgbhakkfgecaaDoor

namespace Go.Proofs.YtjpgbhakkfgecaaDoor
open Go.RowKit
set_option linter.unusedVariables false
set_option linter.unusedSimpArgs false

theorem less_asymm : ∀ x y : List UInt8, Op.bytesLess x y = true → Op.bytesLess y x = false ∧ x ≠ y
  | _, [], h => by simp [Op.bytesLess] at h
  | [], b :: y, _ => ⟨by simp [Op.bytesLess], by simp⟩
  | a :: x, b :: y, h => by
    simp only [Op.bytesLess, Bool.or_eq_true, decide_eq_true_eq, Bool.and_eq_true, beq_iff_eq] at h
    rcases h with h | ⟨rfl, h⟩
    · have h1 : ¬ (b < a) := by
        intro k
        have h' : a.toNat < b.toNat := h
        have k' : b.toNat < a.toNat := k
        omega
      have h2 : a ≠ b := by
        rintro rfl
        have h' : a.toNat < a.toNat := h
        omega
      refine ⟨?_, fun e => h2 (by injection e)⟩
      simp only [Op.bytesLess, Bool.or_eq_false_iff, decide_eq_false_iff_not, Bool.and_eq_false_imp, beq_iff_eq]
      exact ⟨h1, fun e => absurd e.symm h2⟩
    · obtain ⟨i1, i2⟩ := less_asymm x y h
      have h1 : ¬ (a < a) := by
        intro k
        have k' : a.toNat < a.toNat := k
        omega
      refine ⟨?_, fun e => i2 (by injection e)⟩
      simp only [Op.bytesLess, Bool.or_eq_false_iff, decide_eq_false_iff_not, Bool.and_eq_false_imp, beq_iff_eq]
      exact ⟨h1, fun _ => i1⟩
theorem less_tri : ∀ x y : List UInt8, Op.bytesLess x y = false → Op.bytesLess y x = false → x = y
  | [], [], _, _ => rfl
  | [], b :: y, h, _ => by simp [Op.bytesLess] at h
  | a :: x, [], _, h => by simp [Op.bytesLess] at h
  | a :: x, b :: y, h, k => by
    simp only [Op.bytesLess, Bool.or_eq_false_iff, decide_eq_false_iff_not, Bool.and_eq_false_imp, beq_iff_eq] at h k
    have hab : a = b := by
      have h' : ¬ a.toNat < b.toNat := h.1
      have k' : ¬ b.toNat < a.toNat := k.1
      exact UInt8.toNat_inj.1 (by omega)
    subst hab
    rw [less_tri x y (h.2 rfl) (k.2 rfl)]

end Go.Proofs.YtjpgbhakkfgecaaDoor

namespace Go.Proofs.YtjpgbhakkfgecaaDoor
open Go.RowKit
set_option linter.unusedVariables false
set_option linter.unusedSimpArgs false

theorem less_trans_ : ∀ x y z : List UInt8, Op.bytesLess x y = true → Op.bytesLess y z = true → Op.bytesLess x z = true
  | [], [], _, h, _ => by simp [Op.bytesLess] at h
  | [], _ :: _, [], _, h => by simp [Op.bytesLess] at h
  | [], _ :: _, _ :: _, _, _ => by simp [Op.bytesLess]
  | _ :: _, [], _, h, _ => by simp [Op.bytesLess] at h
  | _ :: _, _ :: _, [], _, h => by simp [Op.bytesLess] at h
  | a :: x, b :: y, c :: z, h1, h2 => by
    simp only [Op.bytesLess, Bool.or_eq_true, Bool.and_eq_true, decide_eq_true_eq, beq_iff_eq] at h1 h2 ⊢
    rcases h1 with h1 | ⟨rfl, h1⟩ <;> rcases h2 with h2 | ⟨rfl, h2⟩
    · exact .inl (by rw [UInt8.lt_iff_toNat_lt] at *; omega)
    · exact .inl h1
    · exact .inl h2
    · exact .inr ⟨rfl, less_trans_ x y z h1 h2⟩
end Go.Proofs.YtjpgbhakkfgecaaDoor

namespace Go.Proofs.YtjpgbhakkfgecaaDoor
open Go.RowKit
set_option linter.unusedVariables false
set_option linter.unusedSimpArgs false

/-- a comparison that is a linear order -/
structure LinC {α : Type} (c : α → α → Int) : Prop where
  eq : ∀ x y, c x y = 0 ↔ x = y
  flip : ∀ x y, c x y < 0 ↔ 0 < c y x
  trans : ∀ x y z, c x y < 0 → c y z < 0 → c x z < 0
theorem cmpI_cases (x y : Int) : (x < y ∧ cmpI x y = -1) ∨ (x = y ∧ cmpI x y = 0) ∨ (y < x ∧ cmpI x y = 1) := by
  unfold cmpI
  rcases Int.lt_trichotomy x y with h | h | h
  · exact .inl ⟨h, if_pos h⟩
  · exact .inr (.inl ⟨h, by rw [if_neg (by omega), if_neg (by omega)]⟩)
  · exact .inr (.inr ⟨h, by rw [if_neg (by omega), if_pos h]⟩)
theorem linI : LinC cmpI where
  eq x y := by rcases cmpI_cases x y with h | h | h <;> omega
  flip x y := by rcases cmpI_cases x y with h | h | h <;> rcases cmpI_cases y x with k | k | k <;> omega
  trans x y z h k := by rcases cmpI_cases x y with a | a | a <;> rcases cmpI_cases y z with b | b | b <;> rcases cmpI_cases x z with c | c | c <;> omega
theorem linS : LinC cmpS where
  eq x y := by
    unfold cmpS
    cases h1 : Op.bytesLess x.toList y.toList
    · by_cases h2 : x = y
      · subst h2; simp
      · have h3 : (x.toList == y.toList) = false := by rw [beq_eq_false_iff_ne]; exact fun h => h2 (bytesEq h)
        simp [h3, h2]
    · have h2 := (less_asymm _ _ h1).2
      have : x ≠ y := fun e => h2 (by rw [e])
      simp [this]
  flip x y := by
    unfold cmpS
    cases h1 : Op.bytesLess x.toList y.toList
    · cases h2 : Op.bytesLess y.toList x.toList
      · have h3 := less_tri _ _ h1 h2
        simp [h3]
      · have h3 := (less_asymm _ _ h2).2
        have h4 : (x.toList == y.toList) = false := by rw [beq_eq_false_iff_ne]; exact fun h => h3 h.symm
        simp [h4]
    · have h2 := less_asymm _ _ h1
      have h4 : (y.toList == x.toList) = false := by rw [beq_eq_false_iff_ne]; exact fun h => h2.2 h.symm
      simp [h2.1, h4]
  trans x y z h k := by
    have lt : ∀ a b : ByteArray, cmpS a b < 0 ↔ Op.bytesLess a.toList b.toList = true := fun a b => by
      unfold cmpS
      cases h1 : Op.bytesLess a.toList b.toList
      · simp only [Bool.false_eq_true, if_false, iff_false]
        split <;> omega
      · simp
    rw [lt] at h k ⊢
    exact less_trans_ _ _ _ h k
/-- the first decides, else the second -/
def thenC (a b : Int) : Int := if a = 0 then b else a
theorem linThen {α β γ : Type} {c : β → β → Int} {e : γ → γ → Int} (hc : LinC c) (he : LinC e) (f : α → β) (g : α → γ) (hi : ∀ x y, f x = f y → g x = g y → x = y) : LinC fun x y : α => thenC (c (f x) (f y)) (e (g x) (g y)) where
  eq x y := by
    show thenC _ _ = 0 ↔ _
    unfold thenC
    constructor
    · intro h
      by_cases h1 : c (f x) (f y) = 0
      · rw [if_pos h1] at h
        exact hi x y ((hc.eq _ _).1 h1) ((he.eq _ _).1 h)
      · rw [if_neg h1] at h; exact absurd h h1
    · rintro rfl
      rw [if_pos ((hc.eq _ _).2 rfl)]
      exact (he.eq _ _).2 rfl
  flip x y := by
    show thenC _ _ < 0 ↔ 0 < thenC _ _
    unfold thenC
    by_cases h1 : f x = f y
    · rw [if_pos ((hc.eq _ _).2 h1), if_pos ((hc.eq _ _).2 h1.symm)]
      exact he.flip _ _
    · rw [if_neg (fun h => h1 ((hc.eq _ _).1 h)), if_neg (fun h => h1 ((hc.eq _ _).1 h).symm)]
      exact hc.flip _ _
  trans x y z h k := by
    replace h : thenC (c (f x) (f y)) (e (g x) (g y)) < 0 := h
    replace k : thenC (c (f y) (f z)) (e (g y) (g z)) < 0 := k
    show thenC (c (f x) (f z)) (e (g x) (g z)) < 0
    unfold thenC at h k ⊢
    by_cases h1 : f x = f y
    · rw [if_pos ((hc.eq _ _).2 h1)] at h
      rw [h1]
      by_cases h2 : f y = f z
      · rw [if_pos ((hc.eq _ _).2 h2)] at k ⊢
        exact he.trans _ _ _ h k
      · rw [if_neg (fun h => h2 ((hc.eq _ _).1 h))] at k ⊢
        exact k
    · rw [if_neg (fun h => h1 ((hc.eq _ _).1 h))] at h
      by_cases h2 : f y = f z
      · rw [← h2, if_neg (fun h => h1 ((hc.eq _ _).1 h))]
        exact h
      · rw [if_neg (fun h => h2 ((hc.eq _ _).1 h))] at k
        have h3 := hc.trans _ _ _ h k
        rw [if_neg (by omega)]
        exact h3
theorem linVl : LinC cmpVl := by
  have h2 := linThen (α := Vl) linI linS Vl.i Vl.s
  have h3 : LinC fun x y : Int × ByteArray => thenC (cmpI x.1 y.1) (cmpS x.2 y.2) := linThen linI linS Prod.fst Prod.snd fun x y h k => Prod.ext h k
  have h4 := linThen (α := Vl) linI h3 Vl.k (fun v => (v.i, v.s)) fun x y h k => by
    cases x; cases y
    simp only [Prod.mk.injEq] at k
    simp only at h
    rw [h, k.1, k.2]
  have : cmpVl = fun x y : Vl => thenC (cmpI x.k y.k) (thenC (cmpI x.i y.i) (cmpS x.s y.s)) := by
    funext x y
    unfold cmpVl cmpV thenC
    simp only [firstNZ]
    by_cases h1 : cmpI x.k y.k = 0 <;> by_cases h2 : cmpI x.i y.i = 0 <;> by_cases h3 : cmpS x.s y.s = 0 <;> simp [h1, h2, h3]
  rw [this]
  exact h4
theorem rowC_eq : ∀ xs ys : List Vl, rowC xs ys = 0 ↔ xs = ys
  | [], [] => by simp [rowC]
  | [], y :: ys => by simp [rowC]
  | x :: xs, [] => by simp [rowC]
  | x :: xs, y :: ys => by
    rw [rowC]
    by_cases h : cmpVl x y = 0
    · rw [if_pos h, rowC_eq xs ys, (linVl.eq _ _).1 h]; simp
    · rw [if_neg h]
      have : x ≠ y := fun e => h ((linVl.eq _ _).2 e)
      simp [h, this]
theorem rowC_flip : ∀ xs ys : List Vl, rowC xs ys < 0 ↔ 0 < rowC ys xs
  | [], [] => by simp [rowC]
  | [], y :: ys => by simp [rowC]
  | x :: xs, [] => by simp [rowC]
  | x :: xs, y :: ys => by
    rw [rowC, rowC]
    by_cases h : x = y
    · subst h
      rw [if_pos ((linVl.eq _ _).2 rfl), if_pos ((linVl.eq _ _).2 rfl)]
      exact rowC_flip xs ys
    · rw [if_neg (fun e => h ((linVl.eq _ _).1 e)), if_neg (fun e => h ((linVl.eq _ _).1 e).symm)]
      exact linVl.flip _ _
theorem rowC_trans : ∀ xs ys zs : List Vl, rowC xs ys < 0 → rowC ys zs < 0 → rowC xs zs < 0
  | [], [], zs, h, k => by simp [rowC] at h
  | [], y :: ys, [], h, k => by simp [rowC] at k
  | [], y :: ys, z :: zs, h, k => by simp [rowC]
  | x :: xs, [], zs, h, k => by simp [rowC] at h
  | x :: xs, y :: ys, [], h, k => by simp [rowC] at k
  | x :: xs, y :: ys, z :: zs, h, k => by
    rw [rowC] at h k ⊢
    by_cases h1 : x = y
    · subst h1
      rw [if_pos ((linVl.eq _ _).2 rfl)] at h
      by_cases h2 : x = z
      · subst h2
        rw [if_pos ((linVl.eq _ _).2 rfl)] at k ⊢
        exact rowC_trans xs ys zs h k
      · rw [if_neg (fun e => h2 ((linVl.eq _ _).1 e))] at k ⊢
        exact k
    · rw [if_neg (fun e => h1 ((linVl.eq _ _).1 e))] at h
      by_cases h2 : y = z
      · subst h2
        rw [if_neg (fun e => h1 ((linVl.eq _ _).1 e))]
        exact h
      · rw [if_neg (fun e => h2 ((linVl.eq _ _).1 e))] at k
        have h3 := linVl.trans _ _ _ h k
        rw [if_neg (by omega)]
        exact h3
theorem swoRow {α : Type} (f : α → List Vl) : Go.Sort.SWO (ltOf fun x y : α => rowC (f x) (f y)) where
  irrefl x := by
    have := (rowC_eq (f x) (f x)).2 rfl
    simp [ltOf, this]
  trans x y z h k := by
    simp only [ltOf, decide_eq_true_eq] at h k ⊢
    exact rowC_trans _ _ _ h k
  ntrans x y z h k := by
    simp only [ltOf, decide_eq_false_iff_not] at h k ⊢
    intro hxz
    by_cases e : f x = f y
    · rw [e] at hxz; exact k hxz
    · have h1 : rowC (f x) (f y) ≠ 0 := fun h => e ((rowC_eq _ _).1 h)
      have h2 : rowC (f y) (f x) < 0 := (rowC_flip _ _).2 (by omega)
      exact k (rowC_trans _ _ _ h2 hxz)
end Go.Proofs.YtjpgbhakkfgecaaDoor

namespace Go.Proofs.YtjpgbhakkfgecaaDoor
open Go.RowKit
set_option linter.unusedVariables false
set_option linter.unusedSimpArgs false

end Go.Proofs.YtjpgbhakkfgecaaDoor

namespace Go.Proofs.YtjpgbhakkfgecaaDoor
open Go.RowKit
set_option linter.unusedVariables false
set_option linter.unusedSimpArgs false

/-- a table in plain words -/
structure Tb where
  nm : ByteArray
  cs : List Col
  nx : Int
  rs : List Row
deriving DecidableEq
end Go.Proofs.YtjpgbhakkfgecaaDoor

namespace Go.Proofs.YtjpgbhakkfgecaaDoor
open Go.RowKit
set_option linter.unusedVariables false
set_option linter.unusedSimpArgs false

section
variable {M : Nat → Prop}
end
end Go.Proofs.YtjpgbhakkfgecaaDoor

namespace Go.Proofs.YtjpgbhakkfgecaaDoor
open Go.RowKit
set_option linter.unusedVariables false
/-- the items under one name -/
theorem Hold.name {M : Nat → Prop} {row : Option Nat} {w0 w : World} {L : List Hp} (h : Hold M row w0 w L) : ∃ KL, KL = L ∧ Hold M row w0 w KL := ⟨L, rfl, h⟩
end Go.Proofs.YtjpgbhakkfgecaaDoor

namespace Go.Proofs.YtjpgbhakkfgecaaDoor
open Go.RowKit
set_option linter.unusedVariables false
set_option linter.unusedSimpArgs false

end Go.Proofs.YtjpgbhakkfgecaaDoor

namespace Go.Proofs.YtjpgbhakkfgecaaDoor
open Go.RowKit
set_option linter.unusedVariables false
set_option linter.unusedSimpArgs false

end Go.Proofs.YtjpgbhakkfgecaaDoor

namespace Go.Proofs.YtjpgbhakkfgecaaDoor
open Go.RowKit
set_option linter.unusedVariables false
set_option linter.unusedSimpArgs false

end Go.Proofs.YtjpgbhakkfgecaaDoor

namespace Go.Proofs.YtjpgbhakkfgecaaDoor
open Go.RowKit
set_option linter.unusedVariables false
set_option linter.unusedSimpArgs false

/-- what is known of the rows -/
structure RowsOk (cs : List Col) (nx : Int) (rs : List Rw) : Prop where
  ok : okR cs nx 0 (rs.map Rw.row) = true
  dup : dupB cs (rs.map Rw.row) = false
  rok : ∀ r ∈ rs, r.ok
end Go.Proofs.YtjpgbhakkfgecaaDoor

namespace Go.Proofs.YtjpgbhakkfgecaaDoor
open Go.RowKit
set_option linter.unusedVariables false
set_option linter.unusedSimpArgs false

def SlVals (l : List Sl) (w : World) : Prop := ∀ r ∈ l, VlsIn r.A r.n r.vs w
theorem sls_snoc {M : Nat → Prop} {w : World} {rs : List Sl} {r : Sl} (h : Ro w M (SlVals rs)) (k : Ro w M (VlsIn r.A r.n r.vs)) : Ro w M (SlVals (rs ++ [r])) := fun w2 h1 h2 x hx => by
  rcases List.mem_append.1 hx with hx | hx
  · exact h w2 h1 h2 x hx
  · simp at hx; subst hx; exact k w2 h1 h2
theorem Tryd.elSlc : ElemT Tryd.prog 56 51 1 24 (.slice none 0 0) := ⟨Tryd.underlying56, by kernel_rfl, rfl, by omega⟩
end Go.Proofs.YtjpgbhakkfgecaaDoor

namespace Go.Proofs.YtjpgbhakkfgecaaDoor
open Go.RowKit
set_option linter.unusedVariables false
set_option linter.unusedSimpArgs false

/-- rows that stand whatever becomes of block g -/
abbrev RowsAt (w : World) (g : Nat) : Type := { s : Sl // Ro w (fun b => b = g) (VlsIn s.A s.n s.vs) ∧ s.n ≤ 9223372036854775807 }
instance rowsAtInh (w : World) (g : Nat) : Inhabited (RowsAt w g) := ⟨⟨⟨none, 0, 0, []⟩, fun _ _ _ => Rd.none_, Nat.zero_le _⟩⟩
def encRow {w : World} {g : Nat} (x : RowsAt w g) : Value := .slice x.1.A x.1.n x.1.c
theorem slCells_at {l : List Sl} {j : Nat} {s : Sl} (h : l[j]? = some s) : (slCells l)[j]? = some (.slice s.A s.n s.c) := by
  have := flat_get Sl.cells 1 (fun _ => rfl) l j 0 s (by omega) h
  unfold slCells
  simpa [Sl.cells] using this
theorem sortWorld_heap {α : Type} [Inhabited α] (enc : α → Value) (w : World) (g m : Nat) (d : Array α) (os : Array Obj) {b : Nat} (hb : b < w.heap.size) (hne : b ≠ g) : (sortWorld enc w g 0 m d os).heap[b]? = w.heap[b]? := by
  show ((w.heap.modify g _) ++ os)[b]? = _
  rw [Array.getElem?_append, if_pos (by simpa using hb), Array.getElem?_modify, if_neg (fun e => hne e.symm)]
theorem sortWorld_size {α : Type} [Inhabited α] (enc : α → Value) (w : World) (g m : Nat) (d : Array α) (os : Array Obj) : w.heap.size ≤ (sortWorld enc w g 0 m d os).heap.size := by
  show _ ≤ ((w.heap.modify g _) ++ os).size
  simp
theorem sortWorld_at {α : Type} [Inhabited α] (enc : α → Value) (w : World) (g m : Nat) (d : Array α) (os : Array Obj) {cs : Array Value} {t : TypeId} (h : w.heap[g]? = some (.cells cs t (0, 0))) : (sortWorld enc w g 0 m d os).heap[g]? = some (.cells (Go.Sort.putCells enc 0 d cs) t (0, 0)) := by
  have hb : g < w.heap.size := (Array.getElem?_eq_some_iff.1 h).1
  show ((w.heap.modify g _) ++ os)[g]? = _
  rw [Array.getElem?_append, if_pos (by simpa using hb), Array.getElem?_modify, if_pos rfl, h]
  rfl
set_option maxHeartbeats 2000000 in
theorem sortfn_any {M : Nat → Prop} {row : Option Nat} {w0 w : World} {L : List Hp} (K : Hold M row w0 w L) (i : Nat) {g q cap : Nat} {lo : List Sl} (hi : L[i]? = some (.own 51 1 (.slice (some ⟨g, 0, none⟩) q cap) q (slCells lo))) (hv : Ro w (Mut M L) (SlVals lo)) (hn : ∀ s ∈ lo, s.n ≤ 9223372036854775807) (hq : q < 4611686018427387904) :
    Calls Tryd.prog 77 #[.slice (some ⟨g, 0, none⟩) q cap, .func (.func 76) #[] #[]] w fun e w' => e = .returned (.tuple #[]) ∧ ∃ lo' : List Sl, lo'.Perm lo ∧ lo'.Pairwise (fun a b => ¬ rowC b.vs a.vs < 0) ∧ Hold M row w0 w' (L.set i (.own 51 1 (.slice (some ⟨g, 0, none⟩) q cap) q (slCells lo'))) := by
  have ho : w.ownsRow w0.heap.size 51 1 (.slice (some ⟨g, 0, none⟩) q cap) q (slCells lo) := K.get i hi
  have hg : g < w.heap.size := (K.fresh _ (List.mem_of_getElem? hi) g rfl).2
  have hgM : Mut M L g := .inr ⟨_, List.mem_of_getElem? hi, rfl⟩
  have hlen : lo.length = q := by have := ho.1; rw [slCells_len] at this; omega
  have hgood : ∀ s ∈ lo, Ro w (fun b => b = g) (VlsIn s.A s.n s.vs) ∧ s.n ≤ 9223372036854775807 := fun s hs => ⟨(hv.imp fun w2 h2 => h2 s hs).less fun b hb => by rw [hb]; exact hgM, hn s hs⟩
  obtain ⟨dl, hdl⟩ : ∃ dl : List (RowsAt w g), dl.map (·.1) = lo := ⟨lo.attach.map fun s => ⟨s.1, hgood s.1 s.2⟩, by rw [List.map_map]; exact List.attach_map_subtype_val lo⟩
  have hdn : dl.toArray.size = q := by rw [← hlen, ← hdl]; simp
  have hget : ∀ j, j < q → ∃ x : RowsAt w g, dl.toArray[j]! = x ∧ lo[j]? = some x.1 := fun j hj => by
    have hj2 : j < dl.length := by have := hdn; simp at this; omega
    exact ⟨dl[j], by rw [getElem!_pos _ _ (by simpa using hj2)]; rfl, by rw [← hdl, List.getElem?_map, List.getElem?_eq_getElem hj2]; rfl⟩
  have hH : Go.Sort.Holds encRow w g 0 dl.toArray := fun j hj => by
    rw [hdn] at hj
    obtain ⟨x, h1, h2⟩ := hget j hj
    rw [h1, Nat.zero_add]
    exact ⟨(ho.cellAt j (by omega)).trans (slCells_at h2), ho.frozenAt j⟩
  have hcmp : CmpLays1 Tryd.prog 76 #[] encRow (fun x y : RowsAt w g => rowC x.1.vs y.1.vs) g 0 dl.toArray.size w := fun m os dk hs x y => by
    have hx : ∀ z : RowsAt w g, Ro (sortWorld encRow w g 0 m dk os) None_ (VlsIn z.1.A z.1.n z.1.vs) := fun z w2 h1 h2 => z.2.1 w2 (Nat.le_trans (sortWorld_size _ _ _ _ _ _) h1) fun b hb hne => (h2 b (Nat.lt_of_lt_of_le hb (sortWorld_size _ _ _ _ _ _)) (by simp [None_])).trans (sortWorld_heap _ _ _ _ _ _ hb hne)
    exact vcmprows_gr _ x.1.A x.1.n x.1.c x.1.vs y.1.A y.1.n y.1.c y.1.vs (hx x) (hx y) x.2.2 y.2.2
  have hcon := Any.slices_SortFunc Tryd.sortRows encRow (fun _ => rfl) (fun x y : RowsAt w g => rowC x.1.vs y.1.vs) (swoRow fun x : RowsAt w g => x.1.vs) 76 #[] g 0 cap dl.toArray w (enters_of Tryd.func76 (by kernel_rfl) rfl) hcmp hH hg (by omega)
  rw [hdn] at hcon
  change Calls Tryd.prog 77 _ _ _ at hcon
  refine hcon.mono ?_
  rintro e w' ⟨rfl, d', n, os, ⟨p1, p2, p3⟩, hs, rfl⟩
  rw [hdn] at p1
  have hall : d'.extract 0 q = d' := by rw [← p1]; simp
  have hall2 : dl.toArray.extract 0 q = dl.toArray := by rw [← hdn]; simp
  rw [hall, hall2] at p3
  have hl' : (d'.toList.map (·.1)).length = q := by simp [p1]
  have hat : ∀ j, j < q → (d'.toList.map (·.1))[j]? = some ((d'[j]!).1) := fun j hj => by
    have hj2 : j < d'.size := by omega
    rw [List.getElem?_map, getElem!_pos d' j hj2, Array.getElem?_toList, Array.getElem?_eq_getElem hj2]
    rfl
  refine ⟨rfl, d'.toList.map (·.1), ?_, ?_, ?_⟩
  · have := p3.map (·.1)
    rwa [show (dl.toArray.toList.map (·.1)) = lo by simpa using hdl] at this
  · rw [List.pairwise_iff_getElem]
    intro a b ha hb hab
    have ha2 := hat a (by omega)
    have hb2 := hat b (by omega)
    rw [List.getElem?_eq_getElem ha] at ha2
    rw [List.getElem?_eq_getElem hb] at hb2
    injection ha2 with ha2
    injection hb2 with hb2
    have h1 := hs a b (Nat.zero_le _) hab (by omega)
    unfold ltOf at h1
    rw [decide_eq_false_iff_not] at h1
    rw [ha2, hb2]
    exact h1
  · refine K.append (w' := sortWorld encRow w g 0 n d' os) i hi (ys := slCells (d'.toList.map (·.1))) ?_ ⟨rfl, rfl, rfl, sortWorld_size _ _ _ _ _ _, fun b hb hne => sortWorld_heap _ _ _ _ _ _ hb fun e => hne (by rw [e]; rfl)⟩ (.inl rfl) (Nat.lt_of_lt_of_le hg (sortWorld_size _ _ _ _ _ _))
    obtain ⟨hlen2, ⟨hv0, _⟩ | ⟨g', cap', cur, hveq, hbase, hcell, hqc, hcm, hcs, htk⟩⟩ := ho
    · cases hv0
    · injection hveq with e1 e2 e3
      injection e1 with e1
      injection e1 with e1
      subst e1; subst e3
      refine ⟨by rw [slCells_len, hl']; omega, .inr ⟨g, cap, _, rfl, hbase, sortWorld_at _ _ _ _ _ _ hcell, hqc, hcm, ?_, ?_⟩⟩
      · rw [← hcs]
        show (cur.mapIdx _).size = _
        simp
      · refine List.ext_getElem? fun j => ?_
        by_cases hj : j < q
        · rw [List.getElem?_take, if_pos (by omega), slCells_at (hat j hj)]
          have hjc : j < cur.size := by omega
          show ((cur.mapIdx fun k x => if 0 ≤ k ∧ k < 0 + d'.size then encRow d'[k - 0]! else x).toList)[j]? = _
          rw [Array.getElem?_toList, Array.getElem?_mapIdx, Array.getElem?_eq_getElem hjc]
          simp only [Option.map_some, Nat.zero_add, Nat.sub_zero, Nat.zero_le, true_and]
          rw [if_pos (by omega)]
          rfl
        · rw [List.getElem?_eq_none (by rw [List.length_take]; omega), List.getElem?_eq_none (by rw [slCells_len, hl']; omega)]
end Go.Proofs.YtjpgbhakkfgecaaDoor

namespace Go.Proofs.YtjpgbhakkfgecaaDoor
open Go.RowKit
set_option linter.unusedVariables false
set_option linter.unusedSimpArgs false

def SortedV (l : List (List Vl)) : Prop := l.Pairwise fun a b => ¬ rowC b a < 0
def insV (x : List Vl) : List (List Vl) → List (List Vl)
  | [] => [x]
  | y :: l => if rowC x y < 0 then x :: y :: l else y :: insV x l
def sortV (l : List (List Vl)) : List (List Vl) := l.foldr insV []
theorem rowC_le_trans {a b c : List Vl} (h : ¬ rowC b a < 0) (k : ¬ rowC c b < 0) : ¬ rowC c a < 0 := (swoRow (α := List Vl) id).ntrans c b a (by simpa [ltOf] using k) (by simpa [ltOf] using h) |> fun h => by simpa [ltOf] using h
theorem insV_perm (x : List Vl) : ∀ l, (insV x l).Perm (x :: l)
  | [] => List.Perm.refl _
  | y :: l => by
    rw [insV]
    split
    · exact List.Perm.refl _
    · exact ((insV_perm x l).cons y).trans (List.Perm.swap x y l)
theorem insV_sorted (x : List Vl) : ∀ {l}, SortedV l → SortedV (insV x l)
  | [], _ => List.pairwise_singleton _ _
  | y :: l, h => by
    have h2 := h
    unfold SortedV at h2
    rw [List.pairwise_cons] at h2
    rw [insV]
    split
    · rename_i hlt
      unfold SortedV
      rw [List.pairwise_cons]
      refine ⟨fun z hz => ?_, h⟩
      have h3 : ¬ rowC y x < 0 := fun e => by have := (rowC_flip _ _).1 hlt; omega
      rcases List.mem_cons.1 hz with rfl | hz
      · exact h3
      · exact rowC_le_trans h3 (h2.1 z hz)
    · rename_i hlt
      unfold SortedV
      rw [List.pairwise_cons]
      refine ⟨fun z hz => ?_, insV_sorted x h2.2⟩
      rcases List.mem_cons.1 ((insV_perm x l).mem_iff.1 hz) with rfl | hz
      · exact hlt
      · exact h2.1 z hz
theorem sortV_perm : ∀ l, (sortV l).Perm l
  | [] => List.Perm.refl _
  | x :: l => (insV_perm x (sortV l)).trans ((sortV_perm l).cons x)
theorem sortV_sorted : ∀ l, SortedV (sortV l)
  | [] => List.Pairwise.nil
  | x :: l => insV_sorted x (sortV_sorted l)
theorem sorted_uniq : ∀ {l l' : List (List Vl)}, l.Perm l' → SortedV l → SortedV l' → l = l'
  | [], l', h, _, _ => (List.Perm.nil_eq h)
  | a :: l, [], h, _, _ => absurd h.length_eq (by simp)
  | a :: l, b :: l', h, h1, h2 => by
    unfold SortedV at h1 h2
    rw [List.pairwise_cons] at h1 h2
    have hab : a = b := by
      have ha := h.mem_iff.1 (List.mem_cons_self (a := a) (l := l))
      have hb := h.mem_iff.2 (List.mem_cons_self (a := b) (l := l'))
      rcases List.mem_cons.1 ha with e | ha
      · exact e
      · rcases List.mem_cons.1 hb with e | hb
        · exact e.symm
        · have k1 := h2.1 a ha
          have k2 := h1.1 b hb
          have k3 : ¬ 0 < rowC b a := fun h => k1 ((rowC_flip _ _).2 h)
          exact ((rowC_eq b a).1 (by omega)).symm
    subst hab
    rw [sorted_uniq ((List.perm_cons a).1 h) h1.2 h2.2]
theorem sortV_of {l l' : List (List Vl)} (h : l'.Perm l) (hs : SortedV l') : l' = sortV l := sorted_uniq (h.trans (sortV_perm l).symm) hs (sortV_sorted l)
theorem sortV_len (l : List (List Vl)) : (sortV l).length = l.length := (sortV_perm l).length_eq
end Go.Proofs.YtjpgbhakkfgecaaDoor

namespace Go.Proofs.YtjpgbhakkfgecaaDoor
open Go.RowKit
set_option linter.unusedVariables false
set_option linter.unusedSimpArgs false

end Go.Proofs.YtjpgbhakkfgecaaDoor

namespace Go.Proofs.YtjpgbhakkfgecaaDoor
open Go.RowKit
set_option linter.unusedVariables false
set_option linter.unusedSimpArgs false

/-- the new rows -/
def insR (nx : Int) (ins : List (List Vl)) : List Row := ins.zipIdx.map fun p => (nx + (p.2 : Int), p.1)
theorem PrsIn.tail {w : World} {b o k : Nat} {u : Pr} {us : List Pr} (h : PrsIn (some ⟨b, o, none⟩) (k + 1) (u :: us) w) : PrsIn (some ⟨b, o + 3, none⟩) k us w := by
  refine ⟨?_, fun r hr => h.2 r (List.mem_cons_of_mem _ hr)⟩
  have h1 : Rd w w.heap.size 3 (some ⟨b, o, none⟩) (k + 1) (prCells (u :: us)) := h.1
  have hl := h1.1
  refine ⟨by simp [prCells, Pr.cells] at hl ⊢; omega, fun hk => ?_⟩
  obtain ⟨b', o', e, hb, hc⟩ := h1.2 (by omega)
  obtain ⟨rfl, rfl⟩ : b = b' ∧ o = o' := by injection e with e; injection e with a1 a2; exact ⟨a1, a2⟩
  refine ⟨b, o + 3, rfl, hb, fun j v hv => ?_⟩
  have := hc (3 + j) v (by
    show (prCells (u :: us))[3 + j]? = some v
    unfold prCells
    rw [List.flatMap_cons, List.getElem?_append_right (by simp [Pr.cells])]
    simpa [Pr.cells, prCells] using hv)
  rwa [show o + (3 + j) = o + 3 + j by omega] at this
theorem PrsIn.zero {w : World} (A : Option Addr) : PrsIn A 0 [] w := ⟨⟨by simp [prCells], fun h => absurd h (by omega)⟩, fun r hr => nomatch hr⟩
end Go.Proofs.YtjpgbhakkfgecaaDoor

namespace Go.Proofs.YtjpgbhakkfgecaaDoor
open Go.RowKit
set_option linter.unusedVariables false
set_option linter.unusedSimpArgs false

/-- the values that the updates ask for -/
def wantR (us : List Upd) (id : Int) (v : List Vl) : List Vl := us.foldl (fun acc p => if p.1 = id then p.2.2 else acc) v
def keepR (dels : List Int) (us : List Upd) (rs : List Row) : List Row := (rs.filter fun r => !dels.contains r.1).map fun r => (r.1, wantR us r.1 r.2)
theorem okR_asc {cs : List Col} {nx : Int} : ∀ {lst : Int} {rs : List Row}, okR cs nx lst rs = true → (rs.map (·.1)).Pairwise (· < ·) ∧ ∀ r ∈ rs, lst < r.1 ∧ r.1 < nx
  | _, [], _ => ⟨List.Pairwise.nil, fun _ h => nomatch h⟩
  | lst, r :: rs, h => by
    rw [okR] at h
    simp only [Bool.and_eq_true, decide_eq_true_eq] at h
    obtain ⟨h1, h2⟩ := okR_asc h.2
    refine ⟨?_, fun x hx => ?_⟩
    · rw [List.map_cons, List.pairwise_cons]
      refine ⟨fun a ha => ?_, h1⟩
      obtain ⟨x, hx, rfl⟩ := List.mem_map.1 ha
      exact (h2 x hx).1
    · rcases List.mem_cons.1 hx with rfl | hx
      · exact ⟨h.1.1.1, h.1.1.2⟩
      · exact ⟨Int.lt_trans h.1.1.1 (h2 x hx).1, (h2 x hx).2⟩
/-- What is known of a change that succeeds. -/
structure ApOk (nm : ByteArray) (cs : List Col) (nx : Int) (rs : List Row) (ins : List (List Vl)) (dels : List Int) (us : List Upd) (T : Tb) : Prop where
  tab : tabB nm cs nx rs = true
  tb : T = ⟨nm, cs, nx + ins.length, keepR dels us rs ++ insR nx ins⟩
  asc : (rs.map (·.1)).Pairwise (· < ·)
  low : ∀ r ∈ rs, 0 < r.1 ∧ r.1 < nx
  dasc : dels.Pairwise (· < ·)
  din : ∀ id ∈ dels, id ∈ rs.map (·.1)
  uasc : (us.map (·.1)).Pairwise (· < ·)
  uin : ∀ u ∈ us, u.1 ∈ rs.map (·.1) ∧ dels.contains u.1 = false
  dup : dupB cs (keepR dels us rs ++ insR nx ins) = false
  fits : (∀ u ∈ us, fitsT cs u.2.2 = 0) ∧ ∀ v ∈ ins, fitsT cs v = 0
  lim : (rs.length : Int) - dels.length + ins.length ≤ 100
  nlim : (ins.length : Int) ≤ 2147483648 - nx
theorem tabB_ok {nm : ByteArray} {cs : List Col} {nx : Int} {rs : List Row} (h : tabB nm cs nx rs = true) : schemaB nm cs = true ∧ rs.length ≤ 100 ∧ 1 ≤ nx ∧ nx ≤ 2147483648 ∧ okR cs nx 0 rs = true ∧ dupB cs rs = false := by
  unfold tabB at h
  simp only [Bool.and_eq_true, decide_eq_true_eq, Bool.not_eq_true'] at h
  obtain ⟨⟨⟨⟨⟨h1, h2⟩, h3⟩, h4⟩, h5⟩, h6⟩ := h
  exact ⟨h1, h2, h3, h4, h5, h6⟩
theorem find_uniq {l : List Row} (h : (l.map (·.1)).Pairwise (· < ·)) {r : Row} (hr : r ∈ l) : l.find? (fun x => x.1 == r.1) = some r := by
  induction l with
  | nil => cases hr
  | cons x l ih =>
    obtain ⟨h1, h2⟩ := List.pairwise_cons.1 h
    rcases List.mem_cons.1 hr with rfl | hr
    · simp
    · have : x.1 < r.1 := h1 r.1 (List.mem_map_of_mem (f := fun x : Row => x.1) hr)
      rw [List.find?_cons, show (x.1 == r.1) = false by rw [beq_eq_false_iff_ne]; omega]
      exact ih h2 hr
theorem getR_none {l : List Row} {id : Int} (h : ∀ r ∈ l, r.1 ≠ id) : getR l id = none := by
  unfold getR
  rw [List.find?_eq_none.2 fun x hx => by simpa using h x hx]; rfl
theorem getR_app (a b : List Row) (id : Int) : getR (a ++ b) id = (getR a id).or (getR b id) := by
  unfold getR
  rw [List.find?_append]
  cases a.find? (fun r => r.1 == id) <;> simp
theorem insR_at : ∀ (ins : List (List Vl)) (nx : Int) (i : Nat), getR (insR nx ins) (nx + (i : Int)) = ins[i]? := by
  intro ins nx i
  have key : ∀ (l : List (List Vl)) (k : Nat) (i : Nat), k ≤ i → getR ((l.zipIdx k).map fun p => (nx + (p.2 : Int), p.1)) (nx + (i : Int)) = l[i - k]? := by
    intro l
    induction l with
    | nil => intro k i _; simp [getR]
    | cons v l ih =>
      intro k i hki
      rw [List.zipIdx_cons, List.map_cons]
      by_cases h : k = i
      · subst h
        simp [getR]
      · have h2 := ih (k + 1) i (by omega)
        have e : i - k = (i - (k + 1)) + 1 := by omega
        rw [e, List.getElem?_cons_succ, ← h2]
        unfold getR
        rw [List.find?_cons, show ((nx + (k : Int), v).1 == nx + (i : Int)) = false by rw [beq_eq_false_iff_ne]; show nx + (k : Int) ≠ _; omega]
  have := key ins 0 i (by omega)
  simpa [insR] using this
theorem insR_ge {ins : List (List Vl)} {nx : Int} : ∀ r ∈ insR nx ins, nx ≤ r.1 := fun r hr => by
  unfold insR at hr
  obtain ⟨p, _, rfl⟩ := List.mem_map.1 hr
  show nx ≤ nx + (p.2 : Int)
  omega
section
variable {nm : ByteArray} {cs : List Col} {nx : Int} {rs : List Row} {ins : List (List Vl)} {dels : List Int} {us : List Upd} {T : Tb}
theorem ApOk.asc2 (h : ApOk nm cs nx rs ins dels us T) : ((keepR dels us rs).map (·.1)).Pairwise (· < ·) := by
  have e : (keepR dels us rs).map (·.1) = (rs.filter fun r => !dels.contains r.1).map (·.1) := by simp [keepR]
  rw [e]
  exact List.Pairwise.sublist (List.Sublist.map _ List.filter_sublist) h.asc
/-- a row of before -/
theorem ApOk.old (h : ApOk nm cs nx rs ins dels us T) {r : Row} (hr : r ∈ rs) : getR T.rs r.1 = if dels.contains r.1 then none else some (wantR us r.1 r.2) := by
  rw [h.tb]
  show getR (keepR dels us rs ++ insR nx ins) r.1 = _
  rw [getR_app, getR_none (l := insR nx ins) fun x hx => by have := insR_ge x hx; have := (h.low r hr).2; omega, Option.or_none]
  cases hd : dels.contains r.1
  · have hm : (r.1, wantR us r.1 r.2) ∈ keepR dels us rs := List.mem_map.2 ⟨r, List.mem_filter.2 ⟨hr, by simp only [hd]; rfl⟩, rfl⟩
    have := find_uniq h.asc2 hm
    unfold getR
    rw [this]; simp
  · rw [getR_none fun x hx => ?_]
    · simp
    · obtain ⟨y, hy, rfl⟩ := List.mem_map.1 hx
      have := (List.mem_filter.1 hy).2
      intro e
      have e : y.1 = r.1 := e
      rw [e, hd] at this
      cases this
/-- a new row -/
theorem ApOk.new (h : ApOk nm cs nx rs ins dels us T) (i : Nat) : getR T.rs (nx + (i : Int)) = ins[i]? := by
  rw [h.tb]
  show getR (keepR dels us rs ++ insR nx ins) _ = _
  rw [getR_app, getR_none (l := keepR dels us rs) fun x hx => ?_, Option.none_or, insR_at]
  obtain ⟨y, hy, rfl⟩ := List.mem_map.1 hx
  have := (h.low y (List.mem_filter.1 hy).1).2
  show y.1 ≠ _
  omega
theorem ApOk.len (h : ApOk nm cs nx rs ins dels us T) : (T.rs.length : Int) = rs.length - dels.length + ins.length := by
  rw [h.tb]
  show ((keepR dels us rs ++ insR nx ins).length : Int) = _
  have h1 : (insR nx ins).length = ins.length := by simp [insR]
  have h2 : (keepR dels us rs).length = (rs.filter fun r => !dels.contains r.1).length := by simp [keepR]
  have hnd : (rs.map (·.1)).Nodup := h.asc.imp fun h => by omega
  have hdn : dels.Nodup := h.dasc.imp fun h => by omega
  have hp : ((rs.map (·.1)).filter fun id => dels.contains id).Perm dels := (List.perm_ext_iff_of_nodup (hnd.sublist List.filter_sublist) hdn).2 fun a => by
    simp only [List.mem_filter, List.contains_iff_mem]
    exact ⟨fun k => k.2, fun k => ⟨h.din a k, k⟩⟩
  have h3 : (rs.filter fun r => dels.contains r.1).length = dels.length := by
    rw [← hp.length_eq, List.filter_map, List.length_map]; rfl
  have h4 : (rs.filter fun r => dels.contains r.1).length + (rs.filter fun r => !dels.contains r.1).length = rs.length := by
    have : ∀ l : List Row, (l.filter fun r => dels.contains r.1).length + (l.filter fun r => !dels.contains r.1).length = l.length := by
      intro l
      induction l with
      | nil => rfl
      | cons x l ih => cases hx : dels.contains x.1 <;> simp only [List.filter_cons, hx, if_true, if_false, Bool.not_true, Bool.not_false, List.length_cons, Bool.false_eq_true] <;> omega
    exact this rs
  rw [List.length_append, h1, h2]
  omega
end
end Go.Proofs.YtjpgbhakkfgecaaDoor

namespace Go.Proofs.YtjpgbhakkfgecaaDoor
open Go.RowKit
set_option linter.unusedVariables false
set_option linter.unusedSimpArgs false

/-- A difference: the table's name, the rows that came, those that left, the updates. -/
structure Dl where
  nm : ByteArray
  ins : List Row
  del : List Row
  upd : List Upd
deriving DecidableEq
/-- the rows of l that rs does not have -/
def offR (rs l : List Row) : List Row := l.filter fun r => (getR rs r.1).isNone
/-- the rows of l that rs has with other values -/
def turnR (rs l : List Row) : List Upd := l.filterMap fun r => match getR rs r.1 with
  | some o => if o = r.2 then none else some (r.1, o, r.2)
  | none => none
theorem offR_hit {rs l : List Row} {j : Nat} {r : Row} (hr : l[j]? = some r) (h : getR rs r.1 = none) : offR rs (l.take (j + 1)) = offR rs (l.take j) ++ [r] := by
  unfold offR
  rw [List.take_add_one, hr, Option.toList_some, List.filter_append]
  simp [List.filter_cons, h]
theorem offR_miss {rs l : List Row} {j : Nat} {r : Row} {v : List Vl} (hr : l[j]? = some r) (h : getR rs r.1 = some v) : offR rs (l.take (j + 1)) = offR rs (l.take j) := by
  unfold offR
  rw [List.take_add_one, hr, Option.toList_some, List.filter_append]
  simp [List.filter_cons, h]
theorem turnR_none {rs l : List Row} {j : Nat} {r : Row} (hr : l[j]? = some r) (h : getR rs r.1 = none) : turnR rs (l.take (j + 1)) = turnR rs (l.take j) := by
  unfold turnR
  rw [List.take_add_one, hr, Option.toList_some, List.filterMap_append]
  simp [h]
theorem turnR_same {rs l : List Row} {j : Nat} {r : Row} (hr : l[j]? = some r) (h : getR rs r.1 = some r.2) : turnR rs (l.take (j + 1)) = turnR rs (l.take j) := by
  unfold turnR
  rw [List.take_add_one, hr, Option.toList_some, List.filterMap_append]
  simp [h]
theorem turnR_turn {rs l : List Row} {j : Nat} {r : Row} {o : List Vl} (hr : l[j]? = some r) (h : getR rs r.1 = some o) (hne : o ≠ r.2) : turnR rs (l.take (j + 1)) = turnR rs (l.take j) ++ [(r.1, o, r.2)] := by
  unfold turnR
  rw [List.take_add_one, hr, Option.toList_some, List.filterMap_append]
  simp [h, hne]
theorem getR_of_mem : ∀ {rs : List Row} {r : Row}, (rs.map (·.1)).Pairwise (· < ·) → r ∈ rs → getR rs r.1 = some r.2
  | x :: rs, r, ha, hr => by
    rw [List.map_cons, List.pairwise_cons] at ha
    rcases List.mem_cons.1 hr with rfl | hr
    · simp [getR]
    · have h1 := ha.1 r.1 (List.mem_map_of_mem hr)
      have h2 := getR_of_mem ha.2 hr
      unfold getR at h2 ⊢
      rw [List.find?_cons, show (x.1 == r.1) = false by rw [beq_eq_false_iff_ne]; omega]
      exact h2
/-- the merge's state: the rows of a ahead of p lie below all rows of b from j on, the others above all rows of b ahead of j -/
structure Mg (a b : List Row) (j p : Nat) : Prop where
  aasc : (a.map (·.1)).Pairwise (· < ·)
  basc : (b.map (·.1)).Pairwise (· < ·)
  low : ∀ x ∈ a.take p, ∀ y ∈ b.drop j, x.1 < y.1
  up : ∀ x ∈ a.drop p, ∀ y ∈ b.take j, y.1 < x.1
theorem asc_at {l : List Row} (h : (l.map (·.1)).Pairwise (· < ·)) {i j : Nat} {x y : Row} (hx : l[i]? = some x) (hy : l[j]? = some y) (hij : i < j) : x.1 < y.1 := by
  rw [List.pairwise_iff_getElem] at h
  obtain ⟨hi, rfl⟩ := List.getElem?_eq_some_iff.1 hx
  obtain ⟨hj, rfl⟩ := List.getElem?_eq_some_iff.1 hy
  have := h i j (by simpa using hi) (by simpa using hj) hij
  simpa using this
theorem mem_drop_at {α : Type} {l : List α} {k : Nat} {x : α} (h : x ∈ l.drop k) : ∃ i, k ≤ i ∧ l[i]? = some x := by
  obtain ⟨i, hi⟩ := List.getElem?_of_mem h
  rw [List.getElem?_drop] at hi
  exact ⟨k + i, by omega, hi⟩
theorem mem_take_at {α : Type} {l : List α} {k : Nat} {x : α} (h : x ∈ l.take k) : ∃ i, i < k ∧ l[i]? = some x := by
  obtain ⟨i, hi⟩ := List.getElem?_of_mem h
  rw [List.getElem?_take] at hi
  split at hi
  · exact ⟨i, by assumption, hi⟩
  · cases hi
theorem mem_of_drop_at {α : Type} {l : List α} {k i : Nat} {x : α} (hk : k ≤ i) (h : l[i]? = some x) : x ∈ l.drop k := List.mem_of_getElem? (i := i - k) (by rw [List.getElem?_drop, show k + (i - k) = i by omega]; exact h)
theorem mem_of_take_at {α : Type} {l : List α} {k i : Nat} {x : α} (hk : i < k) (h : l[i]? = some x) : x ∈ l.take k := List.mem_of_getElem? (i := i) (by rw [List.getElem?_take, if_pos hk]; exact h)
theorem Mg.zero {a b : List Row} (ha : (a.map (·.1)).Pairwise (· < ·)) (hb : (b.map (·.1)).Pairwise (· < ·)) : Mg a b 0 0 := ⟨ha, hb, fun x hx => by simp at hx, fun x _ y hy => by simp at hy⟩
/-- a row of a that b lacks -/
theorem Mg.left {a b : List Row} {j p : Nat} (h : Mg a b j p) {x r : Row} (hx : a[p]? = some x) (hr : b[j]? = some r) (hlt : x.1 < r.1) : Mg a b j (p + 1) ∧ getR b x.1 = none := by
  refine ⟨⟨h.aasc, h.basc, fun z hz y hy => ?_, fun z hz y hy => ?_⟩, getR_none fun y hy e => ?_⟩
  · obtain ⟨i, hi, hzi⟩ := mem_take_at hz
    rcases Nat.lt_or_ge i p with hip | hip
    · exact h.low z (mem_of_take_at hip hzi) y hy
    · obtain rfl : i = p := by omega
      rw [hx] at hzi; injection hzi with hzi; subst hzi
      obtain ⟨k, hk, hyk⟩ := mem_drop_at hy
      rcases Nat.eq_or_lt_of_le hk with e | e
      · subst e; rw [hr] at hyk; injection hyk with hyk; subst hyk; exact hlt
      · have := asc_at h.basc hr hyk e; omega
  · obtain ⟨i, hi, hzi⟩ := mem_drop_at hz
    exact h.up z (mem_of_drop_at (by omega) hzi) y hy
  · obtain ⟨k, hk⟩ := List.getElem?_of_mem hy
    rcases Nat.lt_or_ge k j with hkj | hkj
    · have := h.up x (mem_of_drop_at (Nat.le_refl _) hx) y (mem_of_take_at hkj hk); omega
    · rcases Nat.eq_or_lt_of_le hkj with e2 | e2
      · subst e2; rw [hr] at hk; injection hk with hk; subst hk; omega
      · have := asc_at h.basc hr hk e2; omega
/-- a row of both -/
theorem Mg.both {a b : List Row} {j p : Nat} (h : Mg a b j p) {x r : Row} (hx : a[p]? = some x) (hr : b[j]? = some r) (he : x.1 = r.1) : Mg a b (j + 1) (p + 1) ∧ getR b x.1 = some r.2 ∧ getR a r.1 = some x.2 := by
  refine ⟨⟨h.aasc, h.basc, fun z hz y hy => ?_, fun z hz y hy => ?_⟩, ?_, ?_⟩
  · obtain ⟨i, hi, hzi⟩ := mem_take_at hz
    obtain ⟨k, hk, hyk⟩ := mem_drop_at hy
    have h1 := asc_at h.basc hr hyk (by omega)
    rcases Nat.lt_or_ge i p with hip | hip
    · have := asc_at h.aasc hzi hx hip; omega
    · obtain rfl : i = p := by omega
      rw [hx] at hzi; injection hzi with hzi; subst hzi; omega
  · obtain ⟨i, hi, hzi⟩ := mem_drop_at hz
    obtain ⟨k, hk, hyk⟩ := mem_take_at hy
    have h1 := asc_at h.aasc hx hzi (by omega)
    rcases Nat.lt_or_ge k j with hkj | hkj
    · have := asc_at h.basc hyk hr hkj; omega
    · obtain rfl : k = j := by omega
      rw [hr] at hyk; injection hyk with hyk; subst hyk; omega
  · rw [he]; exact getR_of_mem h.basc (List.mem_of_getElem? hr)
  · rw [← he]; exact getR_of_mem h.aasc (List.mem_of_getElem? hx)
/-- a row of b that a lacks -/
theorem Mg.right {a b : List Row} {j p : Nat} (h : Mg a b j p) {r : Row} (hr : b[j]? = some r) (hp : ∀ x, a[p]? = some x → r.1 < x.1) : Mg a b (j + 1) p ∧ getR a r.1 = none := by
  have hup : ∀ i z, p ≤ i → a[i]? = some z → r.1 < z.1 := fun i z hi hz => by
    rcases Nat.eq_or_lt_of_le hi with e | e
    · subst e; exact hp z hz
    · have hl : p < a.length := by have := (List.getElem?_eq_some_iff.1 hz).1; omega
      have h1 := hp _ (List.getElem?_eq_getElem hl)
      have h2 := asc_at h.aasc (List.getElem?_eq_getElem hl) hz e
      omega
  refine ⟨⟨h.aasc, h.basc, fun z hz y hy => ?_, fun z hz y hy => ?_⟩, getR_none fun y hy e => ?_⟩
  · obtain ⟨k, hk, hyk⟩ := mem_drop_at hy
    exact h.low z hz y (mem_of_drop_at (by omega) hyk)
  · obtain ⟨i, hi, hzi⟩ := mem_drop_at hz
    obtain ⟨k, hk, hyk⟩ := mem_take_at hy
    have h1 := hup i z hi hzi
    rcases Nat.lt_or_ge k j with hkj | hkj
    · have := asc_at h.basc hyk hr hkj; omega
    · obtain rfl : k = j := by omega
      rw [hr] at hyk; injection hyk with hyk; subst hyk; omega
  · obtain ⟨i, hi⟩ := List.getElem?_of_mem hy
    rcases Nat.lt_or_ge i p with hip | hip
    · have := h.low y (mem_of_take_at hip hi) r (mem_of_drop_at (Nat.le_refl _) hr); omega
    · have := hup i y hip hi; omega
/-- what is left of a, b lacks -/
theorem Mg.last {a b : List Row} {j p : Nat} (h : Mg a b j p) (hj : b.length ≤ j) {i : Nat} {x : Row} (hi : p ≤ i) (hx : a[i]? = some x) : getR b x.1 = none := getR_none fun y hy e => by
  obtain ⟨k, hk⟩ := List.getElem?_of_mem hy
  have := (List.getElem?_eq_some_iff.1 hk).1
  have := h.up x (mem_of_drop_at hi hx) y (mem_of_take_at (by omega) hk)
  omega
/-- the state of the merge: j rows of b and p rows of a are done -/
structure BSt (a b : Tb) (j p : Nat) (li ld : List Rw) (lu : List Pr) : Prop where
  va : tabB a.nm a.cs a.nx a.rs = true
  vb : tabB b.nm b.cs b.nx b.rs = true
  eq : a.nm = b.nm ∧ a.cs = b.cs
  nx : a.nx ≤ b.nx
  mg : Mg a.rs b.rs j p
  ins : li.map Rw.row = offR a.rs (b.rs.take j)
  del : ld.map Rw.row = offR b.rs (a.rs.take p)
  upd : lu.map Pr.upd = turnR a.rs (b.rs.take j)
  new : ∀ r ∈ b.rs.take j, (getR a.rs r.1).isSome = true ∨ a.nx ≤ r.1
  ok1 : ∀ r ∈ li, r.ok
  ok2 : ∀ r ∈ ld, r.ok
  ok3 : ∀ p ∈ lu, p.ok
theorem tabB_asc {t : Tb} (h : tabB t.nm t.cs t.nx t.rs = true) : (t.rs.map (·.1)).Pairwise (· < ·) := (okR_asc (tabB_ok h).2.2.2.2.1).1
theorem BSt.zero {a b : Tb} (va : tabB a.nm a.cs a.nx a.rs = true) (vb : tabB b.nm b.cs b.nx b.rs = true) (eq : a.nm = b.nm ∧ a.cs = b.cs) (nx : a.nx ≤ b.nx) : BSt a b 0 0 [] [] [] :=
  ⟨va, vb, eq, nx, Mg.zero (tabB_asc va) (tabB_asc vb), rfl, rfl, rfl, fun r hr => by simp at hr, fun r hr => (nomatch hr), fun r hr => (nomatch hr), fun r hr => (nomatch hr)⟩
theorem okSnoc {α : Type} {P : α → Prop} {l : List α} {x : α} (h : ∀ r ∈ l, P r) (k : P x) : ∀ r ∈ l ++ [x], P r := fun r hr => by
  rcases List.mem_append.1 hr with hr | hr
  · exact h r hr
  · simp at hr; subst hr; exact k
theorem all_take {P : Row → Prop} {l : List Row} {j : Nat} {r : Row} (h : ∀ x ∈ l.take j, P x) (hr : l[j]? = some r) (k : P r) : ∀ x ∈ l.take (j + 1), P x := by
  rw [List.take_add_one, hr, Option.toList_some]
  exact okSnoc h k
section
variable {a b : Tb} {j p : Nat} {li ld : List Rw} {lu : List Pr}
theorem BSt.left (h : BSt a b j p li ld lu) {x r : Row} (hx : a.rs[p]? = some x) (hr : b.rs[j]? = some r) (hlt : x.1 < r.1) {y : Rw} (hy : y.row = x) (hk : y.ok) : BSt a b j (p + 1) li (ld ++ [y]) lu := by
  obtain ⟨h1, h2⟩ := h.mg.left hx hr hlt
  exact ⟨h.va, h.vb, h.eq, h.nx, h1, h.ins, by rw [List.map_append, h.del, offR_hit hx h2, ← hy]; rfl, h.upd, h.new, h.ok1, okSnoc h.ok2 hk, h.ok3⟩
theorem BSt.same (h : BSt a b j p li ld lu) {x r : Row} (hx : a.rs[p]? = some x) (hr : b.rs[j]? = some r) (he : x.1 = r.1) (hv : x.2 = r.2) : BSt a b (j + 1) (p + 1) li ld lu := by
  obtain ⟨h1, h2, h3⟩ := h.mg.both hx hr he
  exact ⟨h.va, h.vb, h.eq, h.nx, h1, by rw [h.ins, offR_miss hr h3], by rw [h.del, offR_miss hx h2], by rw [h.upd, turnR_same hr (by rw [h3, hv])], all_take h.new hr (.inl (by rw [h3]; rfl)), h.ok1, h.ok2, h.ok3⟩
theorem BSt.turn (h : BSt a b j p li ld lu) {x r : Row} (hx : a.rs[p]? = some x) (hr : b.rs[j]? = some r) (he : x.1 = r.1) (hv : x.2 ≠ r.2) {q : Pr} (hq : q.upd = (r.1, x.2, r.2)) (hk : q.ok) : BSt a b (j + 1) (p + 1) li ld (lu ++ [q]) := by
  obtain ⟨h1, h2, h3⟩ := h.mg.both hx hr he
  exact ⟨h.va, h.vb, h.eq, h.nx, h1, by rw [h.ins, offR_miss hr h3], by rw [h.del, offR_miss hx h2], by rw [List.map_append, h.upd, turnR_turn hr h3 hv, ← hq]; rfl, all_take h.new hr (.inl (by rw [h3]; rfl)), h.ok1, h.ok2, okSnoc h.ok3 hk⟩
theorem BSt.right (h : BSt a b j p li ld lu) {r : Row} (hr : b.rs[j]? = some r) (hp : ∀ x, a.rs[p]? = some x → r.1 < x.1) (hn : a.nx ≤ r.1) {y : Rw} (hy : y.row = r) (hk : y.ok) : BSt a b (j + 1) p (li ++ [y]) ld lu := by
  obtain ⟨h1, h2⟩ := h.mg.right hr hp
  exact ⟨h.va, h.vb, h.eq, h.nx, h1, by rw [List.map_append, h.ins, offR_hit hr h2, ← hy]; rfl, h.del, by rw [h.upd, turnR_none hr h2], all_take h.new hr (.inr hn), okSnoc h.ok1 hk, h.ok2, h.ok3⟩
theorem BSt.tail (h : BSt a b j p li ld lu) (hj : b.rs.length ≤ j) {x : Row} (hx : a.rs[p]? = some x) {y : Rw} (hy : y.row = x) (hk : y.ok) : BSt a b j (p + 1) li (ld ++ [y]) lu := by
  have h2 := h.mg.last hj (Nat.le_refl _) hx
  refine ⟨h.va, h.vb, h.eq, h.nx, ⟨h.mg.aasc, h.mg.basc, fun z _ y hy => ?_, fun z hz y hy => ?_⟩, h.ins, by rw [List.map_append, h.del, offR_hit hx h2, ← hy]; rfl, h.upd, h.new, h.ok1, okSnoc h.ok2 hk, h.ok3⟩
  · rw [List.drop_of_length_le hj] at hy; cases hy
  · obtain ⟨i, hi, hzi⟩ := mem_drop_at hz
    exact h.mg.up z (mem_of_drop_at (by omega) hzi) y hy
end
/-- the state of the reference's loops: j rows of b, then p rows of a are done -/
structure RSt (a b : Tb) (j p : Nat) (li ld : List Rw) (lu : List Pr) : Prop where
  va : tabB a.nm a.cs a.nx a.rs = true
  vb : tabB b.nm b.cs b.nx b.rs = true
  eq : a.nm = b.nm ∧ a.cs = b.cs
  nx : a.nx ≤ b.nx
  ins : li.map Rw.row = offR a.rs (b.rs.take j)
  del : ld.map Rw.row = offR b.rs (a.rs.take p)
  upd : lu.map Pr.upd = turnR a.rs (b.rs.take j)
  new : ∀ r ∈ b.rs.take j, (getR a.rs r.1).isSome = true ∨ a.nx ≤ r.1
  ok1 : ∀ r ∈ li, r.ok
  ok2 : ∀ r ∈ ld, r.ok
  ok3 : ∀ p ∈ lu, p.ok
theorem RSt.zero {a b : Tb} (va : tabB a.nm a.cs a.nx a.rs = true) (vb : tabB b.nm b.cs b.nx b.rs = true) (eq : a.nm = b.nm ∧ a.cs = b.cs) (nx : a.nx ≤ b.nx) : RSt a b 0 0 [] [] [] :=
  ⟨va, vb, eq, nx, rfl, rfl, rfl, fun r hr => by simp at hr, fun r hr => (nomatch hr), fun r hr => (nomatch hr), fun r hr => (nomatch hr)⟩
section
variable {a b : Tb} {j p : Nat} {li ld : List Rw} {lu : List Pr}
theorem RSt.same (h : RSt a b j p li ld lu) {r : Row} {o : List Vl} (hr : b.rs[j]? = some r) (h2 : getR a.rs r.1 = some o) (ho : o = r.2) : RSt a b (j + 1) p li ld lu := by
  subst ho
  exact ⟨h.va, h.vb, h.eq, h.nx, by rw [h.ins, offR_miss hr h2], h.del, by rw [h.upd, turnR_same hr h2], all_take h.new hr (.inl (by rw [h2]; rfl)), h.ok1, h.ok2, h.ok3⟩
theorem RSt.turn (h : RSt a b j p li ld lu) {r : Row} {o : List Vl} (hr : b.rs[j]? = some r) (h2 : getR a.rs r.1 = some o) (ho : o ≠ r.2) {q : Pr} (hq : q.upd = (r.1, o, r.2)) (hk : q.ok) : RSt a b (j + 1) p li ld (lu ++ [q]) :=
  ⟨h.va, h.vb, h.eq, h.nx, by rw [h.ins, offR_miss hr h2], h.del, by rw [List.map_append, h.upd, turnR_turn hr h2 ho, ← hq]; rfl, all_take h.new hr (.inl (by rw [h2]; rfl)), h.ok1, h.ok2, okSnoc h.ok3 hk⟩
theorem RSt.left (h : RSt a b j p li ld lu) {x : Row} (hx : a.rs[p]? = some x) (h2 : getR b.rs x.1 = none) {y : Rw} (hy : y.row = x) (hk : y.ok) : RSt a b j (p + 1) li (ld ++ [y]) lu :=
  ⟨h.va, h.vb, h.eq, h.nx, h.ins, by rw [List.map_append, h.del, offR_hit hx h2, ← hy]; rfl, h.upd, h.new, h.ok1, okSnoc h.ok2 hk, h.ok3⟩
theorem RSt.keep (h : RSt a b j p li ld lu) {x : Row} {v : List Vl} (hx : a.rs[p]? = some x) (h2 : getR b.rs x.1 = some v) : RSt a b j (p + 1) li ld lu :=
  ⟨h.va, h.vb, h.eq, h.nx, h.ins, by rw [h.del, offR_miss hx h2], h.upd, h.new, h.ok1, h.ok2, h.ok3⟩
end
end Go.Proofs.YtjpgbhakkfgecaaDoor

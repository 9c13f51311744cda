/- DWbool: a drawn truth value in a region that draws its order. -/
import Derived.StillTail
import Derived.Tactics
import Derived.KernelRfl
import Derived.Test.YtnbbllkbefagmaaGreatDoorTrFewSaidMA
import Derived.Test.YtnbbllkbefagmaaGreatDoorProg
import Derived.Maps.OwnOps
import Derived.Maps.Views
import Derived.DeepKeys4
import Derived.Lib.ConvBytes
import Derived.WalkSpells
import Derived.Deep.QuietTactic
import Derived.BigQuiet
import Derived.Deep.DeepCutAuto
namespace Go.Proofs.YtnbbllkbefagmaaGreatDoor
open Go
set_option linter.unusedVariables false
set_option linter.unusedSectionVars false
set_option linter.unusedSimpArgs false

def slot (a : Act) : Option Tmp → Value
  | some t => a.tmps.getD t undef
  | none => undef

section
variable (P : Program) (ops : Array Oper) (C : World → Prop) (G : Option Tmp → Value → World → Prop) (R : World → World → Prop)

/-- What an operation waits for lies there. -/
def Deps (o : Oper) (a : Act) (w : World) : Prop := ∀ e ∈ o.after, Region.binds .any e = true → ∀ oe, ops[e.on]? = some oe → G oe.dst (slot a oe.dst) w
def goodUpon (d : Option Tmp) (w : World) : Result Next → Prop
  | .ok (.value u) w' => G d u w' ∧ C w' ∧ R w w'
  | .ok .skip w' => G d undef w' ∧ C w' ∧ R w w'
  | .ok (.enter f args) w' => Calls P f args w' fun e w'' => ∃ u, e = .returned u ∧ G d u w'' ∧ C w'' ∧ R w w''
  | _ => False
def Good (o : Oper) (a : Act) (w : World) : Prop := goodUpon P C G R o.dst w ((execOp a.eval o).run P w)
def mayUpon (u : Value) : Result Next → Prop
  | .ok (.value x) _ => u = x
  | .ok .skip _ => u = undef
  | .ok (.enter _ _) _ => True
  | _ => False
def StepOk (o : Oper) (a : Act) : Prop :=
  if Region.wanted o (yielded ops a.tmps) = true then ∀ w, C w → Deps ops G o a w → Good P C G R o a w else ∀ w, C w → G o.dst undef w
def May (o : Oper) (a : Act) (u : Value) : Prop :=
  if Region.wanted o (yielded ops a.tmps) = true then ∃ w, C w ∧ Deps ops G o a w ∧ mayUpon u ((execOp a.eval o).run P w) else u = undef
/-- Some world has all that is done so far. -/
def Inh (S : Array Bool) (k : Nat) (a : Act) : Prop := ∃ w, C w ∧ ∀ j oj, ops[j]? = some oj → (S.getD j false = true ∨ j < k) → G oj.dst (slot a oj.dst) w
/-- The walk in the order of the text, over what is still to come (S: what has come up). -/
def Wk (S : Array Bool) (F : Act → Prop) : Nat → Nat → Act → Prop
  | 0, k, a => Inh ops C G S k a → F a
  | m + 1, k, a => Inh ops C G S k a → match ops[k]? with
    | none => False
    | some o => if S.getD k false = true then Wk S F m (k + 1) a else StepOk P ops C G R o a ∧ ∀ u, May P ops C G o a u → Inh ops C G S (k + 1) (a.put o.dst u) → Wk S F m (k + 1) (a.put o.dst u)
def Inv (S : Array Bool) (a : Act) (w : World) : Prop := C w ∧ ∀ j oj, ops[j]? = some oj → S.getD j false = true → G oj.dst (slot a oj.dst) w
end

section
variable {P : Program} {ops : Array Oper} {C : World → Prop} {G : Option Tmp → Value → World → Prop} {R : World → World → Prop}

/-- no two operations of the region fill one slot; each slot lies in the frame -/
def dstsB (ops : Array Oper) (n : Nat) : Bool :=
  (List.range ops.size).all fun i => match (ops[i]?).bind (·.dst) with
    | none => true
    | some d => decide (d < n) && (List.range ops.size).all fun j => j == i || (ops[j]?).bind (·.dst) != some d
theorem dstsB_in {n i : Nat} {o : Oper} {d : Tmp} (h : dstsB ops n = true) (hi : ops[i]? = some o) (hd : o.dst = some d) : d < n := by
  have h1 := List.all_eq_true.1 h i (List.mem_range.2 (Array.getElem?_eq_some_iff.1 hi).1)
  simp only [hi, Option.bind_some, hd, Bool.and_eq_true, decide_eq_true_eq] at h1
  exact h1.1
theorem dstsB_ne {n i j : Nat} {o o' : Oper} {d : Tmp} (h : dstsB ops n = true) (hi : ops[i]? = some o) (hj : ops[j]? = some o') (hd : o.dst = some d) (hij : j ≠ i) : o'.dst ≠ some d := by
  have h1 := List.all_eq_true.1 h i (List.mem_range.2 (Array.getElem?_eq_some_iff.1 hi).1)
  simp only [hi, Option.bind_some, hd, Bool.and_eq_true] at h1
  have h2 := List.all_eq_true.1 h1.2 j (List.mem_range.2 (Array.getElem?_eq_some_iff.1 hj).1)
  simp only [hj, Option.bind_some, Bool.or_eq_true, beq_iff_eq, bne_iff_ne, ne_eq] at h2
  exact h2.resolve_left hij

theorem slot_put_ne {a : Act} {x y : Option Tmp} {v : Value} (h : ∀ d, x = some d → y ≠ some d) : slot (a.put x v) y = slot a y := by
  cases x with
  | none => rfl
  | some d =>
    cases y with
    | none => rfl
    | some t =>
      have hne : d ≠ t := fun e => h d rfl (by rw [e])
      simp only [Act.put, slot, Array.getD_eq_getD_getElem?, Array.getElem?_setIfInBounds_ne hne]
theorem slot_put_same {a : Act} {d : Tmp} {v : Value} (h : d < a.tmps.size) : slot (a.put (some d) v) (some d) = v := by
  simp [Act.put, slot, h]
theorem size_put {a : Act} {x : Option Tmp} {v : Value} : (a.put x v).tmps.size = a.tmps.size := by
  cases x <;> simp [Act.put]

/-- o' is apart from o: its coming up makes no difference to o -/
structure Aside (ops : Array Oper) (o o' : Oper) : Prop where
  sel : ∀ cs b, o.op ≠ .select cs b
  look : ∀ d, o'.dst = some d → d ∉ o.looksAt ops
  deps : ∀ e ∈ o.after, Region.binds .any e = true → ∀ oe, ops[e.on]? = some oe → ∀ d, o'.dst = some d → oe.dst ≠ some d

theorem Aside.wanted {o o' : Oper} (h : Aside ops o o') (a : Act) (v : Value) : Region.wanted o (yielded ops (a.put o'.dst v).tmps) = Region.wanted o (yielded ops a.tmps) := wanted_put o a o'.dst v h.look
theorem Aside.exec {o o' : Oper} (h : Aside ops o o') (a : Act) (v : Value) : execOp (a.put o'.dst v).eval o = execOp a.eval o := execOp_put (ops := ops) o h.sel a o'.dst v h.look
theorem Aside.deps_ {o o' : Oper} (h : Aside ops o o') (a : Act) (v : Value) (w : World) : Deps ops G o (a.put o'.dst v) w ↔ Deps ops G o a w := by
  constructor
  · intro k e he hb oe hoe
    have := k e he hb oe hoe
    rwa [slot_put_ne (h.deps e he hb oe hoe)] at this
  · intro k e he hb oe hoe
    rw [slot_put_ne (h.deps e he hb oe hoe)]
    exact k e he hb oe hoe
theorem Aside.step {o o' : Oper} (h : Aside ops o o') (a : Act) (v : Value) : StepOk P ops C G R o (a.put o'.dst v) ↔ StepOk P ops C G R o a := by
  unfold StepOk Good
  rw [h.wanted, h.exec]
  simp only [h.deps_]
theorem Aside.may {o o' : Oper} (h : Aside ops o o') (a : Act) (v u : Value) : May P ops C G o (a.put o'.dst v) u ↔ May P ops C G o a u := by
  unfold May
  rw [h.wanted, h.exec]
  simp only [h.deps_]

variable {n N : Nat} {F : Act → Prop}

/-- What is known of the region by looking. -/
structure Shape (ops : Array Oper) (n N : Nat) : Prop where
  dsts : dstsB ops N = true
  le : n ≤ ops.size
  /-- a head waits for earlier operations alone, and what comes behind it waits for it or is apart from it -/
  back : ∀ k o, ops[k]? = some o → k < n → ∀ e ∈ o.after, Region.binds .any e = true → e.on < k
  aside : ∀ k i ok oi, k < i → i < n → ops[k]? = some ok → ops[i]? = some oi → (∀ e ∈ oi.after, Region.binds .any e = true → e.on ≠ k) → ok.apart ops oi = true
  sel : ∀ (j : Nat) (o : Oper) cs b, ops[j]? = some o → o.op ≠ .select cs b

theorem Shape.aside_of (h : Shape ops n N) {k i : Nat} {ok oi : Oper} (hki : k < i) (hi : i < n) (hk' : ops[k]? = some ok) (hi' : ops[i]? = some oi) (hno : ∀ e ∈ oi.after, Region.binds .any e = true → e.on ≠ k) : Aside ops oi ok ∧ Aside ops ok oi := by
  obtain ⟨h1, h2, h3⟩ := Oper.apart_spec (h.aside k i ok oi hki hi hk' hi' hno)
  refine ⟨⟨fun cs b => h.sel i oi cs b hi', h1, fun e he hb oe hoe d hd => ?_⟩, ⟨fun cs b => h.sel k ok cs b hk', h3, fun e he hb oe hoe d hd => ?_⟩⟩
  · exact dstsB_ne h.dsts hk' hoe hd (hno e he hb)
  · have := h.back k ok hk' (by omega) e he hb
    exact dstsB_ne h.dsts hi' hoe hd (by omega)

section
variable (sh : Shape ops n N) (hmono : ∀ d u w w', R w w' → G d u w → G d u w')
include sh hmono

theorem slots_keep {S : Array Bool} {i : Nat} {oi : Oper} {a : Act} {u : Value} (hi : ops[i]? = some oi) {j : Nat} {oj : Oper} (hj : ops[j]? = some oj) (hji : j ≠ i) : slot (a.put oi.dst u) oj.dst = slot a oj.dst :=
  slot_put_ne fun d hd => dstsB_ne sh.dsts hi hj hd hji
theorem slots_new {i : Nat} {oi : Oper} {a : Act} {u : Value} (hN : a.tmps.size = N) (hi : ops[i]? = some oi) {w : World} (h : G oi.dst u w) (hu : oi.dst = none → G none undef w) : G oi.dst (slot (a.put oi.dst u) oi.dst) w := by
  cases hd : oi.dst with
  | none => simpa [slot] using hu hd
  | some d =>
    rw [slot_put_same (by rw [hN]; exact dstsB_in sh.dsts hi hd), ← hd]
    exact h

/-- Some result comes, and a world that has it. -/
theorem StepOk.some_ {k : Nat} {o : Oper} {a : Act} {w : World} (h : StepOk P ops C G R o a) (hC : C w) (hD : Deps ops G o a w) (hR : R w w) : ∃ u w', May P ops C G o a u ∧ C w' ∧ R w w' ∧ G o.dst u w' := by
  unfold StepOk at h
  unfold May
  split at h
  · rename_i hw
    simp only [hw, if_true]
    have hg := h w hC hD
    unfold Good at hg
    have key : ∀ r, (execOp a.eval o).run P w = r → goodUpon P C G R o.dst w r → ∃ u w', (∃ w, C w ∧ Deps ops G o a w ∧ mayUpon u ((execOp a.eval o).run P w)) ∧ C w' ∧ R w w' ∧ G o.dst u w' := by
      intro r hr hg
      cases r with
      | ok nx w' =>
        cases nx <;> simp only [goodUpon] at hg
        case value u => exact ⟨u, w', ⟨w, hC, hD, by rw [hr]; rfl⟩, hg.2.1, hg.2.2, hg.1⟩
        case skip => exact ⟨undef, w', ⟨w, hC, hD, by rw [hr]; rfl⟩, hg.2.1, hg.2.2, hg.1⟩
        case enter f args =>
          obtain ⟨e, w2, fr, ⟨u, _, h1, h2, h3⟩, _⟩ := hg []
          exact ⟨u, w2, ⟨w, hC, hD, by rw [hr]; trivial⟩, h2, h3, h1⟩
      | halt x w' => simp only [goodUpon] at hg
    exact key _ rfl hg
  · rename_i hw
    simp only [hw, if_false]
    exact ⟨undef, w, rfl, hC, hR, h w hC⟩

/-- Behind operation i the walk is as it was. -/
theorem Wk.past {S : Array Bool} {i : Nat} : ∀ (m k : Nat) (a : Act), i < k → i < S.size → Wk P ops C G R S F m k a → Wk P ops C G R (S.setIfInBounds i true) F m k a
  | 0, k, a, hk, hS, h => fun ⟨w, hw, hg⟩ => h ⟨w, hw, fun j oj hj hs => hg j oj hj (hs.imp (getD_set_true ·) id)⟩
  | m + 1, k, a, hk, hS, h => fun hI => by
    obtain ⟨w, hw, hg⟩ := hI
    have hI' : Inh ops C G S k a := ⟨w, hw, fun j oj hj hs => hg j oj hj (hs.imp (getD_set_true ·) id)⟩
    have h1 := h hI'
    cases ho : ops[k]? with
    | none => simp only [ho] at h1
    | some o =>
      simp only [ho] at h1 ⊢
      rw [getD_set_ne false (by omega : i ≠ k)]
      split at h1
      · rename_i hs
        simp only [hs, if_true]
        exact Wk.past m (k + 1) a (by omega) hS h1
      · rename_i hs
        simp only [hs, if_false]
        refine ⟨h1.1, fun u hu hI2 => Wk.past m (k + 1) _ (by omega) hS (h1.2 u hu ?_)⟩
        obtain ⟨w, hw, hg⟩ := hI2
        exact ⟨w, hw, fun j oj hj hs => hg j oj hj (hs.imp (getD_set_true ·) id)⟩

/-- Operation i comes up first. -/
theorem Wk.front {S : Array Bool} {i : Nat} {oi : Oper} (hi : ops[i]? = some oi) (hin : i < n) (hS : S.size = ops.size) (hun : S.getD i false = false) (hw : ∀ e ∈ oi.after, Region.binds .any e = true → S.getD e.on false = true) {u : Value} :
    ∀ (m k : Nat) (a : Act), k ≤ i → k + m = n → a.tmps.size = N → May P ops C G oi a u → Wk P ops C G R S F m k a → Wk P ops C G R (S.setIfInBounds i true) F m k (a.put oi.dst u)
  | 0, k, a, hk, hkm, _, _, h => by omega
  | m + 1, k, a, hk, hkm, hN, hu, h => fun hI => by
    have hiS : i < S.size := by rw [hS]; exact (Array.getElem?_eq_some_iff.1 hi).1
    obtain ⟨w, hw', hg⟩ := hI
    have hI' : Inh ops C G S k a := ⟨w, hw', fun j oj hj hs => by
      have hji : j ≠ i := by rintro rfl; rcases hs with hs | hs; · rw [hun] at hs; cases hs
                             · omega
      have := hg j oj hj (hs.imp (getD_set_true ·) id)
      rwa [slots_keep sh hmono (S := S) hi hj hji] at this⟩
    have h1 := h hI'
    by_cases hki : k = i
    · subst hki
      simp only [hi, hun, if_false, Bool.false_eq_true] at h1
      simp only [hi]
      have hst : (S.setIfInBounds k true).getD k false = true := by simp [hiS]
      simp only [hst, if_true]
      refine Wk.past sh hmono m (k + 1) _ (by omega) hiS (h1.2 u hu ⟨w, hw', fun j oj hj hs => hg j oj hj ?_⟩)
      by_cases hjk : j = k
      · subst hjk; exact .inl hst
      · rcases hs with hs | hs
        · exact .inl (getD_set_true hs)
        · exact .inr (by omega)
    · cases ho : ops[k]? with
      | none => simp only [ho] at h1
      | some o =>
        simp only [ho] at h1 ⊢
        rw [getD_set_ne false (Ne.symm hki)]
        split at h1
        · rename_i hs
          simp only [hs, if_true]
          exact Wk.front hi hin hS hun hw m (k + 1) a (by omega) (by omega) hN hu h1
        · rename_i hs
          simp only [hs, if_false]
          have hno : ∀ e ∈ oi.after, Region.binds .any e = true → e.on ≠ k := fun e he hb hek => by
            have := hw e he hb
            rw [hek] at this
            exact hs this
          obtain ⟨as1, as2⟩ := sh.aside_of (show k < i by omega) hin ho hi hno
          refine ⟨(as2.step a u).2 h1.1, fun v hv hI2 => ?_⟩
          rw [as2.may] at hv
          have hdd : ∀ d, o.dst = some d → oi.dst ≠ some d := fun d hd => dstsB_ne sh.dsts ho hi hd (Ne.symm hki)
          have hcomm : (a.put oi.dst u).put o.dst v = (a.put o.dst v).put oi.dst u := (Act.put_comm a v u hdd).symm
          rw [hcomm] at hI2 ⊢
          refine Wk.front hi hin hS hun hw m (k + 1) _ (by omega) (by omega) (by rw [size_put]; exact hN) ((as1.may a v u).2 hu) (h1.2 v hv ?_)
          obtain ⟨w2, hw2, hg2⟩ := hI2
          refine ⟨w2, hw2, fun j oj hj hs2 => ?_⟩
          have hji : j ≠ i := by rintro rfl; rcases hs2 with hs2 | hs2; · rw [hun] at hs2; cases hs2
                                 · omega
          have := hg2 j oj hj (hs2.imp (getD_set_true ·) id)
          rwa [slots_keep sh hmono (S := S) hi hj hji] at this

/-- An operation that is ready is good. -/
theorem Wk.ready {S : Array Bool} {i : Nat} {oi : Oper} (hR : ∀ w, C w → R w w) (hu : ∀ w, C w → G none undef w) (hi : ops[i]? = some oi) (hin : i < n) (hun : S.getD i false = false) (hw : ∀ e ∈ oi.after, Region.binds .any e = true → S.getD e.on false = true) :
    ∀ (m k : Nat) (a : Act) (w : World), k ≤ i → k + m = n → a.tmps.size = N → C w → (∀ j oj, ops[j]? = some oj → (S.getD j false = true ∨ j < k) → G oj.dst (slot a oj.dst) w) → Wk P ops C G R S F m k a → StepOk P ops C G R oi a
  | 0, k, a, w, hk, hkm, _, _, _, h => by omega
  | m + 1, k, a, w, hk, hkm, hN, hC, hg, h => by
    have h1 := h ⟨w, hC, hg⟩
    by_cases hki : k = i
    · subst hki
      simp only [hi, hun, if_false, Bool.false_eq_true] at h1
      exact h1.1
    · cases ho : ops[k]? with
      | none => simp only [ho] at h1
      | some o =>
        simp only [ho] at h1
        split at h1
        · rename_i hs
          exact Wk.ready hR hu hi hin hun hw m (k + 1) a w (by omega) (by omega) hN hC (fun j oj hj hs2 => hg j oj hj (by
            rcases hs2 with hs2 | hs2
            · exact .inl hs2
            · rcases Nat.lt_or_ge j k with h' | h'
              · exact .inr h'
              · obtain rfl : j = k := by omega
                exact .inl hs)) h1
        · rename_i hs
          have hno : ∀ e ∈ oi.after, Region.binds .any e = true → e.on ≠ k := fun e he hb hek => by
            have := hw e he hb
            rw [hek] at this
            exact hs this
          obtain ⟨as1, as2⟩ := sh.aside_of (show k < i by omega) hin ho hi hno
          have hD : Deps ops G o a w := fun e he hb oe hoe => hg e.on oe hoe (.inr (sh.back k o ho (by omega) e he hb))
          obtain ⟨u, w', hm, hC', hR', hG'⟩ := StepOk.some_ sh hmono (k := k) h1.1 hC hD (hR w hC)
          have hg' : ∀ j oj, ops[j]? = some oj → (S.getD j false = true ∨ j < k + 1) → G oj.dst (slot (a.put o.dst u) oj.dst) w' := fun j oj hj hs2 => by
            by_cases hjk : j = k
            · subst hjk
              obtain rfl : o = oj := Option.some.inj (ho.symm.trans hj)
              exact slots_new sh hmono hN hj hG' (fun _ => hu w' hC')
            · rw [slots_keep sh hmono (S := S) ho hj hjk]
              exact hmono _ _ _ _ hR' (hg j oj hj (hs2.imp id (by omega)))
          have := Wk.ready hR hu hi hin hun hw m (k + 1) (a.put o.dst u) w' (by omega) (by omega) (by rw [size_put]; exact hN) hC' hg' (h1.2 u hm ⟨w', hC', hg'⟩)
          exact (as1.step a u).1 this
/-- All has come up. -/
theorem Wk.done {S : Array Bool} : ∀ (m k : Nat) (a : Act) (w : World), k + m = n → (∀ j, j < n → S.getD j false = true) → C w → (∀ j oj, ops[j]? = some oj → (S.getD j false = true ∨ j < k) → G oj.dst (slot a oj.dst) w) → Wk P ops C G R S F m k a → F a
  | 0, k, a, w, hkm, hall, hC, hg, h => h ⟨w, hC, hg⟩
  | m + 1, k, a, w, hkm, hall, hC, hg, h => by
    have h1 := h ⟨w, hC, hg⟩
    have hk := hall k (by omega)
    cases ho : ops[k]? with
    | none => simp only [ho] at h1
    | some o =>
      simp only [ho, hk, if_true] at h1
      exact Wk.done m (k + 1) a w (by omega) hall hC (fun j oj hj hs2 => hg j oj hj (by
        rcases hs2 with hs2 | hs2
        · exact .inl hs2
        · exact .inl (hall j (by omega)))) h1
end

/-! ### Every order -/
theorem count_one {i : Nat} {p q : Nat → Bool} (hp : p i = true) (hq : q i = false) (he : ∀ j, j ≠ i → q j = p j) : ∀ l : List Nat, l.Nodup → (i ∈ l → l.countP p = l.countP q + 1) ∧ (i ∉ l → l.countP p = l.countP q)
  | [], _ => ⟨(fun h => nomatch h), fun _ => rfl⟩
  | x :: l, h => by
    obtain ⟨h1, h2⟩ := List.nodup_cons.1 h
    obtain ⟨i1, i2⟩ := count_one hp hq he l h2
    by_cases hx : x = i
    · subst hx
      refine ⟨fun _ => ?_, fun hn => absurd (List.mem_cons_self ..) hn⟩
      have := i2 h1
      simp [List.countP_cons, hp, hq, this]
    · refine ⟨fun hm => ?_, fun hn => ?_⟩
      · have := i1 ((List.mem_cons.1 hm).resolve_left (Ne.symm hx))
        simp only [List.countP_cons, he x hx, this]
        omega
      · have := i2 fun hm => hn (List.mem_cons_of_mem _ hm)
        simp only [List.countP_cons, he x hx, this]
def unl (n : Nat) (S : Array Bool) : Nat := (List.range n).countP fun i => S.getD i true == false
theorem unl_set {n i : Nat} {S : Array Bool} (hi : i < n) (hun : S.getD i true = false) : unl n S = unl n (S.setIfInBounds i true) + 1 := by
  refine ((count_one (i := i) (by simp [hun]) ?_ fun j hj => ?_) (List.range n) List.nodup_range).1 (List.mem_range.2 hi)
  · rcases Nat.lt_or_ge i S.size with h | h
    · simp [h]
    · simp [Array.getElem?_eq_none h] at hun
  · rw [getD_set_ne true (Ne.symm hj)]
theorem unl_zero {n : Nat} {S : Array Bool} (h : unl n S = 0) (hs : n ≤ S.size) : ∀ j, j < n → S.getD j false = true := fun j hj => by
  have := List.countP_eq_zero.1 h j (List.mem_range.2 hj)
  have hl : j < S.size := by omega
  simpa [hl] using this
theorem unl_pos {n m : Nat} {S : Array Bool} (h : unl n S = m + 1) : ∃ j, j < n ∧ S.getD j true = false := by
  have : 0 < (List.range n).countP fun i => S.getD i true == false := by unfold unl at h; omega
  obtain ⟨j, hj, hp⟩ := List.countP_pos_iff.1 this
  exact ⟨j, List.mem_range.1 hj, by simpa using hp⟩
theorem least {p : Nat → Prop} : ∀ k, p k → ∃ j, p j ∧ ∀ i, i < j → ¬ p i := fun k h => by
  induction k using Nat.strongRecOn with
  | _ k ih =>
    by_cases hh : ∃ i, i < k ∧ p i
    · obtain ⟨i, hi, hp⟩ := hh; exact ih i hi hp
    · exact ⟨k, h, fun i hi hp => hh ⟨i, hi, hp⟩⟩

theorem good_wp {o : Oper} {a : Act} {w : World} {K : Act → World → Prop} {Q : Exit → Act → World → Prop} (hC : C w) (hD : Deps ops G o a w) (hw : Region.wanted o (yielded ops a.tmps) = true) (h : Good P C G R o a w)
    (hK : ∀ u w', May P ops C G o a u → C w' → R w w' → G o.dst u w' → K (a.put o.dst u) w') : o.wp P a w K Q := by
  unfold Good at h
  unfold May at hK
  simp only [hw, if_true] at hK
  unfold Oper.wp
  have key : ∀ r, (execOp a.eval o).run P w = r → goodUpon P C G R o.dst w r → Oper.upon P o a K Q r := by
    intro r hr hg
    cases r with
    | ok nx w' =>
      cases nx <;> simp only [goodUpon] at hg
      case value u => exact hK u w' ⟨w, hC, hD, by rw [hr]; rfl⟩ hg.2.1 hg.2.2 hg.1
      case skip => exact hK undef w' ⟨w, hC, hD, by rw [hr]; rfl⟩ hg.2.1 hg.2.2 hg.1
      case enter f args =>
        exact Calls.mono hg fun e w2 ⟨u, he, h1, h2, h3⟩ => by subst he; exact hK u w2 ⟨w, hC, hD, by rw [hr]; trivial⟩ h2 h3 h1
    | halt x w' => simp only [goodUpon] at hg
  exact key _ rfl h

theorem wpAny_of_wk (sh : Shape ops n N) (hmono : ∀ d u w w', R w w' → G d u w → G d u w') (hR : ∀ w, C w → R w w) (hu : ∀ w, C w → G none undef w) {g : Nat} {Q : Exit → Act → World → Prop} (S0 : Array Bool)
    (htail : ∀ S, HeadInv .any ops n S → (∀ j, S0.getD j false = true → S.getD j false = true) → (∃ i, i < n ∧ S.getD i true = false) → ∀ t, n ≤ t → t ∉ Region.ready .any ops S)
    (hend : ∀ S a w, HeadInv .any ops n S → (∀ j, j < n → S.getD j false = true) → C w → (∀ j oj, ops[j]? = some oj → j < n → G oj.dst (slot a oj.dst) w) → F a → wpAny P .any ops Q g S a w) :
    ∀ (f : Nat) (S : Array Bool) (a : Act) (w : World), HeadInv .any ops n S → (∀ j, S0.getD j false = true → S.getD j false = true) → unl n S = f → a.tmps.size = N → Inv ops C G S a w → Wk P ops C G R S F n 0 a → wpAny P .any ops Q (f + g) S a w
  | 0, S, a, w, hd, h0s, hf, hN, hI, h => by
    have hall := unl_zero hf (by rw [hd.size]; exact sh.le)
    rw [Nat.zero_add]
    exact hend S a w hd hall hI.1 (fun j oj hj hjn => hI.2 j oj hj (hall j hjn)) (Wk.done sh hmono n 0 a w (by omega) hall hI.1 (fun j oj hj hs => hI.2 j oj hj (hs.resolve_right (by omega))) h)
  | f + 1, S, a, w, hd, h0s, hf, hN, hI, h => by
    obtain ⟨k0, hk0, hun0⟩ := unl_pos hf
    obtain ⟨k, ⟨hk, hun⟩, hmin⟩ := least (p := fun j => j < n ∧ S.getD j true = false) k0 ⟨hk0, hun0⟩
    have hrk : k ∈ Region.ready .any ops S := by
      have hks : k < ops.size := by have := sh.le; omega
      refine mem_ready.2 ⟨hun, ops[k], Array.getElem?_eq_getElem hks, fun e he hb => ?_⟩
      have hlt := sh.back k _ (Array.getElem?_eq_getElem hks) hk e he hb
      cases hS : S.getD e.on false with
      | true => rfl
      | false => exact absurd ⟨by omega, getD_in (by rw [hd.size]; have := sh.le; omega) hS⟩ (hmin e.on hlt)
    rw [show f + 1 + g = (f + g) + 1 by omega]
    refine ⟨fun h0 => (by rw [h0] at hrk; cases hrk), fun i hi => ?_⟩
    have hin : i < n := by
      rcases Nat.lt_or_ge i n with h' | h'
      · exact h'
      · exact absurd hi (htail S hd h0s ⟨k, hk, hun⟩ i h')
    obtain ⟨huni, oi, hoi, hall⟩ := mem_ready.1 hi
    have hunf : S.getD i false = false := getD_both huni
    have hst := Wk.ready sh hmono hR hu hoi hin hunf hall n 0 a w (by omega) (by omega) hN hI.1 (fun j oj hj hs => hI.2 j oj hj (hs.resolve_right (by omega))) h
    have hD : Deps ops G oi a w := fun e he hb oe hoe => hI.2 e.on oe hoe (hall e he hb)
    have hnext : ∀ u w', May P ops C G oi a u → C w' → R w w' → G oi.dst u w' → wpAny P .any ops Q (f + g) (S.setIfInBounds i true) (a.put oi.dst u) w' := fun u w' hm hC' hR' hG' => by
      refine wpAny_of_wk sh hmono hR hu S0 htail hend f _ _ w' (hd.set hi hin) (fun j hj => getD_set_true (h0s j hj)) ?_ (by rw [size_put]; exact hN) ⟨hC', fun j oj hj hs => ?_⟩ (Wk.front sh hmono hoi hin (by rw [hd.size]) hunf hall n 0 a (by omega) (by omega) hN hm h)
      · have := unl_set hin huni; omega
      · by_cases hji : j = i
        · subst hji
          obtain rfl : oi = oj := Option.some.inj (hoi.symm.trans hj)
          exact slots_new sh hmono hN hj hG' (fun _ => hu w' hC')
        · rw [slots_keep sh hmono (S := S) hoi hj hji]
          rw [getD_set_ne false (Ne.symm hji)] at hs
          exact hmono _ _ _ _ hR' (hI.2 j oj hj hs)
    unfold wpOp
    simp only [hoi]
    split
    · rename_i hw
      refine .inl (good_wp hI.1 hD hw ?_ hnext)
      unfold StepOk at hst
      simp only [hw, if_true] at hst
      exact hst w hI.1 hD
    · rename_i hw
      unfold StepOk at hst
      rw [if_neg hw] at hst
      exact hnext undef w (by unfold May; rw [if_neg hw]) hI.1 (hR w hI.1) (hst w hI.1)

/-! ### What is looked at, as a Bool -/
def headList (n m : Nat) : Array Bool := (List.replicate n true ++ List.replicate (m - n) false).toArray
def backB (ops : Array Oper) (n : Nat) : Bool := (List.range n).all fun k => match ops[k]? with
  | some o => o.after.all fun e => !Region.binds .any e || decide (e.on < k)
  | none => true
def asideB (ops : Array Oper) (n : Nat) : Bool := (List.range n).all fun i => (List.range i).all fun k => match ops[i]?, ops[k]? with
  | some oi, some ok => oi.after.any (fun e => Region.binds .any e && e.on == k) || ok.apart ops oi
  | _, _ => true
/-- every operation below n, but those of S0, is waited for by a later one up to n -/
def sinkS (ops : Array Oper) (S0 : Array Bool) (n : Nat) : Bool := (List.range n).all fun i => S0.getD i false || (List.range (n + 1)).any fun j => decide (i < j) && Region.waitsFor .any ops j i
/-- S0 holds what its operations wait for, and nothing from n on -/
def closedB (ops : Array Oper) (S0 : Array Bool) (n : Nat) : Bool := decide (S0.size = ops.size) && (List.range ops.size).all fun j => !S0.getD j false || (decide (j < n) && match ops[j]? with
  | some o => o.after.all fun e => !Region.binds .any e || S0.getD e.on false
  | none => true)
/-- what comes behind n waits for something from n on -/
def laterB (ops : Array Oper) (n : Nat) : Bool := (List.range ops.size).all fun t => decide (t ≤ n) || (List.range ops.size).any fun j => decide (n ≤ j) && Region.waitsFor .any ops t j
def relC (ops : Array Oper) (S0 : Array Bool) (n N : Nat) : Bool :=
  Region.noSelect ops && dstsB ops N && decide (n ≤ ops.size) && backB ops n && asideB ops n && (decide (n = ops.size) || (decide (n < ops.size) && sinkS ops S0 n && laterB ops n)) && closedB ops S0 n
def relB (ops : Array Oper) (S0 : Array Bool) (n N : Nat) : Bool := relC ops S0 n N && Region.seqB .any ops (ops.size - n) n (headList n ops.size)
theorem closedB_head {S0 : Array Bool} {n : Nat} (h : closedB ops S0 n = true) : HeadInv .any ops n S0 := by
  simp only [closedB, Bool.and_eq_true, decide_eq_true_eq] at h
  have key : ∀ j, S0.getD j false = true → j < ops.size ∧ j < n ∧ ∀ o, ops[j]? = some o → ∀ e ∈ o.after, Region.binds .any e = true → S0.getD e.on false = true := fun j hj => by
    have hjs : j < ops.size := by
      rcases Nat.lt_or_ge j S0.size with h' | h'
      · rw [← h.1]; exact h'
      · simp [Array.getElem?_eq_none h'] at hj
    have h1 := List.all_eq_true.1 h.2 j (List.mem_range.2 hjs)
    simp only [hj, Bool.not_true, Bool.false_or, Bool.and_eq_true, decide_eq_true_eq] at h1
    refine ⟨hjs, h1.1, fun o ho e he hb => ?_⟩
    have h2 := h1.2
    simp only [ho] at h2
    have h3 := Array.all_eq_true'.1 h2 e he
    simpa only [hb, Bool.not_true, Bool.false_or] using h3
  refine ⟨h.1, fun j oj hj hl e he hb => (key j hl).2.2 oj hj e he hb, fun t ht htl => ?_⟩
  cases hS : S0.getD t true with
  | false => rfl
  | true =>
    have : S0.getD t false = true := by
      have hl : t < S0.size := by rw [h.1]; exact htl
      simpa [hl] using hS
    have := (key t this).2.1
    omega
theorem tail_waitsS {n : Nat} {S0 listed : Array Bool} (hs : sinkS ops S0 n = true) (hc : laterB ops n = true) (hn : n < ops.size) (inv : HeadInv .any ops n listed) (h0 : ∀ j, S0.getD j false = true → listed.getD j false = true) :
    ∀ (d i : Nat), n - i = d → i < n → listed.getD i true = false → ∀ t, n ≤ t → t ∉ Region.ready .any ops listed := by
  intro d
  induction d using Nat.strongRecOn with
  | _ d ih =>
    intro i hd hi hun t ht hr
    obtain ⟨_, ot, hot, hall⟩ := mem_ready.1 hr
    have htlt : t < ops.size := (Array.getElem?_eq_some_iff.1 hot).1
    by_cases htn : t = n
    · subst htn
      have h1 := List.all_eq_true.1 hs i (List.mem_range.2 hi)
      have hnot : S0.getD i false = false := by
        cases hS : S0.getD i false with
        | false => rfl
        | true => have := h0 i hS; rw [getD_both hun] at this; cases this
      rw [hnot, Bool.false_or] at h1
      obtain ⟨j, hj, hj2⟩ := List.any_eq_true.1 h1
      simp only [Bool.and_eq_true, decide_eq_true_eq] at hj2
      obtain ⟨oj, hoj, e, he, hb, hon⟩ := Region.waitsFor_spec hj2.2
      have hjle : j ≤ t := by have := List.mem_range.1 hj; omega
      by_cases hjt : j = t
      · subst hjt
        have : oj = ot := Option.some.inj (hoj.symm.trans hot)
        subst this
        have h2 := hall e he hb
        rw [hon, getD_both hun] at h2
        cases h2
      · cases hl : listed.getD j false with
        | true =>
          have h2 := inv.closed j oj hoj hl e he hb
          rw [hon, getD_both hun] at h2
          cases h2
        | false =>
          have hjs : j < listed.size := by rw [inv.size]; omega
          exact ih (t - j) (by omega) j rfl (by omega) (getD_in hjs hl) t (Nat.le_refl _) hr
    · have h1 := List.all_eq_true.1 hc t (List.mem_range.2 htlt)
      simp only [Bool.or_eq_true, decide_eq_true_eq] at h1
      rcases h1 with h1 | h1
      · omega
      · obtain ⟨j, hj, hj2⟩ := List.any_eq_true.1 h1
        simp only [Bool.and_eq_true, decide_eq_true_eq] at hj2
        obtain ⟨o', ho', e, he, hb, hon⟩ := Region.waitsFor_spec hj2.2
        have : o' = ot := Option.some.inj (ho'.symm.trans hot)
        subst this
        have h2 := hall e he hb
        rw [hon, getD_both (inv.tail j hj2.1 (List.mem_range.1 hj))] at h2
        cases h2
theorem relC_shape {S0 : Array Bool} {n N : Nat} (h : relC ops S0 n N = true) : Shape ops n N := by
  simp only [relC, Bool.and_eq_true, decide_eq_true_eq] at h
  obtain ⟨⟨⟨⟨⟨⟨hsel, hd⟩, hn⟩, hb⟩, ha⟩, _⟩, _⟩ := h
  refine ⟨hd, hn, fun k o hk hkn e he hbd => ?_, fun k i ok oi hki hin hk hi hno => ?_, Region.noSelect_spec hsel⟩
  · have h1 := List.all_eq_true.1 hb k (List.mem_range.2 hkn)
    simp only [hk] at h1
    have h2 := Array.all_eq_true'.1 h1 e he
    simp only [hbd, Bool.not_true, Bool.false_or, decide_eq_true_eq] at h2
    exact h2
  · have h1 := List.all_eq_true.1 (List.all_eq_true.1 ha i (List.mem_range.2 hin)) k (List.mem_range.2 hki)
    simp only [hk, hi, Bool.or_eq_true] at h1
    refine h1.resolve_left fun h2 => ?_
    obtain ⟨e, he, hb2⟩ := Array.any_eq_true'.1 h2
    simp only [Bool.and_eq_true, beq_iff_eq] at hb2
    exact hno e he hb2.1 hb2.2
theorem headList_eq {S : Array Bool} (hs : S.size = ops.size) (hn : n ≤ ops.size) (h1 : ∀ j, j < n → S.getD j false = true) (h2 : ∀ t, n ≤ t → t < ops.size → S.getD t true = false) : S = headList n ops.size := by
  apply Array.ext
  · simp [headList, hs]; omega
  · intro j hj hj'
    rcases Nat.lt_or_ge j n with h | h
    · have := h1 j h
      simp [hj] at this
      simp [headList, List.getElem_append, h, this]
    · have := h2 j h (by omega)
      simp [hj] at this
      simp [headList, List.getElem_append, Nat.not_lt.2 h, this]

/-- The walk in the order of the text. -/
def InhL (ops : Array Oper) (C : World → Prop) (G : Option Tmp → Value → World → Prop) (k : Nat) (a : Act) : Prop := ∃ w, C w ∧ ∀ j oj, ops[j]? = some oj → j < k → G oj.dst (slot a oj.dst) w
def wpRel (P : Program) (ops : Array Oper) (C : World → Prop) (G : Option Tmp → Value → World → Prop) (R : World → World → Prop) (S0 : Array Bool) (F : Act → Prop) : Nat → List Oper → Act → Prop
  | k, [], a => InhL ops C G k a → F a
  | k, o :: rest, a => if S0.getD k false = true then wpRel P ops C G R S0 F (k + 1) rest a else StepOk P ops C G R o a ∧ ∀ u, May P ops C G o a u → (∀ d, o.dst = some d → ∃ w, C w ∧ G (some d) u w) → wpRel P ops C G R S0 F (k + 1) rest (a.put o.dst u)
theorem wk_of_rel {S0 : Array Bool} (sh : Shape ops n N) : ∀ (l : List Oper) (k : Nat) (a : Act), (∀ j, j < l.length → l[j]? = ops[k + j]?) → k + l.length = n → a.tmps.size = N → wpRel P ops C G R S0 F k l a → Wk P ops C G R S0 F l.length k a
  | [], k, a, _, hk, hN, h => fun ⟨w, hw, hg⟩ => h ⟨w, hw, fun j oj hj hjk => hg j oj hj (.inr hjk)⟩
  | o :: l, k, a, hl, hk, hN, h => fun _ => by
    have h0 : ops[k]? = some o := by simpa using (hl 0 (by simp)).symm
    simp only [h0]
    unfold wpRel at h
    split at h
    · rename_i hs
      simp only [hs, if_true]
      exact wk_of_rel sh l (k + 1) a (fun j hj => by have := hl (j + 1) (by simp; omega); simpa [Nat.add_assoc, Nat.add_comm 1 j] using this) (by simp only [List.length_cons] at hk; omega) hN h
    · rename_i hs
      rw [if_neg hs]
      refine ⟨h.1, fun u hu hI => wk_of_rel sh l (k + 1) _ (fun j hj => by have := hl (j + 1) (by simp; omega); simpa [Nat.add_assoc, Nat.add_comm 1 j] using this) (by simp only [List.length_cons] at hk; omega) (by rw [size_put]; exact hN) (h.2 u hu fun d hd => ?_)⟩
      obtain ⟨w, hw, hg⟩ := hI
      refine ⟨w, hw, ?_⟩
      have h1 := hg k o h0 (.inr (by omega))
      rw [hd, slot_put_same (by rw [hN]; exact dstsB_in sh.dsts h0 hd)] at h1
      exact h1

/-- A region that draws its order, the operations of S0 done: the first n operations in any order; then the others. -/
theorem wpAny_relC {Q : Exit → Act → World → Prop} {a : Act} {w : World} {l : List Oper} (S0 : Array Bool) (n N : Nat) (C : World → Prop) (G : Option Tmp → Value → World → Prop) (R : World → World → Prop) {fuel : Nat}
    (hB : relC l.toArray S0 n N = true) (hf : fuel = unl n S0 + (l.length - n)) (hN : a.tmps.size = N) (hmono : ∀ d u w w', R w w' → G d u w → G d u w') (hR : ∀ w, C w → R w w) (hu : ∀ w, C w → G none undef w) (hC : C w)
    (h0 : ∀ j oj, l[j]? = some oj → S0.getD j false = true → G oj.dst (slot a oj.dst) w)
    (h : wpRel P l.toArray C G R S0 (fun a' => ∀ w', C w' → (∀ j oj, l[j]? = some oj → j < n → G oj.dst (slot a' oj.dst) w') → wpAny P .any l.toArray Q (l.length - n) (headList n l.length) a' w') 0 (l.take n) a) : wpAny P .any l.toArray Q fuel S0 a w := by
  have sh := relC_shape hB
  have hB' := hB
  simp only [relC, Bool.and_eq_true, Bool.or_eq_true, decide_eq_true_eq] at hB'
  obtain ⟨⟨⟨⟨⟨⟨hsel, hd⟩, hn⟩, hb⟩, ha⟩, hsc⟩, hcl⟩ := hB'
  have hnl : n ≤ l.length := by simpa using hn
  have htl : (l.take n).length = n := by simp; omega
  have hw := wk_of_rel sh (l.take n) 0 a (fun j hj => by
    have hj' : j < n := by rw [htl] at hj; exact hj
    simp [hj']) (by simpa using htl) hN h
  rw [htl] at hw
  have := wpAny_of_wk (Q := Q) (g := l.length - n) sh hmono hR hu S0 (fun S hI h0s hex t ht hr => ?_) (fun S a' w' hI hall hC' hg hF => ?_) _ S0 a w
    (closedB_head hcl) (fun _ h => h) rfl hN ⟨hC, fun j oj hj hs => h0 j oj (by simpa using hj) hs⟩ hw
  · rw [hf]; exact this
  · obtain ⟨i, hi, hun⟩ := hex
    rcases hsc with hsc | ⟨⟨hlt, hs⟩, hc⟩
    · have := (mem_ready.1 hr).2
      obtain ⟨o, ho, _⟩ := this
      have := (Array.getElem?_eq_some_iff.1 ho).1
      omega
    · exact tail_waitsS hs hc hlt hI h0s _ i rfl hi hun t ht hr
  · have hSeq := headList_eq hI.size hn hall hI.tail
    rw [show l.toArray.size = l.length from by simp] at hSeq
    rw [hSeq]
    exact hF w' hC' fun j oj hj hjn => hg j oj (by simpa using hj) hjn
theorem wpRel_mono {F F' : Act → Prop} (hF : ∀ a, F a → F' a) {S0 : Array Bool} : ∀ (l' : List Oper) (k : Nat) (a : Act), wpRel P ops C G R S0 F k l' a → wpRel P ops C G R S0 F' k l' a
  | [], k, a, h => fun hI => hF a (h hI)
  | o :: l', k, a, h => by
    unfold wpRel at h ⊢
    split
    · rename_i hs; rw [if_pos hs] at h; exact wpRel_mono hF l' _ _ h
    · rename_i hs; rw [if_neg hs] at h; exact ⟨h.1, fun u hu hd => wpRel_mono hF l' _ _ (h.2 u hu hd)⟩
/-- The others as they stand. -/
theorem wpAny_rel {Q : Exit → Act → World → Prop} {a : Act} {w : World} {l : List Oper} (S0 : Array Bool) (n N : Nat) (C : World → Prop) (G : Option Tmp → Value → World → Prop) (R : World → World → Prop) {fuel : Nat}
    (hB : relB l.toArray S0 n N = true) (hf : fuel = unl n S0 + (l.length - n)) (hN : a.tmps.size = N) (hmono : ∀ d u w w', R w w' → G d u w → G d u w') (hR : ∀ w, C w → R w w) (hu : ∀ w, C w → G none undef w) (hC : C w)
    (h0 : ∀ j oj, l[j]? = some oj → S0.getD j false = true → G oj.dst (slot a oj.dst) w)
    (h : wpRel P l.toArray C G R S0 (fun a' => ∀ w', C w' → (∀ j oj, l[j]? = some oj → j < n → G oj.dst (slot a' oj.dst) w') → wpList P l.toArray Q (l.drop n) a' w') 0 (l.take n) a) : wpAny P .any l.toArray Q fuel S0 a w := by
  simp only [relB, Bool.and_eq_true] at hB
  have hdl : (l.drop n).length = l.length - n := by simp
  refine wpAny_relC S0 n N C G R hB.1 hf hN hmono hR hu hC h0 (wpRel_mono (fun a' hF w' hC' hg => ?_) _ _ _ h)
  have := wpAny_of_seq (md := .any) (Q' := Q) (ops := l.toArray) (l.drop n) n (headList n l.length) a' w' (fun j => by simp [List.getElem?_drop]) (by rw [hdl]; simpa using hB.2) (hF w' hC' hg)
  rwa [hdl] at this

/-! ### The steps of the walk -/
section
variable {o : Oper} {rest : List Oper} {a : Act} {k : Nat} {S0 : Array Bool}
theorem rel_nil (h : F a) : wpRel P ops C G R S0 F k [] a := fun _ => h
/-- it hands back one value, and leaves the world -/
theorem rel_val (hR : ∀ w, C w → R w w) (hS : S0.getD k false = false) (hw : Region.wanted o (yielded ops a.tmps) = true) (u : Value) (hrun : ∀ w, C w → Deps ops G o a w → (execOp a.eval o).run P w = .ok (.value u) w) (hG : ∀ w, C w → Deps ops G o a w → G o.dst u w) (hn : wpRel P ops C G R S0 F (k + 1) rest (a.put o.dst u)) : wpRel P ops C G R S0 F k (o :: rest) a := by
  unfold wpRel
  rw [hS, if_neg (by simp)]
  refine ⟨by unfold StepOk; simp only [hw, if_true]; intro w hC hD; unfold Good; rw [hrun w hC hD]; exact ⟨hG w hC hD, hC, hR w hC⟩, fun x hx _ => ?_⟩
  unfold May at hx
  simp only [hw, if_true] at hx
  obtain ⟨w, hC, hD, hm⟩ := hx
  rw [hrun w hC hD] at hm
  obtain rfl : x = u := hm
  exact hn
/-- a call: any value that its slot lets in -/
theorem rel_call (hS : S0.getD k false = false) (hw : Region.wanted o (yielded ops a.tmps) = true) (f : FuncId) (args : Array Value) (d : Tmp) (hd : o.dst = some d) (hrun : ∀ w, C w → Deps ops G o a w → (execOp a.eval o).run P w = .ok (.enter f args) w)
    (hc : ∀ w, C w → Deps ops G o a w → Calls P f args w fun e w' => ∃ u, e = .returned u ∧ G (some d) u w' ∧ C w' ∧ R w w') (hn : ∀ u w, C w → G (some d) u w → wpRel P ops C G R S0 F (k + 1) rest (a.put (some d) u)) : wpRel P ops C G R S0 F k (o :: rest) a := by
  unfold wpRel
  rw [hS, if_neg (by simp)]
  refine ⟨by unfold StepOk; simp only [hw, if_true]; intro w hC hD; unfold Good; rw [hrun w hC hD, hd]; exact hc w hC hD, fun x _ hx => ?_⟩
  obtain ⟨w, hC, hg⟩ := hx d hd
  rw [hd]
  exact hn x w hC hg
/-- a new block -/
theorem rel_new (hS : S0.getD k false = false) (hw : Region.wanted o (yielded ops a.tmps) = true) (ob : Obj) (d : Tmp) (hd : o.dst = some d) (mk : Nat → Value) (hrun : ∀ w, C w → Deps ops G o a w → (execOp a.eval o).run P w = .ok (.value (mk w.heap.size)) (w.alloc ob))
    (hc : ∀ w, C w → Deps ops G o a w → G (some d) (mk w.heap.size) (w.alloc ob) ∧ C (w.alloc ob) ∧ R w (w.alloc ob)) (hn : ∀ g w, C w → G (some d) (mk g) w → wpRel P ops C G R S0 F (k + 1) rest (a.put (some d) (mk g))) : wpRel P ops C G R S0 F k (o :: rest) a := by
  unfold wpRel
  rw [hS, if_neg (by simp)]
  refine ⟨by unfold StepOk; simp only [hw, if_true]; intro w hC hD; unfold Good; rw [hrun w hC hD, hd]; exact hc w hC hD, fun x hm hx => ?_⟩
  obtain ⟨w, hC, hg⟩ := hx d hd
  unfold May at hm
  simp only [hw, if_true] at hm
  obtain ⟨w', hC', hD', hm⟩ := hm
  rw [hrun w' hC' hD'] at hm
  obtain rfl : x = mk w'.heap.size := hm
  rw [hd]
  exact hn _ w hC hg
end
end
end Go.Proofs.YtnbbllkbefagmaaGreatDoor

namespace Go.Proofs.YtnbbllkbefagmaaGreatDoor
open Go
set_option linter.unusedVariables false
set_option linter.unusedSimpArgs false

abbrev Sp := Tmp → Option (Value → Prop)
section
variable {P : Program} {C : World → Prop} {sp : Sp} {F : Act → Prop} {S0 : Array Bool}
variable {ops : Array Oper} {o : Oper} {rest : List Oper} {a : Act} {k : Nat}
end
end Go.Proofs.YtnbbllkbefagmaaGreatDoor

namespace Go.Proofs.YtnbbllkbefagmaaGreatDoor
open Go.RowKit
set_option linter.unusedVariables false
set_option linter.unusedSimpArgs false
/-- a number below n -/
def NatB (n : Nat) (u : Value) : Prop := ∃ r : Nat, r < n ∧ u = .int .i64 r
section
variable {sp : Sp} {F : Act → Prop} {S0 : Array Bool} {ops : Array Oper} {o : Oper} {rest : List Oper} {a : Act} {k : Nat} {M : Nat → Prop} {row : Option Nat} {w0 : World} {L : List Hp} {T : Nat}
end
end Go.Proofs.YtnbbllkbefagmaaGreatDoor

namespace Go.Proofs.YtnbbllkbefagmaaGreatDoor
open Go.RowKit
set_option linter.unusedVariables false
set_option linter.unusedSimpArgs false

abbrev SpW := Tmp → Option (Value → World → Prop)
def GW (sp : SpW) (d : Option Tmp) (u : Value) (w : World) : Prop := match d.bind sp with | some V => V u w | none => True
/-- from w to w' nothing but new blocks and those of M turned -/
def RM (M : Nat → Prop) (w w' : World) : Prop := w.heap.size ≤ w'.heap.size ∧ ∀ b, b < w.heap.size → ¬ M b → w'.heap[b]? = w.heap[b]?
theorem RM.refl (M : Nat → Prop) (w : World) : RM M w w := ⟨Nat.le_refl _, fun _ _ _ => rfl⟩
theorem RM.trans {M : Nat → Prop} {a b c : World} (h : RM M a b) (k : RM M b c) : RM M a c := ⟨Nat.le_trans h.1 k.1, fun x hx hn => (k.2 x (Nat.lt_of_lt_of_le hx h.1) hn).trans (h.2 x hx hn)⟩
theorem RM.below {M : Nat → Prop} {w w' : World} (h : Below w.heap.size w w') : RM M w w' := ⟨h.size, fun b hb _ => h.block b hb⟩
theorem RM.grown {M : Nat → Prop} {w w' : World} {T : Nat} (h : w.grownBy w' (some T)) (hT : M T) : RM M w w' := ⟨h.size, fun b hb hn => h.block b hb (fun e => by injection e with e; subst e; exact hn hT)⟩
theorem RM.alloc (M : Nat → Prop) (w : World) (o : Obj) : RM M w (w.alloc o) := ⟨by simp, fun b hb _ => Below.heap_alloc w o b hb⟩
theorem RM.ro {M : Nat → Prop} {w w' : World} (h : RM M w w') {S : World → Prop} (hs : Ro w M S) : Ro w' M S := hs.step h.1 h.2 (fun _ _ h => h)
/-- each class of values stays as the world goes on -/
def Stays (M : Nat → Prop) (sp : SpW) : Prop := ∀ d V, sp d = some V → ∀ u w w', RM M w w' → V u w → V u w'
/-- the classes as a list -/
def spL (l : List (Tmp × (Value → World → Prop))) : SpW := fun d => (l.find? fun p => p.1 == d).map (·.2)
theorem stays_nil (M : Nat → Prop) : Stays M (spL []) := fun d V h => nomatch h
theorem stays_cons {M : Nat → Prop} {d : Tmp} {V : Value → World → Prop} {l : List (Tmp × (Value → World → Prop))} (h : ∀ u w w', RM M w w' → V u w → V u w') (hl : Stays M (spL l)) : Stays M (spL ((d, V) :: l)) := fun t V' hV => by
 unfold spL at hV
 rw [List.find?_cons] at hV
 split at hV
 ·simp only [Option.map_some, Option.some.injEq] at hV
  subst hV
  exact h
 ·exact hl t V' hV
theorem GW_off {sp : SpW} {d : Option Tmp} {u : Value} {w : World} (h : d.bind sp = none) : GW sp d u w := by unfold GW; rw [h]; trivial
theorem GW_on {sp : SpW} {d : Tmp} {V : Value → World → Prop} (h : sp d = some V) {u : Value} {w : World} : GW sp (some d) u w ↔ V u w := by unfold GW; simp only [Option.bind_some, h]
def offW (ops : Array Oper) (S0 : Array Bool) (sp : SpW) : Bool := (List.range ops.size).all fun j => !S0.getD j false || (((ops[j]?).bind (·.dst)).bind sp).isNone
theorem offW_h {ops : Array Oper} {S0 : Array Bool} {sp : SpW} (h : offW ops S0 sp = true) {j : Nat} {o : Oper} (ho : ops[j]? = some o) (hs : S0.getD j false = true) {u : Value} {w : World} : GW sp o.dst u w := by
 have h1 := List.all_eq_true.1 h j (List.mem_range.2 (Array.getElem?_eq_some_iff.1 ho).1)
 simp only [hs, Bool.not_true, Bool.false_or, ho, Option.bind_some] at h1
 exact GW_off (Option.isNone_iff_eq_none.1 h1)

/-- the class: the items hold, and from the region's start w1 nothing but them and new blocks turned -/
def HC (M : Nat → Prop) (row : Option Nat) (w0 w1 : World) (L : List Hp) (w : World) : Prop := Hold M row w0 w L ∧ RM (Mut M L) w1 w
section
variable {P : Program} {M : Nat → Prop} {row : Option Nat} {w0 w1 : World} {L : List Hp} {sp : SpW} {F : Act → Prop} {S0 : Array Bool}
theorem wpAny_hold {Q : Exit → Act → World → Prop} {a : Act} {w : World} {l : List Oper} (n N : Nat) (L : List Hp) (sp : SpW) {fuel : Nat}
  (hB : relB l.toArray S0 n N = true) (hO : offW l.toArray S0 sp = true) (hf : fuel = unl n S0 + (l.length - n)) (hN : a.tmps.size = N) (hs : Stays (Mut M L) sp) (hC : Hold M row w0 w L)
  (h : wpRel P l.toArray (HC M row w0 w L) (GW sp) (RM (Mut M L)) S0 (fun a' => ∀ w', Hold M row w0 w' L → RM (Mut M L) w w' → (∀ j oj, l[j]? = some oj → j < n → GW sp oj.dst (slot a' oj.dst) w') → wpList P l.toArray Q (l.drop n) a' w') 0 (l.take n) a) : wpAny P .any l.toArray Q fuel S0 a w := by
 refine wpAny_rel S0 n N (HC M row w0 w L) (GW sp) (RM (Mut M L)) hB hf hN (fun d u w w' hr hg => ?_) (fun w _ => RM.refl _ w) (fun _ _ => trivial) ⟨hC, RM.refl _ _⟩ (fun j oj hj hs => offW_h hO (by simpa using hj) hs) (wpRel_mono (fun a' hF w' hC' hg => hF w' hC'.1 hC'.2 hg) _ _ _ h)
 unfold GW at hg ⊢
 cases hd : d.bind sp with
 | none => trivial
 | some V =>
  rw [hd] at hg
  obtain ⟨t, rfl, ht⟩ := Option.bind_eq_some_iff.1 hd
  exact hs t V ht u w w' hr hg

variable {ops : Array Oper} {o : Oper} {rest : List Oper} {a : Act} {k : Nat}
theorem dw_val (hS : S0.getD k false = false) (hw : Region.wanted o (yielded ops a.tmps) = true) (hoff : o.dst.bind sp = none) (h : ∃ u, (∀ w, Hold M row w0 w L → (execOp a.eval o).run P w = .ok (.value u) w) ∧ wpRel P ops (HC M row w0 w1 L) (GW sp) (RM (Mut M L)) S0 F (k + 1) rest (a.put o.dst u)) : wpRel P ops (HC M row w0 w1 L) (GW sp) (RM (Mut M L)) S0 F k (o :: rest) a :=
 let ⟨u, h1, h2⟩ := h
 rel_val (fun w _ => RM.refl _ w) hS hw u (fun w hC _ => h1 w hC.1) (fun _ _ _ => GW_off hoff) h2
/-- a call of any kind -/
theorem dw_call {f : FuncId} {args : Array Value} (d : Tmp) (V : Value → World → Prop) (hS : S0.getD k false = false) (hw : Region.wanted o (yielded ops a.tmps) = true) (hd : o.dst = some d) (hsp : sp d = some V) (hrun : ∀ w, (execOp a.eval o).run P w = .ok (.enter f args) w)
  (hc : ∀ w, Hold M row w0 w L → Deps ops (GW sp) o a w → Calls P f args w fun e w' => ∃ u, e = .returned u ∧ V u w' ∧ Hold M row w0 w' L ∧ RM (Mut M L) w w') (hn : ∀ u w, Hold M row w0 w L → V u w → wpRel P ops (HC M row w0 w1 L) (GW sp) (RM (Mut M L)) S0 F (k + 1) rest (a.put (some d) u)) : wpRel P ops (HC M row w0 w1 L) (GW sp) (RM (Mut M L)) S0 F k (o :: rest) a :=
 rel_call hS hw f args d hd (fun w _ _ => hrun w) (fun w hC hD => (hc w hC.1 hD).mono fun e' w' ⟨u, h1, h2, h3, h4⟩ => ⟨u, h1, (GW_on hsp).2 h2, ⟨h3, hC.2.trans h4⟩, h4⟩) fun u w hC hu => hn u w hC.1 ((GW_on hsp).1 hu)
/-- a new block: its cells -/
theorem dw_new (cs : Array Value) (t : TypeId) (d : Tmp) (V : Value → World → Prop) (mk : Nat → Value) (hS : S0.getD k false = false) (hw : Region.wanted o (yielded ops a.tmps) = true) (hd : o.dst = some d) (hsp : sp d = some V) (hrun : ∀ w, (execOp a.eval o).run P w = .ok (.value (mk w.heap.size)) (w.alloc (.cells cs t)))
  (hc : ∀ w, Hold M row w0 w L → RM (Mut M L) w1 w → Deps ops (GW sp) o a w → (∀ M', (∀ b, M' b → b < w.heap.size) → Ro (w.alloc (.cells cs t)) M' (fun w' => w'.heap[w.heap.size]? = some (.cells cs t (0, 0)))) → V (mk w.heap.size) (w.alloc (.cells cs t))) (hn : ∀ g w, Hold M row w0 w L → V (mk g) w → wpRel P ops (HC M row w0 w1 L) (GW sp) (RM (Mut M L)) S0 F (k + 1) rest (a.put (some d) (mk g))) : wpRel P ops (HC M row w0 w1 L) (GW sp) (RM (Mut M L)) S0 F k (o :: rest) a :=
 rel_new hS hw (.cells cs t) d hd mk (fun w _ _ => hrun w) (fun w hC hD => ⟨(GW_on hsp).2 (hc w hC.1 hC.2 hD fun M' hM' w2 h1 h2 => (h2 w.heap.size (by simp) (fun hm => Nat.lt_irrefl _ (hM' _ hm))).trans (heap_alloc_new w _)), ⟨(hC.1.alloc_cst cs t).drop (List.sublist_cons_self _ _), hC.2.trans (RM.alloc _ w _)⟩, RM.alloc _ w _⟩) fun g w hC hg => hn g w hC.1 ((GW_on hsp).1 hg)
theorem deps_at {w : World} (h : Deps ops (GW sp) o a w) (j : Nat) {oj : Oper} (hj : ops[j]? = some oj) (he : (o.after.any fun e => Region.binds .any e && e.on == j) = true) {d : Tmp} (hd : oj.dst = some d) {V : Value → World → Prop} (hsp : sp d = some V) : V (slot a (some d)) w := by
 obtain ⟨e, hm, hb⟩ := Array.any_eq_true'.1 he
 simp only [Bool.and_eq_true, beq_iff_eq] at hb
 have := h e hm hb.1 oj (by rw [hb.2]; exact hj)
 rw [hd] at this
 exact (GW_on hsp).1 this
end
section
variable {M : Nat → Prop} {row : Option Nat} {w0 w1 : World} {L : List Hp} {sp : SpW} {F : Act → Prop} {S0 : Array Bool} {ops : Array Oper} {o : Oper} {rest : List Oper} {a : Act} {k : Nat} {T : Nat}
theorem dw_next (n : Nat) (i : Nat) (hi : L[i]? = some (.tp T)) (d : Tmp) (hS : S0.getD k false = false) (hw : Region.wanted o (yielded ops a.tmps) = true) (hd : o.dst = some d) (hsp : sp d = some (fun u _ => NatB n u))
  (hrun : ∀ w, (execOp a.eval o).run Tryz.prog w = .ok (.enter 31 #[.pointer (some ⟨T, 0, none⟩), .int .i64 n]) w) (hn : ∀ r : Nat, r < n → wpRel Tryz.prog ops (HC M row w0 w1 L) (GW sp) (RM (Mut M L)) S0 F (k + 1) rest (a.put (some d) (.int .i64 r)))
  (hpos : 0 < n := by omega) (hmax : n ≤ 9223372036854775807 := by omega) : wpRel Tryz.prog ops (HC M row w0 w1 L) (GW sp) (RM (Mut M L)) S0 F k (o :: rest) a := by
 refine dw_call d (fun u _ => NatB n u) hS hw hd hsp hrun (fun w HC _ => ?_) (fun u _ _ ⟨r, hr, hu⟩ => by subst hu; exact hn r hr)
 refine (next_any T n w (HC.tp_ i hi) (by omega) (by omega)).mono ?_
 rintro e w5 ⟨r, rfl, r0, r1, t5, g5⟩
 exact ⟨_, rfl, ⟨r.toNat, by omega, by rw [Int.toNat_of_nonneg r0]⟩, Hold.callT HC i hi g5 t5, RM.grown g5 (.inr ⟨_, List.mem_of_getElem? hi, rfl⟩)⟩
end
end Go.Proofs.YtnbbllkbefagmaaGreatDoor

namespace Go.Proofs.YtnbbllkbefagmaaGreatDoor
open Go.RowKit
set_option linter.unusedVariables false
set_option linter.unusedSimpArgs false
section
variable {P : Program} {M : Nat → Prop} {row : Option Nat} {w0 w1 : World} {L : List Hp} {sp : SpW} {F : Act → Prop} {S0 : Array Bool}
variable {ops : Array Oper} {o : Oper} {rest : List Oper} {a : Act} {k : Nat}
/-- a call of any kind; what came since the region's start is at hand -/
theorem dw_callR {f : FuncId} {args : Array Value} (d : Tmp) (V : Value → World → Prop) (hS : S0.getD k false = false) (hw : Region.wanted o (yielded ops a.tmps) = true) (hd : o.dst = some d) (hsp : sp d = some V) (hrun : ∀ w, (execOp a.eval o).run P w = .ok (.enter f args) w)
  (hc : ∀ w, Hold M row w0 w L → RM (Mut M L) w1 w → Deps ops (GW sp) o a w → Calls P f args w fun e w' => ∃ u, e = .returned u ∧ V u w' ∧ Hold M row w0 w' L ∧ RM (Mut M L) w w') (hn : ∀ u w, Hold M row w0 w L → V u w → wpRel P ops (HC M row w0 w1 L) (GW sp) (RM (Mut M L)) S0 F (k + 1) rest (a.put (some d) u)) : wpRel P ops (HC M row w0 w1 L) (GW sp) (RM (Mut M L)) S0 F k (o :: rest) a :=
 rel_call hS hw f args d hd (fun w _ _ => hrun w) (fun w hC hD => (hc w hC.1 hC.2 hD).mono fun e' w' ⟨u, h1, h2, h3, h4⟩ => ⟨u, h1, (GW_on hsp).2 h2, ⟨h3, hC.2.trans h4⟩, h4⟩) fun u w hC hu => hn u w hC.1 ((GW_on hsp).1 hu)
end
theorem own_RM {M : Nat → Prop} {b0 : Nat} (hM : ∀ b, M b → b < b0) {w w' : World} (hr : RM M w w') {e : TypeId} {size n : Nat} {v : Value} {xs : List Value} (h : w.ownsRow b0 e size v n xs) : w'.ownsRow b0 e size v n xs := by
 refine ⟨h.1, ?_⟩
 rcases h.2 with hn | ⟨g, cap, cur, hv, hg, hh, rest⟩
 ·exact .inl hn
 ·exact .inr ⟨g, cap, cur, hv, hg, (hr.2 g (Blk.lt (t := e) (cs := cur) hh) (fun hm => by have := hM g hm; omega)).trans hh, rest⟩
theorem own_base {w : World} {b0 b1 : Nat} (h01 : b0 ≤ b1) {e : TypeId} {size n : Nat} {v : Value} {xs : List Value} (h : w.ownsRow b1 e size v n xs) : w.ownsRow b0 e size v n xs := by
 refine ⟨h.1, ?_⟩
 rcases h.2 with hn | ⟨g, cap, cur, hv, hg, rest⟩
 ·exact .inl hn
 ·exact .inr ⟨g, cap, cur, hv, Nat.le_trans h01 hg, rest⟩
/-- A row that came since w1, taken in. -/
theorem Hold.addOwn {M : Nat → Prop} {row : Option Nat} {w0 w1 w : World} {L : List Hp} (K1 : Hold M row w0 w1 L) (K : Hold M row w0 w L) (hr : RM (Mut M L) w1 w) {e : TypeId} {size n : Nat} {v : Value} {xs : List Value} (ho : w.ownsRow w1.heap.size e size v n xs) :
  Hold M row w0 w (.own e size v n xs :: L) := by
 have hbase : ∀ b, v.ownBlock = some b → w1.heap.size ≤ b ∧ b < w.heap.size := fun b hf => ho.lt b hf
 have ee : ∀ b, b < w1.heap.size → Mut M (.own e size v n xs :: L) b → Mut M L b := fun b hl hb => by
  rcases mut_cons.1 hb with hf | hm
  ·have := (hbase b hf).1; omega
  ·exact hm
 refine ⟨K.grow, K.low, fun k hk => ?_, fun k hk b hf => ?_, ⟨fun b hf k hk he => ?_, K.sep⟩⟩
 ·rcases List.mem_cons.1 hk with rfl | hk
  ·exact own_base K1.grow.size ho
  ·have h1 := K1.sat k hk
   have h2 := K.sat k hk
   cases k with
   | blk g' t' cs' => exact h2
   | own e s v n' xs => exact h2
   | tp T =>
    refine ⟨h2.1, fun b hb' => ?_⟩
    have hT : T < w1.heap.size := (K1.fresh _ hk T rfl).2
    rcases mut_cons.1 hb' with hf | hm'
    ·have := (hbase b hf).1
     omega
    ·exact h2.2 b hm'
   | ro S => exact Ro.step h1 hr.1 hr.2 ee
   | cst g' t' cs' => exact Ro.step h1 hr.1 hr.2 ee
   | ob g' F' => exact h2
 ·rcases List.mem_cons.1 hk with rfl | hk
  ·have := hbase b hf
   exact ⟨.inl (Nat.le_trans K1.grow.size this.1), this.2⟩
  ·exact K.fresh k hk b hf
 ·have h1 := (hbase b hf).1
  have h2 := (K1.fresh k hk b he).2
  omega
end Go.Proofs.YtnbbllkbefagmaaGreatDoor

namespace Go.Proofs.YtnbbllkbefagmaaGreatDoor
open Go.RowKit
set_option linter.unusedVariables false
set_option linter.unusedSimpArgs false
section
variable {P : Program} {M : Nat → Prop} {row : Option Nat} {w0 w1 : World} {L : List Hp} {sp : SpW} {F : Act → Prop} {S0 : Array Bool}
variable {ops : Array Oper} {o : Oper} {rest : List Oper} {a : Act} {k : Nat}
theorem dw_valC (d : Tmp) (V : Value → World → Prop) (hS : S0.getD k false = false) (hw : Region.wanted o (yielded ops a.tmps) = true) (hd : o.dst = some d) (hsp : sp d = some V) (u : Value) (hrun : ∀ w, Hold M row w0 w L → (execOp a.eval o).run P w = .ok (.value u) w)
  (hV : ∀ w, Hold M row w0 w L → Deps ops (GW sp) o a w → V u w) (hn : wpRel P ops (HC M row w0 w1 L) (GW sp) (RM (Mut M L)) S0 F (k + 1) rest (a.put (some d) u)) : wpRel P ops (HC M row w0 w1 L) (GW sp) (RM (Mut M L)) S0 F k (o :: rest) a :=
 rel_val (fun w _ => RM.refl _ w) hS hw u (fun w hC _ => hrun w hC.1) (fun w hC hD => by rw [hd]; exact (GW_on hsp).2 (hV w hC.1 hD)) (by rw [hd]; exact hn)
end
end Go.Proofs.YtnbbllkbefagmaaGreatDoor

namespace Go.Proofs.YtnbbllkbefagmaaGreatDoor
open Go.RowKit
set_option linter.unusedVariables false
set_option linter.unusedSimpArgs false
section
variable {P : Program} {ops : Array Oper} {C : World → Prop} {G : Option Tmp → Value → World → Prop} {R : World → World → Prop} {F : Act → Prop} {o : Oper} {rest : List Oper} {a : Act} {k : Nat} {S0 : Array Bool}
/-- an operation that hands back some value of its class -/
theorem rel_step (hS : S0.getD k false = false) (hw : Region.wanted o (yielded ops a.tmps) = true) (d : Tmp) (hd : o.dst = some d) (hg : ∀ w, C w → Deps ops G o a w → ∃ u w', (execOp a.eval o).run P w = .ok (.value u) w' ∧ G (some d) u w' ∧ C w' ∧ R w w')
  (hn : ∀ u w, C w → G (some d) u w → wpRel P ops C G R S0 F (k + 1) rest (a.put (some d) u)) : wpRel P ops C G R S0 F k (o :: rest) a := by
 unfold wpRel
 rw [hS, if_neg (by simp)]
 refine ⟨by unfold StepOk; simp only [hw, if_true]; intro w hC hD; obtain ⟨u, w', hr, h1, h2, h3⟩ := hg w hC hD; unfold Good; rw [hr, hd]; exact ⟨h1, h2, h3⟩, fun x _ hx => ?_⟩
 obtain ⟨w, hC, h⟩ := hx d hd
 rw [hd]; exact hn x w hC h
end
/-- append(nil, xs...): a list of one's own -/
theorem run_cloneNil {P : Program} {t e : TypeId} {size bytes : Nat} {z : Value} (hE : ElemT P t e size bytes z) (ty : TypeId) (w : World) {A : Option Addr} {m c : Nat} {ys : List Value} (hr : SlR size A m ys w) (h1 : ∀ u ∈ ys, u.oneCell' = true) (hq : m < 140737488355328) (hb : m * bytes ≤ 140737488355328) :
  ∃ C' cap' w', (Builtin.append_ #[t, t] ty #[.slice none 0 0, .slice A m c]).run P w = .ok (.slice C' m cap') w' ∧ m ≤ cap' ∧ cap' ≤ 9223372036854775807 ∧ w'.ownsRow w.heap.size e size (.slice C' m cap') m ys ∧ Below w.heap.size w w' := by
 obtain ⟨i0, hi1, hi2, hi3, hi4⟩ := info_parts hE.hi
 have hown := World.ownsRow_nil w w.heap.size e size
 have hz : A = none → m = 0 := fun hA => by
  rcases Nat.eq_zero_or_pos m with h0 | h0
  ·exact h0
  ·obtain ⟨b, o, h, _⟩ := hr.2 h0
   rw [hA] at h; cases h
 rcases A with _ | ad
 ·obtain rfl := hz rfl
  have hn : ys = [] := List.eq_nil_of_length_eq_zero (by simpa using hr.1)
  subst hn
  exact ⟨none, 0, w, run_append_self w _ t _ _ i0 size hE.ht hi1 _ _ _ hown c, by omega, by omega, hown, Below.refl _ _⟩
 ·have hcells : ∀ j u, ys[j]? = some u → w.cell? (ad.add j) = some u := by
   intro j u hu
   have hpos : 0 < m := by
    rcases Nat.eq_zero_or_pos m with h0 | h0
    ·have hn : ys = [] := List.eq_nil_of_length_eq_zero (by have := hr.1; rw [h0] at this; simpa using this)
     rw [hn] at hu; simp at hu
    ·exact h0
   obtain ⟨b, o', hA, _, hc⟩ := hr.2 hpos
   injection hA with hA
   subst hA
   have := hc j u hu
   rwa [Addr.add_lit]
  obtain ⟨v', w', hrun, h2, h3, _, h5⟩ := run_append_own_at (P := P) w w.heap.size t ty e i0 z size bytes hE.ht hi1 hi2 hi3 hi4 hE.hzs hE.hsz _ 0 [] hown ad m c ys hr.1 hcells h1 (by unfold maxLen; omega) (by rw [Nat.zero_add]; exact hb) (Nat.le_refl _)
  rw [Nat.zero_add, List.nil_append] at h2
  obtain ⟨C', cap', rfl⟩ := own_form h2
  have hc := own_caps h2
  exact ⟨C', cap', w', hrun, hc.1, hc.2.1, h2, ⟨h3.os, h3.tape, h3.output, h3.size, fun k hk => h3.block k hk (by simp [Value.ownBlock])⟩⟩
section
variable {P : Program} {M : Nat → Prop} {row : Option Nat} {w0 w1 : World} {L : List Hp} {sp : SpW} {F : Act → Prop} {S0 : Array Bool}
variable {ops : Array Oper} {o : Oper} {rest : List Oper} {a : Act} {k : Nat}
end
end Go.Proofs.YtnbbllkbefagmaaGreatDoor

namespace Go.Proofs.YtnbbllkbefagmaaGreatDoor
open Go.RowKit
set_option linter.unusedVariables false
set_option linter.unusedSimpArgs false

theorem bytesEq {a b : ByteArray} (h : a.toList = b.toList) : a = b := Go.WideShapes.bytes_inj (by rw [← ByteArray.toList_eq, ← ByteArray.toList_eq]; exact h)
end Go.Proofs.YtnbbllkbefagmaaGreatDoor

namespace Go.Proofs.YtnbbllkbefagmaaGreatDoor
open Go.RowKit
set_option linter.unusedVariables false
set_option linter.unusedSimpArgs false

/-- a table in plain words -/
structure Tb where
 nm : ByteArray
 cs : List Col
 nx : Int
 rs : List Row
deriving DecidableEq
end Go.Proofs.YtnbbllkbefagmaaGreatDoor

namespace Go.Proofs.YtnbbllkbefagmaaGreatDoor
open Go.RowKit
set_option linter.unusedVariables false
set_option linter.unusedSimpArgs false

/-- a new block's, to be written -/
def NewSlot (M : Nat → Prop) (H : Nat) (t : TypeId) (cs : Array Value) (u : Value) (w : World) : Prop := ∃ g : Nat, u = .pointer (some ⟨g, 0, none⟩) ∧ H ≤ g ∧ Ro w M (fun w => w.heap[g]? = some (.cells cs t (0, 0)))
theorem newSlot_mono {M : Nat → Prop} {H : Nat} {t : TypeId} {cs : Array Value} (u : Value) (w w' : World) (hr : RM M w w') (h : NewSlot M H t cs u w) : NewSlot M H t cs u w' := by
 obtain ⟨g, h1, h2, h3⟩ := h
 exact ⟨g, h1, h2, hr.ro h3⟩
/-- A block that came since w1, known whole. -/
theorem Hold.addFreshBlk {M : Nat → Prop} {row : Option Nat} {w0 w1 w : World} {L : List Hp} (K1 : Hold M row w0 w1 L) (K : Hold M row w0 w L) (hr : RM (Mut M L) w1 w) {g : Nat} {t : TypeId} {cs : Array Value} (hg : w1.heap.size ≤ g) (hb : w.heap[g]? = some (.cells cs t (0, 0))) :
  Hold M row w0 w (.blk g t cs :: L) := by
 have hgl : g < w.heap.size := Blk.lt (t := t) (cs := cs) hb
 have hno : ∀ k ∈ L, k.foot ≠ some g := fun k hk hf => by have := (K1.fresh k hk g hf).2; omega
 have ee : ∀ b, b < w1.heap.size → Mut M (.blk g t cs :: L) b → Mut M L b := fun b hl hb => by
  rcases mut_cons.1 hb with hf | hm
  ·have : some g = some b := hf
   injection this with this
   omega
  ·exact hm
 refine ⟨K.grow, K.low, fun k hk => ?_, fun k hk b hf => ?_, ⟨fun b hf k hk he => ?_, K.sep⟩⟩
 ·rcases List.mem_cons.1 hk with rfl | hk
  ·exact hb
  ·have h1 := K1.sat k hk
   have h2 := K.sat k hk
   cases k with
   | blk g' t' cs' => exact h2
   | own e s v n' xs => exact h2
   | tp T =>
    refine ⟨h2.1, fun b hb' => ?_⟩
    have hT : T < w1.heap.size := (K1.fresh _ hk T rfl).2
    rcases mut_cons.1 hb' with hf | hm'
    ·have : some g = some b := hf
     injection this with this
     omega
    ·exact h2.2 b hm'
   | ro S => exact Ro.step h1 hr.1 hr.2 ee
   | cst g' t' cs' => exact Ro.step h1 hr.1 hr.2 ee
   | ob g' F' => exact h2
 ·rcases List.mem_cons.1 hk with rfl | hk
  ·have : some g = some b := hf
   injection this with this
   subst this
   exact ⟨.inl (Nat.le_trans K1.grow.size hg), hgl⟩
  ·exact K.fresh k hk b hf
 ·have : some g = some b := hf
  injection this with this
  subst this
  exact hno k hk he
section
variable {M : Nat → Prop}
end
end Go.Proofs.YtnbbllkbefagmaaGreatDoor

namespace Go.Proofs.YtnbbllkbefagmaaGreatDoor
open Go.RowKit
set_option linter.unusedVariables false
set_option linter.unusedSimpArgs false
section
variable {P : Program} {M : Nat → Prop} {row : Option Nat} {w0 w1 : World} {L : List Hp} {sp : SpW} {F : Act → Prop} {S0 : Array Bool}
variable {ops : Array Oper} {o : Oper} {rest : List Oper} {a : Act} {k : Nat}
/-- append(nil, xs...): the copy is the call's own -/
theorem dw_cloneO {t e : TypeId} {size bytes : Nat} {z : Value} (hE : ElemT P t e size bytes z) (d : Tmp) (V : Value → World → Prop) (hS : S0.getD k false = false) (hw : Region.wanted o (yielded ops a.tmps) = true) (hd : o.dst = some d) (hsp : sp d = some V)
  (s x : Operand) (ho : o.op = .call { callee := .builtin .append, args := #[s, x], argTypes := #[t, t] }) (hs : a.eval s = .slice none 0 0) {A : Option Addr} {m c : Nat} {ys : List Value} (hx : a.eval x = .slice A m c) (h1 : ∀ u ∈ ys, u.oneCell' = true) (hq : m < 140737488355328) (hb : m * bytes ≤ 140737488355328)
  (hr : ∀ w, Hold M row w0 w L → Deps ops (GW sp) o a w → SlR size A m ys w) (hV : ∀ C' cap' w w', Hold M row w0 w L → RM (Mut M L) w1 w → Hold M row w0 w' L → m ≤ cap' → cap' ≤ 9223372036854775807 → w'.ownsRow w.heap.size e size (.slice C' m cap') m ys → V (.slice C' m cap') w')
  (hn : ∀ u w, Hold M row w0 w L → V u w → wpRel P ops (HC M row w0 w1 L) (GW sp) (RM (Mut M L)) S0 F (k + 1) rest (a.put (some d) u)) : wpRel P ops (HC M row w0 w1 L) (GW sp) (RM (Mut M L)) S0 F k (o :: rest) a := by
 refine rel_step hS hw d hd (fun w hC hD => ?_) fun u w hC hu => hn u w hC.1 ((GW_on hsp).1 hu)
 obtain ⟨C', cap', w', hrun, c1, c2, ho2, hb2⟩ := run_cloneNil hE o.type w (hr w hC.1 hD) (c := c) h1 hq hb
 have hH := hC.1.call hb2
 refine ⟨.slice C' m cap', w', ?_, (GW_on hsp).2 (hV C' cap' w w' hC.1 hC.2 hH c1 c2 ho2), ⟨hH, hC.2.trans (RM.below hb2)⟩, RM.below hb2⟩
 unfold execOp
 simp only [ho, resolve, invoke, builtin, Sem.run_bind, Sem.run_pure, Result.andThen_ok, List.map_toArray, List.map_cons, List.map_nil, hs, hx, hrun]
end
/-- an own row, as a statement that stays -/
theorem Ro.own {w : World} {M : Nat → Prop} {b0 b1 : Nat} (hM : ∀ b, M b → b < b1) (h01 : b0 ≤ b1) {e : TypeId} {size n : Nat} {v : Value} {xs : List Value} (h : w.ownsRow b1 e size v n xs) : Ro w M (fun w => w.ownsRow b0 e size v n xs) :=
 fun w2 h1 h2 => own_base h01 (own_RM hM ⟨h1, h2⟩ h)
/-- the rows' values are own rows, each at the head of its block -/
def OwnVals (VT : TypeId) (b0 : Nat) (l : List Rw) (w : World) : Prop := ∀ r ∈ l, w.ownsRow b0 VT 3 (.slice r.A r.n r.c) r.n (vlCells r.vs)
theorem OwnVals.vals {VT : TypeId} {b0 : Nat} {l : List Rw} {w : World} (h : OwnVals VT b0 l w) : ValsIn l w := fun r hr => Rd.of_own (h r hr)
/-- said of a world in which the caller's blocks lie below b0 -/
theorem OwnVals.ro {VT : TypeId} {b0 : Nat} {l : List Rw} {w : World} {M : Nat → Prop} (hM : ∀ b, M b → b < b0) (h : OwnVals VT b0 l w) : Ro w M (ValsIn l) := fun w2 h1 h2 r hr => Rd.of_own (own_RM hM ⟨h1, h2⟩ (h r hr))
theorem OwnVals.far {VT : TypeId} {b0 g : Nat} {l : List Rw} {w : World} {t : TypeId} {cs : Array Value} (h : OwnVals VT b0 l w) (hg : Blk w g t cs) (hne : t ≠ VT) (j : Nat) (u : Value) : OwnVals VT b0 l (w.setCell ⟨g, j, none⟩ u) := fun r hr => by
 have ho := h r hr
 refine ⟨ho.1, ?_⟩
 rcases ho.2 with hz | ⟨g', cap, cur, hv, hb, hh, rest⟩
 ·exact .inl hz
 ·have hn : g' ≠ g := by
   rintro rfl
   have hg2 : w.heap[g']? = some (.cells cs t (0, 0)) := hg
   rw [hh] at hg2
   injection hg2 with hg2
   injection hg2 with _ hg2
   exact hne hg2.symm
  exact .inr ⟨g', cap, cur, hv, hb, (Below.heap_setCell _ _ _ g' hn).trans hh, rest⟩
end Go.Proofs.YtnbbllkbefagmaaGreatDoor

namespace Go.Proofs.YtnbbllkbefagmaaGreatDoor
open Go.RowKit
set_option linter.unusedVariables false
set_option linter.unusedSimpArgs false

def Sm.val (s : Sm) : Value := .agg #[.string s.nm, .slice s.cols.A s.cols.n s.cols.c]
/-- the place with one more frame -/
def Pl.more (p : Pl) (s : Sm) (A : Option Addr) (c : Nat) : Pl := ⟨⟨A, p.fr.n + 1, c, p.fr.l ++ [⟨s.nm, false, s.cols, SlP.nil⟩]⟩, p.tb⟩
def InsRet (w : World) (M : Nat → Prop) (p : Pl) (s : Sm) (e : Ending) (w' : World) : Prop := ∃ (A : Option Addr) (c : Nat), e = .returned (p.more s A c).val ∧ p.fr.n + 1 ≤ c ∧ Ro w' M (PlIn (p.more s A c)) ∧ Below w.heap.size w w'
theorem Tryz.elFr : ElemT Tryz.prog 149 210 4 72 (.agg #[.string ⟨#[]⟩, .bool false, .slice none 0 0, .slice none 0 0]) := ⟨Tryz.underlying149, by kernel_rfl, rfl, by omega⟩
theorem one_frs (l : List Fr) : ∀ u ∈ frCells l, u.oneCell' = true := fun u hu => by
 unfold frCells at hu
 rw [List.mem_flatMap] at hu
 obtain ⟨x, _, hx⟩ := hu
 simp only [Fr.cells, List.mem_cons, List.not_mem_nil, or_false] at hx
 rcases hx with rfl | rfl | rfl | rfl <;> rfl
def FrOwn (b0 n : Nat) (l : List Fr) (u : Value) (w : World) : Prop := ∃ (A : Option Addr) (c : Nat), u = .slice A n c ∧ w.ownsRow b0 210 4 (.slice A n c) n (frCells l)
theorem frOwn_mono {M : Nat → Prop} {b0 n : Nat} {l : List Fr} (hM : ∀ b, M b → b < b0) (u : Value) (w w' : World) (hr : RM M w w') (h : FrOwn b0 n l u w) : FrOwn b0 n l u w' := by
 obtain ⟨A, c, h1, h2⟩ := h
 exact ⟨A, c, h1, own_RM hM hr h2⟩
def FrOne (M : Nat → Prop) (cs : List Value) (u : Value) (w : World) : Prop := ∃ g : Nat, u = .slice (some ⟨g, 0, none⟩) 1 1 ∧ Ro w M (SlR 4 (some ⟨g, 0, none⟩) 1 cs)
theorem frOne_mono {M : Nat → Prop} {cs : List Value} (u : Value) (w w' : World) (hr : RM M w w') (h : FrOne M cs u w) : FrOne M cs u w' := by
 obtain ⟨g, h1, h2⟩ := h
 exact ⟨g, h1, hr.ro h2⟩
set_option maxRecDepth 100000 in
set_option maxHeartbeats 8000000 in
theorem inside_any (M : Nat → Prop) (w : World) (hM : ∀ b, M b → b < w.heap.size) (p : Pl) (s : Sm) (hp : Ro w M (PlIn p)) (hs : Ro w M (SmIn s)) (hn : p.fr.n ≤ 1000) :
  Calls Tryz.prog 158 #[p.val, s.val] w fun e w' => InsRet w M p s e w' := by
 obtain ⟨⟨fA, fn, fc, fl⟩, ⟨sA, sn, sc, sl⟩⟩ := p
 obtain ⟨snm, ⟨cA, cn, cc, cl⟩⟩ := s
 simp only at hn
 have hL := hid (show fl.length = fn from FrsIn.len hp.now.1)
 have K0 := ((((((Hold.start M w hM).add (hs.less (by simp [Mut]))).add ((hp.imp (S' := SmsIn ⟨sA, sn, sc, sl⟩) fun w2 h2 => h2.2).less (by simp [Mut, Hp.foot]))).add ((hp.imp (S' := FrsIn ⟨fA, fn, fc, fl⟩) fun w2 h2 => h2.1).less (by simp [mut_cons, Mut, Hp.foot]))).alloc_cst #[.slice fA fn fc, .slice sA sn sc] 177).alloc_cst #[.string snm, .slice cA cn cc] 49).alloc #[.slice none 0 0, .slice none 0 0] 177
 rw [World.size_alloc, World.size_alloc] at K0
 obtain ⟨gp, hgp⟩ : ∃ g, g = w.heap.size := ⟨_, rfl⟩
 rw [← hgp] at K0
 obtain ⟨gs, hgs⟩ : ∃ g, g = gp + 1 := ⟨_, rfl⟩
 obtain ⟨gr, hgr⟩ : ∃ g, g = gs + 1 := ⟨_, rfl⟩
 rw [← hgs, ← hgr] at K0
 obtain ⟨KL, hKL⟩ : ∃ KL : List Hp, KL = [.cst gp 177 #[.slice fA fn fc, .slice sA sn sc], .cst gs 49 #[.string snm, .slice cA cn cc], .ro (FrsIn ⟨fA, fn, fc, fl⟩), .ro (SmsIn ⟨sA, sn, sc, sl⟩), .ro (SmIn ⟨snm, ⟨cA, cn, cc, cl⟩⟩), .blk gr 177 #[.slice none 0 0, .slice none 0 0]] := ⟨_, rfl⟩
 have hcast : ∀ (L1 : List Hp) (wz : World), Hold M none w wz L1 → L1 = KL → Hold M none w wz KL := fun _ _ h e => e ▸ h
 have K1 := hcast _ _ (K0.pick [2, 1, 3, 4, 5, 0] (by decide) rfl) hKL.symm
 have F0 := K0.facts
 simp only [factsL, cellsF, Nat.reduceAdd, zf, zl] at F0
 have H1 : ∀ wv : World, Hold M none w wv KL → Blk wv gp 177 #[.slice fA fn fc, .slice sA sn sc] := fun wv h => by rw [hKL] at h; exact h.cst_ 0 rfl
 have H2 : ∀ wv : World, Hold M none w wv KL → Blk wv gs 49 #[.string snm, .slice cA cn cc] := fun wv h => by rw [hKL] at h; exact h.cst_ 1 rfl
 have H3 : ∀ wv : World, Hold M none w wv KL → SlR 4 fA fn (frCells fl) wv := fun wv h => by rw [hKL] at h; exact (h.ro 2 rfl).now.1
 have HH1 := hid H1
 have HH2 := hid H2
 have HH3 := hid H3
 have HKL := hid hKL
 clear hKL hcast H1 H2 H3 K0 hp hs
 simp only [Pl.val, Sm.val]
 go_enter Tryz.func158, Tryz.ntmps158
 go_wp2_with fail
 rw [← hgp]
 try rw [← hgs]
 try rw [← hgr]
 have HG := hid (And.intro hgp (And.intro hgs hgr))
 clear hgp hgs hgr F0
 obtain ⟨w1, hw1⟩ : ∃ w1, w1 = ((w.alloc (.cells #[.slice fA fn fc, .slice sA sn sc] 177)).alloc (.cells #[.string snm, .slice cA cn cc] 49)).alloc (.cells #[.slice none 0 0, .slice none 0 0] 177) := ⟨_, rfl⟩
 rw [← hw1] at K1 ⊢
 have HW1 := hid hw1
 clear hw1
 have hb0 : ∀ b, Mut M KL b → b < w1.heap.size := K1.mutLt
 refine wp_region_any (by kernel_rfl) ?_
 refine wpAny_hold 9 20 (KL) (spL [(8, FrOwn w1.heap.size fn fl), (14, FrOne (Mut M KL) [.string snm, .bool false, .slice cA cn cc, .slice none 0 0])]) (by kernel_rfl) (by kernel_rfl) (by kernel_rfl) rfl ?_ (K1.drew) ?_
 ·exact stays_cons (frOwn_mono hb0) (stays_cons frOne_mono (stays_nil _))
 simp only [zd, Act.put, List.getElem_toArray, List.getElem_cons_zero, List.getElem_cons_succ, zl]
 refine dw_val rfl rfl rfl ?_; apply Exists.intro; refine ⟨fun wv HC => ?_, ?_⟩
 · go_simp <;> rfl
 simp only [Act.put, zl]
 refine dw_val rfl rfl rfl ?_; apply Exists.intro; refine ⟨fun wv HC => ?_, ?_⟩
 ·have q0 := (HH1.out _ HC).cell 0; go_simp <;> rfl
 simp only [Act.put, zl]
 refine dw_cloneO Tryz.elFr 8 (FrOwn w1.heap.size fn fl) rfl rfl rfl rfl (.const (.slice none 0 0)) (.tmp 7) rfl rfl (A := fA) (m := fn) (c := fc) (ys := frCells fl) rfl (one_frs _) (by omega) (by omega) (fun wv HC hD => HH3.out _ HC) (fun C9 c9 wa wv HCa hrm HC q1 q2 hro => ⟨C9, c9, rfl, own_base (show w1.heap.size ≤ wa.heap.size from hrm.1) hro⟩) ?_
 rintro u wx HCx ⟨A8, c8, rfl, -⟩
 clear HCx
 simp only [Act.put, zl]
 refine dw_val rfl rfl rfl ?_; apply Exists.intro; refine ⟨fun wv HC => ?_, ?_⟩
 · go_simp <;> rfl
 simp only [Act.put, zl]
 refine dw_val rfl rfl rfl ?_; apply Exists.intro; refine ⟨fun wv HC => ?_, ?_⟩
 ·have q0 := (HH2.out _ HC).cell 0; go_simp <;> rfl
 simp only [Act.put, zl]
 refine dw_val rfl rfl rfl ?_; apply Exists.intro; refine ⟨fun wv HC => ?_, ?_⟩
 · go_simp <;> rfl
 simp only [Act.put, zl]
 refine dw_val rfl rfl rfl ?_; apply Exists.intro; refine ⟨fun wv HC => ?_, ?_⟩
 ·have q0 := (HH2.out _ HC).cell 1; go_simp <;> rfl
 simp only [Act.put, zl]
 refine dw_val rfl rfl rfl ?_; apply Exists.intro; refine ⟨fun wv HC => ?_, ?_⟩
 · go_simp <;> rfl
 simp only [Act.put, zl]
 refine dw_new #[.string snm, .bool false, .slice cA cn cc, .slice none 0 0] 210 14 (FrOne (Mut M KL) [.string snm, .bool false, .slice cA cn cc, .slice none 0 0]) (fun g => .slice (some ⟨g, 0, none⟩) 1 1) rfl rfl rfl rfl (fun wv => ?_) (fun wv HC _hrm hD hro => ?_) ?_
 ·go_simp <;> rfl
 ·exact ⟨_, rfl, ro_block (hro _ HC.mutLt) rfl⟩
 rintro g14 wg HCg h14
 simp only [Act.put, zl]
 clear HCg h14
 refine rel_nil ?_
 rintro wx2 HX
 rintro hrm HGW
 have h8 : FrOwn w1.heap.size fn fl (.slice A8 fn c8) wx2 := (GW_on (d := 8) rfl).1 (HGW 2 _ rfl (by omega))
 have h14 : FrOne (Mut M KL) [.string snm, .bool false, .slice cA cn cc, .slice none 0 0] (.slice (some ⟨g14, 0, none⟩) 1 1) wx2 := (GW_on (d := 14) rfl).1 (HGW 8 _ rfl (by omega))
 clear HGW
 obtain ⟨A8', c8', e8, h8⟩ := h8
 obtain ⟨rfl, rfl⟩ : A8 = A8' ∧ c8 = c8' := by injection e8 with e1 e2 e3; exact ⟨e1, e3⟩
 obtain ⟨g', e14, h14⟩ := h14
 obtain rfl : g14 = g' := by injection e14 with e14; injection e14 with e14; injection e14
 have K9 := K1.drew.addOwn HX hrm h8
 rw [HKL.out] at K9
 have HSR := hid h14.now
 clear hrm HX h8 h14 HH1 HH2 HH3 K1 e8 e14 hb0
 have F9 := K9.facts
 simp only [factsL, cellsF, Nat.reduceAdd, zf, zl] at F9
 go_wp2_with (at_builtin; go_must (refine wpList_appAllH K9 0 rfl Tryz.elFr HSR.out rfl (.tmp 8) (.tmp 14) rfl rfl rfl (by intro u hu; simp at hu; rcases hu with rfl | rfl | rfl | rfl <;> rfl) (by omega) (by omega) ?_); intro C9 cap9 w9 hc9 hm9 KB; simp only [List.set_cons_zero] at KB; have FB := KB.facts; simp only [factsL, cellsF, Nat.reduceAdd, zf, zl] at FB)
 have K5 := (KB.store 6 rfl 0 (.slice C9 (fn + 1) cap9)).store 6 rfl 1 (.slice sA sn sc)
 simp only [zl] at K5
 have F5 := K5.facts
 simp only [factsL, cellsF, Nat.reduceAdd, zf, zl] at F5
 have KS := K5.sealRow 0 rfl
 simp only [List.set_cons_zero] at KS
 have hR : Ro _ _ (PlIn (Pl.more ⟨⟨fA, fn, fc, fl⟩, ⟨sA, sn, sc, sl⟩⟩ ⟨snm, ⟨cA, cn, cc, cl⟩⟩ C9 cap9)) := ((KS.ro 0 rfl).and ((KS.ro 3 rfl).and ((KS.ro 4 rfl).and (KS.ro 5 rfl)))).imp fun w2 h2 => ⟨⟨by
   have h3 := h2.1
   have e : frCells fl ++ [.string snm, .bool false, .slice cA cn cc, .slice none 0 0] = (fl ++ [(⟨snm, false, ⟨cA, cn, cc, cl⟩, SlP.nil⟩ : Fr)]).flatMap Fr.cells := by simp [frCells, Fr.cells, SlP.v, SlP.nil]
   rw [e] at h3
   exact h3, fun x hx => by
   have hx : x ∈ fl ++ [(⟨snm, false, ⟨cA, cn, cc, cl⟩, SlP.nil⟩ : Fr)] := hx
   rcases List.mem_append.1 hx with hx | hx
   ·exact h2.2.1.2 x hx
   ·simp only [List.mem_cons, List.not_mem_nil, or_false] at hx
    subst hx
    exact ⟨h2.2.2.2, SlP.nil_in _ _ _ _⟩⟩, h2.2.2.1⟩
 have HR := hid (hR.less zm)
 have HB := hid K5.below
 clear K5 KS KB hR
 refine bodyPost_ret (v := .agg #[.slice C9 (fn + 1) cap9, .slice sA sn sc]) ?_ rfl ?_
 ·clear HR HB
  simp [results, Tryz.results158, go_sem, F5]
 ·exact ⟨C9, cap9, rfl, hc9, HR.out, HB.out⟩
end Go.Proofs.YtnbbllkbefagmaaGreatDoor

namespace Go.Proofs.YtnbbllkbefagmaaGreatDoor
open Go.RowKit
set_option linter.unusedVariables false
set_option linter.unusedSimpArgs false

set_option maxHeartbeats 1000000 in
theorem rvalid_all (k i : Int) (s : ByteArray) (w : World) :
  Calls Tryz.prog 182 #[.agg #[.int .i64 k, .int .i64 i, .string s]] w fun e w' => e = .returned (.bool (validB k i s)) ∧ w.alloc (.cells #[.int .i64 k, .int .i64 i, .string s] 122) = w' := by
 by_cases h0 : k = 0
 ·subst h0
  cases hi : (i == 0) <;> cases he : s.toList.isEmpty
  all_goals
   go_enter Tryz.func182, Tryz.ntmps182
   go_wp2_with fail
   go_ret
   refine ⟨?_, rfl⟩
   simp [validB, hi, he]
 by_cases h1 : k = 1
 ·subst h1
  go_enter Tryz.func182, Tryz.ntmps182
  go_wp2_with fail
  go_ret
  refine ⟨?_, rfl⟩
  simp [validB]
 by_cases h2 : k = 2
 ·subst h2
  cases hi : (i == 0) <;> cases hj : (i == 1)
  all_goals
   go_enter Tryz.func182, Tryz.ntmps182
   go_wp2_with fail
   go_ret
   refine ⟨?_, rfl⟩
   simp [validB, hi, hj]
 by_cases h3 : k = 3
 ·subst h3
  cases hi : (i == 0)
  ·have hi' : (i != 0) = true := by simp only [bne, hi, Bool.not_false]
   go_enter Tryz.func182, Tryz.ntmps182
   go_wp2_with fail
   go_ret
   refine ⟨?_, rfl⟩
   simp [validB, hi]
  ·have hi' : (i != 0) = false := by simp only [bne, hi, Bool.not_true]
   by_cases hl : s.size ≤ 64
   ·have l0 : ((s.size : Int)) ≤ 64 := by omega
    have HV : Hid (validB 3 i s = plainB s) := by unfold Hid; simp [validB, hi]
    have B0 := Blk.new w 122 #[.int .i64 3, .int .i64 i, .string s]
    obtain ⟨c0, c1, c2, cl⟩ := B0.c3
    go_enter Tryz.func182, Tryz.ntmps182
    go_wp2_with fail
    go_loop [3] (fun j => ∃ k : Nat, k ≤ s.size ∧ j = .int .i64 k ∧ (s.data.toList.take k).all okByte = true) (fun j => s.size - (intOf j).toNat)
    case atStart => exact ⟨0, by omega, rfl, rfl⟩
    case round =>
     obtain ⟨k, hk, rfl, hall⟩ := hrel
     have HA := hid hall; clear hall
     by_cases hlt : k < s.size
     ·have hts : Hid (s.data.toList.take (k + 1) = s.data.toList.take k ++ [s[k]]) := by
       unfold Hid; rw [List.take_succ_eq_append_getElem (by simpa using hlt)]; rfl
      by_cases hb : 32 ≤ s[k].toNat ∧ s[k].toNat ≤ 126
      ·have b1 : (32 : Int) ≤ (s[k].toNat : Int) := by omega
       have b2 : (s[k].toNat : Int) ≤ 126 := by omega
       have HB := hid hb; clear hb
       go_wp2_with fail
       go_round
       case rel => exact ⟨k + 1, by omega, by go_num, by rw [hts.out, List.all_append, HA.out]; simp [okByte, HB.out]⟩
       case measure => simp [intOf]; omega
      ·have hno : Hid (plainB s = false) := by
        unfold Hid plainB
        have : s.data.toList.all okByte = false := by
         rw [List.all_eq_false]
         exact ⟨s[k], List.mem_of_getElem (i := k) (h := by simpa using hlt) rfl, by simp [okByte]; omega⟩
        rw [this]; rfl
       by_cases h32 : (s[k].toNat : Int) < 32
       ·clear hb
        go_wp2
        go_ret
        exact ⟨by rw [HV.out, hno.out]; rfl, rfl⟩
       ·have h126 : (126 : Int) < (s[k].toNat : Int) := by omega
        clear hb
        go_wp2
        go_ret
        exact ⟨by rw [HV.out, hno.out]; rfl, rfl⟩
     ·obtain rfl : k = s.size := by omega
      have hyes : Hid (plainB s = true) := by
       unfold Hid plainB
       have h := HA.out
       rw [List.take_of_length_le (by simp)] at h
       rw [h]; simpa using hl
      go_wp2
      go_ret
      exact ⟨by rw [HV.out, hyes.out]; rfl, rfl⟩
   ·have l0 : (64 : Int) < (s.size : Int) := by omega
    have HV : Hid (validB 3 i s = false) := by unfold Hid; simp [validB, hi, plainB]; omega
    go_enter Tryz.func182, Tryz.ntmps182
    go_wp2_with fail
    go_ret
    exact ⟨by rw [HV.out]; rfl, rfl⟩
 ·have k0 : (k == 0) = false := by simpa using h0
  have k1 : (k == 1) = false := by simpa using h1
  have k2 : (k == 2) = false := by simpa using h2
  have k3 : (k == 3) = false := by simpa using h3
  go_enter Tryz.func182, Tryz.ntmps182
  go_wp2_with fail
  go_ret
  refine ⟨?_, rfl⟩
  simp [validB, h0, h1, h2, h3]

end Go.Proofs.YtnbbllkbefagmaaGreatDoor

namespace Go.Proofs.YtnbbllkbefagmaaGreatDoor
open Go.RowKit
set_option linter.unusedVariables false

/-- A call that gives a value, and turns nothing that was there. -/
def Gives (f : FuncId) (args : Array Value) (v : Value) : Prop :=
 ∀ w : World, Calls Tryz.prog f args w fun e w' => e = .returned v ∧ Below w.heap.size w w'

end Go.Proofs.YtnbbllkbefagmaaGreatDoor

namespace Go.Proofs.YtnbbllkbefagmaaGreatDoor
open Go.RowKit
set_option linter.unusedVariables false
set_option linter.unusedSimpArgs false

end Go.Proofs.YtnbbllkbefagmaaGreatDoor

namespace Go.Proofs.YtnbbllkbefagmaaGreatDoor
open Go.RowKit
set_option linter.unusedVariables false
set_option linter.unusedSimpArgs false

end Go.Proofs.YtnbbllkbefagmaaGreatDoor

namespace Go.Proofs.YtnbbllkbefagmaaGreatDoor
open Go.RowKit
set_option linter.unusedVariables false
set_option linter.unusedSimpArgs false

end Go.Proofs.YtnbbllkbefagmaaGreatDoor

namespace Go.Proofs.YtnbbllkbefagmaaGreatDoor
open Go.RowKit Go.Maps
set_option linter.unusedVariables false

/-- Keys of one type, said by plain data. -/
structure KeyFam (P : Program) (k : TypeId) (κ : Type) where
 val : κ → Value
 ok : κ → Prop
 key : ∀ x, ok x → ∃ kl, keyOf P k (val x) = some kl
 inj : ∀ x y, val x = val y → x = y
/-- The map's type: key, element, its laws. -/
structure SetT (P : Program) (t k e : TypeId) : Prop where
 ht : P.underlying t = some (.map k e)
 he : P.underlying e = some .bool
 hz : ∀ w : World, (zeroValue e).run P w = .ok (.bool false) w
 law : Keyed P k
/-- Block b is a map that says true at the keys of S, and at no other. -/
def MSet {P : Program} {k : TypeId} {κ : Type} (e : TypeId) (F : KeyFam P k κ) (b n : Nat) (S : κ → Prop) (w : World) : Prop :=
 ∃ D : DataW Unit, w.ownsMap P k (plainElem P e) b n D ∧ ∀ x, F.ok x → ∀ kl, keyOf P k (F.val x) = some kl → ∃ c : Bool, D.atKey kl (.lit (.bool false)) = .lit (.bool c) ∧ (c = true ↔ S x)
section
variable {P : Program} {t k e : TypeId} {κ : Type} {F : KeyFam P k κ} {b n : Nat} {S : κ → Prop} {w w' : World}
theorem MSet.made (e : TypeId) (F : KeyFam P k κ) (w : World) (h : w.heap[b]? = some (.map #[] 0)) : MSet e F b 0 (fun _ => False) w := by
 have h0 := World.ownsMap_made w P k (plainElem (H := Unit) P e)
 obtain ⟨es, clock, h1, h2⟩ := h0
 have h3 : (w.alloc (.map #[] 0)).heap[w.heap.size]? = some (.map #[] 0) := heap_alloc_new w _
 rw [h3] at h1
 injection h1 with h1
 injection h1 with h4 h5
 subst h4 h5
 refine ⟨.map [], ⟨#[], 0, h, h2⟩, fun x _ kl _ => ⟨false, rfl, by simp⟩⟩
theorem plainElem_bool_inv {H : Type} (he : P.underlying e = some .bool) {v : Value} {z : DataW H × List MemPlace} (h : plainElem P e v = some z) : ∃ c, v = .bool c ∧ z = (.lit (.bool c), []) := by
 unfold plainElem at h
 rw [he] at h
 cases v <;> simp at h
 subst h
 exact ⟨_, rfl, rfl⟩
/-- m[x] -/
theorem MSet.look (T : SetT P t k e) (h : MSet e F b n S w) {x : κ} (hx : F.ok x) : ∃ c : Bool, (Instr.lookup t (.map (some b)) (F.val x) false).run P w = .ok (.bool c) w ∧ (c = true ↔ S x) := by
 obtain ⟨D, h1, h2⟩ := h
 obtain ⟨kl, hk⟩ := F.key x hx
 obtain ⟨c, h3, h4⟩ := h2 x hx kl hk
 obtain ⟨v, ps, hrun, hv⟩ := h1.lookup T.law T.ht (T.hz w) (plainElem_bool T.he false) hk
 obtain ⟨c', rfl, h5⟩ := plainElem_bool_inv T.he hv
 rw [h3] at h5
 injection h5 with h5
 injection h5 with h5
 injection h5 with h5
 subst h5
 exact ⟨c, hrun, h4⟩
/-- m[x] = true -/
theorem MSet.put (T : SetT P t k e) (h : MSet e F b n S w) {x : κ} (hx : F.ok x) (hn : n < maxLen) : ∃ w', (Instr.mapUpdate t (.map (some b)) (F.val x) (.bool true)).run P w = .ok () w' ∧ MSet e F b (n + 1) (fun y => y = x ∨ S y) w' ∧ w.grownBy w' (some b) := by
 obtain ⟨D, h1, h2⟩ := h
 obtain ⟨kl, hk⟩ := F.key x hx
 obtain ⟨w', hrun, h3, h4⟩ := h1.update T.law T.ht hn hk (plainElem_bool T.he true)
 refine ⟨w', hrun, ⟨_, h3, fun y hy kl' hk' => ?_⟩, h4⟩
 by_cases hxy : y = x
 ·subst hxy
  rw [hk] at hk'
  injection hk' with hk'
  subst hk'
  refine ⟨true, ?_, by simp⟩
  have hD : IsMap D := by
   obtain ⟨es, clock, _, _, _, rfl⟩ := h1
   exact ⟨_, rfl⟩
  rw [atKey_put_same hD (T.law.key hk)]
 ·have hne : kl' ≠ kl := fun e => by
   subst e
   exact hxy (F.inj _ _ (T.law.inj hk' hk))
  obtain ⟨c, h5, h6⟩ := h2 y hy kl' hk'
  exact ⟨c, by rw [atKey_put_other hne]; exact h5, by rw [h6]; simp [hxy]⟩
end
section
variable {P : Program} {M : Nat → Prop} {row : Option Nat} {w0 w : World} {L : List Hp} {t k e : TypeId} {κ : Type} {F : KeyFam P k κ} {b n : Nat} {S : κ → Prop}
end
end Go.Proofs.YtnbbllkbefagmaaGreatDoor

namespace Go.Proofs.YtnbbllkbefagmaaGreatDoor
open Go.RowKit Go.Maps
set_option linter.unusedVariables false
set_option linter.unusedSimpArgs false

end Go.Proofs.YtnbbllkbefagmaaGreatDoor

namespace Go.Proofs.YtnbbllkbefagmaaGreatDoor
open Go.RowKit
set_option linter.unusedVariables false
set_option linter.unusedSimpArgs false

def letterN (x : Nat) : Bool := decide (97 ≤ x) && decide (x ≤ 122)
def digitN (x : Nat) : Bool := decide (48 ≤ x) && decide (x ≤ 57)
def nameN (x : Nat) : Bool := letterN x || digitN x || x == 95
def nameB (s : ByteArray) : Bool := decide (1 ≤ s.size) && decide (s.size ≤ 12) && letterN (s.data.toList.getD 0 0).toNat && s.data.toList.all (fun c => nameN c.toNat)

theorem nameB_len0 {s : ByteArray} (h : s.size < 1) : nameB s = false := by simp [nameB]; omega
theorem nameB_long {s : ByteArray} (h : 12 < s.size) : nameB s = false := by simp [nameB]; omega
theorem nameB_first {s : ByteArray} {c : UInt8} (hc : s.data.toList.getD 0 0 = c) (h : letterN c.toNat = false) : nameB s = false := by
 unfold nameB; rw [hc, h]; simp
theorem nameB_bad {s : ByteArray} {k : Nat} {c : UInt8} (hk : s.data.toList[k]? = some c) (h : nameN c.toNat = false) : nameB s = false := by
 have : s.data.toList.all (fun c => nameN c.toNat) = false := by
  rw [List.all_eq_false]
  exact ⟨c, List.mem_of_getElem? hk, by simp [h]⟩
 unfold nameB; rw [this, Bool.and_false]
theorem nameB_ok {s : ByteArray} {c : UInt8} (h1 : 1 ≤ s.size) (h2 : s.size ≤ 12) (hc : s.data.toList.getD 0 0 = c) (hl : letterN c.toNat = true) (ha : s.data.toList.all (fun c => nameN c.toNat) = true) : nameB s = true := by
 unfold nameB; rw [hc, hl, ha]; simp [h1, h2]
theorem all_snoc {s : ByteArray} {k : Nat} {c : UInt8} {p : UInt8 → Bool} (hk : s.data.toList[k]? = some c) (ha : (s.data.toList.take k).all p = true) (hp : p c = true) : (s.data.toList.take (k + 1)).all p = true := by
 obtain ⟨h, rfl⟩ := List.getElem?_eq_some_iff.1 hk
 rw [List.take_succ_eq_append_getElem h, List.all_append, ha]
 simpa using hp
theorem all_end {s : ByteArray} {p : UInt8 → Bool} (ha : (s.data.toList.take s.size).all p = true) : s.data.toList.all p = true := by
 rwa [List.take_of_length_le (by simp)] at ha
theorem byte_at (s : ByteArray) {k : Nat} (h : k < s.size) : s.data.toList[k]? = some s[k] := by
 rw [List.getElem?_eq_getElem (by simpa using h)]; rfl
theorem first_at (s : ByteArray) (h : 0 < s.size) : s.data.toList.getD 0 0 = s[0] := by
 simp only [List.getD, byte_at s h, Option.getD_some]
theorem nameN_false {x : Nat} (h1 : ¬ (97 ≤ x ∧ x ≤ 122)) (h2 : ¬ (48 ≤ x ∧ x ≤ 57)) (h3 : x ≠ 95) : nameN x = false := by
 simp [nameN, letterN, digitN]; omega
theorem nameN_letter {x : Nat} (h1 : 97 ≤ x) (h2 : x ≤ 122) : nameN x = true := by simp [nameN, letterN, h1, h2]
theorem nameN_digit {x : Nat} (h1 : 48 ≤ x) (h2 : x ≤ 57) : nameN x = true := by simp [nameN, digitN, h1, h2]

end Go.Proofs.YtnbbllkbefagmaaGreatDoor

namespace Go.Proofs.YtnbbllkbefagmaaGreatDoor
open Go.RowKit
set_option linter.unusedVariables false
set_option linter.unusedSimpArgs false

set_option maxHeartbeats 4000000 in
theorem rvalidname_all (s : ByteArray) (w : World) :
  Calls Tryz.prog 160 #[.string s] w fun e w' => e = .returned (.bool (nameB s)) ∧ w = w' := by
 by_cases h1 : s.size < 1
 ·have HN := hid (nameB_len0 h1)
  go_enter Tryz.func160, Tryz.ntmps160
  go_wp2
  go_ret
  exact ⟨by rw [HN.out] <;> rfl, rfl⟩
 by_cases h2 : 12 < s.size
 ·have HN := hid (nameB_long h2)
  go_enter Tryz.func160, Tryz.ntmps160
  go_wp2
  go_ret
  exact ⟨by rw [HN.out] <;> rfl, rfl⟩
 have p0 : 0 < s.size := by omega
 have p1 : 1 ≤ s.size := by omega
 have p2 : s.size ≤ 12 := by omega
 have hf := hid (first_at s p0)
 have hlt : s[0].toNat < 256 := s[0].toNat_lt
 by_cases h3 : s[0].toNat < 97 ∨ 122 < s[0].toNat
 ·have HN := hid (nameB_first hf.out (by simp [letterN]; omega))
  rcases h3 with h3 | h3
  ·go_enter Tryz.func160, Tryz.ntmps160
   go_wp2
   go_ret
   exact ⟨by rw [HN.out] <;> rfl, rfl⟩
  ·have h97 : 97 ≤ s[0].toNat := by omega
   have d1 : decide ((s[0].toNat : Int) ≤ 122) = false := by simp; omega
   have d0 : decide ((97 : Int) ≤ (s[0].toNat : Int)) = true := by simp; omega
   go_enter Tryz.func160, Tryz.ntmps160
   go_wp2
   go_ret
   exact ⟨by rw [HN.out] <;> rfl, rfl⟩
 have h97 : 97 ≤ s[0].toNat := by omega
 have h122 : s[0].toNat ≤ 122 := by omega
 have hl := hid (show letterN s[0].toNat = true by simp [letterN]; omega)
 clear h3
 have d1 : decide ((s[0].toNat : Int) ≤ 122) = true := by simp; omega
 have d0 : decide ((97 : Int) ≤ (s[0].toNat : Int)) = true := by simp; omega
 go_enter Tryz.func160, Tryz.ntmps160
 go_wp2
 go_loop [3] (fun i => ∃ k : Nat, k ≤ s.size ∧ i = .int .i64 k ∧ (s.data.toList.take k).all (fun c => nameN c.toNat) = true) (fun i => s.size - (intOf i).toNat)
 case atStart => exact ⟨0, by omega, rfl, rfl⟩
 case round =>
  obtain ⟨k, hk, rfl, hall⟩ := hrel
  have HA := hid hall; clear hall
  by_cases hlt : k < s.size
  ·have HK := hid (byte_at s hlt)
   have hx : s[k].toNat < 256 := s[k].toNat_lt
   by_cases hcls : (97 ≤ s[k].toNat ∧ s[k].toNat ≤ 122) ∨ (48 ≤ s[k].toNat ∧ s[k].toNat ≤ 57) ∨ s[k].toNat = 95
   ·have HN : Hid (nameN s[k].toNat = true) := by
     unfold Hid
     rcases hcls with ⟨a, b⟩ | ⟨a, b⟩ | a
     ·exact nameN_letter a b
     ·exact nameN_digit a b
     ·rw [a]; rfl
    rcases hcls with ⟨a, b⟩ | ⟨a, b⟩ | a
    ·have e0 : decide ((97 : Int) ≤ (s[k].toNat : Int)) = true := by simp; omega
     have e1 : decide ((s[k].toNat : Int) ≤ 122) = true := by simp; omega
     go_wp2
     go_round
     case rel => exact ⟨k + 1, by omega, by go_num, all_snoc HK.out HA.out HN.out⟩
     case measure => simp [intOf]; omega
    ·have c1 : s[k].toNat < 97 := by omega
     have e0 : decide ((97 : Int) ≤ (s[k].toNat : Int)) = false := by simp; omega
     have e2 : decide ((48 : Int) ≤ (s[k].toNat : Int)) = true := by simp; omega
     have e3 : decide ((s[k].toNat : Int) ≤ 57) = true := by simp; omega
     go_wp2
     go_round
     case rel => exact ⟨k + 1, by omega, by go_num, all_snoc HK.out HA.out HN.out⟩
     case measure => simp [intOf]; omega
    ·have c1 : s[k].toNat < 97 := by omega
     have c2 : 57 < s[k].toNat := by omega
     have c3 : ((s[k].toNat : Int) != 95) = false := by rw [bne_eq_false_iff_eq]; omega
     have e0 : decide ((97 : Int) ≤ (s[k].toNat : Int)) = false := by simp; omega
     have e2 : decide ((48 : Int) ≤ (s[k].toNat : Int)) = true := by simp; omega
     have e3 : decide ((s[k].toNat : Int) ≤ 57) = false := by simp; omega
     clear a
     go_wp2
     go_round
     case rel => exact ⟨k + 1, by omega, by go_num, all_snoc HK.out HA.out HN.out⟩
     case measure => simp [intOf]; omega
   ·have HN : Hid (nameB s = false) := nameB_bad HK.out (nameN_false (by omega) (by omega) (by omega))
    have c3 : ((s[k].toNat : Int) != 95) = true := by rw [bne_iff_ne]; omega
    have hx : s[k].toNat < 48 ∨ (57 < s[k].toNat ∧ s[k].toNat < 97) ∨ 122 < s[k].toNat := by omega
    clear hcls
    rcases hx with h | ⟨h, h'⟩ | h
    ·have e0 : decide ((97 : Int) ≤ (s[k].toNat : Int)) = false := by simp; omega
     have e2 : decide ((48 : Int) ≤ (s[k].toNat : Int)) = false := by simp; omega
     go_wp2
     go_ret
     exact ⟨by rw [HN.out] <;> rfl, rfl⟩
    ·have e0 : decide ((97 : Int) ≤ (s[k].toNat : Int)) = false := by simp; omega
     have e2 : decide ((48 : Int) ≤ (s[k].toNat : Int)) = true := by simp; omega
     have e3 : decide ((s[k].toNat : Int) ≤ 57) = false := by simp; omega
     go_wp2
     go_ret
     exact ⟨by rw [HN.out] <;> rfl, rfl⟩
    ·have e0 : decide ((97 : Int) ≤ (s[k].toNat : Int)) = true := by simp; omega
     have e1 : decide ((s[k].toNat : Int) ≤ 122) = false := by simp; omega
     have e2 : decide ((48 : Int) ≤ (s[k].toNat : Int)) = true := by simp; omega
     have e3 : decide ((s[k].toNat : Int) ≤ 57) = false := by simp; omega
     go_wp2
     go_ret
     exact ⟨by rw [HN.out] <;> rfl, rfl⟩
  ·obtain rfl : k = s.size := by omega
   have HN := hid (nameB_ok p1 p2 hf.out hl.out (all_end HA.out))
   go_wp2
   go_ret
   exact ⟨by rw [HN.out] <;> rfl, rfl⟩
theorem rvalidname_any (s : ByteArray) (w : World) (hs : s.size ≤ maxLen) :
  Calls Tryz.prog 160 #[.string s] w fun e w' => e = .returned (.bool (nameB s)) ∧ w = w' := rvalidname_all s w
end Go.Proofs.YtnbbllkbefagmaaGreatDoor

namespace Go.Proofs.YtnbbllkbefagmaaGreatDoor
open Go.RowKit
set_option linter.unusedVariables false
set_option linter.unusedSimpArgs false

def colOk (l : List Col) (k : Nat) (c : Col) : Bool := nameB c.name && (findB (named c.name) l == (k : Int)) && decide (1 ≤ c.ty) && decide (c.ty ≤ 3) && (!c.key || c.nn)
def schemaB (nm : ByteArray) (l : List Col) : Bool := nameB nm && decide (1 ≤ l.length) && decide (l.length ≤ 6) && okFrom (colOk l) 0 l && decide ((l.filter Col.key).length ≤ 1)
theorem named_self (c : Col) : named c.name c = true := by simp [named]
theorem schemaB_bad {nm : ByteArray} {l : List Col} (h : okFrom (colOk l) 0 l = false) : schemaB nm l = false := by simp [schemaB, h]
theorem schemaB_end {nm : ByteArray} {l : List Col} {n : Nat} (hv : nameB nm = true) (hl : l.length = n) (h1 : 1 ≤ n) (h2 : n ≤ 6) (h : okFrom (colOk l) 0 l = true) : schemaB nm l = decide (((l.filter Col.key).length : Int) ≤ 1) := by
 simp [schemaB, hv, hl, h1, h2, h]; omega
theorem keys_end {l : List Col} {n : Nat} (hl : l.length = n) : ((l.take n).filter Col.key).length = (l.filter Col.key).length := by rw [List.take_of_length_le (by omega)]
theorem keys_le (l : List Col) (k : Nat) : ((l.take k).filter Col.key).length ≤ k := Nat.le_trans (List.length_filter_le _ _) (List.length_take_le _ _)

theorem rvalidname_b (s : ByteArray) (w : World) (hs : s.size ≤ maxLen) : Calls Tryz.prog 160 #[.string s] w fun e w' => e = .returned (.bool (nameB s)) ∧ Below w.heap.size w w' :=
 (rvalidname_any s w hs).mono fun e w' ⟨h1, h2⟩ => ⟨h1, by subst h2; exact Below.refl _ _⟩

set_option maxHeartbeats 8000000 in
theorem rsvalid_any (M : Nat → Prop) (w : World) (hM : ∀ b, M b → b < w.heap.size) (nm : ByteArray) (A : Option Addr) (n c : Nat) (l : List Col) (hD : Ro w M (SlR 4 A n (colCells l))) (hn : n ≤ 9223372036854775807) (hs : nm.size ≤ maxLen) (hok : ∀ x ∈ l, x.name.size ≤ maxLen) :
  Calls Tryz.prog 168 #[.agg #[.string nm, .slice A n c]] w fun e w' => e = .returned (.bool (schemaB nm l)) ∧ Below w.heap.size w w' := by
 have HL := hid (RdC.of_sl hD.now).len
 have K0 := ((Hold.start M w hM).add (hD.less (by simp [Mut]))).alloc_cst #[.string nm, .slice A n c] 49
 cases hv : nameB nm
 ·have HN : Hid (schemaB nm l = false) := by unfold Hid; simp [schemaB, hv]
  have HV := hid hv; clear hv
  go_enter Tryz.func168, Tryz.ntmps168
  go_wp2_with fail
  refine (rvalidname_b nm _ hs).mono ?_
  rintro e w1 ⟨rfl, b1⟩
  have K1 := Hold.call (K0) b1
  clear b1
  try simp only [World.size_alloc] at K1
  have F1 := K1.facts
  simp only [factsL, cellsF, Nat.reduceAdd, zf, zl] at F1
  rw [HV.out]
  go_wp2_with fail
  go_ret
  exact ⟨by rw [HN.out] <;> rfl, K1.below⟩
 have HV := hid hv; clear hv
 by_cases h1 : n < 1
 ·have HN : Hid (schemaB nm l = false) := by unfold Hid; have := HL.out; simp [schemaB]; intros; omega
  go_enter Tryz.func168, Tryz.ntmps168
  go_wp2_with fail
  refine (rvalidname_b nm _ hs).mono ?_
  rintro e w1 ⟨rfl, b1⟩
  have K1 := Hold.call (K0) b1
  clear b1
  try simp only [World.size_alloc] at K1
  have F1 := K1.facts
  simp only [factsL, cellsF, Nat.reduceAdd, zf, zl] at F1
  rw [HV.out]
  go_wp2_with fail
  go_ret
  exact ⟨by rw [HN.out] <;> rfl, K1.below⟩
 by_cases h6 : 6 < n
 ·have HN : Hid (schemaB nm l = false) := by unfold Hid; have := HL.out; simp [schemaB]; intros; omega
  go_enter Tryz.func168, Tryz.ntmps168
  go_wp2_with fail
  refine (rvalidname_b nm _ hs).mono ?_
  rintro e w1 ⟨rfl, b1⟩
  have K1 := Hold.call (K0) b1
  clear b1
  try simp only [World.size_alloc] at K1
  have F1 := K1.facts
  simp only [factsL, cellsF, Nat.reduceAdd, zf, zl] at F1
  rw [HV.out]
  go_wp2_with fail
  go_ret
  exact ⟨by rw [HN.out] <;> rfl, K1.below⟩
 have n1 : 1 ≤ n := by omega
 have n6 : n ≤ 6 := by omega
 go_enter Tryz.func168, Tryz.ntmps168
 go_wp2_with fail
 refine (rvalidname_b nm _ hs).mono ?_
 rintro e w1 ⟨rfl, b1⟩
 have K1 := Hold.call (K0) b1
 clear b1
 try simp only [World.size_alloc] at K1
 have F1 := K1.facts
 simp only [factsL, cellsF, Nat.reduceAdd, zf, zl] at F1
 rw [HV.out]
 go_wp2_with fail
 go_loopw [3, 25] (fun q i wr => ∃ k : Nat, k ≤ n ∧ i = .int .i64 k ∧ q = .int .i64 ((l.take k).filter Col.key).length ∧ okFrom (colOk l) 0 l = okFrom (colOk l) k (l.drop k) ∧ Hold M none w wr [.cst w.heap.size 49 #[.string nm, .slice A n c], .ro (SlR 4 A n (colCells l))]) (fun _ i _ => n - (intOf i).toNat)
 case atStart => exact ⟨0, by omega, rfl, rfl, rfl, K1⟩
 case round =>
  obtain ⟨k, hk, rfl, rfl, hf, H⟩ := hrel
  have HF := hid hf; clear hf F1
  by_cases hlt : k < n
  ·obtain ⟨x, hc⟩ := get_col HL.out hlt
   have hx : x.name.size ≤ maxLen := hok x (List.mem_of_getElem? hc)
   have hfl := find_le (named_self x) hc
   have HQ := hid (filter_snoc Col.key hc)
   have hql := keys_le l k
   have hql1 := keys_le l (k + 1)
   obtain ⟨b, o, rfl, hb, c0, c1, c2, c3⟩ := (RdC.of_sl (H.ro 1 rfl).now).at_ hc
   have HOk : Hid (colOk l k x = (nameB x.name && (findB (named x.name) l == (k : Int)) && decide (1 ≤ x.ty) && decide (x.ty ≤ 3) && (!x.key || x.nn))) := rfl
   have HBad : Hid (colOk l k x = false → schemaB nm l = false) := fun h => schemaB_bad (ok_bad HF.out hc h)
   have HGood : Hid (colOk l k x = true → okFrom (colOk l) 0 l = okFrom (colOk l) (k + 1) (l.drop (k + 1))) := fun h => ok_good HF.out hc h
   obtain ⟨nx, ty, nn, key⟩ := x
   simp only at c0 c1 c2 c3 hx hfl
   have HX := hid (find_any M)
   obtain ⟨f, hfe⟩ : ∃ f, f = findB (named nx) l := ⟨_, rfl⟩
   rw [← hfe] at hfl
   have HFE := hid hfe; clear hfe
   obtain ⟨q, hqe⟩ : ∃ q, q = ((l.take k).filter Col.key).length := ⟨_, rfl⟩
   rw [← hqe] at hql
   have HQE := hid hqe
   rw [← hqe]
   clear hqe hc
   simp only at HOk HQ
   rw [← HFE.out] at HOk
   cases hvx : nameB nx
   ·have HC : Hid (colOk l k ⟨nx, ty, nn, key⟩ = false) := by unfold Hid; rw [HOk.out, hvx]; rfl
    have HVX := hid hvx; clear hvx
    have KB := H.alloc_cst #[.string nx, .int .i64 ty, .bool nn, .bool key] 158
    go_wp2_with fail
    refine (rvalidname_b nx _ hx).mono ?_
    rintro e w2 ⟨rfl, b2⟩
    have K2 := Hold.call (KB) b2
    clear b2
    try simp only [World.size_alloc] at K2
    have F2 := K2.facts
    simp only [factsL, cellsF, Nat.reduceAdd, zf, zl] at F2
    rw [HVX.out]
    go_wp2_with fail
    go_ret
    exact ⟨by rw [HBad.out HC.out] <;> rfl, K2.below⟩
   have HVX := hid hvx; clear hvx
   by_cases hlo : ty < 1
   ·have HC : Hid (colOk l k ⟨nx, ty, nn, key⟩ = false) := by unfold Hid; rw [HOk.out, show decide (1 ≤ ty) = false from by simp; omega]; simp
    have KB := H.alloc_cst #[.string nx, .int .i64 ty, .bool nn, .bool key] 158
    go_wp2_with fail
    refine (rvalidname_b nx _ hx).mono ?_
    rintro e w2 ⟨rfl, b2⟩
    have K2 := Hold.call (KB) b2
    clear b2
    try simp only [World.size_alloc] at K2
    have F2 := K2.facts
    simp only [factsL, cellsF, Nat.reduceAdd, zf, zl] at F2
    rw [HVX.out]
    go_wp2_with fail
    go_ret
    exact ⟨by rw [HBad.out HC.out] <;> rfl, K2.below⟩
   have hlo1 : 1 ≤ ty := by omega
   by_cases hhi : 3 < ty
   ·have HC : Hid (colOk l k ⟨nx, ty, nn, key⟩ = false) := by unfold Hid; rw [HOk.out, show decide (ty ≤ 3) = false from by simp; omega]; simp
    have KB := H.alloc_cst #[.string nx, .int .i64 ty, .bool nn, .bool key] 158
    go_wp2_with fail
    refine (rvalidname_b nx _ hx).mono ?_
    rintro e w2 ⟨rfl, b2⟩
    have K2 := Hold.call (KB) b2
    clear b2
    try simp only [World.size_alloc] at K2
    have F2 := K2.facts
    simp only [factsL, cellsF, Nat.reduceAdd, zf, zl] at F2
    rw [HVX.out]
    go_wp2_with fail
    go_ret
    exact ⟨by rw [HBad.out HC.out] <;> rfl, K2.below⟩
   have hhi3 : ty ≤ 3 := by omega
   by_cases hkn : key = false ∨ nn = true
   rotate_left
   ·obtain ⟨rfl, rfl⟩ : key = true ∧ nn = false := by cases key <;> cases nn <;> simp at hkn ⊢
    have HC : Hid (colOk l k ⟨nx, ty, false, true⟩ = false) := by unfold Hid; rw [HOk.out]; simp
    clear hkn
    have KB := H.alloc_cst #[.string nx, .int .i64 ty, .bool false, .bool true] 158
    go_wp2_with fail
    refine (rvalidname_b nx _ hx).mono ?_
    rintro e w2 ⟨rfl, b2⟩
    have K2 := Hold.call (KB) b2
    clear b2
    try simp only [World.size_alloc] at K2
    have F2 := K2.facts
    simp only [factsL, cellsF, Nat.reduceAdd, zf, zl] at F2
    rw [HVX.out]
    go_wp2_with fail
    go_ret
    exact ⟨by rw [HBad.out HC.out] <;> rfl, K2.below⟩
   by_cases hfk : f < k
   ·have HC : Hid (colOk l k ⟨nx, ty, nn, key⟩ = false) := by unfold Hid; rw [HOk.out, show (f == (k : Int)) = false from by rw [beq_eq_false_iff_ne]; omega]; simp
    have hne : (f != (k : Int)) = true := by rw [bne_iff_ne]; omega
    rcases hkn with rfl | rfl
    ·have KB := H.alloc_cst #[.string nx, .int .i64 ty, .bool nn, .bool false] 158
     go_wp2_with fail
     refine (rvalidname_b nx _ hx).mono ?_
     rintro e w2 ⟨rfl, b2⟩
     have K2 := Hold.call (KB) b2
     clear b2
     try simp only [World.size_alloc] at K2
     have F2 := K2.facts
     simp only [factsL, cellsF, Nat.reduceAdd, zf, zl] at F2
     rw [HVX.out]
     go_wp2_with fail
     refine (rfind_any (Mut M _) _ K2.mutLt nm _ n c l nx (K2.ro 2 rfl) hn).mono ?_
     rintro e w3 ⟨rfl, b3⟩
     have K3 := Hold.call K2 b3
     clear b3
     rw [← HFE.out]
     have F3 := K3.facts
     simp only [factsL, cellsF, Nat.reduceAdd, zf, zl] at F3
     go_wp2_with fail
     go_ret
     exact ⟨by rw [HBad.out HC.out] <;> rfl, K3.below⟩
    ·cases key
     ·have KB := H.alloc_cst #[.string nx, .int .i64 ty, .bool true, .bool false] 158
      go_wp2_with fail
      refine (rvalidname_b nx _ hx).mono ?_
      rintro e w2 ⟨rfl, b2⟩
      have K2 := Hold.call (KB) b2
      clear b2
      try simp only [World.size_alloc] at K2
      have F2 := K2.facts
      simp only [factsL, cellsF, Nat.reduceAdd, zf, zl] at F2
      rw [HVX.out]
      go_wp2_with fail
      refine (rfind_any (Mut M _) _ K2.mutLt nm _ n c l nx (K2.ro 2 rfl) hn).mono ?_
      rintro e w3 ⟨rfl, b3⟩
      have K3 := Hold.call K2 b3
      clear b3
      rw [← HFE.out]
      have F3 := K3.facts
      simp only [factsL, cellsF, Nat.reduceAdd, zf, zl] at F3
      go_wp2_with fail
      go_ret
      exact ⟨by rw [HBad.out HC.out] <;> rfl, K3.below⟩
     ·have KB := H.alloc_cst #[.string nx, .int .i64 ty, .bool true, .bool true] 158
      go_wp2_with fail
      refine (rvalidname_b nx _ hx).mono ?_
      rintro e w2 ⟨rfl, b2⟩
      have K2 := Hold.call (KB) b2
      clear b2
      try simp only [World.size_alloc] at K2
      have F2 := K2.facts
      simp only [factsL, cellsF, Nat.reduceAdd, zf, zl] at F2
      rw [HVX.out]
      go_wp2_with fail
      refine (rfind_any (Mut M _) _ K2.mutLt nm _ n c l nx (K2.ro 2 rfl) hn).mono ?_
      rintro e w3 ⟨rfl, b3⟩
      have K3 := Hold.call K2 b3
      clear b3
      rw [← HFE.out]
      have F3 := K3.facts
      simp only [factsL, cellsF, Nat.reduceAdd, zf, zl] at F3
      go_wp2_with fail
      go_ret
      exact ⟨by rw [HBad.out HC.out] <;> rfl, K3.below⟩
   have hfe : f = k := by omega
   have hne : (f != (k : Int)) = false := by rw [bne_eq_false_iff_eq]; omega
   have HFK := hid hfe; clear hfe
   have HC : Hid (colOk l k ⟨nx, ty, nn, key⟩ = true) := by unfold Hid; rw [HOk.out, HVX.out, HFK.out, show decide (1 ≤ ty) = true from by simp; omega, show decide (ty ≤ 3) = true from by simp; omega]; rcases hkn with rfl | rfl <;> simp
   rcases hkn with rfl | rfl
   ·have HQ0 : Hid (((l.take (k + 1)).filter Col.key).length = q) := by unfold Hid; rw [HQ.out, HQE.out]; rfl
    have KB := H.alloc_cst #[.string nx, .int .i64 ty, .bool nn, .bool false] 158
    go_wp2_with fail
    refine (rvalidname_b nx _ hx).mono ?_
    rintro e w2 ⟨rfl, b2⟩
    have K2 := Hold.call (KB) b2
    clear b2
    try simp only [World.size_alloc] at K2
    have F2 := K2.facts
    simp only [factsL, cellsF, Nat.reduceAdd, zf, zl] at F2
    rw [HVX.out]
    go_wp2_with fail
    refine (rfind_any (Mut M _) _ K2.mutLt nm _ n c l nx (K2.ro 2 rfl) hn).mono ?_
    rintro e w3 ⟨rfl, b3⟩
    have K3 := Hold.call K2 b3
    clear b3
    rw [← HFE.out]
    have F3 := K3.facts
    simp only [factsL, cellsF, Nat.reduceAdd, zf, zl] at F3
    go_wp2_with fail
    go_roundw
    case rel => exact ⟨k + 1, by omega, by go_num, by rw [HQ0.out], HGood.out HC.out, K3.drop (List.sublist_cons_self _ _)⟩
    case measure => simp [intOf]; omega
   ·cases key
    ·have HQ0 : Hid (((l.take (k + 1)).filter Col.key).length = q) := by unfold Hid; rw [HQ.out, HQE.out]; rfl
     have KB := H.alloc_cst #[.string nx, .int .i64 ty, .bool true, .bool false] 158
     go_wp2_with fail
     refine (rvalidname_b nx _ hx).mono ?_
     rintro e w2 ⟨rfl, b2⟩
     have K2 := Hold.call (KB) b2
     clear b2
     try simp only [World.size_alloc] at K2
     have F2 := K2.facts
     simp only [factsL, cellsF, Nat.reduceAdd, zf, zl] at F2
     rw [HVX.out]
     go_wp2_with fail
     refine (rfind_any (Mut M _) _ K2.mutLt nm _ n c l nx (K2.ro 2 rfl) hn).mono ?_
     rintro e w3 ⟨rfl, b3⟩
     have K3 := Hold.call K2 b3
     clear b3
     rw [← HFE.out]
     have F3 := K3.facts
     simp only [factsL, cellsF, Nat.reduceAdd, zf, zl] at F3
     go_wp2_with fail
     go_roundw
     case rel => exact ⟨k + 1, by omega, by go_num, by rw [HQ0.out], HGood.out HC.out, K3.drop (List.sublist_cons_self _ _)⟩
     case measure => simp [intOf]; omega
    ·have HQ0 : Hid (((l.take (k + 1)).filter Col.key).length = q + 1) := by unfold Hid; rw [HQ.out, HQE.out]; rfl
     have KB := H.alloc_cst #[.string nx, .int .i64 ty, .bool true, .bool true] 158
     go_wp2_with fail
     refine (rvalidname_b nx _ hx).mono ?_
     rintro e w2 ⟨rfl, b2⟩
     have K2 := Hold.call (KB) b2
     clear b2
     try simp only [World.size_alloc] at K2
     have F2 := K2.facts
     simp only [factsL, cellsF, Nat.reduceAdd, zf, zl] at F2
     rw [HVX.out]
     go_wp2_with fail
     refine (rfind_any (Mut M _) _ K2.mutLt nm _ n c l nx (K2.ro 2 rfl) hn).mono ?_
     rintro e w3 ⟨rfl, b3⟩
     have K3 := Hold.call K2 b3
     clear b3
     rw [← HFE.out]
     have F3 := K3.facts
     simp only [factsL, cellsF, Nat.reduceAdd, zf, zl] at F3
     go_wp2_with fail
     go_roundw
     case rel => exact ⟨k + 1, by omega, by go_num, by rw [HQ0.out]; go_num, HGood.out HC.out, K3.drop (List.sublist_cons_self _ _)⟩
     case measure => simp [intOf]; omega
  ·obtain rfl : k = n := by omega
   have HN := hid (schemaB_end HV.out HL.out n1 n6 (ok_end HF.out (by rw [HL.out]; omega)))
   have HK := hid (keys_end HL.out)
   have hql := keys_le l k
   obtain ⟨q, hqe⟩ : ∃ q, q = ((l.take k).filter Col.key).length := ⟨_, rfl⟩
   rw [← hqe] at hql HK
   rw [← hqe]
   clear hqe
   go_wp2_with fail
   go_ret
   exact ⟨by rw [HN.out, ← HK.out] <;> rfl, H.below⟩
end Go.Proofs.YtnbbllkbefagmaaGreatDoor

namespace Go.Proofs.YtnbbllkbefagmaaGreatDoor
open Go.RowKit
set_option linter.unusedVariables false
set_option linter.unusedSimpArgs false

/-- which tables are valid -/
def tabB (nm : ByteArray) (cs : List Col) (nx : Int) (rs : List Row) : Bool := schemaB nm cs && decide (rs.length ≤ 100) && decide (1 ≤ nx) && decide (nx ≤ 2147483648) && okR cs nx 0 rs && !dupB cs rs
end Go.Proofs.YtnbbllkbefagmaaGreatDoor

namespace Go.Proofs.YtnbbllkbefagmaaGreatDoor
open Go.RowKit
set_option linter.unusedVariables false
set_option linter.unusedSimpArgs false

theorem schemaB_len {nm : ByteArray} {l : List Col} (h : schemaB nm l = true) : l.length ≤ 6 := by
 unfold schemaB at h
 simp only [Bool.and_eq_true, decide_eq_true_eq] at h
 exact h.1.1.2
/-- what New answers -/
def NewRet (w : World) (M : Nat → Prop) (nm : ByteArray) (cs : List Col) (e : Ending) (w' : World) : Prop :=
 if schemaB nm cs then ∃ (A : Option Addr) (n c : Nat), e = .returned (.tuple #[.agg #[.string nm, .slice A n c, .int .i64 1, .slice none 0 0], .int .i64 0]) ∧ n = cs.length ∧ n ≤ c ∧ c ≤ 9223372036854775807 ∧ Ro w' M (ColsIn A n cs) ∧ Below w.heap.size w w'
 else e = .returned (.tuple #[.agg #[.string ⟨#[]⟩, .slice none 0 0, .int .i64 0, .slice none 0 0], .int .i64 17]) ∧ Below w.heap.size w w'
set_option maxHeartbeats 1000000 in
set_option maxRecDepth 100000 in
theorem rtnew_any (M : Nat → Prop) (w : World) (hM : ∀ b, M b → b < w.heap.size) (nm : ByteArray) (A : Option Addr) (n c : Nat) (cs : List Col) (hD : Ro w M (ColsIn A n cs)) (hn : n ≤ 9223372036854775807) (hs : nm.size ≤ maxLen) (hcs : ∀ x ∈ cs, x.name.size ≤ maxLen) :
  Calls Tryz.prog 105 #[.agg #[.string nm, .slice A n c]] w fun e w' => NewRet w M nm cs e w' := by
 have HL := hid (show cs.length = n from (RdC.of_sl hD.now).len)
 have K0 := (((Hold.start M w hM).add (hD.less (by simp [Mut]))).alloc #[.string nm, .slice A n c] 49).alloc #[.string ⟨#[]⟩, .slice none 0 0, .int .i64 0, .slice none 0 0] 67
 rw [World.size_alloc] at K0
 have F0 := K0.facts
 simp only [factsL, cellsF, Nat.reduceAdd, zf, zl] at F0
 clear hD
 go_enter Tryz.func105, Tryz.ntmps105
 go_wp2_with fail
 refine (rsvalid_any _ _ K0.mutLt nm A n c cs (K0.ro 2 rfl) hn hs hcs).mono ?_
 rintro e w1 ⟨rfl, b1⟩
 have K1 := K0.call b1
 clear K0 b1 F0
 have F1 := K1.facts
 simp only [factsL, cellsF, Nat.reduceAdd, zf, zl] at F1
 cases hsb : schemaB nm cs
 ·have HSB := hid hsb; clear hsb
  have KN := (((K1.store 0 rfl 0 (.string ⟨#[]⟩)).store 0 rfl 1 (.slice none 0 0)).store 0 rfl 2 (.int .i64 0)).store 0 rfl 3 (.slice none 0 0)
  go_wp2_with fail
  exact bodyPost_ret (v := .tuple #[.agg #[.string ⟨#[]⟩, .slice none 0 0, .int .i64 0, .slice none 0 0], .int .i64 17]) (by simp [results, Tryz.results105, go_sem, F1]) rfl (by
   unfold NewRet; rw [HSB.out]; exact ⟨rfl, KN.below⟩)
 have hn6 : n ≤ 6 := by have := schemaB_len hsb; have := HL.out; omega
 have HSB := hid hsb; clear hsb
 have h1 := hid (one_cols cs)
 have hr := hid (show ColsIn A n cs _ from (K1.ro 2 rfl).now)
 have KN := K1.nil 158 4
 go_wp2_with (at_builtin; go_must (refine wpList_appAllH KN 0 rfl Tryz.elCol hr.out rfl (.const (.slice none 0 0)) (.tmp 9) rfl rfl rfl h1.out (by omega) (by omega) ?_); intro A2 c2 w2 hc2 hc22 KN2; simp only [Nat.zero_add, List.nil_append, List.set_cons_zero] at KN2 hc2; have K2 := KN2.sealRow 0 rfl; simp only [List.set_cons_zero] at K2; clear K1 F1 KN2 KN; have F2 := K2.facts; simp only [factsL, cellsF, Nat.reduceAdd, zf, zl] at F2; have N2 := K2.nes; simp only [World.size_alloc, nesL, neF, List.set_cons_zero, List.set_cons_succ, and_true, true_and] at N2)
 have KN := ((((K2.store 2 rfl 1 (.slice A2 n c2)).store 1 rfl 0 (.string nm)).store 1 rfl 1 (.slice A2 n c2)).store 1 rfl 2 (.int .i64 1)).store 1 rfl 3 (.slice none 0 0)
 exact bodyPost_ret (v := .tuple #[.agg #[.string nm, .slice A2 n c2, .int .i64 1, .slice none 0 0], .int .i64 0]) (by simp [results, Tryz.results105, go_sem, F2, N2]) rfl (by
  unfold NewRet; rw [HSB.out]; exact ⟨A2, n, c2, rfl, HL.out.symm, hc2, hc22, KN.roOut 0 rfl, KN.below⟩)
end Go.Proofs.YtnbbllkbefagmaaGreatDoor

namespace Go.Proofs.YtnbbllkbefagmaaGreatDoor
open Go.RowKit
set_option linter.unusedVariables false
set_option linter.unusedSimpArgs false

def nmId : ByteArray := ⟨#[105, 100]⟩
def nmN : ByteArray := ⟨#[110]⟩
def nmS : ByteArray := ⟨#[115]⟩
def nmB : ByteArray := ⟨#[98]⟩
def nmM : ByteArray := ⟨#[109]⟩
def nmT : ByteArray := ⟨#[116]⟩
def nmU : ByteArray := ⟨#[117]⟩
def nmLog : ByteArray := ⟨#[108, 111, 103]⟩
def logCols : List Col := [⟨nmN, 1, false, false⟩, ⟨nmS, 3, false, false⟩]
def tCols : List Col := [⟨nmId, 1, true, true⟩, ⟨nmN, 1, false, false⟩, ⟨nmB, 2, false, false⟩, ⟨nmS, 3, false, false⟩]
def uCols : List Col := [⟨nmId, 1, true, true⟩, ⟨nmN, 1, true, false⟩, ⟨nmM, 1, false, false⟩]
/-- The schema of a name: its name and columns; of another name: none. -/
def schemaOf (s : ByteArray) : ByteArray × List Col :=
 if nmLog.toList == s.toList then (nmLog, logCols) else if nmT.toList == s.toList then (nmT, tCols) else if nmU.toList == s.toList then (nmU, uCols) else (⟨#[]⟩, [])

/-- What Schemas leaves. -/
def SchemasAre (w : World) (M : Nat → Prop) (e : Ending) (w' : World) : Prop :=
 ∃ (g g0 g1 g2 : Nat) (nl nt nu : ByteArray), nl = nmLog ∧ nt = nmT ∧ nu = nmU ∧ e = .returned (.slice (some ⟨g, 0, none⟩) 3 3) ∧ Below w.heap.size w w' ∧
  Ro w' M (fun w => w.heap[g]? = some (.cells #[.string nl, .slice (some ⟨g0, 0, none⟩) 2 2, .string nt, .slice (some ⟨g1, 0, none⟩) 4 4, .string nu, .slice (some ⟨g2, 0, none⟩) 3 3] 49 (0, 0))) ∧
  Ro w' M (SlR 4 (some ⟨g0, 0, none⟩) 2 (colCells logCols)) ∧ Ro w' M (SlR 4 (some ⟨g1, 0, none⟩) 4 (colCells tCols)) ∧ Ro w' M (SlR 4 (some ⟨g2, 0, none⟩) 3 (colCells uCols))

set_option maxHeartbeats 2000000 in
theorem schemas_any (M : Nat → Prop) (w : World) (hM : ∀ b, M b → b < w.heap.size) : Calls Tryz.prog 56 #[] w fun e w' => SchemasAre w M e w' := by
 have K0 := ((((Hold.start M w hM).alloc_cst (colCells logCols).toArray 158).alloc_cst (colCells tCols).toArray 158).alloc_cst (colCells uCols).toArray 158).alloc_cst
  #[.string nmLog, .slice (some ⟨w.heap.size, 0, none⟩) 2 2, .string nmT, .slice (some ⟨w.heap.size + 1, 0, none⟩) 4 4, .string nmU, .slice (some ⟨w.heap.size + 1 + 1, 0, none⟩) 3 3] 49
 simp only [World.size_alloc] at K0
 go_enter Tryz.func56, Tryz.ntmps56
 go_wp2
 go_ret
 refine ⟨w.heap.size + 1 + 1 + 1, w.heap.size, w.heap.size + 1, w.heap.size + 1 + 1, nmLog, nmT, nmU, rfl, rfl, rfl, rfl, K0.below, ?_, ?_, ?_, ?_⟩
 ·exact Ro.less (K0.get 0 rfl) fun b hb => .inl hb
 ·exact (ro_block (K0.get 3 rfl) (by rfl)).less fun b hb => .inl hb
 ·exact (ro_block (K0.get 2 rfl) (by rfl)).less fun b hb => .inl hb
 ·exact (ro_block (K0.get 1 rfl) (by rfl)).less fun b hb => .inl hb
end Go.Proofs.YtnbbllkbefagmaaGreatDoor

namespace Go.Proofs.YtnbbllkbefagmaaGreatDoor
open Go.RowKit
set_option linter.unusedVariables false
set_option linter.unusedSimpArgs false

/-- A schema returned: its name, its columns, in memory that nobody writes. -/
def SchemaIs (w : World) (M : Nat → Prop) (nm : ByteArray) (l : List Col) (e : Ending) (w' : World) : Prop :=
 ∃ (A : Option Addr) (n c : Nat), e = .returned (.agg #[.string nm, .slice A n c]) ∧ n ≤ c ∧ c ≤ 4 ∧ Ro w' M (SlR 4 A n (colCells l)) ∧ Below w.heap.size w w'

set_option maxHeartbeats 4000000 in
theorem schema_any (M : Nat → Prop) (w : World) (hM : ∀ b, M b → b < w.heap.size) (s : ByteArray) : Calls Tryz.prog 14 #[.string s] w fun e w' => SchemaIs w M (schemaOf s).1 (schemaOf s).2 e w' := by
 have K0 := (Hold.start M w hM).alloc #[.string ⟨#[]⟩, .slice none 0 0] 49
 go_enter Tryz.func14, Tryz.ntmps14
 go_wp2_with fail
 refine (schemas_any (Mut M _) _ K0.mutLt).mono ?_
 rintro e w1 ⟨g, g0, g1, g2, nl, nt, nu, e1, e2, e3, rfl, b1, r, r0, r1, r2⟩
 have E1 := hid e1; have E2 := hid e2; have E3 := hid e3
 clear e1 e2 e3
 have K1 := ((((K0.call b1).add r2).add (r1.less (mut_none rfl))).add ((r0.less (mut_none rfl)).less (mut_none rfl))).addCst (((r.less (mut_none rfl)).less (mut_none rfl)).less (mut_none rfl))
 clear b1 r r0 r1 r2 K0
 go_wp2_with fail
 go_loopw [7] (fun i wr => ∃ k : Nat, k ≤ 3 ∧ i = .int .i64 k ∧ (0 < k → (nl.toList == s.toList) = false) ∧ (1 < k → (nt.toList == s.toList) = false) ∧ (2 < k → (nu.toList == s.toList) = false) ∧
  Hold M none w wr [.cst g 49 #[.string nl, .slice (some ⟨g0, 0, none⟩) 2 2, .string nt, .slice (some ⟨g1, 0, none⟩) 4 4, .string nu, .slice (some ⟨g2, 0, none⟩) 3 3], .ro (SlR 4 (some ⟨g0, 0, none⟩) 2 (colCells logCols)), .ro (SlR 4 (some ⟨g1, 0, none⟩) 4 (colCells tCols)), .ro (SlR 4 (some ⟨g2, 0, none⟩) 3 (colCells uCols)), .blk w.heap.size 49 #[.string ⟨#[]⟩, .slice none 0 0]]) (fun i _ => 3 - (intOf i).toNat)
 case atStart => exact ⟨0, by omega, rfl, fun h => absurd h (by omega), fun h => absurd h (by omega), fun h => absurd h (by omega), K1⟩
 case round =>
  obtain ⟨k, hk, rfl, q0, q1, q2, H⟩ := hrel
  have F := H.facts
  simp only [World.size_alloc, factsL, cellsF, List.toList_toArray, Nat.reduceAdd, and_true, true_and] at F
  have hc : k = 0 ∨ k = 1 ∨ k = 2 ∨ k = 3 := by omega
  rcases hc with rfl | rfl | rfl | rfl
  ·clear q0 q1 q2
   cases ht : (nl.toList == s.toList)
   ·have KN := H.alloc_cst #[.string nl, .slice (some ⟨g0, 0, none⟩) 2 2] 49
    go_wp2_with fail
    go_roundw
    case rel => exact ⟨1, by omega, by go_num, by intros; first | exact ht | trivial, by intros; first | trivial | omega, by intros; first | trivial | omega, KN.drop (List.sublist_cons_self _ _)⟩
    case measure => simp [intOf]
   ·have HR : Hid (schemaOf s = (nl, logCols)) := by
     unfold Hid schemaOf
     have h := ht
     rw [← E1.out, ← E2.out, ← E3.out, if_pos h]
    have KN := ((H.store 4 rfl 0 (.string nl)).store 4 rfl 1 (.slice (some ⟨g0, 0, none⟩) 2 2)).alloc_cst #[.string nl, .slice (some ⟨g0, 0, none⟩) 2 2] 49
    go_wp2_with fail
    exact bodyPost_ret (v := .agg #[.string nl, .slice (some ⟨g0, 0, none⟩) 2 2]) (by simp [results, Tryz.results14, go_sem, F]) rfl ⟨some ⟨g0, 0, none⟩, 2, 2, by rw [HR.out], by omega, by omega, by rw [HR.out]; exact KN.roOut 2 rfl, KN.below⟩
  ·have Q0 := hid (q0 (by omega)); clear q0 q1 q2
   cases ht : (nt.toList == s.toList)
   ·have KN := H.alloc_cst #[.string nt, .slice (some ⟨g1, 0, none⟩) 4 4] 49
    go_wp2_with fail
    go_roundw
    case rel => exact ⟨2, by omega, by go_num, by intros; first | exact Q0.out | trivial, by intros; first | exact ht | trivial, by intros; first | trivial | omega, KN.drop (List.sublist_cons_self _ _)⟩
    case measure => simp [intOf]
   ·have HR : Hid (schemaOf s = (nt, tCols)) := by
     unfold Hid schemaOf
     have h := ht
     rw [← E1.out, ← E2.out, ← E3.out, if_neg (by rw [Q0.out]; simp), if_pos h]
    have KN := ((H.store 4 rfl 0 (.string nt)).store 4 rfl 1 (.slice (some ⟨g1, 0, none⟩) 4 4)).alloc_cst #[.string nt, .slice (some ⟨g1, 0, none⟩) 4 4] 49
    go_wp2_with fail
    exact bodyPost_ret (v := .agg #[.string nt, .slice (some ⟨g1, 0, none⟩) 4 4]) (by simp [results, Tryz.results14, go_sem, F]) rfl ⟨some ⟨g1, 0, none⟩, 4, 4, by rw [HR.out], by omega, by omega, by rw [HR.out]; exact KN.roOut 3 rfl, KN.below⟩
  ·have Q0 := hid (q0 (by omega)); have Q1 := hid (q1 (by omega)); clear q0 q1 q2
   cases ht : (nu.toList == s.toList)
   ·have KN := H.alloc_cst #[.string nu, .slice (some ⟨g2, 0, none⟩) 3 3] 49
    go_wp2_with fail
    go_roundw
    case rel => exact ⟨3, by omega, by go_num, by intros; first | exact Q0.out | trivial, by intros; first | exact Q1.out | trivial, by intros; first | exact ht | trivial, KN.drop (List.sublist_cons_self _ _)⟩
    case measure => simp [intOf]
   ·have HR : Hid (schemaOf s = (nu, uCols)) := by
     unfold Hid schemaOf
     have h := ht
     rw [← E1.out, ← E2.out, ← E3.out, if_neg (by rw [Q0.out]; simp), if_neg (by rw [Q1.out]; simp), if_pos h]
    have KN := ((H.store 4 rfl 0 (.string nu)).store 4 rfl 1 (.slice (some ⟨g2, 0, none⟩) 3 3)).alloc_cst #[.string nu, .slice (some ⟨g2, 0, none⟩) 3 3] 49
    go_wp2_with fail
    exact bodyPost_ret (v := .agg #[.string nu, .slice (some ⟨g2, 0, none⟩) 3 3]) (by simp [results, Tryz.results14, go_sem, F]) rfl ⟨some ⟨g2, 0, none⟩, 3, 3, by rw [HR.out], by omega, by omega, by rw [HR.out]; exact KN.roOut 4 rfl, KN.below⟩
  ·have Q0 := hid (q0 (by omega)); have Q1 := hid (q1 (by omega)); have Q2 := hid (q2 (by omega)); clear q0 q1 q2
   have HR : Hid (schemaOf s = (⟨#[]⟩, [])) := by
    unfold Hid schemaOf
    rw [← E1.out, ← E2.out, ← E3.out, if_neg (by rw [Q0.out]; simp), if_neg (by rw [Q1.out]; simp), if_neg (by rw [Q2.out]; simp)]
   have KN := (H.store 4 rfl 0 (.string ⟨#[]⟩)).store 4 rfl 1 (.slice none 0 0)
   go_wp2_with fail
   exact bodyPost_ret (v := .agg #[.string ⟨#[]⟩, .slice none 0 0]) (by simp [results, Tryz.results14, go_sem, F]) rfl ⟨none, 0, 0, by rw [HR.out], by omega, by omega, by rw [HR.out]; exact ro_nil, KN.below⟩
end Go.Proofs.YtnbbllkbefagmaaGreatDoor

namespace Go.Proofs.YtnbbllkbefagmaaGreatDoor
open Go.RowKit
set_option linter.unusedVariables false
set_option linter.unusedSimpArgs false

end Go.Proofs.YtnbbllkbefagmaaGreatDoor

namespace Go.Proofs.YtnbbllkbefagmaaGreatDoor
open Go.RowKit
set_option linter.unusedVariables false
set_option linter.unusedSimpArgs false

theorem Wds.ro2 {w : World} {M : Nat → Prop} (h : Wds w) (hM : ¬ M 1) : Ro w M Wds := fun w2 _ h2 => h.keep (h2 _ h.lt hM)
def DrawnSm (w : World) (T : Nat) (e : Ending) (w' : World) : Prop :=
 ∃ x : Int, e = .returned (.int .i64 x) ∧ -3 ≤ x ∧ x ≤ 12 ∧ Tp w' T ∧ w.grownBy w' (some T)
set_option maxHeartbeats 400000 in
theorem small_any (T : Nat) (w : World) (ht : Tp w T) : Calls Tryz.prog 32 #[.pointer (some ⟨T, 0, none⟩)] w fun e w' => DrawnSm w T e w' := by
 go_enter Tryz.func32, Tryz.ntmps32
 go_wp2_with fail
 refine (next_any T 16 _ ht (by omega) (by omega)).mono ?_
 rintro e w1 ⟨r, rfl, r0, r1, t1, g1⟩
 go_wp2
 go_ret
 exact ⟨r - 3, by first | rfl | simp, by omega, by omega, t1, g1⟩

/-- a column of a kind -/
def ColOk (c : Col) : Prop := c.ty = 1 ∨ c.ty = 2 ∨ c.ty = 3
end Go.Proofs.YtnbbllkbefagmaaGreatDoor

namespace Go.Proofs.YtnbbllkbefagmaaGreatDoor
open Go.RowKit
set_option linter.unusedVariables false
set_option linter.unusedSimpArgs false
section
variable {P : Program} {M : Nat → Prop} {row : Option Nat} {w0 w1 : World} {L : List Hp} {sp : SpW} {F : Act → Prop} {S0 : Array Bool}
variable {ops : Array Oper} {o : Oper} {rest : List Oper} {a : Act} {k : Nat}
theorem dw_any (d : Tmp) (V : Value → World → Prop) (hS : S0.getD k false = false) (hw : Region.wanted o (yielded ops a.tmps) = true) (hd : o.dst = some d) (hsp : sp d = some V)
  (h : ∀ w, Hold M row w0 w L → Deps ops (GW sp) o a w → ∃ u, (execOp a.eval o).run P w = .ok (.value u) w ∧ V u w) (hn : ∀ u w, Hold M row w0 w L → V u w → wpRel P ops (HC M row w0 w1 L) (GW sp) (RM (Mut M L)) S0 F (k + 1) rest (a.put (some d) u)) : wpRel P ops (HC M row w0 w1 L) (GW sp) (RM (Mut M L)) S0 F k (o :: rest) a := by
 refine rel_step hS hw d hd (fun w hC hD => ?_) fun u w hC hu => hn u w hC.1 ((GW_on hsp).1 hu)
 obtain ⟨u, h1, h2⟩ := h w hC.1 hD
 exact ⟨u, w, h1, (GW_on hsp).2 h2, hC, RM.refl _ w⟩
end
/-- a list of numbers in a slot -/
def IntsSlot (M : Nat → Prop) (n : Nat) (zs : List Int) (u : Value) (w : World) : Prop := ∃ g : Nat, u = .slice (some ⟨g, 0, none⟩) n n ∧ zs.length = n ∧ Ro w M (SlR 1 (some ⟨g, 0, none⟩) n (zs.map fun z => .int .i64 z))
theorem intsSlot_mono {M : Nat → Prop} {n : Nat} {zs : List Int} (u : Value) (w w' : World) (hr : RM M w w') (h : IntsSlot M n zs u w) : IntsSlot M n zs u w' := by
 obtain ⟨g, h1, h2, h3⟩ := h
 exact ⟨g, h1, h2, hr.ro h3⟩
/-- the place of a number in a slot -/
def CellSlot (M : Nat → Prop) (Z : Int → Prop) (u : Value) (w : World) : Prop := ∃ (g o : Nat) (z : Int), u = .pointer (some ⟨g, o, none⟩) ∧ Z z ∧ Ro w M (fun w => w.cell? ⟨g, o, none⟩ = some (.int .i64 z))
theorem cellSlot_mono {M : Nat → Prop} {Z : Int → Prop} (u : Value) (w w' : World) (hr : RM M w w') (h : CellSlot M Z u w) : CellSlot M Z u w' := by
 obtain ⟨g, o, z, h1, h2, h3⟩ := h
 exact ⟨g, o, z, h1, h2, hr.ro h3⟩
def IntSlot (Z : Int → Prop) (u : Value) (_ : World) : Prop := ∃ z : Int, u = .int .i64 z ∧ Z z
theorem intSlot_mono {M : Nat → Prop} {Z : Int → Prop} (u : Value) (w w' : World) (hr : RM M w w') (h : IntSlot Z u w) : IntSlot Z u w' := h
theorem IntsSlot.cell {M : Nat → Prop} {n : Nat} {zs : List Int} {Z : Int → Prop} {g r : Nat} {w : World} (h : IntsSlot M n zs (.slice (some ⟨g, 0, none⟩) n n) w) (hZ : ∀ z ∈ zs, Z z) (hr : r < n) : CellSlot M Z (.pointer (some ⟨g, r, none⟩)) w := by
 obtain ⟨g', e, hl, h3⟩ := h
 obtain rfl : g = g' := by injection e with e; injection e with e; injection e
 obtain ⟨z, hz⟩ : ∃ z, zs[r]? = some z := ⟨zs[r]'(by omega), List.getElem?_eq_getElem _⟩
 refine ⟨g, r, z, rfl, hZ z (List.mem_of_getElem? hz), h3.imp fun w2 h2 => ?_⟩
 obtain ⟨b, o, e, hb, hc⟩ := h2.2 (by omega)
 obtain ⟨rfl, rfl⟩ : g = b ∧ 0 = o := by injection e with e; injection e with e1 e2; exact ⟨e1, e2⟩
 have := hc r (.int .i64 z) (by rw [List.getElem?_map, hz]; rfl)
 simpa using this
end Go.Proofs.YtnbbllkbefagmaaGreatDoor

namespace Go.Proofs.YtnbbllkbefagmaaGreatDoor
open Go.RowKit
set_option linter.unusedVariables false
set_option linter.unusedSimpArgs false

theorem mut_tpG {M : Nat → Prop} {L : List Hp} {T i : Nat} (h : L[i]? = some (.tp T)) : ∀ b, Mut (Mut M L) [.tp T] b → Mut M L b := by
 rintro b (hb | ⟨k, hk, hf⟩)
 ·exact hb
 ·simp only [List.mem_singleton] at hk
  subst hk
  exact .inr ⟨_, List.mem_of_getElem? h, hf⟩

theorem num_ok {x : Ex} {n : Int} (h : NumE x n) (h1 : -100 ≤ n) (h2 : n ≤ 100) : ExGd 2 x := by
 rcases h with ⟨_, rfl⟩ | ⟨_, g, rfl⟩
 ·exact (lit_ok _ (i64_lit 1 (by decide)) (i64_lit n ⟨by omega, by omega⟩)).more
 ·exact op_ok (i64_lit 4 (by decide)) (i64_lit 0 (by decide)) (by omega) (fun a ha => by
   simp only [List.mem_cons, List.not_mem_nil, or_false] at ha
   subst ha
   exact lit_ok _ (i64_lit 1 (by decide)) (i64_lit (-n) ⟨by omega, by omega⟩))
theorem kind_i64 {kind k i : Int} {s : ByteArray} (h : OfKind kind k i s) : I64 k := by
 by_cases hk : kind = 1 ∨ kind = 2 ∨ kind = 3
 ·rw [h.2.1 hk]; rcases hk with rfl | rfl | rfl <;> exact i64_lit _ (by decide)
 ·rw [h.2.2 hk]; exact i64_lit 0 (by decide)
/-- an expression in a slot -/
def ExSlot (M : Nat → Prop) (d : Nat) (u : Value) (w : World) : Prop := ∃ y : Ex, u = y.val ∧ ExGd d y ∧ Ro w M (ExIn d y)
theorem exSlot_mono {M : Nat → Prop} {d : Nat} (u : Value) (w w' : World) (hr : RM M w w') (h : ExSlot M d u w) : ExSlot M d u w' := by
 obtain ⟨y, h1, h2, h3⟩ := h
 exact ⟨y, h1, h2, hr.ro h3⟩
theorem zeroE_in (w : World) : ExIn 1 zeroE w := ⟨slr_nil 10 w, fun a ha => (nomatch ha), slr_nil 4 w, fun q hq => (nomatch hq)⟩
/-- what the draws of an expression ask of the place: n more frames fit -/
structure PlN (n : Nat) (p : Pl) : Prop where
 b : PlB p
 n : p.fr.n + n ≤ 90
 s : 0 < p.tb.n → True
def GE (n : Nat) : Prop := ∀ (M : Nat → Prop) (T : Nat) (w : World) (hM : ∀ b, M b → b < w.heap.size) (ht : Tp w T) (hMT : ∀ b, M b → T ≤ b) (p : Pl) (want depth : Int) (hp : Ro w (Mut M [.tp T]) (PlIn p)) (hW : Ro w (Mut M [.tp T]) Wds) (hT : 1 < T) (hB : PlN n p) (hd : depth ≤ n) (hd2 : -100 ≤ depth),
 Calls Tryz.prog 99 #[.pointer (some ⟨T, 0, none⟩), p.val, .int .i64 want, .int .i64 depth] w fun e w' => ExRet w T M (n + 2) e w'
def GQ (n : Nat) : Prop := ∀ (M : Nat → Prop) (T : Nat) (w : World) (hM : ∀ b, M b → b < w.heap.size) (ht : Tp w T) (hMT : ∀ b, M b → T ≤ b) (p : Pl) (kind depth : Int) (hp : Ro w (Mut M [.tp T]) (PlIn p)) (hW : Ro w (Mut M [.tp T]) Wds) (hT : 1 < T) (hB : PlN n p) (hd : depth ≤ n) (hd2 : 1 ≤ depth) (hs : 0 < p.tb.n) (hk : I64 kind) (hk1 : 1 ≤ kind),
 Calls Tryz.prog 155 #[.pointer (some ⟨T, 0, none⟩), p.val, .int .i64 kind, .int .i64 depth] w fun e w' => ExRet w T M (n + 2) e w'
def GC (n : Nat) : Prop := ∀ (M : Nat → Prop) (T : Nat) (w : World) (hM : ∀ b, M b → b < w.heap.size) (ht : Tp w T) (hMT : ∀ b, M b → T ≤ b) (p : Pl) (depth : Int) (hp : Ro w (Mut M [.tp T]) (PlIn p)) (hW : Ro w (Mut M [.tp T]) Wds) (hT : 1 < T) (hB : PlN n p) (hd : depth ≤ n) (hd2 : 1 ≤ depth),
 Calls Tryz.prog 156 #[.pointer (some ⟨T, 0, none⟩), p.val, .int .i64 depth] w fun e w' => ExRet w T M (n + 2) e w'
set_option maxRecDepth 100000 in
set_option maxHeartbeats 16000000 in
theorem gexpr_of {n : Nat} (hE : ∀ m, n = m + 1 → GE m) (hQ : 1 ≤ n → GQ n) (hC : 1 ≤ n → GC n) : GE n := by
 intro M T w hM ht hMT p want depth hp hW hT hB hd hd2
 obtain ⟨⟨fA, fn, fc, fl⟩, ⟨sA, sn, sc, sl⟩⟩ := p
 have KS := ((((Hold.startT M w T hM ht hMT).add hW).add (hp.less (by simp [mut_cons, Mut, Hp.foot]))).alloc_cst #[.slice fA fn fc, .slice sA sn sc] 177).alloc #[.int .i64 0, .int .i64 0, .bool false, .int .i64 0, .int .i64 0, .string ⟨#[]⟩, .string ⟨#[]⟩, .string ⟨#[]⟩, .slice none 0 0, .slice none 0 0] 126
 rw [World.size_alloc] at KS
 obtain ⟨gp, hgp⟩ : ∃ g, g = w.heap.size := ⟨_, rfl⟩
 rw [← hgp] at KS
 obtain ⟨gr, hgr⟩ : ∃ g, g = gp + 1 := ⟨_, rfl⟩
 rw [← hgr] at KS
 have HBB := hid hB
 simp only [Pl.val]
 clear hp hW hB
 go_enter Tryz.func99, Tryz.ntmps99
 go_wp2_with fail
 rw [← hgp]
 try rw [← hgr]
 have HG := hid (And.intro hgp hgr)
 clear hgp hgr
 refine (next_any T 6 _ (KS.tp_ 4 rfl) (by omega) (by omega)).mono ?_
 rintro e w1 ⟨k, rfl, k0, k1, t1, g1⟩
 have K1 := Hold.callT KS 4 rfl g1 t1
 clear KS g1 t1
 go_upto_region 2 with fail
 go_cut [19] (fun s9 wx => s9 = .bool (decide (4 ≤ k ∧ 0 < depth)) ∧ Hold M (some T) w wx [.blk gr 126 #[.int .i64 0, .int .i64 0, .bool false, .int .i64 0, .int .i64 0, .string ⟨#[]⟩, .string ⟨#[]⟩, .string ⟨#[]⟩, .slice none 0 0, .slice none 0 0], .cst gp 177 #[.slice fA fn fc, .slice sA sn sc], .ro (PlIn ⟨⟨fA, fn, fc, fl⟩, ⟨sA, sn, sc, sl⟩⟩), .ro Wds, .tp T])
 case first =>
  by_cases h4 : 4 ≤ k
  ·by_cases h5 : 0 < depth
   ·go_wp2_with fail
    all_goals first
     | (exfalso; omega)
     | (go_meet; exact ⟨by simp [h4, h5], K1⟩)
   ·go_wp2_with fail
    all_goals first
     | (exfalso; omega)
     | (go_meet; exact ⟨by simp [h4, h5], K1⟩)
  ·go_wp2_with fail
   all_goals first
    | (exfalso; omega)
    | (go_meet; exact ⟨by simp; omega, K1⟩)
 case rest =>
  obtain ⟨rfl, K2⟩ := hcut
  clear K1
  go_upto_if 19 with (fail)
  go_cut [9] (fun s9 wx => ∃ q : Int, s9 = .int .i64 q ∧ 0 ≤ q ∧ q < 6 ∧ Hold M (some T) w wx [.blk gr 126 #[.int .i64 0, .int .i64 0, .bool false, .int .i64 0, .int .i64 0, .string ⟨#[]⟩, .string ⟨#[]⟩, .string ⟨#[]⟩, .slice none 0 0, .slice none 0 0], .cst gp 177 #[.slice fA fn fc, .slice sA sn sc], .ro (PlIn ⟨⟨fA, fn, fc, fl⟩, ⟨sA, sn, sc, sl⟩⟩), .ro Wds, .tp T])
  case first =>
   by_cases h4 : 4 ≤ k ∧ 0 < depth
   ·go_wp2_with fail
    refine (next_any T 4 _ (K2.tp_ 4 rfl) (by omega) (by omega)).mono ?_
    rintro e w2 ⟨r, rfl, r0, r1, t2, g2⟩
    have K3 := Hold.callT K2 4 rfl g2 t2
    go_wp2_with fail
    go_meet
    exact ⟨r, rfl, r0, by omega, K3⟩
   ·go_wp2_with fail
    go_meet
    exact ⟨k, rfl, k0, k1, K2⟩
  case rest =>
   obtain ⟨q, rfl, q0, q1, K3⟩ := hcut
   clear K2 k0 k1
   go_upto_region 4 with fail
   go_cut [27] (fun s9 wx => s9 = .bool (decide (depth ≤ 0 ∨ 3 ≤ q)) ∧ Hold M (some T) w wx [.blk gr 126 #[.int .i64 0, .int .i64 0, .bool false, .int .i64 0, .int .i64 0, .string ⟨#[]⟩, .string ⟨#[]⟩, .string ⟨#[]⟩, .slice none 0 0, .slice none 0 0], .cst gp 177 #[.slice fA fn fc, .slice sA sn sc], .ro (PlIn ⟨⟨fA, fn, fc, fl⟩, ⟨sA, sn, sc, sl⟩⟩), .ro Wds, .tp T])
   case first =>
    by_cases h4 : depth ≤ 0
    ·go_wp2_with fail
     all_goals first
      | (exfalso; omega)
      | (go_meet; exact ⟨by simp [h4], K3⟩)
    ·by_cases h5 : 3 ≤ q
     ·go_wp2_with fail
      all_goals first
       | (exfalso; omega)
       | (go_meet; exact ⟨by simp [h4, h5], K3⟩)
     ·go_wp2_with fail
      all_goals first
       | (exfalso; omega)
       | (go_meet; exact ⟨by simp [h4, h5], K3⟩)
   case rest =>
    obtain ⟨rfl, K4⟩ := hcut
    clear K3
    by_cases hleaf : depth ≤ 0 ∨ 3 ≤ q
    ·have hlb : decide (depth ≤ 0 ∨ 3 ≤ q) = true := by simpa using hleaf
     have F4 := K4.facts
     simp only [factsL, cellsF, Nat.reduceAdd, zf, zl] at F4
     go_wp2_with fail
     refine (column_any (Mut M _) T _ K4.mutLt (K4.tp_ 4 rfl) (K4.get 4 rfl).2 ⟨⟨fA, fn, fc, fl⟩, ⟨sA, sn, sc, sl⟩⟩ want ((K4.ro 2 rfl).less (mut_tpG (i := 4) rfl)) HBB.out.b).mono ?_
     rintro e w3 ⟨x, ok, rfl, hx, t3, g3⟩
     have K5 := (Hold.callT K4 4 rfl g3 t3).alloc_cst #[.int .i64 x.kind, .int .i64 x.op, .bool x.nt, .int .i64 x.v.k, .int .i64 x.v.i, .string x.v.s, .string x.tab, .string x.nm, .slice x.A x.n x.c, .slice x.B x.m x.d] 126
     obtain ⟨gx, hgx⟩ : ∃ g, g = w3.heap.size := ⟨_, rfl⟩
     rw [← hgx] at K5
     have HXX := hid hx
     clear K4 F4 g3 t3 hx
     have F5 := K5.facts
     simp only [factsL, cellsF, Nat.reduceAdd, zf, zl] at F5
     rw [show x.val = .agg #[.int .i64 x.kind, .int .i64 x.op, .bool x.nt, .int .i64 x.v.k, .int .i64 x.v.i, .string x.v.s, .string x.tab, .string x.nm, .slice x.A x.n x.c, .slice x.B x.m x.d] from rfl]
     go_upto_region 6 with fail
     rw [← hgx]
     have HGX := hid hgx
     clear hgx
     go_cut [40] (fun s9 wx => ∃ b : Bool, s9 = .bool b ∧ (b = true → ok = true) ∧ Hold M (some T) w wx [.cst gx 126 #[.int .i64 x.kind, .int .i64 x.op, .bool x.nt, .int .i64 x.v.k, .int .i64 x.v.i, .string x.v.s, .string x.tab, .string x.nm, .slice x.A x.n x.c, .slice x.B x.m x.d], .blk gr 126 #[.int .i64 0, .int .i64 0, .bool false, .int .i64 0, .int .i64 0, .string ⟨#[]⟩, .string ⟨#[]⟩, .string ⟨#[]⟩, .slice none 0 0, .slice none 0 0], .cst gp 177 #[.slice fA fn fc, .slice sA sn sc], .ro (PlIn ⟨⟨fA, fn, fc, fl⟩, ⟨sA, sn, sc, sl⟩⟩), .ro Wds, .tp T])
     case first =>
      cases ok
      ·go_wp2_with fail
       all_goals (go_meet; exact ⟨false, rfl, fun h => (nomatch h), K5⟩)
      ·go_wp2_with fail
       refine (bool_any T 3 _ (K5.tp_ 5 rfl) (by omega) (by omega)).mono ?_
       rintro e w4 ⟨b, rfl, t4, g4⟩
       have K6 := Hold.callT K5 5 rfl g4 t4
       go_wp2_with fail
       all_goals (go_meet; exact ⟨!b, by first | rfl | simp, fun _ => (by first | trivial | rfl), K6⟩)
     case rest =>
      obtain ⟨b, rfl, hbok, K6⟩ := hcut
      have HBO := hid hbok
      clear K5 F5 hbok
      cases b
      ·have K7 := K6.drop (List.sublist_cons_self _ _)
       clear K6
       go_wp2_with fail
       refine (bool_any T 8 _ (K7.tp_ 4 rfl) (by omega) (by omega)).mono ?_
       rintro e w4 ⟨b8, rfl, t4, g4⟩
       have K8 := Hold.callT K7 4 rfl g4 t4
       clear K7 g4 t4
       cases b8
       ·by_cases h1 : want = 1
        ·have h1b : (want == 1) = true := by simp [h1]
         go_wp2_with fail
         all_goals first
          | (exfalso; contradiction)
          | skip
         refine (small_any T _ (K8.tp_ 4 rfl)).mono ?_
         rintro e w5 ⟨z, rfl, z0, z1, t5, g5⟩
         have KB := Hold.callT K8 4 rfl g5 t5
         clear K8 g5 t5
         go_wp2_with fail
         refine (wnum_any _ _ KB.mutLt z (by omega)).mono ?_
         rintro e w6 ⟨y, rfl, hy, ry, b6⟩
         have HY := hid (num_ok hy (by omega) (by omega))
         have KC : Hold M (some T) w w6 [.blk gr 126 #[.int .i64 0, .int .i64 0, .bool false, .int .i64 0, .int .i64 0, .string ⟨#[]⟩, .string ⟨#[]⟩, .string ⟨#[]⟩, .slice none 0 0, .slice none 0 0], .cst gp 177 #[.slice fA fn fc, .slice sA sn sc], .ro (PlIn ⟨⟨fA, fn, fc, fl⟩, ⟨sA, sn, sc, sl⟩⟩), .ro Wds, .tp T, .ro (ExIn 2 y)] := ((KB.call b6).add ry).pick [1, 2, 3, 4, 5, 0] (by decide) rfl
         clear KB b6 ry hy
         have K9 := KC
         have F9 := K9.facts
         simp only [factsL, cellsF, Nat.reduceAdd, zf, zl] at F9
         have KA := ((((((((((K9.store 0 rfl 0 (.int .i64 y.kind)).store 0 rfl 1 (.int .i64 y.op)).store 0 rfl 2 (.bool y.nt)).store 0 rfl 3 (.int .i64 y.v.k)).store 0 rfl 4 (.int .i64 y.v.i)).store 0 rfl 5 (.string y.v.s)).store 0 rfl 6 (.string y.tab)).store 0 rfl 7 (.string y.nm)).store 0 rfl 8 (.slice y.A y.n y.c)).store 0 rfl 9 (.slice y.B y.m y.d))
         simp only [zl] at KA
         have FA := KA.facts
         simp only [factsL, cellsF, Nat.reduceAdd, zf, zl] at FA
         have HR := hid ((KA.ro 5 rfl).less zm)
         have HT := hid (And.intro (KA.tp_ 4 rfl) KA.grow)
         rw [show y.val = .agg #[.int .i64 y.kind, .int .i64 y.op, .bool y.nt, .int .i64 y.v.k, .int .i64 y.v.i, .string y.v.s, .string y.tab, .string y.nm, .slice y.A y.n y.c, .slice y.B y.m y.d] from rfl]
         clear K9 KA
         go_wp2_with fail
         refine bodyPost_ret (v := .agg #[.int .i64 y.kind, .int .i64 y.op, .bool y.nt, .int .i64 y.v.k, .int .i64 y.v.i, .string y.v.s, .string y.tab, .string y.nm, .slice y.A y.n y.c, .slice y.B y.m y.d]) ?_ rfl ?_
         ·clear HT HR
          simp [results, Tryz.results99, go_sem, FA]
         ·exact ⟨y, rfl, HY.out.le (by omega), HR.out.imp (fun w2 h2 => h2.le (by omega)), HT.out.1, HT.out.2⟩
        ·have h1b : (want == 1) = false := by simpa using h1
         go_wp2_with fail
         all_goals first
          | (exfalso; contradiction)
          | skip
         refine (typed_any T want _ (K8.tp_ 4 rfl) (K8.ro 3 rfl).now hT).mono ?_
         rintro e w5 ⟨vk, vi, vs, rfl, hv, hs, hvi, t5, -, g5⟩
         have KB := Hold.callT K8 4 rfl g5 t5
         have HVK := hid (kind_i64 hv)
         clear K8 g5 t5
         go_wp2_with fail
         refine (lit_any _ ⟨vk, vi, vs⟩).mono ?_
         rintro e w6 ⟨rfl, b6⟩
         have KC : Hold M (some T) w w6 [.blk gr 126 #[.int .i64 0, .int .i64 0, .bool false, .int .i64 0, .int .i64 0, .string ⟨#[]⟩, .string ⟨#[]⟩, .string ⟨#[]⟩, .slice none 0 0, .slice none 0 0], .cst gp 177 #[.slice fA fn fc, .slice sA sn sc], .ro (PlIn ⟨⟨fA, fn, fc, fl⟩, ⟨sA, sn, sc, sl⟩⟩), .ro Wds, .tp T, .ro (ExIn 1 (litE ⟨vk, vi, vs⟩))] := ((KB.call b6).add (S := ExIn 1 (litE ⟨vk, vi, vs⟩)) (fun w2 _ _ => lit_in _ _)).pick [1, 2, 3, 4, 5, 0] (by decide) rfl
         clear KB b6
         have HY := hid (lit_ok ⟨vk, vi, vs⟩ HVK.out hvi)
         generalize litE ⟨vk, vi, vs⟩ = y at *
         have K9 := KC
         have F9 := K9.facts
         simp only [factsL, cellsF, Nat.reduceAdd, zf, zl] at F9
         have KA := ((((((((((K9.store 0 rfl 0 (.int .i64 y.kind)).store 0 rfl 1 (.int .i64 y.op)).store 0 rfl 2 (.bool y.nt)).store 0 rfl 3 (.int .i64 y.v.k)).store 0 rfl 4 (.int .i64 y.v.i)).store 0 rfl 5 (.string y.v.s)).store 0 rfl 6 (.string y.tab)).store 0 rfl 7 (.string y.nm)).store 0 rfl 8 (.slice y.A y.n y.c)).store 0 rfl 9 (.slice y.B y.m y.d))
         simp only [zl] at KA
         have FA := KA.facts
         simp only [factsL, cellsF, Nat.reduceAdd, zf, zl] at FA
         have HR := hid ((KA.ro 5 rfl).less zm)
         have HT := hid (And.intro (KA.tp_ 4 rfl) KA.grow)
         rw [show y.val = .agg #[.int .i64 y.kind, .int .i64 y.op, .bool y.nt, .int .i64 y.v.k, .int .i64 y.v.i, .string y.v.s, .string y.tab, .string y.nm, .slice y.A y.n y.c, .slice y.B y.m y.d] from rfl]
         clear K9 KA
         go_wp2_with fail
         refine bodyPost_ret (v := .agg #[.int .i64 y.kind, .int .i64 y.op, .bool y.nt, .int .i64 y.v.k, .int .i64 y.v.i, .string y.v.s, .string y.tab, .string y.nm, .slice y.A y.n y.c, .slice y.B y.m y.d]) ?_ rfl ?_
         ·clear HT HR
          simp [results, Tryz.results99, go_sem, FA]
         ·exact ⟨y, rfl, HY.out.le (by omega), HR.out.imp (fun w2 h2 => h2.le (by omega)), HT.out.1, HT.out.2⟩
       ·go_wp2_with fail
        refine (lit_any _ vlZ).mono ?_
        rintro e w6 ⟨rfl, b6⟩
        have KC : Hold M (some T) w w6 [.blk gr 126 #[.int .i64 0, .int .i64 0, .bool false, .int .i64 0, .int .i64 0, .string ⟨#[]⟩, .string ⟨#[]⟩, .string ⟨#[]⟩, .slice none 0 0, .slice none 0 0], .cst gp 177 #[.slice fA fn fc, .slice sA sn sc], .ro (PlIn ⟨⟨fA, fn, fc, fl⟩, ⟨sA, sn, sc, sl⟩⟩), .ro Wds, .tp T, .ro (ExIn 1 (litE vlZ))] := ((K8.call b6).add (S := ExIn 1 (litE vlZ)) (fun w2 _ _ => lit_in _ _)).pick [1, 2, 3, 4, 5, 0] (by decide) rfl
        clear K8 b6
        have HY := hid (lit_ok vlZ (i64_lit 0 (by decide)) (i64_lit 0 (by decide)))
        generalize litE vlZ = y at *
        have K9 := KC
        have F9 := K9.facts
        simp only [factsL, cellsF, Nat.reduceAdd, zf, zl] at F9
        have KA := ((((((((((K9.store 0 rfl 0 (.int .i64 y.kind)).store 0 rfl 1 (.int .i64 y.op)).store 0 rfl 2 (.bool y.nt)).store 0 rfl 3 (.int .i64 y.v.k)).store 0 rfl 4 (.int .i64 y.v.i)).store 0 rfl 5 (.string y.v.s)).store 0 rfl 6 (.string y.tab)).store 0 rfl 7 (.string y.nm)).store 0 rfl 8 (.slice y.A y.n y.c)).store 0 rfl 9 (.slice y.B y.m y.d))
        simp only [zl] at KA
        have FA := KA.facts
        simp only [factsL, cellsF, Nat.reduceAdd, zf, zl] at FA
        have HR := hid ((KA.ro 5 rfl).less zm)
        have HT := hid (And.intro (KA.tp_ 4 rfl) KA.grow)
        rw [show y.val = .agg #[.int .i64 y.kind, .int .i64 y.op, .bool y.nt, .int .i64 y.v.k, .int .i64 y.v.i, .string y.v.s, .string y.tab, .string y.nm, .slice y.A y.n y.c, .slice y.B y.m y.d] from rfl]
        clear K9 KA
        go_wp2_with fail
        refine bodyPost_ret (v := .agg #[.int .i64 y.kind, .int .i64 y.op, .bool y.nt, .int .i64 y.v.k, .int .i64 y.v.i, .string y.v.s, .string y.tab, .string y.nm, .slice y.A y.n y.c, .slice y.B y.m y.d]) ?_ rfl ?_
        ·clear HT HR
         simp [results, Tryz.results99, go_sem, FA]
        ·exact ⟨y, rfl, HY.out.le (by omega), HR.out.imp (fun w2 h2 => h2.le (by omega)), HT.out.1, HT.out.2⟩
      ·skip
       have F6 := K6.facts
       simp only [factsL, cellsF, Nat.reduceAdd, zf, zl] at F6
       have K7 := ((((((((((K6.store 1 rfl 0 (.int .i64 x.kind)).store 1 rfl 1 (.int .i64 x.op)).store 1 rfl 2 (.bool x.nt)).store 1 rfl 3 (.int .i64 x.v.k)).store 1 rfl 4 (.int .i64 x.v.i)).store 1 rfl 5 (.string x.v.s)).store 1 rfl 6 (.string x.tab)).store 1 rfl 7 (.string x.nm)).store 1 rfl 8 (.slice x.A x.n x.c)).store 1 rfl 9 (.slice x.B x.m x.d))
       simp only [zl] at K7
       have F7 := K7.facts
       simp only [factsL, cellsF, Nat.reduceAdd, zf, zl] at F7
       have HT := hid (And.intro (K7.tp_ 5 rfl) K7.grow)
       clear K6 K7
       go_wp2_with fail
       refine bodyPost_ret (v := .agg #[.int .i64 x.kind, .int .i64 x.op, .bool x.nt, .int .i64 x.v.k, .int .i64 x.v.i, .string x.v.s, .string x.tab, .string x.nm, .slice x.A x.n x.c, .slice x.B x.m x.d]) ?_ rfl ?_
       ·clear HT
        simp [results, Tryz.results99, go_sem, F7]
       ·refine ⟨x, rfl, ?_, ?_, HT.out.1, HT.out.2⟩
        ·rcases HXX.out with ⟨h1, rfl⟩ | ⟨ct, cn, rfl⟩
         ·have h2 : ok = true := (by simpa using HBO.out); rw [h2] at h1; exact absurd h1 (by decide)
         ·exact (col_ok ct cn).le (by omega)
        ·rcases HXX.out with ⟨h1, rfl⟩ | ⟨ct, cn, rfl⟩
         ·exact fun w2 _ _ => (zeroE_in w2).le (by omega)
         ·exact fun w2 _ _ => (col_in ct cn w2).le (by omega)
    ·have hd1 : 1 ≤ depth := by omega
     have hq3 : q < 3 := by omega
     have hlb : decide (depth ≤ 0 ∨ 3 ≤ q) = false := by simpa using hleaf
     obtain ⟨m, rfl⟩ : ∃ m, n = m + 1 := ⟨n - 1, by omega⟩
     have HQ := hQ (by omega)
     have HC := hC (by omega)
     have HE := hE m rfl
     have F4 := K4.facts
     simp only [factsL, cellsF, Nat.reduceAdd, zf, zl] at F4
     by_cases hw2 : want = 2
     ·subst hw2
      by_cases hqs : q = 0 ∧ 0 < sn
      ·obtain ⟨rfl, hs0⟩ := hqs
       have hsb : decide (0 < sn) = true := by simpa using hs0
       go_wp2_with fail
       refine (bool_any T 2 _ (K4.tp_ 4 rfl) (by omega) (by omega)).mono ?_
       rintro e w4 ⟨b2, rfl, t4, g4⟩
       have K5 := Hold.callT K4 4 rfl g4 t4
       clear K4 F4 g4 t4
       have F5 := K5.facts
       simp only [factsL, cellsF, Nat.reduceAdd, zf, zl] at F5
       cases b2
       ·go_wp2_with fail
        refine (HC (Mut M _) T _ K5.mutLt (K5.tp_ 4 rfl) (K5.get 4 rfl).2 ⟨⟨fA, fn, fc, fl⟩, ⟨sA, sn, sc, sl⟩⟩ depth ((K5.ro 2 rfl).less (mut_tpG (i := 4) rfl)) ((K5.ro 3 rfl).less (mut_tpG (i := 4) rfl)) hT HBB.out hd hd1).mono ?_
        rintro e w5 ⟨y, rfl, hy, ry, tY, gY⟩
        have HY := hid hy
        have KC : Hold M (some T) w w5 [.blk gr 126 #[.int .i64 0, .int .i64 0, .bool false, .int .i64 0, .int .i64 0, .string ⟨#[]⟩, .string ⟨#[]⟩, .string ⟨#[]⟩, .slice none 0 0, .slice none 0 0], .cst gp 177 #[.slice fA fn fc, .slice sA sn sc], .ro (PlIn ⟨⟨fA, fn, fc, fl⟩, ⟨sA, sn, sc, sl⟩⟩), .ro Wds, .tp T, .ro (ExIn (m + 1 + 2) y)] := ((Hold.callT K5 4 rfl gY tY).add ry).pick [1, 2, 3, 4, 5, 0] (by decide) rfl
        clear K5 hy ry tY gY
        have K9 := KC
        have F9 := K9.facts
        simp only [factsL, cellsF, Nat.reduceAdd, zf, zl] at F9
        have KA := ((((((((((K9.store 0 rfl 0 (.int .i64 y.kind)).store 0 rfl 1 (.int .i64 y.op)).store 0 rfl 2 (.bool y.nt)).store 0 rfl 3 (.int .i64 y.v.k)).store 0 rfl 4 (.int .i64 y.v.i)).store 0 rfl 5 (.string y.v.s)).store 0 rfl 6 (.string y.tab)).store 0 rfl 7 (.string y.nm)).store 0 rfl 8 (.slice y.A y.n y.c)).store 0 rfl 9 (.slice y.B y.m y.d))
        simp only [zl] at KA
        have FA := KA.facts
        simp only [factsL, cellsF, Nat.reduceAdd, zf, zl] at FA
        have HR := hid ((KA.ro 5 rfl).less zm)
        have HT := hid (And.intro (KA.tp_ 4 rfl) KA.grow)
        rw [show y.val = .agg #[.int .i64 y.kind, .int .i64 y.op, .bool y.nt, .int .i64 y.v.k, .int .i64 y.v.i, .string y.v.s, .string y.tab, .string y.nm, .slice y.A y.n y.c, .slice y.B y.m y.d] from rfl]
        clear K9 KA
        go_wp2_with fail
        refine bodyPost_ret (v := .agg #[.int .i64 y.kind, .int .i64 y.op, .bool y.nt, .int .i64 y.v.k, .int .i64 y.v.i, .string y.v.s, .string y.tab, .string y.nm, .slice y.A y.n y.c, .slice y.B y.m y.d]) ?_ rfl ?_
        ·clear HT HR
         simp [results, Tryz.results99, go_sem, FA]
        ·exact ⟨y, rfl, HY.out, HR.out.imp (fun w2 h2 => h2.le (by omega)), HT.out.1, HT.out.2⟩
       ·go_wp2_with fail
        refine (HQ (Mut M _) T _ K5.mutLt (K5.tp_ 4 rfl) (K5.get 4 rfl).2 ⟨⟨fA, fn, fc, fl⟩, ⟨sA, sn, sc, sl⟩⟩ 8 depth ((K5.ro 2 rfl).less (mut_tpG (i := 4) rfl)) ((K5.ro 3 rfl).less (mut_tpG (i := 4) rfl)) hT HBB.out hd hd1 hs0 (i64_lit 8 (by decide)) (by decide)).mono ?_
        rintro e w5 ⟨y, rfl, hy, ry, tY, gY⟩
        have HY := hid hy
        have KC : Hold M (some T) w w5 [.blk gr 126 #[.int .i64 0, .int .i64 0, .bool false, .int .i64 0, .int .i64 0, .string ⟨#[]⟩, .string ⟨#[]⟩, .string ⟨#[]⟩, .slice none 0 0, .slice none 0 0], .cst gp 177 #[.slice fA fn fc, .slice sA sn sc], .ro (PlIn ⟨⟨fA, fn, fc, fl⟩, ⟨sA, sn, sc, sl⟩⟩), .ro Wds, .tp T, .ro (ExIn (m + 1 + 2) y)] := ((Hold.callT K5 4 rfl gY tY).add ry).pick [1, 2, 3, 4, 5, 0] (by decide) rfl
        clear K5 hy ry tY gY
        have K9 := KC
        have F9 := K9.facts
        simp only [factsL, cellsF, Nat.reduceAdd, zf, zl] at F9
        have KA := ((((((((((K9.store 0 rfl 0 (.int .i64 y.kind)).store 0 rfl 1 (.int .i64 y.op)).store 0 rfl 2 (.bool y.nt)).store 0 rfl 3 (.int .i64 y.v.k)).store 0 rfl 4 (.int .i64 y.v.i)).store 0 rfl 5 (.string y.v.s)).store 0 rfl 6 (.string y.tab)).store 0 rfl 7 (.string y.nm)).store 0 rfl 8 (.slice y.A y.n y.c)).store 0 rfl 9 (.slice y.B y.m y.d))
        simp only [zl] at KA
        have FA := KA.facts
        simp only [factsL, cellsF, Nat.reduceAdd, zf, zl] at FA
        have HR := hid ((KA.ro 5 rfl).less zm)
        have HT := hid (And.intro (KA.tp_ 4 rfl) KA.grow)
        rw [show y.val = .agg #[.int .i64 y.kind, .int .i64 y.op, .bool y.nt, .int .i64 y.v.k, .int .i64 y.v.i, .string y.v.s, .string y.tab, .string y.nm, .slice y.A y.n y.c, .slice y.B y.m y.d] from rfl]
        clear K9 KA
        go_wp2_with fail
        refine bodyPost_ret (v := .agg #[.int .i64 y.kind, .int .i64 y.op, .bool y.nt, .int .i64 y.v.k, .int .i64 y.v.i, .string y.v.s, .string y.tab, .string y.nm, .slice y.A y.n y.c, .slice y.B y.m y.d]) ?_ rfl ?_
        ·clear HT HR
         simp [results, Tryz.results99, go_sem, FA]
        ·exact ⟨y, rfl, HY.out, HR.out.imp (fun w2 h2 => h2.le (by omega)), HT.out.1, HT.out.2⟩
      ·have hqb : ((q == 0) && decide (0 < sn)) = false := by
        rw [Bool.eq_false_iff]
        intro h
        simp only [Bool.and_eq_true, beq_iff_eq, decide_eq_true_eq] at h
        exact hqs h
       go_wp2_with fail
       all_goals
        clear F4
        refine (HC (Mut M _) T _ K4.mutLt (K4.tp_ 4 rfl) (K4.get 4 rfl).2 ⟨⟨fA, fn, fc, fl⟩, ⟨sA, sn, sc, sl⟩⟩ depth ((K4.ro 2 rfl).less (mut_tpG (i := 4) rfl)) ((K4.ro 3 rfl).less (mut_tpG (i := 4) rfl)) hT HBB.out hd hd1).mono ?_
        rintro e w5 ⟨y, rfl, hy, ry, tY, gY⟩
        have HY := hid hy
        have KC : Hold M (some T) w w5 [.blk gr 126 #[.int .i64 0, .int .i64 0, .bool false, .int .i64 0, .int .i64 0, .string ⟨#[]⟩, .string ⟨#[]⟩, .string ⟨#[]⟩, .slice none 0 0, .slice none 0 0], .cst gp 177 #[.slice fA fn fc, .slice sA sn sc], .ro (PlIn ⟨⟨fA, fn, fc, fl⟩, ⟨sA, sn, sc, sl⟩⟩), .ro Wds, .tp T, .ro (ExIn (m + 1 + 2) y)] := ((Hold.callT K4 4 rfl gY tY).add ry).pick [1, 2, 3, 4, 5, 0] (by decide) rfl
        clear K4 hy ry tY gY
        have K9 := KC
        have F9 := K9.facts
        simp only [factsL, cellsF, Nat.reduceAdd, zf, zl] at F9
        have KA := ((((((((((K9.store 0 rfl 0 (.int .i64 y.kind)).store 0 rfl 1 (.int .i64 y.op)).store 0 rfl 2 (.bool y.nt)).store 0 rfl 3 (.int .i64 y.v.k)).store 0 rfl 4 (.int .i64 y.v.i)).store 0 rfl 5 (.string y.v.s)).store 0 rfl 6 (.string y.tab)).store 0 rfl 7 (.string y.nm)).store 0 rfl 8 (.slice y.A y.n y.c)).store 0 rfl 9 (.slice y.B y.m y.d))
        simp only [zl] at KA
        have FA := KA.facts
        simp only [factsL, cellsF, Nat.reduceAdd, zf, zl] at FA
        have HR := hid ((KA.ro 5 rfl).less zm)
        have HT := hid (And.intro (KA.tp_ 4 rfl) KA.grow)
        rw [show y.val = .agg #[.int .i64 y.kind, .int .i64 y.op, .bool y.nt, .int .i64 y.v.k, .int .i64 y.v.i, .string y.v.s, .string y.tab, .string y.nm, .slice y.A y.n y.c, .slice y.B y.m y.d] from rfl]
        clear K9 KA
        go_wp2_with fail
        refine bodyPost_ret (v := .agg #[.int .i64 y.kind, .int .i64 y.op, .bool y.nt, .int .i64 y.v.k, .int .i64 y.v.i, .string y.v.s, .string y.tab, .string y.nm, .slice y.A y.n y.c, .slice y.B y.m y.d]) ?_ rfl ?_
        ·clear HT HR
         simp [results, Tryz.results99, go_sem, FA]
        ·exact ⟨y, rfl, HY.out, HR.out.imp (fun w2 h2 => h2.le (by omega)), HT.out.1, HT.out.2⟩
     ·by_cases hw1 : want = 1
      ·subst hw1
       have HBE := hid (show PlN m ⟨⟨fA, fn, fc, fl⟩, ⟨sA, sn, sc, sl⟩⟩ from ⟨HBB.out.b, by have := HBB.out.n; omega, fun _ => trivial⟩)
       by_cases hqs : q = 0 ∧ 0 < sn
       ·obtain ⟨rfl, hs0⟩ := hqs
        have hsb : decide (0 < sn) = true := by simpa using hs0
        obtain ⟨KL, hKL⟩ : ∃ KL : List Hp, KL = [.blk gr 126 #[.int .i64 0, .int .i64 0, .bool false, .int .i64 0, .int .i64 0, .string ⟨#[]⟩, .string ⟨#[]⟩, .string ⟨#[]⟩, .slice none 0 0, .slice none 0 0], .cst gp 177 #[.slice fA fn fc, .slice sA sn sc], .ro (PlIn ⟨⟨fA, fn, fc, fl⟩, ⟨sA, sn, sc, sl⟩⟩), .ro Wds, .tp T] := ⟨_, rfl⟩
        have hcast : ∀ (L1 : List Hp) (wz : World), Hold M (some T) w wz L1 → L1 = KL → Hold M (some T) w wz KL := fun _ _ h e => e ▸ h
        have K5 := hcast _ _ K4 hKL.symm
        have H1 : ∀ wv : World, Hold M (some T) w wv KL → Blk wv gp 177 #[.slice fA fn fc, .slice sA sn sc] := fun wv h => by rw [hKL] at h; exact h.cst_ 1 rfl
        have H2 : ∀ wv : World, Hold M (some T) w wv KL → Ro wv (Mut M KL) (PlIn ⟨⟨fA, fn, fc, fl⟩, ⟨sA, sn, sc, sl⟩⟩) ∧ Ro wv (Mut M KL) Wds ∧ Tp wv T ∧ ∀ b, (Mut M KL) b → T ≤ b := fun wv h => by rw [hKL] at h ⊢; exact ⟨h.ro 2 rfl, h.ro 3 rfl, h.tp_ 4 rfl, (h.get 4 rfl).2⟩
        have h4 : KL[4]? = some (.tp T) := by rw [hKL]; rfl
        have HH1 := hid H1
        have HH2 := hid H2
        have HH4 := hid h4
        have HKL := hid hKL
        clear hKL hcast H1 H2 h4 K4
        go_wp2_with fail
        clear F4
        refine wp_region_any (by kernel_rfl) ?_
        refine wpAny_hold 7 135 (KL) (spL [(70, fun u _ => NatB 4 u), (73, ExSlot (Mut M KL) (m + 1 + 2))]) (by kernel_rfl) (by kernel_rfl) (by kernel_rfl) rfl ?_ (K5.drew) ?_
        ·exact stays_cons (fun _ _ _ _ h => h) (stays_cons exSlot_mono (stays_nil _))
        simp only [zd, Act.put, List.getElem_toArray, List.getElem_cons_zero, List.getElem_cons_succ, zl]
        refine dw_val rfl rfl rfl ?_; apply Exists.intro; refine ⟨fun wv HC => ?_, ?_⟩
        · go_simp <;> rfl
        simp only [Act.put, zl]
        refine dw_val rfl rfl rfl ?_; apply Exists.intro; refine ⟨fun wv HC => ?_, ?_⟩
        ·obtain q0 := (HH1.out _ HC).cell 0; obtain q1 := (HH1.out _ HC).cell 1; go_simp <;> rfl
        simp only [Act.put, zl]
        refine dw_val rfl rfl rfl ?_; apply Exists.intro; refine ⟨fun wv HC => ?_, ?_⟩
        · go_simp <;> rfl
        simp only [Act.put, zl]
        refine dw_next 4 4 HH4.out 70 rfl rfl rfl rfl (fun wv => ?_) (fun r hr => ?_)
        ·go_simp <;> rfl
        have r4 : (r : Int) < 4 := by omega
        have r0 : (0 : Int) ≤ (r : Int) := by omega
        have hw9 : IntKind.i64.wrap (9 + (r : Int)) = 9 + r := IntWalk.i64_in _ (by omega)
        refine dw_val rfl rfl rfl ?_; apply Exists.intro; refine ⟨fun wv HC => ?_, ?_⟩
        · go_simp <;> rfl
        simp only [Act.put, zl]
        refine dw_val rfl rfl rfl ?_; apply Exists.intro; refine ⟨fun wv HC => ?_, ?_⟩
        · go_simp <;> rfl
        simp only [Act.put, zl]
        refine dw_callR 73 (ExSlot (Mut M KL) (m + 1 + 2)) (f := 155) (args := #[.pointer (some ⟨T, 0, none⟩), .agg #[.slice fA fn fc, .slice sA sn sc], .int .i64 (9 + r), .int .i64 depth]) rfl rfl rfl rfl (fun wv => ?_) (fun wv HC hrm hD => ?_) ?_
        ·go_simp <;> rfl
        ·obtain ⟨X0, X1, X2, X3⟩ := HH2.out _ HC
         refine (HQ (Mut M KL) T wv HC.mutLt X2 X3 ⟨⟨fA, fn, fc, fl⟩, ⟨sA, sn, sc, sl⟩⟩ (9 + r) depth (X0.less (mut_tpG HH4.out)) (X1.less (mut_tpG HH4.out)) hT HBB.out hd (by omega) hs0 ⟨by omega, by omega⟩ (by omega)).mono ?_
         rintro e w5 ⟨x, rfl, hx, rx, t5, g5⟩
         exact ⟨_, rfl, ⟨x, rfl, hx, rx⟩, Hold.callT HC 4 HH4.out g5 t5, RM.grown g5 (.inr ⟨_, List.mem_of_getElem? HH4.out, rfl⟩)⟩
        rintro u wx HCx ⟨x, rfl, hx, rx⟩
        clear HCx hx rx
        simp only [Act.put, zl]
        refine rel_nil ?_
        rintro wx2 HX
        rintro _hrm HG
        have hu : ExSlot (Mut M KL) (m + 1 + 2) x.val wx2 := (GW_on (d := 73) rfl).1 (HG 6 _ rfl (by omega))
        clear HG _hrm
        obtain ⟨y, hy, hok, hro⟩ := hu
        rw [HKL.out] at HX hro
        have KC : Hold M (some T) w wx2 [.blk gr 126 #[.int .i64 0, .int .i64 0, .bool false, .int .i64 0, .int .i64 0, .string ⟨#[]⟩, .string ⟨#[]⟩, .string ⟨#[]⟩, .slice none 0 0, .slice none 0 0], .cst gp 177 #[.slice fA fn fc, .slice sA sn sc], .ro (PlIn ⟨⟨fA, fn, fc, fl⟩, ⟨sA, sn, sc, sl⟩⟩), .ro Wds, .tp T, .ro (ExIn (m + 1 + 2) y)] := (HX.add hro).pick [1, 2, 3, 4, 5, 0] (by decide) rfl
        clear HX hro
        have HY := hid hok
        clear hok
        rw [hy]
        clear hy x
        have _hh := HY
        rw [show y.val = .agg #[.int .i64 y.kind, .int .i64 y.op, .bool y.nt, .int .i64 y.v.k, .int .i64 y.v.i, .string y.v.s, .string y.tab, .string y.nm, .slice y.A y.n y.c, .slice y.B y.m y.d] from rfl]
        have K9 := KC
        have F9 := K9.facts
        simp only [factsL, cellsF, Nat.reduceAdd, zf, zl] at F9
        have KA := ((((((((((K9.store 0 rfl 0 (.int .i64 y.kind)).store 0 rfl 1 (.int .i64 y.op)).store 0 rfl 2 (.bool y.nt)).store 0 rfl 3 (.int .i64 y.v.k)).store 0 rfl 4 (.int .i64 y.v.i)).store 0 rfl 5 (.string y.v.s)).store 0 rfl 6 (.string y.tab)).store 0 rfl 7 (.string y.nm)).store 0 rfl 8 (.slice y.A y.n y.c)).store 0 rfl 9 (.slice y.B y.m y.d))
        simp only [zl] at KA
        have FA := KA.facts
        simp only [factsL, cellsF, Nat.reduceAdd, zf, zl] at FA
        have HR := hid ((KA.ro 5 rfl).less zm)
        have HT := hid (And.intro (KA.tp_ 4 rfl) KA.grow)
        clear K9 KA
        go_wp2_with fail
        refine bodyPost_ret (v := .agg #[.int .i64 y.kind, .int .i64 y.op, .bool y.nt, .int .i64 y.v.k, .int .i64 y.v.i, .string y.v.s, .string y.tab, .string y.nm, .slice y.A y.n y.c, .slice y.B y.m y.d]) ?_ rfl ?_
        ·clear HT HR
         simp [results, Tryz.results99, go_sem, FA]
        ·exact ⟨y, rfl, HY.out.le (by omega), HR.out.imp (fun w2 h2 => h2.le (by omega)), HT.out.1, HT.out.2⟩
       ·go_wp2_with fail
        all_goals
         refine (bool_any T 6 _ (K4.tp_ 4 rfl) (by omega) (by omega)).mono ?_
         rintro e w4 ⟨b6, rfl, t4, g4⟩
         have K5 := Hold.callT K4 4 rfl g4 t4
         clear K4 F4 g4 t4
         have hs1 : IntKind.i64.wrap (depth - 1) = depth - 1 := IntWalk.i64_in _ (by have := HBB.out.n; omega)
         have F5 := K5.facts
         simp only [factsL, cellsF, Nat.reduceAdd, zf, zl] at F5
         cases b6
         ·obtain ⟨KL, hKL⟩ : ∃ KL : List Hp, KL = [.blk gr 126 #[.int .i64 0, .int .i64 0, .bool false, .int .i64 0, .int .i64 0, .string ⟨#[]⟩, .string ⟨#[]⟩, .string ⟨#[]⟩, .slice none 0 0, .slice none 0 0], .cst gp 177 #[.slice fA fn fc, .slice sA sn sc], .ro (PlIn ⟨⟨fA, fn, fc, fl⟩, ⟨sA, sn, sc, sl⟩⟩), .ro Wds, .tp T] := ⟨_, rfl⟩
          have hcast : ∀ (L1 : List Hp) (wz : World), Hold M (some T) w wz L1 → L1 = KL → Hold M (some T) w wz KL := fun _ _ h e => e ▸ h
          have K6 := hcast _ _ K5 hKL.symm
          have H1 : ∀ wv : World, Hold M (some T) w wv KL → Blk wv gp 177 #[.slice fA fn fc, .slice sA sn sc] := fun wv h => by rw [hKL] at h; exact h.cst_ 1 rfl
          have H2 : ∀ wv : World, Hold M (some T) w wv KL → Ro wv (Mut M KL) (PlIn ⟨⟨fA, fn, fc, fl⟩, ⟨sA, sn, sc, sl⟩⟩) ∧ Ro wv (Mut M KL) Wds ∧ Tp wv T ∧ ∀ b, (Mut M KL) b → T ≤ b := fun wv h => by rw [hKL] at h ⊢; exact ⟨h.ro 2 rfl, h.ro 3 rfl, h.tp_ 4 rfl, (h.get 4 rfl).2⟩
          have h4 : KL[4]? = some (.tp T) := by rw [hKL]; rfl
          have HH1 := hid H1
          have HH2 := hid H2
          have HH4 := hid h4
          have HKL := hid hKL
          clear hKL hcast H1 H2 h4 K5
          go_wp2_with fail
          clear F5
          refine wp_region_any (by kernel_rfl) ?_
          refine wpAny_hold 17 135 (KL) (spL [(107, IntsSlot (Mut M KL) 6 [9, 10, 11, 9, 12, 13]), (109, fun u _ => NatB 6 u), (110, CellSlot (Mut M KL) I64), (111, IntSlot I64), (117, ExSlot (Mut M KL) (m + 2)), (123, ExSlot (Mut M KL) (m + 2))]) (by kernel_rfl) (by kernel_rfl) (by kernel_rfl) rfl ?_ (K6.drew) ?_
          ·exact stays_cons intsSlot_mono (stays_cons (fun _ _ _ _ h => h) (stays_cons cellSlot_mono (stays_cons intSlot_mono (stays_cons exSlot_mono (stays_cons exSlot_mono (stays_nil _))))))
          simp only [zd, Act.put, List.getElem_toArray, List.getElem_cons_zero, List.getElem_cons_succ, zl]
          refine dw_new #[.int .i64 9, .int .i64 10, .int .i64 11, .int .i64 9, .int .i64 12, .int .i64 13] 3 107 (IntsSlot (Mut M KL) 6 [9, 10, 11, 9, 12, 13]) (fun g => .slice (some ⟨g, 0, none⟩) 6 6) rfl rfl rfl rfl (fun wv => ?_) (fun wv HC _hrm hD hro => ?_) ?_
          ·go_simp <;> rfl
          ·exact ⟨_, rfl, rfl, ro_block (hro _ HC.mutLt) rfl⟩
          rintro g21 wg HCg hg21
          simp only [Act.put, zl]
          clear HCg hg21
          refine dw_val rfl rfl rfl ?_; apply Exists.intro; refine ⟨fun wv HC => ?_, ?_⟩
          · go_simp <;> rfl
          simp only [Act.put, zl]
          refine dw_next 6 4 HH4.out 109 rfl rfl rfl rfl (fun wv => ?_) (fun r hr => ?_)
          ·go_simp <;> rfl
          have r6 : (r : Int) < 6 := by omega
          have r0 : (0 : Int) ≤ (r : Int) := by omega
          simp only [Act.put, zl]
          refine dw_any 110 (CellSlot (Mut M KL) I64) rfl rfl rfl rfl (fun wv HC hD => ?_) ?_
          ·have ha : IntsSlot (Mut M KL) 6 [9, 10, 11, 9, 12, 13] (.slice (some ⟨g21, 0, none⟩) 6 6) wv := deps_at hD 0 rfl (by kernel_rfl) rfl rfl
           refine ⟨.pointer (some ⟨g21, r, none⟩), ?_, ha.cell (by intro z hz; simp only [List.mem_cons, List.not_mem_nil, or_false] at hz; rcases hz with rfl | rfl | rfl | rfl | rfl | rfl <;> exact i64_lit _ (by decide)) hr⟩
           go_simp
          rintro u wx HCx ⟨gz, oz, zz, rfl, hz, -⟩
          clear HCx hz
          simp only [Act.put, zl]
          refine dw_any 111 (IntSlot I64) rfl rfl rfl rfl (fun wv HC hD => ?_) ?_
          ·obtain ⟨g', o', z, e', hz, hc⟩ : CellSlot (Mut M KL) I64 (.pointer (some ⟨gz, oz, none⟩)) wv := deps_at hD 3 rfl (by kernel_rfl) rfl rfl
           obtain ⟨rfl, rfl⟩ : gz = g' ∧ oz = o' := by injection e' with e'; injection e' with e'; injection e' with e1 e2; exact ⟨e1, e2⟩
           have hc0 := hc.now
           refine ⟨.int .i64 z, ?_, ⟨z, rfl, hz⟩⟩
           go_simp
          rintro u wx HCx ⟨zop, rfl, hzop⟩
          clear HCx
          have HZOP := hid hzop
          clear hzop
          simp only [Act.put, zl]
          refine dw_val rfl rfl rfl ?_; apply Exists.intro; refine ⟨fun wv HC => ?_, ?_⟩
          · go_simp <;> rfl
          simp only [Act.put, zl]
          refine dw_val rfl rfl rfl ?_; apply Exists.intro; refine ⟨fun wv HC => ?_, ?_⟩
          ·obtain q0 := (HH1.out _ HC).cell 0; obtain q1 := (HH1.out _ HC).cell 1; go_simp <;> rfl
          simp only [Act.put, zl]
          refine dw_val rfl rfl rfl ?_; apply Exists.intro; refine ⟨fun wv HC => ?_, ?_⟩
          · go_simp <;> rfl
          simp only [Act.put, zl]
          refine dw_val rfl rfl rfl ?_; apply Exists.intro; refine ⟨fun wv HC => ?_, ?_⟩
          · go_simp <;> rfl
          simp only [Act.put, zl]
          refine dw_val rfl rfl rfl ?_; apply Exists.intro; refine ⟨fun wv HC => ?_, ?_⟩
          · go_simp <;> rfl
          simp only [Act.put, zl]
          refine dw_callR 117 (ExSlot (Mut M KL) (m + 2)) (f := 99) (args := #[.pointer (some ⟨T, 0, none⟩), .agg #[.slice fA fn fc, .slice sA sn sc], .int .i64 1, .int .i64 (depth - 1)]) rfl rfl rfl rfl (fun wv => ?_) (fun wv HC hrm hD => ?_) ?_
          ·go_simp <;> rfl
          ·obtain ⟨X0, X1, X2, X3⟩ := HH2.out _ HC
           refine (HE (Mut M KL) T wv HC.mutLt X2 X3 ⟨⟨fA, fn, fc, fl⟩, ⟨sA, sn, sc, sl⟩⟩ 1 (depth - 1) (X0.less (mut_tpG HH4.out)) (X1.less (mut_tpG HH4.out)) hT HBE.out (by omega) (by omega)).mono ?_
           rintro e w5 ⟨x, rfl, hx, rx, t5, g5⟩
           exact ⟨_, rfl, ⟨x, rfl, hx, rx⟩, Hold.callT HC 4 HH4.out g5 t5, RM.grown g5 (.inr ⟨_, List.mem_of_getElem? HH4.out, rfl⟩)⟩
          rintro u wx HCx ⟨x, rfl, hx, rx⟩
          clear HCx hx rx
          simp only [Act.put, zl]
          refine dw_val rfl rfl rfl ?_; apply Exists.intro; refine ⟨fun wv HC => ?_, ?_⟩
          · go_simp <;> rfl
          simp only [Act.put, zl]
          refine dw_val rfl rfl rfl ?_; apply Exists.intro; refine ⟨fun wv HC => ?_, ?_⟩
          ·obtain q0 := (HH1.out _ HC).cell 0; obtain q1 := (HH1.out _ HC).cell 1; go_simp <;> rfl
          simp only [Act.put, zl]
          refine dw_val rfl rfl rfl ?_; apply Exists.intro; refine ⟨fun wv HC => ?_, ?_⟩
          · go_simp <;> rfl
          simp only [Act.put, zl]
          refine dw_val rfl rfl rfl ?_; apply Exists.intro; refine ⟨fun wv HC => ?_, ?_⟩
          · go_simp <;> rfl
          simp only [Act.put, zl]
          refine dw_val rfl rfl rfl ?_; apply Exists.intro; refine ⟨fun wv HC => ?_, ?_⟩
          · go_simp <;> rfl
          simp only [Act.put, zl]
          refine dw_callR 123 (ExSlot (Mut M KL) (m + 2)) (f := 99) (args := #[.pointer (some ⟨T, 0, none⟩), .agg #[.slice fA fn fc, .slice sA sn sc], .int .i64 1, .int .i64 (depth - 1)]) rfl rfl rfl rfl (fun wv => ?_) (fun wv HC hrm hD => ?_) ?_
          ·go_simp <;> rfl
          ·obtain ⟨X0, X1, X2, X3⟩ := HH2.out _ HC
           refine (HE (Mut M KL) T wv HC.mutLt X2 X3 ⟨⟨fA, fn, fc, fl⟩, ⟨sA, sn, sc, sl⟩⟩ 1 (depth - 1) (X0.less (mut_tpG HH4.out)) (X1.less (mut_tpG HH4.out)) hT HBE.out (by omega) (by omega)).mono ?_
           rintro e w5 ⟨x, rfl, hx, rx, t5, g5⟩
           exact ⟨_, rfl, ⟨x, rfl, hx, rx⟩, Hold.callT HC 4 HH4.out g5 t5, RM.grown g5 (.inr ⟨_, List.mem_of_getElem? HH4.out, rfl⟩)⟩
          rintro u wx HCx ⟨x2, rfl, hx, rx⟩
          clear HCx hx rx
          simp only [Act.put, zl]
          refine rel_nil ?_
          rintro wx2 HX
          rintro _hrm HG
          have hu : ExSlot (Mut M KL) (m + 2) x.val wx2 := (GW_on (d := 117) rfl).1 (HG 10 _ rfl (by omega))
          have hu2 : ExSlot (Mut M KL) (m + 2) x2.val wx2 := (GW_on (d := 123) rfl).1 (HG 16 _ rfl (by omega))
          clear HG _hrm
          obtain ⟨y1, hy1, hok1, hro1⟩ := hu
          obtain ⟨y2, hy2, hok2, hro2⟩ := hu2
          rw [HKL.out] at HX hro1 hro2
          have HYA := hid (op_ok (d := m + 2) (kind := 5) (op := zop) (nt := false) (g := 0) (k := 2) (l := [y1, y2]) (i64_lit 5 (by decide)) HZOP.out (by omega) (fun z hz => by
           simp only [List.mem_cons, List.not_mem_nil, or_false] at hz
           rcases hz with rfl | rfl
           ·exact hok1
           ·exact hok2))
          clear hok1 hok2
          rw [hy1, hy2]
          clear hy1 hy2 x x2
          rw [show y1.val = .agg #[.int .i64 y1.kind, .int .i64 y1.op, .bool y1.nt, .int .i64 y1.v.k, .int .i64 y1.v.i, .string y1.v.s, .string y1.tab, .string y1.nm, .slice y1.A y1.n y1.c, .slice y1.B y1.m y1.d] from rfl]
          rw [show y2.val = .agg #[.int .i64 y2.kind, .int .i64 y2.op, .bool y2.nt, .int .i64 y2.v.k, .int .i64 y2.v.i, .string y2.v.s, .string y2.tab, .string y2.nm, .slice y2.A y2.n y2.c, .slice y2.B y2.m y2.d] from rfl]
          go_wp2_with fail
          refine (bin_any (Mut M _) _ HX.mutLt zop y1 y2 (m + 2) hro1 hro2).mono ?_
          rintro e w6 ⟨g6, rfl, ry, b6⟩
          have HYB := hid (show ExGd (m + 1 + 2) (opE 5 zop false g6 2 [y1, y2]) from HYA.out)
          generalize opE 5 zop false g6 2 [y1, y2] = y at *
          have HY := HYB
          have KC : Hold M (some T) w w6 [.blk gr 126 #[.int .i64 0, .int .i64 0, .bool false, .int .i64 0, .int .i64 0, .string ⟨#[]⟩, .string ⟨#[]⟩, .string ⟨#[]⟩, .slice none 0 0, .slice none 0 0], .cst gp 177 #[.slice fA fn fc, .slice sA sn sc], .ro (PlIn ⟨⟨fA, fn, fc, fl⟩, ⟨sA, sn, sc, sl⟩⟩), .ro Wds, .tp T, .ro (ExIn (m + 2 + 1) y)] := ((HX.call b6).add ry).pick [1, 2, 3, 4, 5, 0] (by decide) rfl
          clear HX hro1 hro2 ry b6 HYA HYB
          rw [show y.val = .agg #[.int .i64 y.kind, .int .i64 y.op, .bool y.nt, .int .i64 y.v.k, .int .i64 y.v.i, .string y.v.s, .string y.tab, .string y.nm, .slice y.A y.n y.c, .slice y.B y.m y.d] from rfl]
          have F9 := KC.facts
          simp only [factsL, cellsF, Nat.reduceAdd, zf, zl] at F9
          have KA := ((((((((((KC.store 0 rfl 0 (.int .i64 y.kind)).store 0 rfl 1 (.int .i64 y.op)).store 0 rfl 2 (.bool y.nt)).store 0 rfl 3 (.int .i64 y.v.k)).store 0 rfl 4 (.int .i64 y.v.i)).store 0 rfl 5 (.string y.v.s)).store 0 rfl 6 (.string y.tab)).store 0 rfl 7 (.string y.nm)).store 0 rfl 8 (.slice y.A y.n y.c)).store 0 rfl 9 (.slice y.B y.m y.d))
          simp only [zl] at KA
          have FA := KA.facts
          simp only [factsL, cellsF, Nat.reduceAdd, zf, zl] at FA
          have HR := hid ((KA.ro 5 rfl).less zm)
          have HT := hid (And.intro (KA.tp_ 4 rfl) KA.grow)
          clear KC KA
          go_wp2_with fail
          refine bodyPost_ret (v := .agg #[.int .i64 y.kind, .int .i64 y.op, .bool y.nt, .int .i64 y.v.k, .int .i64 y.v.i, .string y.v.s, .string y.tab, .string y.nm, .slice y.A y.n y.c, .slice y.B y.m y.d]) ?_ rfl ?_
          ·clear HT HR
           simp [results, Tryz.results99, go_sem, FA]
          ·exact ⟨y, rfl, HY.out.le (by omega), HR.out.imp (fun w2 h2 => h2.le (by omega)), HT.out.1, HT.out.2⟩
         ·go_wp2_with fail
          refine (HE (Mut M _) T _ K5.mutLt (K5.tp_ 4 rfl) (K5.get 4 rfl).2 ⟨⟨fA, fn, fc, fl⟩, ⟨sA, sn, sc, sl⟩⟩ 1 (depth - 1) ((K5.ro 2 rfl).less (mut_tpG (i := 4) rfl)) ((K5.ro 3 rfl).less (mut_tpG (i := 4) rfl)) hT HBE.out (by omega) (by omega)).mono ?_
          rintro e w5 ⟨x, rfl, hx, rx, tY, gY⟩
          have K7 := ((Hold.callT K5 4 rfl gY tY).add rx).alloc_cst #[.int .i64 x.kind, .int .i64 x.op, .bool x.nt, .int .i64 x.v.k, .int .i64 x.v.i, .string x.v.s, .string x.tab, .string x.nm, .slice x.A x.n x.c, .slice x.B x.m x.d] 126
          rw [show x.val = .agg #[.int .i64 x.kind, .int .i64 x.op, .bool x.nt, .int .i64 x.v.k, .int .i64 x.v.i, .string x.v.s, .string x.tab, .string x.nm, .slice x.A x.n x.c, .slice x.B x.m x.d] from rfl]
          clear F5 K5 rx tY gY
          have F7 := K7.facts
          simp only [factsL, cellsF, Nat.reduceAdd, zf, zl] at F7
          have K8 := ((((((((((K7.store 2 rfl 0 (.int .i64 4)).store 2 rfl 1 (.int .i64 0)).store 2 rfl 2 (.bool false)).store 2 rfl 3 (.int .i64 0)).store 2 rfl 4 (.int .i64 0)).store 2 rfl 5 (.string ⟨#[]⟩)).store 2 rfl 6 (.string ⟨#[]⟩)).store 2 rfl 7 (.string ⟨#[]⟩)).store 2 rfl 8 (.slice (some ⟨w5.heap.size, 0, none⟩) 1 1)).store 2 rfl 9 (.slice none 0 0))
          simp only [zl] at K8
          have F8 := K8.facts
          simp only [factsL, cellsF, Nat.reduceAdd, zf, zl] at F8
          have hE1 : Ro _ _ (ExsIn (m + 2) (some ⟨w5.heap.size, 0, none⟩) 1 [x]) := exs_block (l := [x]) (K8.get 0 rfl) rfl (fun z hz => by
           simp only [List.mem_cons, List.not_mem_nil, or_false] at hz
           subst hz
           exact K8.ro 1 rfl)
          have HR := hid ((hE1.imp (S' := ExIn (m + 2 + 1) (opE 4 0 false w5.heap.size 1 [x])) fun w2 h2 => op_in h2).less zm)
          have HT := hid (And.intro (K8.tp_ 6 rfl) K8.grow)
          have HX := hid (op_ok (d := m + 2) (kind := 4) (op := 0) (nt := false) (g := w5.heap.size) (k := 1) (l := [x]) (i64_lit 4 (by decide)) (i64_lit 0 (by decide)) (by omega) (fun z hz => by
           simp only [List.mem_cons, List.not_mem_nil, or_false] at hz
           subst hz
           exact hx))
          clear K7 K8 hE1
          go_wp2_with fail
          refine bodyPost_ret (v := .agg #[.int .i64 4, .int .i64 0, .bool false, .int .i64 0, .int .i64 0, .string ⟨#[]⟩, .string ⟨#[]⟩, .string ⟨#[]⟩, .slice (some ⟨w5.heap.size, 0, none⟩) 1 1, .slice none 0 0]) ?_ rfl ?_
          ·clear HT HR HX
           simp [results, Tryz.results99, go_sem, F8]
          ·exact ⟨opE 4 0 false w5.heap.size 1 [x], rfl, HX.out, HR.out, HT.out.1, HT.out.2⟩
      ·have hw1b : (want == 1) = false := by simpa using hw1
       have hw2b : (want == 2) = false := by simpa using hw2
       go_wp2_with fail
       all_goals first
        | (exfalso; contradiction)
        | skip
       refine (typed_any T want _ (K4.tp_ 4 rfl) (K4.ro 3 rfl).now hT).mono ?_
       rintro e w5 ⟨vk, vi, vs, rfl, hv, hs, hvi, t5, -, g5⟩
       have KB := Hold.callT K4 4 rfl g5 t5
       have HVK := hid (kind_i64 hv)
       clear K4 F4 g5 t5
       go_wp2_with fail
       refine (lit_any _ ⟨vk, vi, vs⟩).mono ?_
       rintro e w6 ⟨rfl, b6⟩
       have KC : Hold M (some T) w w6 [.blk gr 126 #[.int .i64 0, .int .i64 0, .bool false, .int .i64 0, .int .i64 0, .string ⟨#[]⟩, .string ⟨#[]⟩, .string ⟨#[]⟩, .slice none 0 0, .slice none 0 0], .cst gp 177 #[.slice fA fn fc, .slice sA sn sc], .ro (PlIn ⟨⟨fA, fn, fc, fl⟩, ⟨sA, sn, sc, sl⟩⟩), .ro Wds, .tp T, .ro (ExIn 1 (litE ⟨vk, vi, vs⟩))] := ((KB.call b6).add (S := ExIn 1 (litE ⟨vk, vi, vs⟩)) (fun w2 _ _ => lit_in _ _)).pick [1, 2, 3, 4, 5, 0] (by decide) rfl
       clear KB b6
       have HY := hid (lit_ok ⟨vk, vi, vs⟩ HVK.out hvi)
       generalize litE ⟨vk, vi, vs⟩ = y at *
       have K9 := KC
       have F9 := K9.facts
       simp only [factsL, cellsF, Nat.reduceAdd, zf, zl] at F9
       have KA := ((((((((((K9.store 0 rfl 0 (.int .i64 y.kind)).store 0 rfl 1 (.int .i64 y.op)).store 0 rfl 2 (.bool y.nt)).store 0 rfl 3 (.int .i64 y.v.k)).store 0 rfl 4 (.int .i64 y.v.i)).store 0 rfl 5 (.string y.v.s)).store 0 rfl 6 (.string y.tab)).store 0 rfl 7 (.string y.nm)).store 0 rfl 8 (.slice y.A y.n y.c)).store 0 rfl 9 (.slice y.B y.m y.d))
       simp only [zl] at KA
       have FA := KA.facts
       simp only [factsL, cellsF, Nat.reduceAdd, zf, zl] at FA
       have HR := hid ((KA.ro 5 rfl).less zm)
       have HT := hid (And.intro (KA.tp_ 4 rfl) KA.grow)
       rw [show y.val = .agg #[.int .i64 y.kind, .int .i64 y.op, .bool y.nt, .int .i64 y.v.k, .int .i64 y.v.i, .string y.v.s, .string y.tab, .string y.nm, .slice y.A y.n y.c, .slice y.B y.m y.d] from rfl]
       clear K9 KA
       go_wp2_with fail
       refine bodyPost_ret (v := .agg #[.int .i64 y.kind, .int .i64 y.op, .bool y.nt, .int .i64 y.v.k, .int .i64 y.v.i, .string y.v.s, .string y.tab, .string y.nm, .slice y.A y.n y.c, .slice y.B y.m y.d]) ?_ rfl ?_
       ·clear HT HR
        simp [results, Tryz.results99, go_sem, FA]
       ·exact ⟨y, rfl, HY.out.le (by omega), HR.out.imp (fun w2 h2 => h2.le (by omega)), HT.out.1, HT.out.2⟩
end Go.Proofs.YtnbbllkbefagmaaGreatDoor

namespace Go.Proofs.YtnbbllkbefagmaaGreatDoor
open Go.RowKit
set_option linter.unusedVariables false
set_option linter.unusedSimpArgs false
section
variable {M : Nat → Prop} {row : Option Nat} {w0 w1 : World} {L : List Hp} {sp : SpW} {F : Act → Prop} {S0 : Array Bool}
variable {ops : Array Oper} {o : Oper} {rest : List Oper} {a : Act} {k : Nat} {T : Nat}
def BoolSlot (u : Value) (_ : World) : Prop := ∃ b : Bool, u = .bool b
theorem dw_bool (n : Nat) (i : Nat) (hi : L[i]? = some (.tp T)) (d : Tmp) (hS : S0.getD k false = false) (hw : Region.wanted o (yielded ops a.tmps) = true) (hd : o.dst = some d) (hsp : sp d = some BoolSlot)
  (hrun : ∀ w, (execOp a.eval o).run Tryz.prog w = .ok (.enter 33 #[.pointer (some ⟨T, 0, none⟩), .int .i64 n]) w) (hn : ∀ b : Bool, wpRel Tryz.prog ops (HC M (some T) w0 w1 L) (GW sp) (RM (Mut M L)) S0 F (k + 1) rest (a.put (some d) (.bool b)))
  (hpos : 0 < n := by omega) (hmax : n ≤ 9223372036854775807 := by omega) : wpRel Tryz.prog ops (HC M (some T) w0 w1 L) (GW sp) (RM (Mut M L)) S0 F k (o :: rest) a := by
 refine dw_call d BoolSlot hS hw hd hsp hrun (fun w HC _ => ?_) (fun u _ _ ⟨b, hu⟩ => by subst hu; exact hn b)
 refine (bool_any T n w (HC.tp_ i hi) (by omega) (by omega)).mono ?_
 rintro e w5 ⟨b, rfl, t5, g5⟩
 exact ⟨_, rfl, ⟨b, rfl⟩, Hold.callT HC i hi g5 t5, RM.grown g5 (.inr ⟨_, List.mem_of_getElem? hi, rfl⟩)⟩
end
end Go.Proofs.YtnbbllkbefagmaaGreatDoor

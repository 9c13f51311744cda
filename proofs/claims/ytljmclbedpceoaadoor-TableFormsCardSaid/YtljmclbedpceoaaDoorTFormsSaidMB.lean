/- The contracts of Valid, of package schema and of its reference. -/
import Derived.StillTail
import Derived.Tactics
import Derived.KernelRfl
import Derived.Test.YtljmclbedpceoaaDoorTFormsSaidMA
import Derived.Maps.OwnOps
import Derived.Maps.Views
import Derived.DeepKeys4
namespace Go.Proofs.YtljmclbedpceoaaDoor
open Go
set_option linter.unusedVariables false
set_option linter.unusedSectionVars false
set_option linter.unusedSimpArgs false

def slot (a : Act) : Option Tmp → Value
  | some t => a.tmps.getD t undef
  | none => undef

section
variable (P : Program) (ops : Array Oper) (C : World → Prop) (G : Option Tmp → Value → World → Prop) (R : World → World → Prop)

/-- What an operation waits for lies there. -/
def Deps (o : Oper) (a : Act) (w : World) : Prop := ∀ e ∈ o.after, Region.binds .any e = true → ∀ oe, ops[e.on]? = some oe → G oe.dst (slot a oe.dst) w
def goodUpon (d : Option Tmp) (w : World) : Result Next → Prop
  | .ok (.value u) w' => G d u w' ∧ C w' ∧ R w w'
  | .ok .skip w' => G d undef w' ∧ C w' ∧ R w w'
  | .ok (.enter f args) w' => Calls P f args w' fun e w'' => ∃ u, e = .returned u ∧ G d u w'' ∧ C w'' ∧ R w w''
  | _ => False
def Good (o : Oper) (a : Act) (w : World) : Prop := goodUpon P C G R o.dst w ((execOp a.eval o).run P w)
def mayUpon (u : Value) : Result Next → Prop
  | .ok (.value x) _ => u = x
  | .ok .skip _ => u = undef
  | .ok (.enter _ _) _ => True
  | _ => False
def StepOk (o : Oper) (a : Act) : Prop :=
  if Region.wanted o (yielded ops a.tmps) = true then ∀ w, C w → Deps ops G o a w → Good P C G R o a w else ∀ w, C w → G o.dst undef w
def May (o : Oper) (a : Act) (u : Value) : Prop :=
  if Region.wanted o (yielded ops a.tmps) = true then ∃ w, C w ∧ Deps ops G o a w ∧ mayUpon u ((execOp a.eval o).run P w) else u = undef
/-- Some world has all that is done so far. -/
def Inh (S : Array Bool) (k : Nat) (a : Act) : Prop := ∃ w, C w ∧ ∀ j oj, ops[j]? = some oj → (S.getD j false = true ∨ j < k) → G oj.dst (slot a oj.dst) w
/-- The walk in the order of the text, over what is still to come (S: what has come up). -/
def Wk (S : Array Bool) (F : Act → Prop) : Nat → Nat → Act → Prop
  | 0, k, a => Inh ops C G S k a → F a
  | m + 1, k, a => Inh ops C G S k a → match ops[k]? with
    | none => False
    | some o => if S.getD k false = true then Wk S F m (k + 1) a else StepOk P ops C G R o a ∧ ∀ u, May P ops C G o a u → Inh ops C G S (k + 1) (a.put o.dst u) → Wk S F m (k + 1) (a.put o.dst u)
def Inv (S : Array Bool) (a : Act) (w : World) : Prop := C w ∧ ∀ j oj, ops[j]? = some oj → S.getD j false = true → G oj.dst (slot a oj.dst) w
end

section
variable {P : Program} {ops : Array Oper} {C : World → Prop} {G : Option Tmp → Value → World → Prop} {R : World → World → Prop}

/-- no two operations of the region fill one slot; each slot lies in the frame -/
def dstsB (ops : Array Oper) (n : Nat) : Bool :=
  (List.range ops.size).all fun i => match (ops[i]?).bind (·.dst) with
    | none => true
    | some d => decide (d < n) && (List.range ops.size).all fun j => j == i || (ops[j]?).bind (·.dst) != some d
theorem dstsB_in {n i : Nat} {o : Oper} {d : Tmp} (h : dstsB ops n = true) (hi : ops[i]? = some o) (hd : o.dst = some d) : d < n := by
  have h1 := List.all_eq_true.1 h i (List.mem_range.2 (Array.getElem?_eq_some_iff.1 hi).1)
  simp only [hi, Option.bind_some, hd, Bool.and_eq_true, decide_eq_true_eq] at h1
  exact h1.1
theorem dstsB_ne {n i j : Nat} {o o' : Oper} {d : Tmp} (h : dstsB ops n = true) (hi : ops[i]? = some o) (hj : ops[j]? = some o') (hd : o.dst = some d) (hij : j ≠ i) : o'.dst ≠ some d := by
  have h1 := List.all_eq_true.1 h i (List.mem_range.2 (Array.getElem?_eq_some_iff.1 hi).1)
  simp only [hi, Option.bind_some, hd, Bool.and_eq_true] at h1
  have h2 := List.all_eq_true.1 h1.2 j (List.mem_range.2 (Array.getElem?_eq_some_iff.1 hj).1)
  simp only [hj, Option.bind_some, Bool.or_eq_true, beq_iff_eq, bne_iff_ne, ne_eq] at h2
  exact h2.resolve_left hij

theorem slot_put_ne {a : Act} {x y : Option Tmp} {v : Value} (h : ∀ d, x = some d → y ≠ some d) : slot (a.put x v) y = slot a y := by
  cases x with
  | none => rfl
  | some d =>
    cases y with
    | none => rfl
    | some t =>
      have hne : d ≠ t := fun e => h d rfl (by rw [e])
      simp only [Act.put, slot, Array.getD_eq_getD_getElem?, Array.getElem?_setIfInBounds_ne hne]
theorem slot_put_same {a : Act} {d : Tmp} {v : Value} (h : d < a.tmps.size) : slot (a.put (some d) v) (some d) = v := by
  simp [Act.put, slot, h]
theorem size_put {a : Act} {x : Option Tmp} {v : Value} : (a.put x v).tmps.size = a.tmps.size := by
  cases x <;> simp [Act.put]

/-- o' is apart from o: its coming up makes no difference to o -/
structure Aside (ops : Array Oper) (o o' : Oper) : Prop where
  sel : ∀ cs b, o.op ≠ .select cs b
  look : ∀ d, o'.dst = some d → d ∉ o.looksAt ops
  deps : ∀ e ∈ o.after, Region.binds .any e = true → ∀ oe, ops[e.on]? = some oe → ∀ d, o'.dst = some d → oe.dst ≠ some d

theorem Aside.wanted {o o' : Oper} (h : Aside ops o o') (a : Act) (v : Value) : Region.wanted o (yielded ops (a.put o'.dst v).tmps) = Region.wanted o (yielded ops a.tmps) := wanted_put o a o'.dst v h.look
theorem Aside.exec {o o' : Oper} (h : Aside ops o o') (a : Act) (v : Value) : execOp (a.put o'.dst v).eval o = execOp a.eval o := execOp_put (ops := ops) o h.sel a o'.dst v h.look
theorem Aside.deps_ {o o' : Oper} (h : Aside ops o o') (a : Act) (v : Value) (w : World) : Deps ops G o (a.put o'.dst v) w ↔ Deps ops G o a w := by
  constructor
  · intro k e he hb oe hoe
    have := k e he hb oe hoe
    rwa [slot_put_ne (h.deps e he hb oe hoe)] at this
  · intro k e he hb oe hoe
    rw [slot_put_ne (h.deps e he hb oe hoe)]
    exact k e he hb oe hoe
theorem Aside.step {o o' : Oper} (h : Aside ops o o') (a : Act) (v : Value) : StepOk P ops C G R o (a.put o'.dst v) ↔ StepOk P ops C G R o a := by
  unfold StepOk Good
  rw [h.wanted, h.exec]
  simp only [h.deps_]
theorem Aside.may {o o' : Oper} (h : Aside ops o o') (a : Act) (v u : Value) : May P ops C G o (a.put o'.dst v) u ↔ May P ops C G o a u := by
  unfold May
  rw [h.wanted, h.exec]
  simp only [h.deps_]

variable {n N : Nat} {F : Act → Prop}

/-- What is known of the region by looking. -/
structure Shape (ops : Array Oper) (n N : Nat) : Prop where
  dsts : dstsB ops N = true
  le : n ≤ ops.size
  /-- a head waits for earlier operations alone, and what comes behind it waits for it or is apart from it -/
  back : ∀ k o, ops[k]? = some o → k < n → ∀ e ∈ o.after, Region.binds .any e = true → e.on < k
  aside : ∀ k i ok oi, k < i → i < n → ops[k]? = some ok → ops[i]? = some oi → (∀ e ∈ oi.after, Region.binds .any e = true → e.on ≠ k) → ok.apart ops oi = true
  sel : ∀ (j : Nat) (o : Oper) cs b, ops[j]? = some o → o.op ≠ .select cs b

theorem Shape.aside_of (h : Shape ops n N) {k i : Nat} {ok oi : Oper} (hki : k < i) (hi : i < n) (hk' : ops[k]? = some ok) (hi' : ops[i]? = some oi) (hno : ∀ e ∈ oi.after, Region.binds .any e = true → e.on ≠ k) : Aside ops oi ok ∧ Aside ops ok oi := by
  obtain ⟨h1, h2, h3⟩ := Oper.apart_spec (h.aside k i ok oi hki hi hk' hi' hno)
  refine ⟨⟨fun cs b => h.sel i oi cs b hi', h1, fun e he hb oe hoe d hd => ?_⟩, ⟨fun cs b => h.sel k ok cs b hk', h3, fun e he hb oe hoe d hd => ?_⟩⟩
  · exact dstsB_ne h.dsts hk' hoe hd (hno e he hb)
  · have := h.back k ok hk' (by omega) e he hb
    exact dstsB_ne h.dsts hi' hoe hd (by omega)

section
variable (sh : Shape ops n N) (hmono : ∀ d u w w', R w w' → G d u w → G d u w')
include sh hmono

theorem slots_keep {S : Array Bool} {i : Nat} {oi : Oper} {a : Act} {u : Value} (hi : ops[i]? = some oi) {j : Nat} {oj : Oper} (hj : ops[j]? = some oj) (hji : j ≠ i) : slot (a.put oi.dst u) oj.dst = slot a oj.dst :=
  slot_put_ne fun d hd => dstsB_ne sh.dsts hi hj hd hji
theorem slots_new {i : Nat} {oi : Oper} {a : Act} {u : Value} (hN : a.tmps.size = N) (hi : ops[i]? = some oi) {w : World} (h : G oi.dst u w) (hu : oi.dst = none → G none undef w) : G oi.dst (slot (a.put oi.dst u) oi.dst) w := by
  cases hd : oi.dst with
  | none => simpa [slot] using hu hd
  | some d =>
    rw [slot_put_same (by rw [hN]; exact dstsB_in sh.dsts hi hd), ← hd]
    exact h

/-- Some result comes, and a world that has it. -/
theorem StepOk.some_ {k : Nat} {o : Oper} {a : Act} {w : World} (h : StepOk P ops C G R o a) (hC : C w) (hD : Deps ops G o a w) (hR : R w w) : ∃ u w', May P ops C G o a u ∧ C w' ∧ R w w' ∧ G o.dst u w' := by
  unfold StepOk at h
  unfold May
  split at h
  · rename_i hw
    simp only [hw, if_true]
    have hg := h w hC hD
    unfold Good at hg
    have key : ∀ r, (execOp a.eval o).run P w = r → goodUpon P C G R o.dst w r → ∃ u w', (∃ w, C w ∧ Deps ops G o a w ∧ mayUpon u ((execOp a.eval o).run P w)) ∧ C w' ∧ R w w' ∧ G o.dst u w' := by
      intro r hr hg
      cases r with
      | ok nx w' =>
        cases nx <;> simp only [goodUpon] at hg
        case value u => exact ⟨u, w', ⟨w, hC, hD, by rw [hr]; rfl⟩, hg.2.1, hg.2.2, hg.1⟩
        case skip => exact ⟨undef, w', ⟨w, hC, hD, by rw [hr]; rfl⟩, hg.2.1, hg.2.2, hg.1⟩
        case enter f args =>
          obtain ⟨e, w2, fr, ⟨u, _, h1, h2, h3⟩, _⟩ := hg []
          exact ⟨u, w2, ⟨w, hC, hD, by rw [hr]; trivial⟩, h2, h3, h1⟩
      | halt x w' => simp only [goodUpon] at hg
    exact key _ rfl hg
  · rename_i hw
    simp only [hw, if_false]
    exact ⟨undef, w, rfl, hC, hR, h w hC⟩

/-- Behind operation i the walk is as it was. -/
theorem Wk.past {S : Array Bool} {i : Nat} : ∀ (m k : Nat) (a : Act), i < k → i < S.size → Wk P ops C G R S F m k a → Wk P ops C G R (S.setIfInBounds i true) F m k a
  | 0, k, a, hk, hS, h => fun ⟨w, hw, hg⟩ => h ⟨w, hw, fun j oj hj hs => hg j oj hj (hs.imp (getD_set_true ·) id)⟩
  | m + 1, k, a, hk, hS, h => fun hI => by
    obtain ⟨w, hw, hg⟩ := hI
    have hI' : Inh ops C G S k a := ⟨w, hw, fun j oj hj hs => hg j oj hj (hs.imp (getD_set_true ·) id)⟩
    have h1 := h hI'
    cases ho : ops[k]? with
    | none => simp only [ho] at h1
    | some o =>
      simp only [ho] at h1 ⊢
      rw [getD_set_ne false (by omega : i ≠ k)]
      split at h1
      · rename_i hs
        simp only [hs, if_true]
        exact Wk.past m (k + 1) a (by omega) hS h1
      · rename_i hs
        simp only [hs, if_false]
        refine ⟨h1.1, fun u hu hI2 => Wk.past m (k + 1) _ (by omega) hS (h1.2 u hu ?_)⟩
        obtain ⟨w, hw, hg⟩ := hI2
        exact ⟨w, hw, fun j oj hj hs => hg j oj hj (hs.imp (getD_set_true ·) id)⟩

/-- Operation i comes up first. -/
theorem Wk.front {S : Array Bool} {i : Nat} {oi : Oper} (hi : ops[i]? = some oi) (hin : i < n) (hS : S.size = ops.size) (hun : S.getD i false = false) (hw : ∀ e ∈ oi.after, Region.binds .any e = true → S.getD e.on false = true) {u : Value} :
    ∀ (m k : Nat) (a : Act), k ≤ i → k + m = n → a.tmps.size = N → May P ops C G oi a u → Wk P ops C G R S F m k a → Wk P ops C G R (S.setIfInBounds i true) F m k (a.put oi.dst u)
  | 0, k, a, hk, hkm, _, _, h => by omega
  | m + 1, k, a, hk, hkm, hN, hu, h => fun hI => by
    have hiS : i < S.size := by rw [hS]; exact (Array.getElem?_eq_some_iff.1 hi).1
    obtain ⟨w, hw', hg⟩ := hI
    have hI' : Inh ops C G S k a := ⟨w, hw', fun j oj hj hs => by
      have hji : j ≠ i := by rintro rfl; rcases hs with hs | hs; · rw [hun] at hs; cases hs
                             · omega
      have := hg j oj hj (hs.imp (getD_set_true ·) id)
      rwa [slots_keep sh hmono (S := S) hi hj hji] at this⟩
    have h1 := h hI'
    by_cases hki : k = i
    · subst hki
      simp only [hi, hun, if_false, Bool.false_eq_true] at h1
      simp only [hi]
      have hst : (S.setIfInBounds k true).getD k false = true := by simp [hiS]
      simp only [hst, if_true]
      refine Wk.past sh hmono m (k + 1) _ (by omega) hiS (h1.2 u hu ⟨w, hw', fun j oj hj hs => hg j oj hj ?_⟩)
      by_cases hjk : j = k
      · subst hjk; exact .inl hst
      · rcases hs with hs | hs
        · exact .inl (getD_set_true hs)
        · exact .inr (by omega)
    · cases ho : ops[k]? with
      | none => simp only [ho] at h1
      | some o =>
        simp only [ho] at h1 ⊢
        rw [getD_set_ne false (Ne.symm hki)]
        split at h1
        · rename_i hs
          simp only [hs, if_true]
          exact Wk.front hi hin hS hun hw m (k + 1) a (by omega) (by omega) hN hu h1
        · rename_i hs
          simp only [hs, if_false]
          have hno : ∀ e ∈ oi.after, Region.binds .any e = true → e.on ≠ k := fun e he hb hek => by
            have := hw e he hb
            rw [hek] at this
            exact hs this
          obtain ⟨as1, as2⟩ := sh.aside_of (show k < i by omega) hin ho hi hno
          refine ⟨(as2.step a u).2 h1.1, fun v hv hI2 => ?_⟩
          rw [as2.may] at hv
          have hdd : ∀ d, o.dst = some d → oi.dst ≠ some d := fun d hd => dstsB_ne sh.dsts ho hi hd (Ne.symm hki)
          have hcomm : (a.put oi.dst u).put o.dst v = (a.put o.dst v).put oi.dst u := (Act.put_comm a v u hdd).symm
          rw [hcomm] at hI2 ⊢
          refine Wk.front hi hin hS hun hw m (k + 1) _ (by omega) (by omega) (by rw [size_put]; exact hN) ((as1.may a v u).2 hu) (h1.2 v hv ?_)
          obtain ⟨w2, hw2, hg2⟩ := hI2
          refine ⟨w2, hw2, fun j oj hj hs2 => ?_⟩
          have hji : j ≠ i := by rintro rfl; rcases hs2 with hs2 | hs2; · rw [hun] at hs2; cases hs2
                                 · omega
          have := hg2 j oj hj (hs2.imp (getD_set_true ·) id)
          rwa [slots_keep sh hmono (S := S) hi hj hji] at this

/-- An operation that is ready is good. -/
theorem Wk.ready {S : Array Bool} {i : Nat} {oi : Oper} (hR : ∀ w, C w → R w w) (hu : ∀ w, C w → G none undef w) (hi : ops[i]? = some oi) (hin : i < n) (hun : S.getD i false = false) (hw : ∀ e ∈ oi.after, Region.binds .any e = true → S.getD e.on false = true) :
    ∀ (m k : Nat) (a : Act) (w : World), k ≤ i → k + m = n → a.tmps.size = N → C w → (∀ j oj, ops[j]? = some oj → (S.getD j false = true ∨ j < k) → G oj.dst (slot a oj.dst) w) → Wk P ops C G R S F m k a → StepOk P ops C G R oi a
  | 0, k, a, w, hk, hkm, _, _, _, h => by omega
  | m + 1, k, a, w, hk, hkm, hN, hC, hg, h => by
    have h1 := h ⟨w, hC, hg⟩
    by_cases hki : k = i
    · subst hki
      simp only [hi, hun, if_false, Bool.false_eq_true] at h1
      exact h1.1
    · cases ho : ops[k]? with
      | none => simp only [ho] at h1
      | some o =>
        simp only [ho] at h1
        split at h1
        · rename_i hs
          exact Wk.ready hR hu hi hin hun hw m (k + 1) a w (by omega) (by omega) hN hC (fun j oj hj hs2 => hg j oj hj (by
            rcases hs2 with hs2 | hs2
            · exact .inl hs2
            · rcases Nat.lt_or_ge j k with h' | h'
              · exact .inr h'
              · obtain rfl : j = k := by omega
                exact .inl hs)) h1
        · rename_i hs
          have hno : ∀ e ∈ oi.after, Region.binds .any e = true → e.on ≠ k := fun e he hb hek => by
            have := hw e he hb
            rw [hek] at this
            exact hs this
          obtain ⟨as1, as2⟩ := sh.aside_of (show k < i by omega) hin ho hi hno
          have hD : Deps ops G o a w := fun e he hb oe hoe => hg e.on oe hoe (.inr (sh.back k o ho (by omega) e he hb))
          obtain ⟨u, w', hm, hC', hR', hG'⟩ := StepOk.some_ sh hmono (k := k) h1.1 hC hD (hR w hC)
          have hg' : ∀ j oj, ops[j]? = some oj → (S.getD j false = true ∨ j < k + 1) → G oj.dst (slot (a.put o.dst u) oj.dst) w' := fun j oj hj hs2 => by
            by_cases hjk : j = k
            · subst hjk
              obtain rfl : o = oj := Option.some.inj (ho.symm.trans hj)
              exact slots_new sh hmono hN hj hG' (fun _ => hu w' hC')
            · rw [slots_keep sh hmono (S := S) ho hj hjk]
              exact hmono _ _ _ _ hR' (hg j oj hj (hs2.imp id (by omega)))
          have := Wk.ready hR hu hi hin hun hw m (k + 1) (a.put o.dst u) w' (by omega) (by omega) (by rw [size_put]; exact hN) hC' hg' (h1.2 u hm ⟨w', hC', hg'⟩)
          exact (as1.step a u).1 this
/-- All has come up. -/
theorem Wk.done {S : Array Bool} : ∀ (m k : Nat) (a : Act) (w : World), k + m = n → (∀ j, j < n → S.getD j false = true) → C w → (∀ j oj, ops[j]? = some oj → (S.getD j false = true ∨ j < k) → G oj.dst (slot a oj.dst) w) → Wk P ops C G R S F m k a → F a
  | 0, k, a, w, hkm, hall, hC, hg, h => h ⟨w, hC, hg⟩
  | m + 1, k, a, w, hkm, hall, hC, hg, h => by
    have h1 := h ⟨w, hC, hg⟩
    have hk := hall k (by omega)
    cases ho : ops[k]? with
    | none => simp only [ho] at h1
    | some o =>
      simp only [ho, hk, if_true] at h1
      exact Wk.done m (k + 1) a w (by omega) hall hC (fun j oj hj hs2 => hg j oj hj (by
        rcases hs2 with hs2 | hs2
        · exact .inl hs2
        · exact .inl (hall j (by omega)))) h1
end

/-! ### Every order -/
theorem count_one {i : Nat} {p q : Nat → Bool} (hp : p i = true) (hq : q i = false) (he : ∀ j, j ≠ i → q j = p j) : ∀ l : List Nat, l.Nodup → (i ∈ l → l.countP p = l.countP q + 1) ∧ (i ∉ l → l.countP p = l.countP q)
  | [], _ => ⟨(fun h => nomatch h), fun _ => rfl⟩
  | x :: l, h => by
    obtain ⟨h1, h2⟩ := List.nodup_cons.1 h
    obtain ⟨i1, i2⟩ := count_one hp hq he l h2
    by_cases hx : x = i
    · subst hx
      refine ⟨fun _ => ?_, fun hn => absurd (List.mem_cons_self ..) hn⟩
      have := i2 h1
      simp [List.countP_cons, hp, hq, this]
    · refine ⟨fun hm => ?_, fun hn => ?_⟩
      · have := i1 ((List.mem_cons.1 hm).resolve_left (Ne.symm hx))
        simp only [List.countP_cons, he x hx, this]
        omega
      · have := i2 fun hm => hn (List.mem_cons_of_mem _ hm)
        simp only [List.countP_cons, he x hx, this]
def unl (n : Nat) (S : Array Bool) : Nat := (List.range n).countP fun i => S.getD i true == false
theorem unl_set {n i : Nat} {S : Array Bool} (hi : i < n) (hun : S.getD i true = false) : unl n S = unl n (S.setIfInBounds i true) + 1 := by
  refine ((count_one (i := i) (by simp [hun]) ?_ fun j hj => ?_) (List.range n) List.nodup_range).1 (List.mem_range.2 hi)
  · rcases Nat.lt_or_ge i S.size with h | h
    · simp [h]
    · simp [Array.getElem?_eq_none h] at hun
  · rw [getD_set_ne true (Ne.symm hj)]
theorem unl_zero {n : Nat} {S : Array Bool} (h : unl n S = 0) (hs : n ≤ S.size) : ∀ j, j < n → S.getD j false = true := fun j hj => by
  have := List.countP_eq_zero.1 h j (List.mem_range.2 hj)
  have hl : j < S.size := by omega
  simpa [hl] using this
theorem unl_pos {n m : Nat} {S : Array Bool} (h : unl n S = m + 1) : ∃ j, j < n ∧ S.getD j true = false := by
  have : 0 < (List.range n).countP fun i => S.getD i true == false := by unfold unl at h; omega
  obtain ⟨j, hj, hp⟩ := List.countP_pos_iff.1 this
  exact ⟨j, List.mem_range.1 hj, by simpa using hp⟩
theorem least {p : Nat → Prop} : ∀ k, p k → ∃ j, p j ∧ ∀ i, i < j → ¬ p i := fun k h => by
  induction k using Nat.strongRecOn with
  | _ k ih =>
    by_cases hh : ∃ i, i < k ∧ p i
    · obtain ⟨i, hi, hp⟩ := hh; exact ih i hi hp
    · exact ⟨k, h, fun i hi hp => hh ⟨i, hi, hp⟩⟩

theorem good_wp {o : Oper} {a : Act} {w : World} {K : Act → World → Prop} {Q : Exit → Act → World → Prop} (hC : C w) (hD : Deps ops G o a w) (hw : Region.wanted o (yielded ops a.tmps) = true) (h : Good P C G R o a w)
    (hK : ∀ u w', May P ops C G o a u → C w' → R w w' → G o.dst u w' → K (a.put o.dst u) w') : o.wp P a w K Q := by
  unfold Good at h
  unfold May at hK
  simp only [hw, if_true] at hK
  unfold Oper.wp
  have key : ∀ r, (execOp a.eval o).run P w = r → goodUpon P C G R o.dst w r → Oper.upon P o a K Q r := by
    intro r hr hg
    cases r with
    | ok nx w' =>
      cases nx <;> simp only [goodUpon] at hg
      case value u => exact hK u w' ⟨w, hC, hD, by rw [hr]; rfl⟩ hg.2.1 hg.2.2 hg.1
      case skip => exact hK undef w' ⟨w, hC, hD, by rw [hr]; rfl⟩ hg.2.1 hg.2.2 hg.1
      case enter f args =>
        exact Calls.mono hg fun e w2 ⟨u, he, h1, h2, h3⟩ => by subst he; exact hK u w2 ⟨w, hC, hD, by rw [hr]; trivial⟩ h2 h3 h1
    | halt x w' => simp only [goodUpon] at hg
  exact key _ rfl h

theorem wpAny_of_wk (sh : Shape ops n N) (hmono : ∀ d u w w', R w w' → G d u w → G d u w') (hR : ∀ w, C w → R w w) (hu : ∀ w, C w → G none undef w) {g : Nat} {Q : Exit → Act → World → Prop} (S0 : Array Bool)
    (htail : ∀ S, HeadInv .any ops n S → (∀ j, S0.getD j false = true → S.getD j false = true) → (∃ i, i < n ∧ S.getD i true = false) → ∀ t, n ≤ t → t ∉ Region.ready .any ops S)
    (hend : ∀ S a w, HeadInv .any ops n S → (∀ j, j < n → S.getD j false = true) → C w → (∀ j oj, ops[j]? = some oj → j < n → G oj.dst (slot a oj.dst) w) → F a → wpAny P .any ops Q g S a w) :
    ∀ (f : Nat) (S : Array Bool) (a : Act) (w : World), HeadInv .any ops n S → (∀ j, S0.getD j false = true → S.getD j false = true) → unl n S = f → a.tmps.size = N → Inv ops C G S a w → Wk P ops C G R S F n 0 a → wpAny P .any ops Q (f + g) S a w
  | 0, S, a, w, hd, h0s, hf, hN, hI, h => by
    have hall := unl_zero hf (by rw [hd.size]; exact sh.le)
    rw [Nat.zero_add]
    exact hend S a w hd hall hI.1 (fun j oj hj hjn => hI.2 j oj hj (hall j hjn)) (Wk.done sh hmono n 0 a w (by omega) hall hI.1 (fun j oj hj hs => hI.2 j oj hj (hs.resolve_right (by omega))) h)
  | f + 1, S, a, w, hd, h0s, hf, hN, hI, h => by
    obtain ⟨k0, hk0, hun0⟩ := unl_pos hf
    obtain ⟨k, ⟨hk, hun⟩, hmin⟩ := least (p := fun j => j < n ∧ S.getD j true = false) k0 ⟨hk0, hun0⟩
    have hrk : k ∈ Region.ready .any ops S := by
      have hks : k < ops.size := by have := sh.le; omega
      refine mem_ready.2 ⟨hun, ops[k], Array.getElem?_eq_getElem hks, fun e he hb => ?_⟩
      have hlt := sh.back k _ (Array.getElem?_eq_getElem hks) hk e he hb
      cases hS : S.getD e.on false with
      | true => rfl
      | false => exact absurd ⟨by omega, getD_in (by rw [hd.size]; have := sh.le; omega) hS⟩ (hmin e.on hlt)
    rw [show f + 1 + g = (f + g) + 1 by omega]
    refine ⟨fun h0 => (by rw [h0] at hrk; cases hrk), fun i hi => ?_⟩
    have hin : i < n := by
      rcases Nat.lt_or_ge i n with h' | h'
      · exact h'
      · exact absurd hi (htail S hd h0s ⟨k, hk, hun⟩ i h')
    obtain ⟨huni, oi, hoi, hall⟩ := mem_ready.1 hi
    have hunf : S.getD i false = false := getD_both huni
    have hst := Wk.ready sh hmono hR hu hoi hin hunf hall n 0 a w (by omega) (by omega) hN hI.1 (fun j oj hj hs => hI.2 j oj hj (hs.resolve_right (by omega))) h
    have hD : Deps ops G oi a w := fun e he hb oe hoe => hI.2 e.on oe hoe (hall e he hb)
    have hnext : ∀ u w', May P ops C G oi a u → C w' → R w w' → G oi.dst u w' → wpAny P .any ops Q (f + g) (S.setIfInBounds i true) (a.put oi.dst u) w' := fun u w' hm hC' hR' hG' => by
      refine wpAny_of_wk sh hmono hR hu S0 htail hend f _ _ w' (hd.set hi hin) (fun j hj => getD_set_true (h0s j hj)) ?_ (by rw [size_put]; exact hN) ⟨hC', fun j oj hj hs => ?_⟩ (Wk.front sh hmono hoi hin (by rw [hd.size]) hunf hall n 0 a (by omega) (by omega) hN hm h)
      · have := unl_set hin huni; omega
      · by_cases hji : j = i
        · subst hji
          obtain rfl : oi = oj := Option.some.inj (hoi.symm.trans hj)
          exact slots_new sh hmono hN hj hG' (fun _ => hu w' hC')
        · rw [slots_keep sh hmono (S := S) hoi hj hji]
          rw [getD_set_ne false (Ne.symm hji)] at hs
          exact hmono _ _ _ _ hR' (hI.2 j oj hj hs)
    unfold wpOp
    simp only [hoi]
    split
    · rename_i hw
      refine .inl (good_wp hI.1 hD hw ?_ hnext)
      unfold StepOk at hst
      simp only [hw, if_true] at hst
      exact hst w hI.1 hD
    · rename_i hw
      unfold StepOk at hst
      rw [if_neg hw] at hst
      exact hnext undef w (by unfold May; rw [if_neg hw]) hI.1 (hR w hI.1) (hst w hI.1)

/-! ### What is looked at, as a Bool -/
def headList (n m : Nat) : Array Bool := (List.replicate n true ++ List.replicate (m - n) false).toArray
def backB (ops : Array Oper) (n : Nat) : Bool := (List.range n).all fun k => match ops[k]? with
  | some o => o.after.all fun e => !Region.binds .any e || decide (e.on < k)
  | none => true
def asideB (ops : Array Oper) (n : Nat) : Bool := (List.range n).all fun i => (List.range i).all fun k => match ops[i]?, ops[k]? with
  | some oi, some ok => oi.after.any (fun e => Region.binds .any e && e.on == k) || ok.apart ops oi
  | _, _ => true
/-- every operation below n, but those of S0, is waited for by a later one up to n -/
def sinkS (ops : Array Oper) (S0 : Array Bool) (n : Nat) : Bool := (List.range n).all fun i => S0.getD i false || (List.range (n + 1)).any fun j => decide (i < j) && Region.waitsFor .any ops j i
/-- S0 holds what its operations wait for, and nothing from n on -/
def closedB (ops : Array Oper) (S0 : Array Bool) (n : Nat) : Bool := decide (S0.size = ops.size) && (List.range ops.size).all fun j => !S0.getD j false || (decide (j < n) && match ops[j]? with
  | some o => o.after.all fun e => !Region.binds .any e || S0.getD e.on false
  | none => true)
/-- what comes behind n waits for something from n on -/
def laterB (ops : Array Oper) (n : Nat) : Bool := (List.range ops.size).all fun t => decide (t ≤ n) || (List.range ops.size).any fun j => decide (n ≤ j) && Region.waitsFor .any ops t j
def relC (ops : Array Oper) (S0 : Array Bool) (n N : Nat) : Bool :=
  Region.noSelect ops && dstsB ops N && decide (n ≤ ops.size) && backB ops n && asideB ops n && (decide (n = ops.size) || (decide (n < ops.size) && sinkS ops S0 n && laterB ops n)) && closedB ops S0 n
def relB (ops : Array Oper) (S0 : Array Bool) (n N : Nat) : Bool := relC ops S0 n N && Region.seqB .any ops (ops.size - n) n (headList n ops.size)
theorem closedB_head {S0 : Array Bool} {n : Nat} (h : closedB ops S0 n = true) : HeadInv .any ops n S0 := by
  simp only [closedB, Bool.and_eq_true, decide_eq_true_eq] at h
  have key : ∀ j, S0.getD j false = true → j < ops.size ∧ j < n ∧ ∀ o, ops[j]? = some o → ∀ e ∈ o.after, Region.binds .any e = true → S0.getD e.on false = true := fun j hj => by
    have hjs : j < ops.size := by
      rcases Nat.lt_or_ge j S0.size with h' | h'
      · rw [← h.1]; exact h'
      · simp [Array.getElem?_eq_none h'] at hj
    have h1 := List.all_eq_true.1 h.2 j (List.mem_range.2 hjs)
    simp only [hj, Bool.not_true, Bool.false_or, Bool.and_eq_true, decide_eq_true_eq] at h1
    refine ⟨hjs, h1.1, fun o ho e he hb => ?_⟩
    have h2 := h1.2
    simp only [ho] at h2
    have h3 := Array.all_eq_true'.1 h2 e he
    simpa only [hb, Bool.not_true, Bool.false_or] using h3
  refine ⟨h.1, fun j oj hj hl e he hb => (key j hl).2.2 oj hj e he hb, fun t ht htl => ?_⟩
  cases hS : S0.getD t true with
  | false => rfl
  | true =>
    have : S0.getD t false = true := by
      have hl : t < S0.size := by rw [h.1]; exact htl
      simpa [hl] using hS
    have := (key t this).2.1
    omega
theorem tail_waitsS {n : Nat} {S0 listed : Array Bool} (hs : sinkS ops S0 n = true) (hc : laterB ops n = true) (hn : n < ops.size) (inv : HeadInv .any ops n listed) (h0 : ∀ j, S0.getD j false = true → listed.getD j false = true) :
    ∀ (d i : Nat), n - i = d → i < n → listed.getD i true = false → ∀ t, n ≤ t → t ∉ Region.ready .any ops listed := by
  intro d
  induction d using Nat.strongRecOn with
  | _ d ih =>
    intro i hd hi hun t ht hr
    obtain ⟨_, ot, hot, hall⟩ := mem_ready.1 hr
    have htlt : t < ops.size := (Array.getElem?_eq_some_iff.1 hot).1
    by_cases htn : t = n
    · subst htn
      have h1 := List.all_eq_true.1 hs i (List.mem_range.2 hi)
      have hnot : S0.getD i false = false := by
        cases hS : S0.getD i false with
        | false => rfl
        | true => have := h0 i hS; rw [getD_both hun] at this; cases this
      rw [hnot, Bool.false_or] at h1
      obtain ⟨j, hj, hj2⟩ := List.any_eq_true.1 h1
      simp only [Bool.and_eq_true, decide_eq_true_eq] at hj2
      obtain ⟨oj, hoj, e, he, hb, hon⟩ := Region.waitsFor_spec hj2.2
      have hjle : j ≤ t := by have := List.mem_range.1 hj; omega
      by_cases hjt : j = t
      · subst hjt
        have : oj = ot := Option.some.inj (hoj.symm.trans hot)
        subst this
        have h2 := hall e he hb
        rw [hon, getD_both hun] at h2
        cases h2
      · cases hl : listed.getD j false with
        | true =>
          have h2 := inv.closed j oj hoj hl e he hb
          rw [hon, getD_both hun] at h2
          cases h2
        | false =>
          have hjs : j < listed.size := by rw [inv.size]; omega
          exact ih (t - j) (by omega) j rfl (by omega) (getD_in hjs hl) t (Nat.le_refl _) hr
    · have h1 := List.all_eq_true.1 hc t (List.mem_range.2 htlt)
      simp only [Bool.or_eq_true, decide_eq_true_eq] at h1
      rcases h1 with h1 | h1
      · omega
      · obtain ⟨j, hj, hj2⟩ := List.any_eq_true.1 h1
        simp only [Bool.and_eq_true, decide_eq_true_eq] at hj2
        obtain ⟨o', ho', e, he, hb, hon⟩ := Region.waitsFor_spec hj2.2
        have : o' = ot := Option.some.inj (ho'.symm.trans hot)
        subst this
        have h2 := hall e he hb
        rw [hon, getD_both (inv.tail j hj2.1 (List.mem_range.1 hj))] at h2
        cases h2
theorem relC_shape {S0 : Array Bool} {n N : Nat} (h : relC ops S0 n N = true) : Shape ops n N := by
  simp only [relC, Bool.and_eq_true, decide_eq_true_eq] at h
  obtain ⟨⟨⟨⟨⟨⟨hsel, hd⟩, hn⟩, hb⟩, ha⟩, _⟩, _⟩ := h
  refine ⟨hd, hn, fun k o hk hkn e he hbd => ?_, fun k i ok oi hki hin hk hi hno => ?_, Region.noSelect_spec hsel⟩
  · have h1 := List.all_eq_true.1 hb k (List.mem_range.2 hkn)
    simp only [hk] at h1
    have h2 := Array.all_eq_true'.1 h1 e he
    simp only [hbd, Bool.not_true, Bool.false_or, decide_eq_true_eq] at h2
    exact h2
  · have h1 := List.all_eq_true.1 (List.all_eq_true.1 ha i (List.mem_range.2 hin)) k (List.mem_range.2 hki)
    simp only [hk, hi, Bool.or_eq_true] at h1
    refine h1.resolve_left fun h2 => ?_
    obtain ⟨e, he, hb2⟩ := Array.any_eq_true'.1 h2
    simp only [Bool.and_eq_true, beq_iff_eq] at hb2
    exact hno e he hb2.1 hb2.2
theorem headList_eq {S : Array Bool} (hs : S.size = ops.size) (hn : n ≤ ops.size) (h1 : ∀ j, j < n → S.getD j false = true) (h2 : ∀ t, n ≤ t → t < ops.size → S.getD t true = false) : S = headList n ops.size := by
  apply Array.ext
  · simp [headList, hs]; omega
  · intro j hj hj'
    rcases Nat.lt_or_ge j n with h | h
    · have := h1 j h
      simp [hj] at this
      simp [headList, List.getElem_append, h, this]
    · have := h2 j h (by omega)
      simp [hj] at this
      simp [headList, List.getElem_append, Nat.not_lt.2 h, this]

/-- The walk in the order of the text. -/
def InhL (ops : Array Oper) (C : World → Prop) (G : Option Tmp → Value → World → Prop) (k : Nat) (a : Act) : Prop := ∃ w, C w ∧ ∀ j oj, ops[j]? = some oj → j < k → G oj.dst (slot a oj.dst) w
def wpRel (P : Program) (ops : Array Oper) (C : World → Prop) (G : Option Tmp → Value → World → Prop) (R : World → World → Prop) (S0 : Array Bool) (F : Act → Prop) : Nat → List Oper → Act → Prop
  | k, [], a => InhL ops C G k a → F a
  | k, o :: rest, a => if S0.getD k false = true then wpRel P ops C G R S0 F (k + 1) rest a else StepOk P ops C G R o a ∧ ∀ u, May P ops C G o a u → (∀ d, o.dst = some d → ∃ w, C w ∧ G (some d) u w) → wpRel P ops C G R S0 F (k + 1) rest (a.put o.dst u)
theorem wk_of_rel {S0 : Array Bool} (sh : Shape ops n N) : ∀ (l : List Oper) (k : Nat) (a : Act), (∀ j, j < l.length → l[j]? = ops[k + j]?) → k + l.length = n → a.tmps.size = N → wpRel P ops C G R S0 F k l a → Wk P ops C G R S0 F l.length k a
  | [], k, a, _, hk, hN, h => fun ⟨w, hw, hg⟩ => h ⟨w, hw, fun j oj hj hjk => hg j oj hj (.inr hjk)⟩
  | o :: l, k, a, hl, hk, hN, h => fun _ => by
    have h0 : ops[k]? = some o := by simpa using (hl 0 (by simp)).symm
    simp only [h0]
    unfold wpRel at h
    split at h
    · rename_i hs
      simp only [hs, if_true]
      exact wk_of_rel sh l (k + 1) a (fun j hj => by have := hl (j + 1) (by simp; omega); simpa [Nat.add_assoc, Nat.add_comm 1 j] using this) (by simp only [List.length_cons] at hk; omega) hN h
    · rename_i hs
      rw [if_neg hs]
      refine ⟨h.1, fun u hu hI => wk_of_rel sh l (k + 1) _ (fun j hj => by have := hl (j + 1) (by simp; omega); simpa [Nat.add_assoc, Nat.add_comm 1 j] using this) (by simp only [List.length_cons] at hk; omega) (by rw [size_put]; exact hN) (h.2 u hu fun d hd => ?_)⟩
      obtain ⟨w, hw, hg⟩ := hI
      refine ⟨w, hw, ?_⟩
      have h1 := hg k o h0 (.inr (by omega))
      rw [hd, slot_put_same (by rw [hN]; exact dstsB_in sh.dsts h0 hd)] at h1
      exact h1

/-- A region that draws its order, the operations of S0 done: the first n operations in any order; then the others. -/
theorem wpAny_relC {Q : Exit → Act → World → Prop} {a : Act} {w : World} {l : List Oper} (S0 : Array Bool) (n N : Nat) (C : World → Prop) (G : Option Tmp → Value → World → Prop) (R : World → World → Prop) {fuel : Nat}
    (hB : relC l.toArray S0 n N = true) (hf : fuel = unl n S0 + (l.length - n)) (hN : a.tmps.size = N) (hmono : ∀ d u w w', R w w' → G d u w → G d u w') (hR : ∀ w, C w → R w w) (hu : ∀ w, C w → G none undef w) (hC : C w)
    (h0 : ∀ j oj, l[j]? = some oj → S0.getD j false = true → G oj.dst (slot a oj.dst) w)
    (h : wpRel P l.toArray C G R S0 (fun a' => ∀ w', C w' → (∀ j oj, l[j]? = some oj → j < n → G oj.dst (slot a' oj.dst) w') → wpAny P .any l.toArray Q (l.length - n) (headList n l.length) a' w') 0 (l.take n) a) : wpAny P .any l.toArray Q fuel S0 a w := by
  have sh := relC_shape hB
  have hB' := hB
  simp only [relC, Bool.and_eq_true, Bool.or_eq_true, decide_eq_true_eq] at hB'
  obtain ⟨⟨⟨⟨⟨⟨hsel, hd⟩, hn⟩, hb⟩, ha⟩, hsc⟩, hcl⟩ := hB'
  have hnl : n ≤ l.length := by simpa using hn
  have htl : (l.take n).length = n := by simp; omega
  have hw := wk_of_rel sh (l.take n) 0 a (fun j hj => by
    have hj' : j < n := by rw [htl] at hj; exact hj
    simp [hj']) (by simpa using htl) hN h
  rw [htl] at hw
  have := wpAny_of_wk (Q := Q) (g := l.length - n) sh hmono hR hu S0 (fun S hI h0s hex t ht hr => ?_) (fun S a' w' hI hall hC' hg hF => ?_) _ S0 a w
    (closedB_head hcl) (fun _ h => h) rfl hN ⟨hC, fun j oj hj hs => h0 j oj (by simpa using hj) hs⟩ hw
  · rw [hf]; exact this
  · obtain ⟨i, hi, hun⟩ := hex
    rcases hsc with hsc | ⟨⟨hlt, hs⟩, hc⟩
    · have := (mem_ready.1 hr).2
      obtain ⟨o, ho, _⟩ := this
      have := (Array.getElem?_eq_some_iff.1 ho).1
      omega
    · exact tail_waitsS hs hc hlt hI h0s _ i rfl hi hun t ht hr
  · have hSeq := headList_eq hI.size hn hall hI.tail
    rw [show l.toArray.size = l.length from by simp] at hSeq
    rw [hSeq]
    exact hF w' hC' fun j oj hj hjn => hg j oj (by simpa using hj) hjn
theorem wpRel_mono {F F' : Act → Prop} (hF : ∀ a, F a → F' a) {S0 : Array Bool} : ∀ (l' : List Oper) (k : Nat) (a : Act), wpRel P ops C G R S0 F k l' a → wpRel P ops C G R S0 F' k l' a
  | [], k, a, h => fun hI => hF a (h hI)
  | o :: l', k, a, h => by
    unfold wpRel at h ⊢
    split
    · rename_i hs; rw [if_pos hs] at h; exact wpRel_mono hF l' _ _ h
    · rename_i hs; rw [if_neg hs] at h; exact ⟨h.1, fun u hu hd => wpRel_mono hF l' _ _ (h.2 u hu hd)⟩
/-- The others as they stand. -/
theorem wpAny_rel {Q : Exit → Act → World → Prop} {a : Act} {w : World} {l : List Oper} (S0 : Array Bool) (n N : Nat) (C : World → Prop) (G : Option Tmp → Value → World → Prop) (R : World → World → Prop) {fuel : Nat}
    (hB : relB l.toArray S0 n N = true) (hf : fuel = unl n S0 + (l.length - n)) (hN : a.tmps.size = N) (hmono : ∀ d u w w', R w w' → G d u w → G d u w') (hR : ∀ w, C w → R w w) (hu : ∀ w, C w → G none undef w) (hC : C w)
    (h0 : ∀ j oj, l[j]? = some oj → S0.getD j false = true → G oj.dst (slot a oj.dst) w)
    (h : wpRel P l.toArray C G R S0 (fun a' => ∀ w', C w' → (∀ j oj, l[j]? = some oj → j < n → G oj.dst (slot a' oj.dst) w') → wpList P l.toArray Q (l.drop n) a' w') 0 (l.take n) a) : wpAny P .any l.toArray Q fuel S0 a w := by
  simp only [relB, Bool.and_eq_true] at hB
  have hdl : (l.drop n).length = l.length - n := by simp
  refine wpAny_relC S0 n N C G R hB.1 hf hN hmono hR hu hC h0 (wpRel_mono (fun a' hF w' hC' hg => ?_) _ _ _ h)
  have := wpAny_of_seq (md := .any) (Q' := Q) (ops := l.toArray) (l.drop n) n (headList n l.length) a' w' (fun j => by simp [List.getElem?_drop]) (by rw [hdl]; simpa using hB.2) (hF w' hC' hg)
  rwa [hdl] at this

/-! ### The steps of the walk -/
section
variable {o : Oper} {rest : List Oper} {a : Act} {k : Nat} {S0 : Array Bool}
theorem rel_nil (h : F a) : wpRel P ops C G R S0 F k [] a := fun _ => h
theorem rel_skip (hS : S0.getD k false = false) (hw : Region.wanted o (yielded ops a.tmps) = false) (hG : ∀ w, C w → G o.dst undef w) (hn : wpRel P ops C G R S0 F (k + 1) rest (a.put o.dst undef)) : wpRel P ops C G R S0 F k (o :: rest) a := by
  unfold wpRel
  rw [hS, if_neg (by simp)]
  refine ⟨by unfold StepOk; simp only [hw, if_false, Bool.false_eq_true]; exact hG, fun u hu _ => ?_⟩
  unfold May at hu
  simp only [hw, if_false, Bool.false_eq_true] at hu
  subst hu
  exact hn
/-- it hands back one value, and leaves the world -/
theorem rel_val (hR : ∀ w, C w → R w w) (hS : S0.getD k false = false) (hw : Region.wanted o (yielded ops a.tmps) = true) (u : Value) (hrun : ∀ w, C w → Deps ops G o a w → (execOp a.eval o).run P w = .ok (.value u) w) (hG : ∀ w, C w → Deps ops G o a w → G o.dst u w) (hn : wpRel P ops C G R S0 F (k + 1) rest (a.put o.dst u)) : wpRel P ops C G R S0 F k (o :: rest) a := by
  unfold wpRel
  rw [hS, if_neg (by simp)]
  refine ⟨by unfold StepOk; simp only [hw, if_true]; intro w hC hD; unfold Good; rw [hrun w hC hD]; exact ⟨hG w hC hD, hC, hR w hC⟩, fun x hx _ => ?_⟩
  unfold May at hx
  simp only [hw, if_true] at hx
  obtain ⟨w, hC, hD, hm⟩ := hx
  rw [hrun w hC hD] at hm
  obtain rfl : x = u := hm
  exact hn
/-- a call: any value that its slot lets in -/
theorem rel_call (hS : S0.getD k false = false) (hw : Region.wanted o (yielded ops a.tmps) = true) (f : FuncId) (args : Array Value) (d : Tmp) (hd : o.dst = some d) (hrun : ∀ w, C w → Deps ops G o a w → (execOp a.eval o).run P w = .ok (.enter f args) w)
    (hc : ∀ w, C w → Deps ops G o a w → Calls P f args w fun e w' => ∃ u, e = .returned u ∧ G (some d) u w' ∧ C w' ∧ R w w') (hn : ∀ u w, C w → G (some d) u w → wpRel P ops C G R S0 F (k + 1) rest (a.put (some d) u)) : wpRel P ops C G R S0 F k (o :: rest) a := by
  unfold wpRel
  rw [hS, if_neg (by simp)]
  refine ⟨by unfold StepOk; simp only [hw, if_true]; intro w hC hD; unfold Good; rw [hrun w hC hD, hd]; exact hc w hC hD, fun x _ hx => ?_⟩
  obtain ⟨w, hC, hg⟩ := hx d hd
  rw [hd]
  exact hn x w hC hg
/-- a new block -/
theorem rel_new (hS : S0.getD k false = false) (hw : Region.wanted o (yielded ops a.tmps) = true) (ob : Obj) (d : Tmp) (hd : o.dst = some d) (mk : Nat → Value) (hrun : ∀ w, C w → Deps ops G o a w → (execOp a.eval o).run P w = .ok (.value (mk w.heap.size)) (w.alloc ob))
    (hc : ∀ w, C w → Deps ops G o a w → G (some d) (mk w.heap.size) (w.alloc ob) ∧ C (w.alloc ob) ∧ R w (w.alloc ob)) (hn : ∀ g w, C w → G (some d) (mk g) w → wpRel P ops C G R S0 F (k + 1) rest (a.put (some d) (mk g))) : wpRel P ops C G R S0 F k (o :: rest) a := by
  unfold wpRel
  rw [hS, if_neg (by simp)]
  refine ⟨by unfold StepOk; simp only [hw, if_true]; intro w hC hD; unfold Good; rw [hrun w hC hD, hd]; exact hc w hC hD, fun x hm hx => ?_⟩
  obtain ⟨w, hC, hg⟩ := hx d hd
  unfold May at hm
  simp only [hw, if_true] at hm
  obtain ⟨w', hC', hD', hm⟩ := hm
  rw [hrun w' hC' hD'] at hm
  obtain rfl : x = mk w'.heap.size := hm
  rw [hd]
  exact hn _ w hC hg
end
end
end Go.Proofs.YtljmclbedpceoaaDoor

namespace Go.Proofs.YtljmclbedpceoaaDoor
open Go
set_option linter.unusedVariables false
set_option linter.unusedSimpArgs false

abbrev Sp := Tmp → Option (Value → Prop)
def GV (sp : Sp) (d : Option Tmp) (u : Value) (_ : World) : Prop := match d.bind sp with | some V => V u | none => True
section
variable {P : Program} {C : World → Prop} {sp : Sp} {F : Act → Prop} {S0 : Array Bool}
variable {ops : Array Oper} {o : Oper} {rest : List Oper} {a : Act} {k : Nat}
end
end Go.Proofs.YtljmclbedpceoaaDoor

namespace Go.Proofs.YtljmclbedpceoaaDoor
open Go.RowKit
set_option linter.unusedVariables false
set_option linter.unusedSimpArgs false
/-- a number below n -/
def NatB (n : Nat) (u : Value) : Prop := ∃ r : Nat, r < n ∧ u = .int .i64 r
section
variable {sp : Sp} {F : Act → Prop} {S0 : Array Bool} {ops : Array Oper} {o : Oper} {rest : List Oper} {a : Act} {k : Nat} {M : Nat → Prop} {row : Option Nat} {w0 : World} {L : List Hp} {T : Nat}
end
end Go.Proofs.YtljmclbedpceoaaDoor

namespace Go.Proofs.YtljmclbedpceoaaDoor
open Go.RowKit
set_option linter.unusedVariables false
set_option linter.unusedSimpArgs false

abbrev SpW := Tmp → Option (Value → World → Prop)
def GW (sp : SpW) (d : Option Tmp) (u : Value) (w : World) : Prop := match d.bind sp with | some V => V u w | none => True
/-- from w to w' nothing but new blocks and those of M turned -/
def RM (M : Nat → Prop) (w w' : World) : Prop := w.heap.size ≤ w'.heap.size ∧ ∀ b, b < w.heap.size → ¬ M b → w'.heap[b]? = w.heap[b]?
theorem RM.refl (M : Nat → Prop) (w : World) : RM M w w := ⟨Nat.le_refl _, fun _ _ _ => rfl⟩
theorem RM.trans {M : Nat → Prop} {a b c : World} (h : RM M a b) (k : RM M b c) : RM M a c := ⟨Nat.le_trans h.1 k.1, fun x hx hn => (k.2 x (Nat.lt_of_lt_of_le hx h.1) hn).trans (h.2 x hx hn)⟩
theorem RM.below {M : Nat → Prop} {w w' : World} (h : Below w.heap.size w w') : RM M w w' := ⟨h.size, fun b hb _ => h.block b hb⟩
theorem RM.grown {M : Nat → Prop} {w w' : World} {T : Nat} (h : w.grownBy w' (some T)) (hT : M T) : RM M w w' := ⟨h.size, fun b hb hn => h.block b hb (fun e => by injection e with e; subst e; exact hn hT)⟩
theorem RM.alloc (M : Nat → Prop) (w : World) (o : Obj) : RM M w (w.alloc o) := ⟨by simp, fun b hb _ => Below.heap_alloc w o b hb⟩
theorem RM.ro {M : Nat → Prop} {w w' : World} (h : RM M w w') {S : World → Prop} (hs : Ro w M S) : Ro w' M S := hs.step h.1 h.2 (fun _ _ h => h)
/-- each class of values stays as the world goes on -/
def Stays (M : Nat → Prop) (sp : SpW) : Prop := ∀ d V, sp d = some V → ∀ u w w', RM M w w' → V u w → V u w'
/-- the classes as a list -/
def spL (l : List (Tmp × (Value → World → Prop))) : SpW := fun d => (l.find? fun p => p.1 == d).map (·.2)
theorem stays_nil (M : Nat → Prop) : Stays M (spL []) := fun d V h => nomatch h
theorem stays_cons {M : Nat → Prop} {d : Tmp} {V : Value → World → Prop} {l : List (Tmp × (Value → World → Prop))} (h : ∀ u w w', RM M w w' → V u w → V u w') (hl : Stays M (spL l)) : Stays M (spL ((d, V) :: l)) := fun t V' hV => by
  unfold spL at hV
  rw [List.find?_cons] at hV
  split at hV
  · simp only [Option.map_some, Option.some.injEq] at hV
    subst hV
    exact h
  · exact hl t V' hV
theorem GW_off {sp : SpW} {d : Option Tmp} {u : Value} {w : World} (h : d.bind sp = none) : GW sp d u w := by unfold GW; rw [h]; trivial
theorem GW_on {sp : SpW} {d : Tmp} {V : Value → World → Prop} (h : sp d = some V) {u : Value} {w : World} : GW sp (some d) u w ↔ V u w := by unfold GW; simp only [Option.bind_some, h]
def offW (ops : Array Oper) (S0 : Array Bool) (sp : SpW) : Bool := (List.range ops.size).all fun j => !S0.getD j false || (((ops[j]?).bind (·.dst)).bind sp).isNone
theorem offW_h {ops : Array Oper} {S0 : Array Bool} {sp : SpW} (h : offW ops S0 sp = true) {j : Nat} {o : Oper} (ho : ops[j]? = some o) (hs : S0.getD j false = true) {u : Value} {w : World} : GW sp o.dst u w := by
  have h1 := List.all_eq_true.1 h j (List.mem_range.2 (Array.getElem?_eq_some_iff.1 ho).1)
  simp only [hs, Bool.not_true, Bool.false_or, ho, Option.bind_some] at h1
  exact GW_off (Option.isNone_iff_eq_none.1 h1)

/-- the class: the items hold, and from the region's start w1 nothing but them and new blocks turned -/
def HC (M : Nat → Prop) (row : Option Nat) (w0 w1 : World) (L : List Hp) (w : World) : Prop := Hold M row w0 w L ∧ RM (Mut M L) w1 w
section
variable {P : Program} {M : Nat → Prop} {row : Option Nat} {w0 w1 : World} {L : List Hp} {sp : SpW} {F : Act → Prop} {S0 : Array Bool}
theorem wpAny_hold {Q : Exit → Act → World → Prop} {a : Act} {w : World} {l : List Oper} (n N : Nat) (L : List Hp) (sp : SpW) {fuel : Nat}
    (hB : relB l.toArray S0 n N = true) (hO : offW l.toArray S0 sp = true) (hf : fuel = unl n S0 + (l.length - n)) (hN : a.tmps.size = N) (hs : Stays (Mut M L) sp) (hC : Hold M row w0 w L)
    (h : wpRel P l.toArray (HC M row w0 w L) (GW sp) (RM (Mut M L)) S0 (fun a' => ∀ w', Hold M row w0 w' L → RM (Mut M L) w w' → (∀ j oj, l[j]? = some oj → j < n → GW sp oj.dst (slot a' oj.dst) w') → wpList P l.toArray Q (l.drop n) a' w') 0 (l.take n) a) : wpAny P .any l.toArray Q fuel S0 a w := by
  refine wpAny_rel S0 n N (HC M row w0 w L) (GW sp) (RM (Mut M L)) hB hf hN (fun d u w w' hr hg => ?_) (fun w _ => RM.refl _ w) (fun _ _ => trivial) ⟨hC, RM.refl _ _⟩ (fun j oj hj hs => offW_h hO (by simpa using hj) hs) (wpRel_mono (fun a' hF w' hC' hg => hF w' hC'.1 hC'.2 hg) _ _ _ h)
  unfold GW at hg ⊢
  cases hd : d.bind sp with
  | none => trivial
  | some V =>
    rw [hd] at hg
    obtain ⟨t, rfl, ht⟩ := Option.bind_eq_some_iff.1 hd
    exact hs t V ht u w w' hr hg

variable {ops : Array Oper} {o : Oper} {rest : List Oper} {a : Act} {k : Nat}
theorem dw_val (hS : S0.getD k false = false) (hw : Region.wanted o (yielded ops a.tmps) = true) (hoff : o.dst.bind sp = none) (h : ∃ u, (∀ w, Hold M row w0 w L → (execOp a.eval o).run P w = .ok (.value u) w) ∧ wpRel P ops (HC M row w0 w1 L) (GW sp) (RM (Mut M L)) S0 F (k + 1) rest (a.put o.dst u)) : wpRel P ops (HC M row w0 w1 L) (GW sp) (RM (Mut M L)) S0 F k (o :: rest) a :=
  let ⟨u, h1, h2⟩ := h
  rel_val (fun w _ => RM.refl _ w) hS hw u (fun w hC _ => h1 w hC.1) (fun _ _ _ => GW_off hoff) h2
theorem dw_skip (hS : S0.getD k false = false) (hw : Region.wanted o (yielded ops a.tmps) = false) (hoff : o.dst.bind sp = none) (hn : wpRel P ops (HC M row w0 w1 L) (GW sp) (RM (Mut M L)) S0 F (k + 1) rest (a.put o.dst undef)) : wpRel P ops (HC M row w0 w1 L) (GW sp) (RM (Mut M L)) S0 F k (o :: rest) a :=
  rel_skip hS hw (fun _ _ => GW_off hoff) hn
/-- a call of any kind -/
theorem dw_call {f : FuncId} {args : Array Value} (d : Tmp) (V : Value → World → Prop) (hS : S0.getD k false = false) (hw : Region.wanted o (yielded ops a.tmps) = true) (hd : o.dst = some d) (hsp : sp d = some V) (hrun : ∀ w, (execOp a.eval o).run P w = .ok (.enter f args) w)
    (hc : ∀ w, Hold M row w0 w L → Deps ops (GW sp) o a w → Calls P f args w fun e w' => ∃ u, e = .returned u ∧ V u w' ∧ Hold M row w0 w' L ∧ RM (Mut M L) w w') (hn : ∀ u w, Hold M row w0 w L → V u w → wpRel P ops (HC M row w0 w1 L) (GW sp) (RM (Mut M L)) S0 F (k + 1) rest (a.put (some d) u)) : wpRel P ops (HC M row w0 w1 L) (GW sp) (RM (Mut M L)) S0 F k (o :: rest) a :=
  rel_call hS hw f args d hd (fun w _ _ => hrun w) (fun w hC hD => (hc w hC.1 hD).mono fun e' w' ⟨u, h1, h2, h3, h4⟩ => ⟨u, h1, (GW_on hsp).2 h2, ⟨h3, hC.2.trans h4⟩, h4⟩) fun u w hC hu => hn u w hC.1 ((GW_on hsp).1 hu)
/-- a new block: its cells -/
theorem dw_new (cs : Array Value) (t : TypeId) (d : Tmp) (V : Value → World → Prop) (mk : Nat → Value) (hS : S0.getD k false = false) (hw : Region.wanted o (yielded ops a.tmps) = true) (hd : o.dst = some d) (hsp : sp d = some V) (hrun : ∀ w, (execOp a.eval o).run P w = .ok (.value (mk w.heap.size)) (w.alloc (.cells cs t)))
    (hc : ∀ w, Hold M row w0 w L → RM (Mut M L) w1 w → Deps ops (GW sp) o a w → (∀ M', (∀ b, M' b → b < w.heap.size) → Ro (w.alloc (.cells cs t)) M' (fun w' => w'.heap[w.heap.size]? = some (.cells cs t (0, 0)))) → V (mk w.heap.size) (w.alloc (.cells cs t))) (hn : ∀ g w, Hold M row w0 w L → V (mk g) w → wpRel P ops (HC M row w0 w1 L) (GW sp) (RM (Mut M L)) S0 F (k + 1) rest (a.put (some d) (mk g))) : wpRel P ops (HC M row w0 w1 L) (GW sp) (RM (Mut M L)) S0 F k (o :: rest) a :=
  rel_new hS hw (.cells cs t) d hd mk (fun w _ _ => hrun w) (fun w hC hD => ⟨(GW_on hsp).2 (hc w hC.1 hC.2 hD fun M' hM' w2 h1 h2 => (h2 w.heap.size (by simp) (fun hm => Nat.lt_irrefl _ (hM' _ hm))).trans (heap_alloc_new w _)), ⟨(hC.1.alloc_cst cs t).drop (List.sublist_cons_self _ _), hC.2.trans (RM.alloc _ w _)⟩, RM.alloc _ w _⟩) fun g w hC hg => hn g w hC.1 ((GW_on hsp).1 hg)
theorem deps_at {w : World} (h : Deps ops (GW sp) o a w) (j : Nat) {oj : Oper} (hj : ops[j]? = some oj) (he : (o.after.any fun e => Region.binds .any e && e.on == j) = true) {d : Tmp} (hd : oj.dst = some d) {V : Value → World → Prop} (hsp : sp d = some V) : V (slot a (some d)) w := by
  obtain ⟨e, hm, hb⟩ := Array.any_eq_true'.1 he
  simp only [Bool.and_eq_true, beq_iff_eq] at hb
  have := h e hm hb.1 oj (by rw [hb.2]; exact hj)
  rw [hd] at this
  exact (GW_on hsp).1 this
end
section
variable {M : Nat → Prop} {row : Option Nat} {w0 w1 : World} {L : List Hp} {sp : SpW} {F : Act → Prop} {S0 : Array Bool} {ops : Array Oper} {o : Oper} {rest : List Oper} {a : Act} {k : Nat} {T : Nat}
theorem dw_next (n : Nat) (i : Nat) (hi : L[i]? = some (.tp T)) (d : Tmp) (hS : S0.getD k false = false) (hw : Region.wanted o (yielded ops a.tmps) = true) (hd : o.dst = some d) (hsp : sp d = some (fun u _ => NatB n u))
    (hrun : ∀ w, (execOp a.eval o).run Tryd.prog w = .ok (.enter 10 #[.pointer (some ⟨T, 0, none⟩), .int .i64 n]) w) (hn : ∀ r : Nat, r < n → wpRel Tryd.prog ops (HC M row w0 w1 L) (GW sp) (RM (Mut M L)) S0 F (k + 1) rest (a.put (some d) (.int .i64 r)))
    (hpos : 0 < n := by omega) (hmax : n ≤ 9223372036854775807 := by omega) : wpRel Tryd.prog ops (HC M row w0 w1 L) (GW sp) (RM (Mut M L)) S0 F k (o :: rest) a := by
  refine dw_call d (fun u _ => NatB n u) hS hw hd hsp hrun (fun w HC _ => ?_) (fun u _ _ ⟨r, hr, hu⟩ => by subst hu; exact hn r hr)
  refine (next_any T n w (HC.tp_ i hi) (by omega) (by omega)).mono ?_
  rintro e w5 ⟨r, rfl, r0, r1, t5, g5⟩
  exact ⟨_, rfl, ⟨r.toNat, by omega, by rw [Int.toNat_of_nonneg r0]⟩, Hold.callT HC i hi g5 t5, RM.grown g5 (.inr ⟨_, List.mem_of_getElem? hi, rfl⟩)⟩
end
end Go.Proofs.YtljmclbedpceoaaDoor

namespace Go.Proofs.YtljmclbedpceoaaDoor
open Go.RowKit
set_option linter.unusedVariables false
set_option linter.unusedSimpArgs false
section
variable {P : Program} {M : Nat → Prop} {row : Option Nat} {w0 w1 : World} {L : List Hp} {sp : SpW} {F : Act → Prop} {S0 : Array Bool}
variable {ops : Array Oper} {o : Oper} {rest : List Oper} {a : Act} {k : Nat}
/-- a call of any kind; what came since the region's start is at hand -/
theorem dw_callR {f : FuncId} {args : Array Value} (d : Tmp) (V : Value → World → Prop) (hS : S0.getD k false = false) (hw : Region.wanted o (yielded ops a.tmps) = true) (hd : o.dst = some d) (hsp : sp d = some V) (hrun : ∀ w, (execOp a.eval o).run P w = .ok (.enter f args) w)
    (hc : ∀ w, Hold M row w0 w L → RM (Mut M L) w1 w → Deps ops (GW sp) o a w → Calls P f args w fun e w' => ∃ u, e = .returned u ∧ V u w' ∧ Hold M row w0 w' L ∧ RM (Mut M L) w w') (hn : ∀ u w, Hold M row w0 w L → V u w → wpRel P ops (HC M row w0 w1 L) (GW sp) (RM (Mut M L)) S0 F (k + 1) rest (a.put (some d) u)) : wpRel P ops (HC M row w0 w1 L) (GW sp) (RM (Mut M L)) S0 F k (o :: rest) a :=
  rel_call hS hw f args d hd (fun w _ _ => hrun w) (fun w hC hD => (hc w hC.1 hC.2 hD).mono fun e' w' ⟨u, h1, h2, h3, h4⟩ => ⟨u, h1, (GW_on hsp).2 h2, ⟨h3, hC.2.trans h4⟩, h4⟩) fun u w hC hu => hn u w hC.1 ((GW_on hsp).1 hu)
end
theorem own_RM {M : Nat → Prop} {b0 : Nat} (hM : ∀ b, M b → b < b0) {w w' : World} (hr : RM M w w') {e : TypeId} {size n : Nat} {v : Value} {xs : List Value} (h : w.ownsRow b0 e size v n xs) : w'.ownsRow b0 e size v n xs := by
  refine ⟨h.1, ?_⟩
  rcases h.2 with hn | ⟨g, cap, cur, hv, hg, hh, rest⟩
  · exact .inl hn
  · exact .inr ⟨g, cap, cur, hv, hg, (hr.2 g (Blk.lt (t := e) (cs := cur) hh) (fun hm => by have := hM g hm; omega)).trans hh, rest⟩
theorem own_base {w : World} {b0 b1 : Nat} (h01 : b0 ≤ b1) {e : TypeId} {size n : Nat} {v : Value} {xs : List Value} (h : w.ownsRow b1 e size v n xs) : w.ownsRow b0 e size v n xs := by
  refine ⟨h.1, ?_⟩
  rcases h.2 with hn | ⟨g, cap, cur, hv, hg, rest⟩
  · exact .inl hn
  · exact .inr ⟨g, cap, cur, hv, Nat.le_trans h01 hg, rest⟩
/-- A row that came since w1, taken in. -/
theorem Hold.addOwn {M : Nat → Prop} {row : Option Nat} {w0 w1 w : World} {L : List Hp} (K1 : Hold M row w0 w1 L) (K : Hold M row w0 w L) (hr : RM (Mut M L) w1 w) {e : TypeId} {size n : Nat} {v : Value} {xs : List Value} (ho : w.ownsRow w1.heap.size e size v n xs) :
    Hold M row w0 w (.own e size v n xs :: L) := by
  have hbase : ∀ b, v.ownBlock = some b → w1.heap.size ≤ b ∧ b < w.heap.size := fun b hf => ho.lt b hf
  have ee : ∀ b, b < w1.heap.size → Mut M (.own e size v n xs :: L) b → Mut M L b := fun b hl hb => by
    rcases mut_cons.1 hb with hf | hm
    · have := (hbase b hf).1; omega
    · exact hm
  refine ⟨K.grow, K.low, fun k hk => ?_, fun k hk b hf => ?_, ⟨fun b hf k hk he => ?_, K.sep⟩⟩
  · rcases List.mem_cons.1 hk with rfl | hk
    · exact own_base K1.grow.size ho
    · have h1 := K1.sat k hk
      have h2 := K.sat k hk
      cases k with
      | blk g' t' cs' => exact h2
      | own e s v n' xs => exact h2
      | tp T =>
        refine ⟨h2.1, fun b hb' => ?_⟩
        have hT : T < w1.heap.size := (K1.fresh _ hk T rfl).2
        rcases mut_cons.1 hb' with hf | hm'
        · have := (hbase b hf).1
          omega
        · exact h2.2 b hm'
      | ro S => exact Ro.step h1 hr.1 hr.2 ee
      | cst g' t' cs' => exact Ro.step h1 hr.1 hr.2 ee
      | ob g' F' => exact h2
  · rcases List.mem_cons.1 hk with rfl | hk
    · have := hbase b hf
      exact ⟨.inl (Nat.le_trans K1.grow.size this.1), this.2⟩
    · exact K.fresh k hk b hf
  · have h1 := (hbase b hf).1
    have h2 := (K1.fresh k hk b he).2
    omega
/-- just that value -/
def IsV (x : Value) (u : Value) (_ : World) : Prop := u = x
theorem isV_mono {M : Nat → Prop} {x : Value} (u : Value) (w w' : World) (_ : RM M w w') (h : IsV x u w) : IsV x u w' := h
end Go.Proofs.YtljmclbedpceoaaDoor

namespace Go.Proofs.YtljmclbedpceoaaDoor
open Go.RowKit
set_option linter.unusedVariables false
set_option linter.unusedSimpArgs false

theorem fits_val (c : Col) (v : Vl) (hs : v.s.size ≤ maxLen) : Gives 105 #[.agg #[.string c.name, .int .i64 c.ty, .bool c.nn, .bool c.key], .agg #[.int .i64 v.k, .int .i64 v.i, .string v.s]] (.int .i64 (fitsV c v)) := fits_any c.name c.ty c.nn c.key v.k v.i v.s hs
set_option maxHeartbeats 4000000 in
set_option maxRecDepth 100000 in
theorem tfits_any (M : Nat → Prop) (w : World) (hM : ∀ b, M b → b < w.heap.size) (nm : ByteArray) (A : Option Addr) (n c : Nat) (cs : List Col) (B : Option Addr) (m d : Nat) (vs : List Vl) (hD : Ro w M (SlR 4 A n (colCells cs))) (hE : Ro w M (VlsIn B m vs)) (hn : n ≤ 9223372036854775807) (hm : m ≤ 9223372036854775807) (hok : ∀ v ∈ vs, v.ok) :
    Calls Tryd.prog 77 #[.agg #[.string nm, .slice A n c], .slice B m d] w fun e w' => e = .returned (.int .i64 (fitsT cs vs)) ∧ Below w.heap.size w w' := by
  have HL := hid (RdC.of_sl hD.now).len
  have HV := hid hE.now.len
  have K0 := (((Hold.start M w hM).add (hE.less (by simp [Mut]))).add (hD.less (by simp [Mut, Hp.foot]))).alloc_cst #[.string nm, .slice A n c] 37
  have F0 := K0.facts
  simp only [World.size_alloc, World.size_drew, factsL, cellsF, Nat.reduceAdd, List.toList_toArray, List.set_cons_zero, List.set_cons_succ, List.setIfInBounds_toArray, and_true, true_and] at F0
  go_enter Tryd.func77, Tryd.ntmps77
  by_cases hnm : m = n
  · subst hnm
    have hb : ((m : Int) != (m : Int)) = false := by simp
    have HE0 := hid (show fitsT cs vs = fitsL (cs.drop 0) (vs.drop 0) by unfold fitsT; rw [if_pos (by rw [HL.out, HV.out])]; rfl)
    clear hD hE
    go_wp2_with fail
    clear F0
    go_loopw [17] (fun iv wr => ∃ k : Nat, k ≤ m ∧ iv = .int .i64 k ∧ Hid (fitsT cs vs = fitsL (cs.drop k) (vs.drop k)) ∧ Hold M none w wr [.cst w.heap.size 37 #[.string nm, .slice A m c], .ro (SlR 4 A m (colCells cs)), .ro (VlsIn B m vs)]) (fun iv _ => m - (intOf iv).toNat)
    case atStart => exact ⟨0, by omega, rfl, HE0, K0⟩
    case round =>
      clear K0 HE0
      obtain ⟨k, hk, rfl, HE, H⟩ := hrel
      by_cases hlt : k < m
      · have hd : decide ((k : Int) < (m : Int)) = true := by simp; omega
        have k0 : (0 : Int) ≤ (k : Int) := by omega
        have k1 : (k : Int) < (m : Int) := by omega
        obtain ⟨x, hx⟩ := get_col HL.out hlt
        obtain ⟨v, hv⟩ := get_of HV.out hlt
        obtain ⟨g, o, rfl, hgb, c0, c1, c2, c3⟩ := (RdC.of_sl (H.ro 1 rfl).now).at_ hx
        have hvok := hok v (List.mem_of_getElem? hv)
        have HX := hid hx; have HVV := hid hv
        clear hx hv
        have K1 := H.alloc_cst #[.string x.name, .int .i64 x.ty, .bool x.nn, .bool x.key] 70
        obtain ⟨gb, hgb⟩ : ∃ gb, gb = wr.heap.size := ⟨_, rfl⟩
        obtain ⟨KL, hKL⟩ : ∃ KL : List Hp, KL = [Hp.cst wr.heap.size 70 #[.string x.name, .int .i64 x.ty, .bool x.nn, .bool x.key], .cst w.heap.size 37 #[.string nm, .slice (some ⟨g, o, none⟩) m c], .ro (SlR 4 (some ⟨g, o, none⟩) m (colCells cs)), .ro (VlsIn B m vs)] := ⟨_, rfl⟩
        rw [← hKL] at K1
        rw [← hgb] at hKL
        obtain ⟨gv, ov, rfl, _⟩ := (H.ro 2 rfl).now.at_ HVV.out
        have HF : Hid (∀ wv, Hold M none w wv KL → (wv.cell? ⟨gb, 0, none⟩ = some (.string x.name) ∧ wv.cell? ⟨gb, 1, none⟩ = some (.int .i64 x.ty) ∧ wv.cell? ⟨gb, 2, none⟩ = some (.bool x.nn) ∧ wv.cell? ⟨gb, 3, none⟩ = some (.bool x.key)) ∧ gb < wv.heap.size ∧ wv.cell? ⟨gv, ov + k * 3, none⟩ = some (.int .i64 v.k) ∧ wv.cell? ⟨gv, ov + k * 3 + 1, none⟩ = some (.int .i64 v.i) ∧ wv.cell? ⟨gv, ov + k * 3 + 2, none⟩ = some (.string v.s) ∧ gv < wv.heap.size) := hid fun wv HC => by
          rw [hKL] at HC
          have b0 := HC.cst_ 0 rfl
          obtain ⟨gv', ov', e', hl, e0, e1, e2⟩ := (HC.ro 3 rfl).now.at_ HVV.out
          obtain ⟨rfl, rfl⟩ : gv = gv' ∧ ov = ov' := by injection e' with e'; injection e' with a1 a2; exact ⟨a1, a2⟩
          exact ⟨⟨cell_of_row _ _ 0 _ _ _ b0, cell_of_row _ _ 1 _ _ _ b0, cell_of_row _ _ 2 _ _ _ b0, cell_of_row _ _ 3 _ _ _ b0⟩, Blk.lt b0, e0, e1, e2, hl⟩
        go_wp2_with fail
        rw [← hgb]
        have HGB := hid hgb
        have HKL := hid hKL
        clear hgb hKL
        generalize wr.alloc (.cells #[.string x.name, .int .i64 x.ty, .bool x.nn, .bool x.key] 70) = w2 at *
        refine wp_region_any (by kernel_rfl) ?_
        refine wpAny_hold 6 32 (KL) (spL [(27, IsV (.int .i64 (fitsV x v)))]) (by kernel_rfl) (by kernel_rfl) (by kernel_rfl) rfl ?_ (K1.drew) ?_
        · exact stays_cons isV_mono (stays_nil _)
        simp only [List.take_succ_cons, List.take_zero, List.drop_succ_cons, List.drop_zero, Act.put, List.getElem_toArray, List.getElem_cons_zero, List.getElem_cons_succ, List.setIfInBounds_toArray, List.set_cons_succ, List.set_cons_zero]
        refine dw_val rfl rfl rfl ?_; apply Exists.intro; refine ⟨fun wv HC => ?_, ?_⟩
        · obtain ⟨⟨f0, f1, f2, f3⟩, f4, f5, f6, f7, f8⟩ := HF.out _ HC; go_simp <;> rfl
        simp only [Act.put, List.setIfInBounds_toArray, List.set_cons_succ, List.set_cons_zero]
        refine dw_val rfl rfl rfl ?_; apply Exists.intro; refine ⟨fun wv HC => ?_, ?_⟩
        · obtain ⟨⟨f0, f1, f2, f3⟩, f4, f5, f6, f7, f8⟩ := HF.out _ HC; go_simp <;> rfl
        simp only [Act.put, List.setIfInBounds_toArray, List.set_cons_succ, List.set_cons_zero]
        refine dw_val rfl rfl rfl ?_; apply Exists.intro; refine ⟨fun wv HC => ?_, ?_⟩
        · obtain ⟨⟨f0, f1, f2, f3⟩, f4, f5, f6, f7, f8⟩ := HF.out _ HC; go_simp <;> rfl
        simp only [Act.put, List.setIfInBounds_toArray, List.set_cons_succ, List.set_cons_zero]
        refine dw_val rfl rfl rfl ?_; apply Exists.intro; refine ⟨fun wv HC => ?_, ?_⟩
        · obtain ⟨⟨f0, f1, f2, f3⟩, f4, f5, f6, f7, f8⟩ := HF.out _ HC; go_simp <;> rfl
        simp only [Act.put, List.setIfInBounds_toArray, List.set_cons_succ, List.set_cons_zero]
        refine dw_val rfl rfl rfl ?_; apply Exists.intro; refine ⟨fun wv HC => ?_, ?_⟩
        · obtain ⟨⟨f0, f1, f2, f3⟩, f4, f5, f6, f7, f8⟩ := HF.out _ HC; go_simp <;> rfl
        simp only [Act.put, List.setIfInBounds_toArray, List.set_cons_succ, List.set_cons_zero]
        refine dw_callR 27 (IsV (.int .i64 (fitsV x v))) (f := 105) (args := #[.agg #[.string x.name, .int .i64 x.ty, .bool x.nn, .bool x.key], .agg #[.int .i64 v.k, .int .i64 v.i, .string v.s]]) rfl rfl rfl rfl (fun wv => ?_) (fun wv HC hrm hD => ?_) ?_
        · go_simp <;> rfl
        · refine (fits_val x v hvok.2.2 wv).mono ?_
          rintro e w5 ⟨rfl, b5⟩
          exact ⟨_, rfl, rfl, HC.call b5, RM.below b5⟩
        rintro u wx HCx hu
        obtain rfl : u = _ := hu
        clear HCx
        simp only [Act.put, List.setIfInBounds_toArray, List.set_cons_succ, List.set_cons_zero]
        refine rel_nil ?_
        rintro wx2 HX2
        rintro _hrm _HG
        rw [HKL.out] at HX2
        clear _hrm _HG
        by_cases hz : fitsV x v = 0
        · have HN := hid (show fitsT cs vs = fitsL (cs.drop (k + 1)) (vs.drop (k + 1)) by rw [HE.out, fitsL_step HX.out HVV.out hz])
          rw [hz]
          clear hz
          go_wp2_with fail
          go_roundw
          case rel => exact ⟨k + 1, by omega, by go_num, HN, HX2.drop (List.sublist_cons_self _ _)⟩
          case measure => simp [intOf]; omega
        · have HN := hid (show fitsT cs vs = fitsV x v by rw [HE.out, fitsL_bad HX.out HVV.out hz])
          have hz2 : (fitsV x v != 0) = true := by simp [hz]
          clear hz
          go_wp2_with fail
          go_ret
          exact ⟨by rw [HN.out] <;> rfl, HX2.below⟩
      · obtain rfl : k = m := by omega
        have hd : decide ((k : Int) < (k : Int)) = false := by simp
        have HN := hid (show fitsT cs vs = 0 by rw [HE.out, fitsL_end (by rw [HL.out]; exact Nat.le_refl _)])
        go_wp2_with fail
        go_ret
        exact ⟨by rw [HN.out] <;> rfl, H.below⟩
  · have hb : ((m : Int) != (n : Int)) = true := by rw [bne_iff_ne]; omega
    have HF := hid (show fitsT cs vs = 17 by unfold fitsT; rw [if_neg (by rw [HL.out, HV.out]; exact hnm)])
    go_wp2_with fail
    go_ret
    exact ⟨by rw [HF.out] <;> rfl, K0.below⟩
theorem rfits_val (c : Col) (v : Vl) (hs : v.s.size ≤ maxLen) : Gives 123 #[.agg #[.string c.name, .int .i64 c.ty, .bool c.nn, .bool c.key], .agg #[.int .i64 v.k, .int .i64 v.i, .string v.s]] (.int .i64 (fitsV c v)) := rfits_any c.name c.ty c.nn c.key v.k v.i v.s hs
set_option maxHeartbeats 4000000 in
set_option maxRecDepth 100000 in
theorem rtfits_any (M : Nat → Prop) (w : World) (hM : ∀ b, M b → b < w.heap.size) (nm : ByteArray) (A : Option Addr) (n c : Nat) (cs : List Col) (B : Option Addr) (m d : Nat) (vs : List Vl) (hD : Ro w M (SlR 4 A n (colCells cs))) (hE : Ro w M (VlsIn B m vs)) (hn : n ≤ 9223372036854775807) (hm : m ≤ 9223372036854775807) (hok : ∀ v ∈ vs, v.ok) :
    Calls Tryd.prog 84 #[.agg #[.string nm, .slice A n c], .slice B m d] w fun e w' => e = .returned (.int .i64 (fitsT cs vs)) ∧ Below w.heap.size w w' := by
  have HL := hid (RdC.of_sl hD.now).len
  have HV := hid hE.now.len
  have K0 := (((Hold.start M w hM).add (hE.less (by simp [Mut]))).add (hD.less (by simp [Mut, Hp.foot]))).alloc_cst #[.string nm, .slice A n c] 37
  have F0 := K0.facts
  simp only [World.size_alloc, World.size_drew, factsL, cellsF, Nat.reduceAdd, List.toList_toArray, List.set_cons_zero, List.set_cons_succ, List.setIfInBounds_toArray, and_true, true_and] at F0
  go_enter Tryd.func84, Tryd.ntmps84
  by_cases hnm : m = n
  · subst hnm
    have hb : ((m : Int) != (m : Int)) = false := by simp
    have HE0 := hid (show fitsT cs vs = fitsL (cs.drop 0) (vs.drop 0) by unfold fitsT; rw [if_pos (by rw [HL.out, HV.out])]; rfl)
    clear hD hE
    go_wp2_with fail
    clear F0
    go_loopw [17] (fun iv wr => ∃ k : Nat, k ≤ m ∧ iv = .int .i64 k ∧ Hid (fitsT cs vs = fitsL (cs.drop k) (vs.drop k)) ∧ Hold M none w wr [.cst w.heap.size 37 #[.string nm, .slice A m c], .ro (SlR 4 A m (colCells cs)), .ro (VlsIn B m vs)]) (fun iv _ => m - (intOf iv).toNat)
    case atStart => exact ⟨0, by omega, rfl, HE0, K0⟩
    case round =>
      clear K0 HE0
      obtain ⟨k, hk, rfl, HE, H⟩ := hrel
      by_cases hlt : k < m
      · have hd : decide ((k : Int) < (m : Int)) = true := by simp; omega
        have k0 : (0 : Int) ≤ (k : Int) := by omega
        have k1 : (k : Int) < (m : Int) := by omega
        obtain ⟨x, hx⟩ := get_col HL.out hlt
        obtain ⟨v, hv⟩ := get_of HV.out hlt
        obtain ⟨g, o, rfl, hgb, c0, c1, c2, c3⟩ := (RdC.of_sl (H.ro 1 rfl).now).at_ hx
        have hvok := hok v (List.mem_of_getElem? hv)
        have HX := hid hx; have HVV := hid hv
        clear hx hv
        have K1 := H.alloc_cst #[.string x.name, .int .i64 x.ty, .bool x.nn, .bool x.key] 70
        obtain ⟨gb, hgb⟩ : ∃ gb, gb = wr.heap.size := ⟨_, rfl⟩
        obtain ⟨KL, hKL⟩ : ∃ KL : List Hp, KL = [Hp.cst wr.heap.size 70 #[.string x.name, .int .i64 x.ty, .bool x.nn, .bool x.key], .cst w.heap.size 37 #[.string nm, .slice (some ⟨g, o, none⟩) m c], .ro (SlR 4 (some ⟨g, o, none⟩) m (colCells cs)), .ro (VlsIn B m vs)] := ⟨_, rfl⟩
        rw [← hKL] at K1
        rw [← hgb] at hKL
        obtain ⟨gv, ov, rfl, _⟩ := (H.ro 2 rfl).now.at_ HVV.out
        have HF : Hid (∀ wv, Hold M none w wv KL → (wv.cell? ⟨gb, 0, none⟩ = some (.string x.name) ∧ wv.cell? ⟨gb, 1, none⟩ = some (.int .i64 x.ty) ∧ wv.cell? ⟨gb, 2, none⟩ = some (.bool x.nn) ∧ wv.cell? ⟨gb, 3, none⟩ = some (.bool x.key)) ∧ gb < wv.heap.size ∧ wv.cell? ⟨gv, ov + k * 3, none⟩ = some (.int .i64 v.k) ∧ wv.cell? ⟨gv, ov + k * 3 + 1, none⟩ = some (.int .i64 v.i) ∧ wv.cell? ⟨gv, ov + k * 3 + 2, none⟩ = some (.string v.s) ∧ gv < wv.heap.size) := hid fun wv HC => by
          rw [hKL] at HC
          have b0 := HC.cst_ 0 rfl
          obtain ⟨gv', ov', e', hl, e0, e1, e2⟩ := (HC.ro 3 rfl).now.at_ HVV.out
          obtain ⟨rfl, rfl⟩ : gv = gv' ∧ ov = ov' := by injection e' with e'; injection e' with a1 a2; exact ⟨a1, a2⟩
          exact ⟨⟨cell_of_row _ _ 0 _ _ _ b0, cell_of_row _ _ 1 _ _ _ b0, cell_of_row _ _ 2 _ _ _ b0, cell_of_row _ _ 3 _ _ _ b0⟩, Blk.lt b0, e0, e1, e2, hl⟩
        go_wp2_with fail
        rw [← hgb]
        have HGB := hid hgb
        have HKL := hid hKL
        clear hgb hKL
        generalize wr.alloc (.cells #[.string x.name, .int .i64 x.ty, .bool x.nn, .bool x.key] 70) = w2 at *
        refine wp_region_any (by kernel_rfl) ?_
        refine wpAny_hold 6 32 (KL) (spL [(27, IsV (.int .i64 (fitsV x v)))]) (by kernel_rfl) (by kernel_rfl) (by kernel_rfl) rfl ?_ (K1.drew) ?_
        · exact stays_cons isV_mono (stays_nil _)
        simp only [List.take_succ_cons, List.take_zero, List.drop_succ_cons, List.drop_zero, Act.put, List.getElem_toArray, List.getElem_cons_zero, List.getElem_cons_succ, List.setIfInBounds_toArray, List.set_cons_succ, List.set_cons_zero]
        refine dw_val rfl rfl rfl ?_; apply Exists.intro; refine ⟨fun wv HC => ?_, ?_⟩
        · obtain ⟨⟨f0, f1, f2, f3⟩, f4, f5, f6, f7, f8⟩ := HF.out _ HC; go_simp <;> rfl
        simp only [Act.put, List.setIfInBounds_toArray, List.set_cons_succ, List.set_cons_zero]
        refine dw_val rfl rfl rfl ?_; apply Exists.intro; refine ⟨fun wv HC => ?_, ?_⟩
        · obtain ⟨⟨f0, f1, f2, f3⟩, f4, f5, f6, f7, f8⟩ := HF.out _ HC; go_simp <;> rfl
        simp only [Act.put, List.setIfInBounds_toArray, List.set_cons_succ, List.set_cons_zero]
        refine dw_val rfl rfl rfl ?_; apply Exists.intro; refine ⟨fun wv HC => ?_, ?_⟩
        · obtain ⟨⟨f0, f1, f2, f3⟩, f4, f5, f6, f7, f8⟩ := HF.out _ HC; go_simp <;> rfl
        simp only [Act.put, List.setIfInBounds_toArray, List.set_cons_succ, List.set_cons_zero]
        refine dw_val rfl rfl rfl ?_; apply Exists.intro; refine ⟨fun wv HC => ?_, ?_⟩
        · obtain ⟨⟨f0, f1, f2, f3⟩, f4, f5, f6, f7, f8⟩ := HF.out _ HC; go_simp <;> rfl
        simp only [Act.put, List.setIfInBounds_toArray, List.set_cons_succ, List.set_cons_zero]
        refine dw_val rfl rfl rfl ?_; apply Exists.intro; refine ⟨fun wv HC => ?_, ?_⟩
        · obtain ⟨⟨f0, f1, f2, f3⟩, f4, f5, f6, f7, f8⟩ := HF.out _ HC; go_simp <;> rfl
        simp only [Act.put, List.setIfInBounds_toArray, List.set_cons_succ, List.set_cons_zero]
        refine dw_callR 27 (IsV (.int .i64 (fitsV x v))) (f := 123) (args := #[.agg #[.string x.name, .int .i64 x.ty, .bool x.nn, .bool x.key], .agg #[.int .i64 v.k, .int .i64 v.i, .string v.s]]) rfl rfl rfl rfl (fun wv => ?_) (fun wv HC hrm hD => ?_) ?_
        · go_simp <;> rfl
        · refine (rfits_val x v hvok.2.2 wv).mono ?_
          rintro e w5 ⟨rfl, b5⟩
          exact ⟨_, rfl, rfl, HC.call b5, RM.below b5⟩
        rintro u wx HCx hu
        obtain rfl : u = _ := hu
        clear HCx
        simp only [Act.put, List.setIfInBounds_toArray, List.set_cons_succ, List.set_cons_zero]
        refine rel_nil ?_
        rintro wx2 HX2
        rintro _hrm _HG
        rw [HKL.out] at HX2
        clear _hrm _HG
        by_cases hz : fitsV x v = 0
        · have HN := hid (show fitsT cs vs = fitsL (cs.drop (k + 1)) (vs.drop (k + 1)) by rw [HE.out, fitsL_step HX.out HVV.out hz])
          rw [hz]
          clear hz
          go_wp2_with fail
          go_roundw
          case rel => exact ⟨k + 1, by omega, by go_num, HN, HX2.drop (List.sublist_cons_self _ _)⟩
          case measure => simp [intOf]; omega
        · have HN := hid (show fitsT cs vs = fitsV x v by rw [HE.out, fitsL_bad HX.out HVV.out hz])
          have hz2 : (fitsV x v != 0) = true := by simp [hz]
          clear hz
          go_wp2_with fail
          go_ret
          exact ⟨by rw [HN.out] <;> rfl, HX2.below⟩
      · obtain rfl : k = m := by omega
        have hd : decide ((k : Int) < (k : Int)) = false := by simp
        have HN := hid (show fitsT cs vs = 0 by rw [HE.out, fitsL_end (by rw [HL.out]; exact Nat.le_refl _)])
        go_wp2_with fail
        go_ret
        exact ⟨by rw [HN.out] <;> rfl, H.below⟩
  · have hb : ((m : Int) != (n : Int)) = true := by rw [bne_iff_ne]; omega
    have HF := hid (show fitsT cs vs = 17 by unfold fitsT; rw [if_neg (by rw [HL.out, HV.out]; exact hnm)])
    go_wp2_with fail
    go_ret
    exact ⟨by rw [HF.out] <;> rfl, K0.below⟩
end Go.Proofs.YtljmclbedpceoaaDoor

namespace Go.Proofs.YtljmclbedpceoaaDoor
open Go.RowKit
set_option linter.unusedVariables false
set_option linter.unusedSimpArgs false

theorem bytesEq {a b : ByteArray} (h : a.toList = b.toList) : a = b := Go.WideShapes.bytes_inj (by rw [← ByteArray.toList_eq, ← ByteArray.toList_eq]; exact h)
theorem beqL_no {α : Type} [DecidableEq α] {xs ys : List α} {k : Nat} {x y : α} (hx : xs[k]? = some x) (hy : ys[k]? = some y) (h : x ≠ y) : decide (xs = ys) = false := by
  rw [decide_eq_false_iff_not]
  rintro rfl
  rw [hx] at hy
  exact h (by injection hy)
theorem takeEq_succ {α : Type} {xs ys : List α} {k : Nat} {x y : α} (hx : xs[k]? = some x) (hy : ys[k]? = some y) (h : xs.take k = ys.take k) (he : x = y) : xs.take (k + 1) = ys.take (k + 1) := by
  rw [List.take_add_one, List.take_add_one, hx, hy, h, he]
set_option maxHeartbeats 4000000 in
set_option maxRecDepth 100000 in
theorem eqVls_any (w : World) (A : Option Addr) (n c : Nat) (xs : List Vl) (B : Option Addr) (m d : Nat) (ys : List Vl) (hD : VlsIn A n xs w) (hE : VlsIn B m ys w) (hn : n ≤ 4398046511104) :
    Calls Tryd.prog 33 #[.slice A n c, .slice B m d] w fun e w' => e = .returned (.bool (decide (xs = ys))) ∧ ∃ q, w' = w.drewN q := by
  have HL := hid (show xs.length = n from hD.len)
  have HK := hid (show ys.length = m from hE.len)
  by_cases hnm : n = m
  · subst hnm
    have hb : ((n : Int) != (n : Int)) = false := by simp
    go_enter Tryd.func33, Tryd.ntmps33
    go_wp2_with fail
    go_loopw [13] (fun i wr => ∃ (k q : Nat), k ≤ n ∧ i = .int .i64 k ∧ wr = w.drewN q ∧ Hid (xs.take k = ys.take k)) (fun i _ => n - (intOf i).toNat)
    case atStart => exact ⟨0, 0, by omega, rfl, rfl, hid (by simp)⟩
    case round =>
      obtain ⟨k, q, hk, rfl, rfl, HTK⟩ := hrel
      by_cases hlt : k < n
      · have hd : decide ((k : Int) < (n : Int)) = true := by simp; omega
        have i0 : (0 : Int) ≤ (k : Int) := by omega
        have i1 : (k : Int) < (n : Int) := by omega
        obtain ⟨x, hx⟩ := get_of HL.out hlt
        obtain ⟨y, hy⟩ := get_of HK.out hlt
        obtain ⟨g, o, rfl, hbx, x0, x1, x2⟩ := hD.at_ hx
        obtain ⟨g', o', rfl, hby, y0, y1, y2⟩ := hE.at_ hy
        have HX := hid hx; have HY := hid hy; clear hx hy
        by_cases h0 : x.k = y.k
        · have e0 : (x.k == y.k) = true := by simp [h0]
          by_cases h1 : x.i = y.i
          · have e1 : (x.i == y.i) = true := by simp [h1]
            by_cases h2 : x.s = y.s
            · have e2 : (x.s.toList == y.s.toList) = true := by simp [h2]
              have HXY := hid (show x = y by cases x; cases y; simp_all)
              clear h0 h1 h2
              go_wp2_with fail
              go_quiet (fail)
              go_wp2_with fail
              go_roundw
              case rel => exact ⟨k + 1, q + nq, by omega, by go_num, by first | rfl | exact World.drewN_drewN .., hid (takeEq_succ HX.out HY.out HTK.out HXY.out)⟩
              case measure => simp [intOf]; omega
            · have e2 : (x.s.toList == y.s.toList) = false := by rw [beq_eq_false_iff_ne]; exact fun h => h2 (bytesEq h)
              have HN := hid (beqL_no HX.out HY.out (by intro h; exact h2 (by rw [h])))
              clear h0 h1 h2
              go_wp2_with fail
              go_quiet (fail)
              go_wp2_with fail
              go_ret
              exact ⟨by rw [HN.out] <;> rfl, q + nq, World.drewN_drewN ..⟩
          · have e1 : (x.i == y.i) = false := by simpa using h1
            have HN := hid (beqL_no HX.out HY.out (by intro h; exact h1 (by rw [h])))
            clear h0 h1
            go_wp2_with fail
            go_quiet (fail)
            go_wp2_with fail
            go_ret
            exact ⟨by rw [HN.out] <;> rfl, q + nq, World.drewN_drewN ..⟩
        · have e0 : (x.k == y.k) = false := by simpa using h0
          have HN := hid (beqL_no HX.out HY.out (by intro h; exact h0 (by rw [h])))
          clear h0
          go_wp2_with fail
          go_quiet (fail)
          go_wp2_with fail
          go_ret
          exact ⟨by rw [HN.out] <;> rfl, q + nq, World.drewN_drewN ..⟩
      · obtain rfl : n = k := by omega
        have hd : decide ((n : Int) < (n : Int)) = false := by simp
        have HE := hid (show decide (xs = ys) = true by
          have h := HTK.out
          rw [List.take_of_length_le (by rw [HL.out]; exact Nat.le_refl _), List.take_of_length_le (by rw [HK.out]; exact Nat.le_refl _)] at h
          simp [h])
        go_wp2_with fail
        go_ret
        exact ⟨by rw [HE.out] <;> rfl, q, rfl⟩
  · have hb : ((n : Int) != (m : Int)) = true := by simp; omega
    have HB := hid (show decide (xs = ys) = false by
      rw [decide_eq_false_iff_not]; rintro rfl; have := HL.out; have := HK.out; omega)
    go_enter Tryd.func33, Tryd.ntmps33
    go_wp2_with fail
    go_ret
    exact ⟨by rw [HB.out] <;> rfl, 0, rfl⟩
end Go.Proofs.YtljmclbedpceoaaDoor

namespace Go.Proofs.YtljmclbedpceoaaDoor
open Go.RowKit
set_option linter.unusedVariables false
set_option linter.unusedSimpArgs false

theorem vl_ext {x y : Vl} (h0 : x.k = y.k) (h1 : x.i = y.i) (h2 : x.s = y.s) : x = y := by
  obtain ⟨a, b, c⟩ := x; obtain ⟨d, e, f⟩ := y; simp only at h0 h1 h2; rw [h0, h1, h2]
/-- the number of the first row with a key -/
def lookR (k : Int) (rs : List Row) (key : Vl) : Option Int := (rs.find? fun r => decide (0 ≤ k ∧ r.2[k.toNat]? = some key)).map (·.1)
theorem lookR_neg {k : Int} {rs : List Row} {j : Nat} {r : Row} {key : Vl} (hr : rs[j]? = some r) (h : k < 0) : lookR k (rs.drop j) key = lookR k (rs.drop (j + 1)) key := by
  unfold lookR; rw [drop_cons hr, List.find?_cons, decide_eq_false (show ¬ (0 ≤ k ∧ r.2[k.toNat]? = some key) from fun h2 => by omega)]
theorem lookR_short {k : Nat} {rs : List Row} {j : Nat} {r : Row} {key : Vl} (hr : rs[j]? = some r) (h : r.2.length ≤ k) : lookR k (rs.drop j) key = lookR k (rs.drop (j + 1)) key := by
  unfold lookR; rw [drop_cons hr, List.find?_cons, decide_eq_false (show ¬ (0 ≤ (k : Int) ∧ r.2[(k : Int).toNat]? = some key) from fun h2 => by rw [Int.toNat_natCast, List.getElem?_eq_none h] at h2; cases h2.2)]
theorem lookR_miss {k : Int} {rs : List Row} {j : Nat} {r : Row} {key v : Vl} (hr : rs[j]? = some r) (hk : 0 ≤ k) (hv : r.2[k.toNat]? = some v) (h : v ≠ key) : lookR k (rs.drop j) key = lookR k (rs.drop (j + 1)) key := by
  unfold lookR; rw [drop_cons hr, List.find?_cons, decide_eq_false (show ¬ (0 ≤ k ∧ r.2[k.toNat]? = some key) from fun h2 => by rw [hv] at h2; exact h (by injection h2.2))]
theorem lookR_hit {k : Int} {rs : List Row} {j : Nat} {r : Row} {key v : Vl} (hr : rs[j]? = some r) (hk : 0 ≤ k) (hv : r.2[k.toNat]? = some v) (h : v = key) : lookR k (rs.drop j) key = some r.1 := by
  unfold lookR; rw [drop_cons hr, List.find?_cons, decide_eq_true (show 0 ≤ k ∧ r.2[k.toNat]? = some key from ⟨hk, by rw [hv, h]⟩)]; rfl
set_option maxHeartbeats 4000000 in
set_option maxRecDepth 100000 in
theorem look_any (M : Nat → Prop) (w : World) (hM : ∀ b, M b → b < w.heap.size) (nm : ByteArray) (A : Option Addr) (n c : Nat) (cs : List Col) (nx : Int) (B : Option Addr) (m d : Nat) (l : List Rw) (key : Vl) (hD : Ro w M (SlR 4 A n (colCells cs))) (hE : Ro w M (RwsIn B m l)) (hn : n ≤ 9223372036854775807) (hm : m ≤ 4611686018427387904) :
    Calls Tryd.prog 34 #[.agg #[.string nm, .slice A n c, .int .i64 nx, .slice B m d], .agg #[.int .i64 key.k, .int .i64 key.i, .string key.s]] w fun e w' => e = .returned (.tuple #[.int .i64 ((lookR (findB Col.key cs) (l.map Rw.row) key).getD 0), .bool (lookR (findB Col.key cs) (l.map Rw.row) key).isSome]) ∧ Below w.heap.size w w' := by
  have HL := hid hE.now.len
  have K0 := (((((Hold.start M w hM).add (hE.less (by simp [Mut]))).add (hD.less (by simp [Mut, Hp.foot]))).alloc_cst #[.string nm, .slice A n c, .int .i64 nx, .slice B m d] 40)).alloc_cst #[.int .i64 key.k, .int .i64 key.i, .string key.s] 66
  rw [World.size_alloc] at K0
  have F0 := K0.facts
  simp only [World.size_alloc, World.size_drew, factsL, cellsF, Nat.reduceAdd, List.toList_toArray, List.set_cons_zero, List.set_cons_succ, List.setIfInBounds_toArray, and_true, true_and] at F0
  clear hD hE
  go_enter Tryd.func34, Tryd.ntmps34
  go_wp2_with fail
  refine (keycol_any _ _ K0.mutLt nm A n c cs (K0.ro 2 rfl) hn).mono ?_
  rintro e w1 ⟨rfl, b1⟩
  have K1 := K0.call b1
  clear K0 b1 F0
  have F1 := K1.facts
  simp only [World.size_alloc, World.size_drew, factsL, cellsF, Nat.reduceAdd, List.toList_toArray, List.set_cons_zero, List.set_cons_succ, List.setIfInBounds_toArray, and_true, true_and] at F1
  obtain ⟨kk, hkk⟩ : ∃ kk, findB Col.key cs = kk := ⟨_, rfl⟩
  rw [hkk]
  have HKK := hid hkk
  clear hkk
  go_wp2_with fail
  clear F1
  go_loopw [15] (fun iv wr => ∃ (j : Nat), j ≤ m ∧ iv = .int .i64 j ∧ Hid (lookR kk (l.map Rw.row) key = lookR kk ((l.map Rw.row).drop j) key) ∧ Hold M none w wr [.cst (w.heap.size + 1) 66 #[.int .i64 key.k, .int .i64 key.i, .string key.s], .cst w.heap.size 40 #[.string nm, .slice A n c, .int .i64 nx, .slice B m d], .ro (SlR 4 A n (colCells cs)), .ro (RwsIn B m l)]) (fun iv _ => m - (intOf iv).toNat)
  case atStart => exact ⟨0, by omega, rfl, hid rfl, K1⟩
  case round =>
    clear K1
    obtain ⟨j, hj, rfl, HS, H⟩ := hrel
    by_cases hlt : j < m
    · have hdd : decide ((j : Int) < (m : Int)) = true := by simp; omega
      have j0 : (0 : Int) ≤ (j : Int) := by omega
      obtain ⟨x, hx⟩ := get_of HL.out hlt
      obtain ⟨g, o, rfl, hgb, c0, c1, hvi⟩ := (H.ro 3 rfl).now.at_ hx
      have HX := hid (show (l.map Rw.row)[j]? = some (x.id, x.vs) by simp [hx, Rw.row])
      have HXM := hid (List.mem_of_getElem? hx)
      have HVL := hid (show x.vs.length = x.n from hvi.len)
      clear hx
      by_cases hk : kk < 0
      · have hk0 : decide (kk ≥ 0) = false := by simpa using hk
        have K2 := H.alloc_cst #[.int .i64 x.id, .slice x.A x.n x.c] 61
        have HS2 := hid (show lookR kk (l.map Rw.row) key = lookR kk ((l.map Rw.row).drop (j + 1)) key by rw [HS.out]; exact lookR_neg HX.out hk)
        clear hk
        obtain ⟨gb, hgb2⟩ : ∃ gb, gb = wr.heap.size := ⟨_, rfl⟩
        obtain ⟨KL, hKL⟩ : ∃ KL : List Hp, KL = [Hp.cst wr.heap.size 61 #[.int .i64 x.id, .slice x.A x.n x.c], .cst (w.heap.size + 1) 66 #[.int .i64 key.k, .int .i64 key.i, .string key.s], .cst w.heap.size 40 #[.string nm, .slice A n c, .int .i64 nx, .slice (some ⟨g, o, none⟩) m d], .ro (SlR 4 A n (colCells cs)), .ro (RwsIn (some ⟨g, o, none⟩) m l)] := ⟨_, rfl⟩
        rw [← hKL] at K2
        rw [← hgb2] at hKL
        have HF : Hid (∀ wv, Hold M none w wv KL → wv.cell? ⟨gb, 1, none⟩ = some (.slice x.A x.n x.c) ∧ gb < wv.heap.size ∧ wv.cell? ⟨w.heap.size + 1, 0, none⟩ = some (.int .i64 key.k) ∧ wv.cell? ⟨w.heap.size + 1, 1, none⟩ = some (.int .i64 key.i) ∧ wv.cell? ⟨w.heap.size + 1, 2, none⟩ = some (.string key.s) ∧ w.heap.size + 1 < wv.heap.size) := hid fun wv HC => by
          rw [hKL] at HC
          have b0 := HC.cst_ 0 rfl
          have b1 := HC.cst_ 1 rfl
          exact ⟨cell_of_row _ _ 1 _ _ _ b0, Blk.lt b0, cell_of_row _ _ 0 _ _ _ b1, cell_of_row _ _ 1 _ _ _ b1, cell_of_row _ _ 2 _ _ _ b1, Blk.lt b1⟩
        go_wp2_with fail
        rw [← hgb2]
        have HGB := hid hgb2
        have HKE := hid hKL
        clear hgb2 hKL
        generalize wr.alloc (.cells #[.int .i64 x.id, .slice x.A x.n x.c] 61) = w2 at *
        refine wp_region_any (by kernel_rfl) ?_
        refine wpAny_hold 17 40 (KL) (spL []) (by kernel_rfl) (by kernel_rfl) (by kernel_rfl) rfl ?_ (K2.drew) ?_
        · exact stays_nil _
        simp only [List.take_succ_cons, List.take_zero, List.drop_succ_cons, List.drop_zero, Act.put, List.getElem_toArray, List.getElem_cons_zero, List.getElem_cons_succ, List.setIfInBounds_toArray, List.set_cons_succ, List.set_cons_zero]
        refine dw_val rfl rfl rfl ?_; apply Exists.intro; refine ⟨fun wv HC => ?_, ?_⟩
        · obtain ⟨f0, f1, f2, f3, f4, f5⟩ := HF.out _ HC; go_simp <;> rfl
        simp only [Act.put, List.setIfInBounds_toArray, List.set_cons_succ, List.set_cons_zero]
        refine dw_val rfl rfl rfl ?_; apply Exists.intro; refine ⟨fun wv HC => ?_, ?_⟩
        · obtain ⟨f0, f1, f2, f3, f4, f5⟩ := HF.out _ HC; go_simp <;> rfl
        simp only [Act.put, List.setIfInBounds_toArray, List.set_cons_succ, List.set_cons_zero]
        refine dw_val rfl rfl rfl ?_; apply Exists.intro; refine ⟨fun wv HC => ?_, ?_⟩
        · obtain ⟨f0, f1, f2, f3, f4, f5⟩ := HF.out _ HC; go_simp <;> rfl
        simp only [Act.put, List.setIfInBounds_toArray, List.set_cons_succ, List.set_cons_zero]
        refine dw_skip rfl rfl rfl ?_
        simp only [Act.put, List.setIfInBounds_toArray, List.set_cons_succ, List.set_cons_zero]
        refine dw_skip rfl rfl rfl ?_
        simp only [Act.put, List.setIfInBounds_toArray, List.set_cons_succ, List.set_cons_zero]
        refine dw_skip rfl rfl rfl ?_
        simp only [Act.put, List.setIfInBounds_toArray, List.set_cons_succ, List.set_cons_zero]
        refine dw_skip rfl rfl rfl ?_
        simp only [Act.put, List.setIfInBounds_toArray, List.set_cons_succ, List.set_cons_zero]
        refine dw_skip rfl rfl rfl ?_
        simp only [Act.put, List.setIfInBounds_toArray, List.set_cons_succ, List.set_cons_zero]
        refine dw_val rfl rfl rfl ?_; apply Exists.intro; refine ⟨fun wv HC => ?_, ?_⟩
        · obtain ⟨f0, f1, f2, f3, f4, f5⟩ := HF.out _ HC; go_simp <;> rfl
        simp only [Act.put, List.setIfInBounds_toArray, List.set_cons_succ, List.set_cons_zero]
        refine dw_val rfl rfl rfl ?_; apply Exists.intro; refine ⟨fun wv HC => ?_, ?_⟩
        · obtain ⟨f0, f1, f2, f3, f4, f5⟩ := HF.out _ HC; go_simp <;> rfl
        simp only [Act.put, List.setIfInBounds_toArray, List.set_cons_succ, List.set_cons_zero]
        refine dw_skip rfl rfl rfl ?_
        simp only [Act.put, List.setIfInBounds_toArray, List.set_cons_succ, List.set_cons_zero]
        refine dw_skip rfl rfl rfl ?_
        simp only [Act.put, List.setIfInBounds_toArray, List.set_cons_succ, List.set_cons_zero]
        refine dw_skip rfl rfl rfl ?_
        simp only [Act.put, List.setIfInBounds_toArray, List.set_cons_succ, List.set_cons_zero]
        refine dw_skip rfl rfl rfl ?_
        simp only [Act.put, List.setIfInBounds_toArray, List.set_cons_succ, List.set_cons_zero]
        refine dw_skip rfl rfl rfl ?_
        simp only [Act.put, List.setIfInBounds_toArray, List.set_cons_succ, List.set_cons_zero]
        refine dw_skip rfl rfl rfl ?_
        simp only [Act.put, List.setIfInBounds_toArray, List.set_cons_succ, List.set_cons_zero]
        refine dw_skip rfl rfl rfl ?_
        simp only [Act.put, List.setIfInBounds_toArray, List.set_cons_succ, List.set_cons_zero]
        refine rel_nil ?_
        rintro wx2 HX2
        rintro _hrm _HG
        rw [HKE.out] at HX2
        clear _hrm _HG
        go_wp2_with fail
        go_roundw
        case rel => exact ⟨j + 1, by omega, by go_num, HS2, HX2.drop (List.sublist_cons_self _ _)⟩
        case measure => simp [intOf]; omega
      obtain ⟨κ, rfl⟩ := Int.eq_ofNat_of_zero_le (show 0 ≤ kk by omega)
      have hk0 : decide ((κ : Int) ≥ 0) = true := by simp
      clear hk
      by_cases hkl : κ < x.n
      · have hd2 : decide ((κ : Int) < (x.n : Int)) = true := by simp; omega
        have k0 : (0 : Int) ≤ (κ : Int) := by omega
        have k1 : (κ : Int) < (x.n : Int) := by omega
        obtain ⟨v, hv⟩ := get_of HVL.out hkl
        obtain ⟨gv, ov, hA, hgv, v0, v1, v2⟩ := hvi.at_ hv
        have HV := hid hv; have HA := hid hA
        clear hv v0 v1 v2 hgv hvi
        rw [hA] at c1
        have K2 := H.alloc_cst #[.int .i64 x.id, .slice (some ⟨gv, ov, none⟩) x.n x.c] 61
        clear hA
        by_cases hvk : v = key
        · have HN := hid (show lookR κ (l.map Rw.row) key = some x.id by rw [HS.out]; exact lookR_hit HX.out (by omega) (by simpa using HV.out) hvk)
          have e0 : (v.k == key.k) = true := by simp [hvk]
          have e1 : (v.i == key.i) = true := by simp [hvk]
          have e2 : (v.s.toList == key.s.toList) = true := by simp [hvk]
          clear hvk
          obtain ⟨gb, hgb2⟩ : ∃ gb, gb = wr.heap.size := ⟨_, rfl⟩
          obtain ⟨KL, hKL⟩ : ∃ KL : List Hp, KL = [Hp.cst wr.heap.size 61 #[.int .i64 x.id, .slice (some ⟨gv, ov, none⟩) x.n x.c], .cst (w.heap.size + 1) 66 #[.int .i64 key.k, .int .i64 key.i, .string key.s], .cst w.heap.size 40 #[.string nm, .slice A n c, .int .i64 nx, .slice (some ⟨g, o, none⟩) m d], .ro (SlR 4 A n (colCells cs)), .ro (RwsIn (some ⟨g, o, none⟩) m l)] := ⟨_, rfl⟩
          rw [← hKL] at K2
          rw [← hgb2] at hKL
          have HF : Hid (∀ wv, Hold M none w wv KL → wv.cell? ⟨gb, 1, none⟩ = some (.slice (some ⟨gv, ov, none⟩) x.n x.c) ∧ gb < wv.heap.size ∧ wv.cell? ⟨w.heap.size + 1, 0, none⟩ = some (.int .i64 key.k) ∧ wv.cell? ⟨w.heap.size + 1, 1, none⟩ = some (.int .i64 key.i) ∧ wv.cell? ⟨w.heap.size + 1, 2, none⟩ = some (.string key.s) ∧ w.heap.size + 1 < wv.heap.size ∧ wv.cell? ⟨gv, ov + κ * 3, none⟩ = some (.int .i64 v.k) ∧ wv.cell? ⟨gv, ov + κ * 3 + 1, none⟩ = some (.int .i64 v.i) ∧ wv.cell? ⟨gv, ov + κ * 3 + 2, none⟩ = some (.string v.s) ∧ gv < wv.heap.size) := hid fun wv HC => by
            rw [hKL] at HC
            have b0 := HC.cst_ 0 rfl
            have b1 := HC.cst_ 1 rfl
            obtain ⟨gv', ov', e', hl, e0, e1, e2⟩ := ((HC.ro 4 rfl).now.2 x HXM.out).at_ HV.out
            rw [HA.out] at e'
            obtain ⟨rfl, rfl⟩ : gv = gv' ∧ ov = ov' := by injection e' with e'; injection e' with a1 a2; exact ⟨a1, a2⟩
            exact ⟨cell_of_row _ _ 1 _ _ _ b0, Blk.lt b0, cell_of_row _ _ 0 _ _ _ b1, cell_of_row _ _ 1 _ _ _ b1, cell_of_row _ _ 2 _ _ _ b1, Blk.lt b1, e0, e1, e2, hl⟩
          go_wp2_with fail
          rw [← hgb2]
          have HGB := hid hgb2
          have HKE := hid hKL
          clear hgb2 hKL
          generalize wr.alloc (.cells #[.int .i64 x.id, .slice (some ⟨gv, ov, none⟩) x.n x.c] 61) = w2 at *
          refine wp_region_any (by kernel_rfl) ?_
          refine wpAny_hold 17 40 (KL) (spL []) (by kernel_rfl) (by kernel_rfl) (by kernel_rfl) rfl ?_ (K2.drew) ?_
          · exact stays_nil _
          simp only [List.take_succ_cons, List.take_zero, List.drop_succ_cons, List.drop_zero, Act.put, List.getElem_toArray, List.getElem_cons_zero, List.getElem_cons_succ, List.setIfInBounds_toArray, List.set_cons_succ, List.set_cons_zero]
          refine dw_val rfl rfl rfl ?_; apply Exists.intro; refine ⟨fun wv HC => ?_, ?_⟩
          · obtain ⟨f0, f1, f2, f3, f4, f5, f6, f7, f8, f9⟩ := HF.out _ HC; go_simp <;> rfl
          simp only [Act.put, List.setIfInBounds_toArray, List.set_cons_succ, List.set_cons_zero]
          refine dw_val rfl rfl rfl ?_; apply Exists.intro; refine ⟨fun wv HC => ?_, ?_⟩
          · obtain ⟨f0, f1, f2, f3, f4, f5, f6, f7, f8, f9⟩ := HF.out _ HC; go_simp <;> rfl
          simp only [Act.put, List.setIfInBounds_toArray, List.set_cons_succ, List.set_cons_zero]
          refine dw_val rfl rfl rfl ?_; apply Exists.intro; refine ⟨fun wv HC => ?_, ?_⟩
          · obtain ⟨f0, f1, f2, f3, f4, f5, f6, f7, f8, f9⟩ := HF.out _ HC; go_simp <;> rfl
          simp only [Act.put, List.setIfInBounds_toArray, List.set_cons_succ, List.set_cons_zero]
          refine dw_val rfl rfl rfl ?_; apply Exists.intro; refine ⟨fun wv HC => ?_, ?_⟩
          · obtain ⟨f0, f1, f2, f3, f4, f5, f6, f7, f8, f9⟩ := HF.out _ HC; go_simp <;> rfl
          simp only [Act.put, List.setIfInBounds_toArray, List.set_cons_succ, List.set_cons_zero]
          refine dw_val rfl rfl rfl ?_; apply Exists.intro; refine ⟨fun wv HC => ?_, ?_⟩
          · obtain ⟨f0, f1, f2, f3, f4, f5, f6, f7, f8, f9⟩ := HF.out _ HC; go_simp <;> rfl
          simp only [Act.put, List.setIfInBounds_toArray, List.set_cons_succ, List.set_cons_zero]
          refine dw_val rfl rfl rfl ?_; apply Exists.intro; refine ⟨fun wv HC => ?_, ?_⟩
          · obtain ⟨f0, f1, f2, f3, f4, f5, f6, f7, f8, f9⟩ := HF.out _ HC; go_simp <;> rfl
          simp only [Act.put, List.setIfInBounds_toArray, List.set_cons_succ, List.set_cons_zero]
          refine dw_val rfl rfl rfl ?_; apply Exists.intro; refine ⟨fun wv HC => ?_, ?_⟩
          · obtain ⟨f0, f1, f2, f3, f4, f5, f6, f7, f8, f9⟩ := HF.out _ HC; go_simp <;> rfl
          simp only [Act.put, List.setIfInBounds_toArray, List.set_cons_succ, List.set_cons_zero]
          refine dw_val rfl rfl rfl ?_; apply Exists.intro; refine ⟨fun wv HC => ?_, ?_⟩
          · obtain ⟨f0, f1, f2, f3, f4, f5, f6, f7, f8, f9⟩ := HF.out _ HC; go_simp <;> rfl
          simp only [Act.put, List.setIfInBounds_toArray, List.set_cons_succ, List.set_cons_zero]
          refine dw_val rfl rfl rfl ?_; apply Exists.intro; refine ⟨fun wv HC => ?_, ?_⟩
          · obtain ⟨f0, f1, f2, f3, f4, f5, f6, f7, f8, f9⟩ := HF.out _ HC; go_simp <;> rfl
          simp only [Act.put, List.setIfInBounds_toArray, List.set_cons_succ, List.set_cons_zero]
          refine dw_val rfl rfl rfl ?_; apply Exists.intro; refine ⟨fun wv HC => ?_, ?_⟩
          · obtain ⟨f0, f1, f2, f3, f4, f5, f6, f7, f8, f9⟩ := HF.out _ HC; go_simp <;> rfl
          simp only [Act.put, List.setIfInBounds_toArray, List.set_cons_succ, List.set_cons_zero]
          refine dw_val rfl rfl rfl ?_; apply Exists.intro; refine ⟨fun wv HC => ?_, ?_⟩
          · obtain ⟨f0, f1, f2, f3, f4, f5, f6, f7, f8, f9⟩ := HF.out _ HC; go_simp <;> rfl
          simp only [Act.put, List.setIfInBounds_toArray, List.set_cons_succ, List.set_cons_zero]
          refine dw_val rfl rfl rfl ?_; apply Exists.intro; refine ⟨fun wv HC => ?_, ?_⟩
          · obtain ⟨f0, f1, f2, f3, f4, f5, f6, f7, f8, f9⟩ := HF.out _ HC; go_simp <;> rfl
          simp only [Act.put, List.setIfInBounds_toArray, List.set_cons_succ, List.set_cons_zero]
          refine dw_val rfl rfl rfl ?_; apply Exists.intro; refine ⟨fun wv HC => ?_, ?_⟩
          · obtain ⟨f0, f1, f2, f3, f4, f5, f6, f7, f8, f9⟩ := HF.out _ HC; go_simp <;> rfl
          simp only [Act.put, List.setIfInBounds_toArray, List.set_cons_succ, List.set_cons_zero]
          refine dw_val rfl rfl rfl ?_; apply Exists.intro; refine ⟨fun wv HC => ?_, ?_⟩
          · obtain ⟨f0, f1, f2, f3, f4, f5, f6, f7, f8, f9⟩ := HF.out _ HC; go_simp <;> rfl
          simp only [Act.put, List.setIfInBounds_toArray, List.set_cons_succ, List.set_cons_zero]
          refine dw_val rfl rfl rfl ?_; apply Exists.intro; refine ⟨fun wv HC => ?_, ?_⟩
          · obtain ⟨f0, f1, f2, f3, f4, f5, f6, f7, f8, f9⟩ := HF.out _ HC; go_simp <;> rfl
          simp only [Act.put, List.setIfInBounds_toArray, List.set_cons_succ, List.set_cons_zero]
          refine dw_val rfl rfl rfl ?_; apply Exists.intro; refine ⟨fun wv HC => ?_, ?_⟩
          · obtain ⟨f0, f1, f2, f3, f4, f5, f6, f7, f8, f9⟩ := HF.out _ HC; go_simp <;> rfl
          simp only [Act.put, List.setIfInBounds_toArray, List.set_cons_succ, List.set_cons_zero]
          refine dw_val rfl rfl rfl ?_; apply Exists.intro; refine ⟨fun wv HC => ?_, ?_⟩
          · obtain ⟨f0, f1, f2, f3, f4, f5, f6, f7, f8, f9⟩ := HF.out _ HC; go_simp <;> rfl
          simp only [Act.put, List.setIfInBounds_toArray, List.set_cons_succ, List.set_cons_zero]
          refine rel_nil ?_
          rintro wx2 HX2
          rintro _hrm _HG
          rw [HKE.out] at HX2
          clear _hrm _HG
          have F3 := HX2.facts
          simp only [World.size_alloc, World.size_drew, factsL, cellsF, Nat.reduceAdd, List.toList_toArray, List.set_cons_zero, List.set_cons_succ, List.setIfInBounds_toArray, and_true, true_and] at F3
          go_wp2_with fail
          go_ret2
          exact ⟨by rw [HKK.out, HN.out] <;> rfl, HX2.below⟩
        have HS2 := hid (show lookR κ (l.map Rw.row) key = lookR κ ((l.map Rw.row).drop (j + 1)) key by rw [HS.out]; exact lookR_miss HX.out (by omega) (by simpa using HV.out) hvk)
        by_cases h0 : v.k = key.k
        · have e0 : (v.k == key.k) = true := by simp [h0]
          by_cases h1 : v.i = key.i
          · have e1 : (v.i == key.i) = true := by simp [h1]
            have e2 : (v.s.toList == key.s.toList) = false := by
              rw [beq_eq_false_iff_ne]; exact fun h => hvk (vl_ext h0 h1 (bytesEq h))
            clear hvk h0 h1
            obtain ⟨gb, hgb2⟩ : ∃ gb, gb = wr.heap.size := ⟨_, rfl⟩
            obtain ⟨KL, hKL⟩ : ∃ KL : List Hp, KL = [Hp.cst wr.heap.size 61 #[.int .i64 x.id, .slice (some ⟨gv, ov, none⟩) x.n x.c], .cst (w.heap.size + 1) 66 #[.int .i64 key.k, .int .i64 key.i, .string key.s], .cst w.heap.size 40 #[.string nm, .slice A n c, .int .i64 nx, .slice (some ⟨g, o, none⟩) m d], .ro (SlR 4 A n (colCells cs)), .ro (RwsIn (some ⟨g, o, none⟩) m l)] := ⟨_, rfl⟩
            rw [← hKL] at K2
            rw [← hgb2] at hKL
            have HF : Hid (∀ wv, Hold M none w wv KL → wv.cell? ⟨gb, 1, none⟩ = some (.slice (some ⟨gv, ov, none⟩) x.n x.c) ∧ gb < wv.heap.size ∧ wv.cell? ⟨w.heap.size + 1, 0, none⟩ = some (.int .i64 key.k) ∧ wv.cell? ⟨w.heap.size + 1, 1, none⟩ = some (.int .i64 key.i) ∧ wv.cell? ⟨w.heap.size + 1, 2, none⟩ = some (.string key.s) ∧ w.heap.size + 1 < wv.heap.size ∧ wv.cell? ⟨gv, ov + κ * 3, none⟩ = some (.int .i64 v.k) ∧ wv.cell? ⟨gv, ov + κ * 3 + 1, none⟩ = some (.int .i64 v.i) ∧ wv.cell? ⟨gv, ov + κ * 3 + 2, none⟩ = some (.string v.s) ∧ gv < wv.heap.size) := hid fun wv HC => by
              rw [hKL] at HC
              have b0 := HC.cst_ 0 rfl
              have b1 := HC.cst_ 1 rfl
              obtain ⟨gv', ov', e', hl, e0, e1, e2⟩ := ((HC.ro 4 rfl).now.2 x HXM.out).at_ HV.out
              rw [HA.out] at e'
              obtain ⟨rfl, rfl⟩ : gv = gv' ∧ ov = ov' := by injection e' with e'; injection e' with a1 a2; exact ⟨a1, a2⟩
              exact ⟨cell_of_row _ _ 1 _ _ _ b0, Blk.lt b0, cell_of_row _ _ 0 _ _ _ b1, cell_of_row _ _ 1 _ _ _ b1, cell_of_row _ _ 2 _ _ _ b1, Blk.lt b1, e0, e1, e2, hl⟩
            go_wp2_with fail
            rw [← hgb2]
            have HGB := hid hgb2
            have HKE := hid hKL
            clear hgb2 hKL
            generalize wr.alloc (.cells #[.int .i64 x.id, .slice (some ⟨gv, ov, none⟩) x.n x.c] 61) = w2 at *
            refine wp_region_any (by kernel_rfl) ?_
            refine wpAny_hold 17 40 (KL) (spL []) (by kernel_rfl) (by kernel_rfl) (by kernel_rfl) rfl ?_ (K2.drew) ?_
            · exact stays_nil _
            simp only [List.take_succ_cons, List.take_zero, List.drop_succ_cons, List.drop_zero, Act.put, List.getElem_toArray, List.getElem_cons_zero, List.getElem_cons_succ, List.setIfInBounds_toArray, List.set_cons_succ, List.set_cons_zero]
            refine dw_val rfl rfl rfl ?_; apply Exists.intro; refine ⟨fun wv HC => ?_, ?_⟩
            · obtain ⟨f0, f1, f2, f3, f4, f5, f6, f7, f8, f9⟩ := HF.out _ HC; go_simp <;> rfl
            simp only [Act.put, List.setIfInBounds_toArray, List.set_cons_succ, List.set_cons_zero]
            refine dw_val rfl rfl rfl ?_; apply Exists.intro; refine ⟨fun wv HC => ?_, ?_⟩
            · obtain ⟨f0, f1, f2, f3, f4, f5, f6, f7, f8, f9⟩ := HF.out _ HC; go_simp <;> rfl
            simp only [Act.put, List.setIfInBounds_toArray, List.set_cons_succ, List.set_cons_zero]
            refine dw_val rfl rfl rfl ?_; apply Exists.intro; refine ⟨fun wv HC => ?_, ?_⟩
            · obtain ⟨f0, f1, f2, f3, f4, f5, f6, f7, f8, f9⟩ := HF.out _ HC; go_simp <;> rfl
            simp only [Act.put, List.setIfInBounds_toArray, List.set_cons_succ, List.set_cons_zero]
            refine dw_val rfl rfl rfl ?_; apply Exists.intro; refine ⟨fun wv HC => ?_, ?_⟩
            · obtain ⟨f0, f1, f2, f3, f4, f5, f6, f7, f8, f9⟩ := HF.out _ HC; go_simp <;> rfl
            simp only [Act.put, List.setIfInBounds_toArray, List.set_cons_succ, List.set_cons_zero]
            refine dw_val rfl rfl rfl ?_; apply Exists.intro; refine ⟨fun wv HC => ?_, ?_⟩
            · obtain ⟨f0, f1, f2, f3, f4, f5, f6, f7, f8, f9⟩ := HF.out _ HC; go_simp <;> rfl
            simp only [Act.put, List.setIfInBounds_toArray, List.set_cons_succ, List.set_cons_zero]
            refine dw_val rfl rfl rfl ?_; apply Exists.intro; refine ⟨fun wv HC => ?_, ?_⟩
            · obtain ⟨f0, f1, f2, f3, f4, f5, f6, f7, f8, f9⟩ := HF.out _ HC; go_simp <;> rfl
            simp only [Act.put, List.setIfInBounds_toArray, List.set_cons_succ, List.set_cons_zero]
            refine dw_val rfl rfl rfl ?_; apply Exists.intro; refine ⟨fun wv HC => ?_, ?_⟩
            · obtain ⟨f0, f1, f2, f3, f4, f5, f6, f7, f8, f9⟩ := HF.out _ HC; go_simp <;> rfl
            simp only [Act.put, List.setIfInBounds_toArray, List.set_cons_succ, List.set_cons_zero]
            refine dw_val rfl rfl rfl ?_; apply Exists.intro; refine ⟨fun wv HC => ?_, ?_⟩
            · obtain ⟨f0, f1, f2, f3, f4, f5, f6, f7, f8, f9⟩ := HF.out _ HC; go_simp <;> rfl
            simp only [Act.put, List.setIfInBounds_toArray, List.set_cons_succ, List.set_cons_zero]
            refine dw_val rfl rfl rfl ?_; apply Exists.intro; refine ⟨fun wv HC => ?_, ?_⟩
            · obtain ⟨f0, f1, f2, f3, f4, f5, f6, f7, f8, f9⟩ := HF.out _ HC; go_simp <;> rfl
            simp only [Act.put, List.setIfInBounds_toArray, List.set_cons_succ, List.set_cons_zero]
            refine dw_val rfl rfl rfl ?_; apply Exists.intro; refine ⟨fun wv HC => ?_, ?_⟩
            · obtain ⟨f0, f1, f2, f3, f4, f5, f6, f7, f8, f9⟩ := HF.out _ HC; go_simp <;> rfl
            simp only [Act.put, List.setIfInBounds_toArray, List.set_cons_succ, List.set_cons_zero]
            refine dw_val rfl rfl rfl ?_; apply Exists.intro; refine ⟨fun wv HC => ?_, ?_⟩
            · obtain ⟨f0, f1, f2, f3, f4, f5, f6, f7, f8, f9⟩ := HF.out _ HC; go_simp <;> rfl
            simp only [Act.put, List.setIfInBounds_toArray, List.set_cons_succ, List.set_cons_zero]
            refine dw_val rfl rfl rfl ?_; apply Exists.intro; refine ⟨fun wv HC => ?_, ?_⟩
            · obtain ⟨f0, f1, f2, f3, f4, f5, f6, f7, f8, f9⟩ := HF.out _ HC; go_simp <;> rfl
            simp only [Act.put, List.setIfInBounds_toArray, List.set_cons_succ, List.set_cons_zero]
            refine dw_val rfl rfl rfl ?_; apply Exists.intro; refine ⟨fun wv HC => ?_, ?_⟩
            · obtain ⟨f0, f1, f2, f3, f4, f5, f6, f7, f8, f9⟩ := HF.out _ HC; go_simp <;> rfl
            simp only [Act.put, List.setIfInBounds_toArray, List.set_cons_succ, List.set_cons_zero]
            refine dw_val rfl rfl rfl ?_; apply Exists.intro; refine ⟨fun wv HC => ?_, ?_⟩
            · obtain ⟨f0, f1, f2, f3, f4, f5, f6, f7, f8, f9⟩ := HF.out _ HC; go_simp <;> rfl
            simp only [Act.put, List.setIfInBounds_toArray, List.set_cons_succ, List.set_cons_zero]
            refine dw_val rfl rfl rfl ?_; apply Exists.intro; refine ⟨fun wv HC => ?_, ?_⟩
            · obtain ⟨f0, f1, f2, f3, f4, f5, f6, f7, f8, f9⟩ := HF.out _ HC; go_simp <;> rfl
            simp only [Act.put, List.setIfInBounds_toArray, List.set_cons_succ, List.set_cons_zero]
            refine dw_val rfl rfl rfl ?_; apply Exists.intro; refine ⟨fun wv HC => ?_, ?_⟩
            · obtain ⟨f0, f1, f2, f3, f4, f5, f6, f7, f8, f9⟩ := HF.out _ HC; go_simp <;> rfl
            simp only [Act.put, List.setIfInBounds_toArray, List.set_cons_succ, List.set_cons_zero]
            refine dw_val rfl rfl rfl ?_; apply Exists.intro; refine ⟨fun wv HC => ?_, ?_⟩
            · obtain ⟨f0, f1, f2, f3, f4, f5, f6, f7, f8, f9⟩ := HF.out _ HC; go_simp <;> rfl
            simp only [Act.put, List.setIfInBounds_toArray, List.set_cons_succ, List.set_cons_zero]
            refine rel_nil ?_
            rintro wx2 HX2
            rintro _hrm _HG
            rw [HKE.out] at HX2
            clear _hrm _HG
            go_wp2_with fail
            go_roundw
            case rel => exact ⟨j + 1, by omega, by go_num, HS2, HX2.drop (List.sublist_cons_self _ _)⟩
            case measure => simp [intOf]; omega
          · have e1 : (v.i == key.i) = false := by simpa using h1
            clear hvk h0 h1
            obtain ⟨gb, hgb2⟩ : ∃ gb, gb = wr.heap.size := ⟨_, rfl⟩
            obtain ⟨KL, hKL⟩ : ∃ KL : List Hp, KL = [Hp.cst wr.heap.size 61 #[.int .i64 x.id, .slice (some ⟨gv, ov, none⟩) x.n x.c], .cst (w.heap.size + 1) 66 #[.int .i64 key.k, .int .i64 key.i, .string key.s], .cst w.heap.size 40 #[.string nm, .slice A n c, .int .i64 nx, .slice (some ⟨g, o, none⟩) m d], .ro (SlR 4 A n (colCells cs)), .ro (RwsIn (some ⟨g, o, none⟩) m l)] := ⟨_, rfl⟩
            rw [← hKL] at K2
            rw [← hgb2] at hKL
            have HF : Hid (∀ wv, Hold M none w wv KL → wv.cell? ⟨gb, 1, none⟩ = some (.slice (some ⟨gv, ov, none⟩) x.n x.c) ∧ gb < wv.heap.size ∧ wv.cell? ⟨w.heap.size + 1, 0, none⟩ = some (.int .i64 key.k) ∧ wv.cell? ⟨w.heap.size + 1, 1, none⟩ = some (.int .i64 key.i) ∧ wv.cell? ⟨w.heap.size + 1, 2, none⟩ = some (.string key.s) ∧ w.heap.size + 1 < wv.heap.size ∧ wv.cell? ⟨gv, ov + κ * 3, none⟩ = some (.int .i64 v.k) ∧ wv.cell? ⟨gv, ov + κ * 3 + 1, none⟩ = some (.int .i64 v.i) ∧ wv.cell? ⟨gv, ov + κ * 3 + 2, none⟩ = some (.string v.s) ∧ gv < wv.heap.size) := hid fun wv HC => by
              rw [hKL] at HC
              have b0 := HC.cst_ 0 rfl
              have b1 := HC.cst_ 1 rfl
              obtain ⟨gv', ov', e', hl, e0, e1, e2⟩ := ((HC.ro 4 rfl).now.2 x HXM.out).at_ HV.out
              rw [HA.out] at e'
              obtain ⟨rfl, rfl⟩ : gv = gv' ∧ ov = ov' := by injection e' with e'; injection e' with a1 a2; exact ⟨a1, a2⟩
              exact ⟨cell_of_row _ _ 1 _ _ _ b0, Blk.lt b0, cell_of_row _ _ 0 _ _ _ b1, cell_of_row _ _ 1 _ _ _ b1, cell_of_row _ _ 2 _ _ _ b1, Blk.lt b1, e0, e1, e2, hl⟩
            go_wp2_with fail
            rw [← hgb2]
            have HGB := hid hgb2
            have HKE := hid hKL
            clear hgb2 hKL
            generalize wr.alloc (.cells #[.int .i64 x.id, .slice (some ⟨gv, ov, none⟩) x.n x.c] 61) = w2 at *
            refine wp_region_any (by kernel_rfl) ?_
            refine wpAny_hold 17 40 (KL) (spL []) (by kernel_rfl) (by kernel_rfl) (by kernel_rfl) rfl ?_ (K2.drew) ?_
            · exact stays_nil _
            simp only [List.take_succ_cons, List.take_zero, List.drop_succ_cons, List.drop_zero, Act.put, List.getElem_toArray, List.getElem_cons_zero, List.getElem_cons_succ, List.setIfInBounds_toArray, List.set_cons_succ, List.set_cons_zero]
            refine dw_val rfl rfl rfl ?_; apply Exists.intro; refine ⟨fun wv HC => ?_, ?_⟩
            · obtain ⟨f0, f1, f2, f3, f4, f5, f6, f7, f8, f9⟩ := HF.out _ HC; go_simp <;> rfl
            simp only [Act.put, List.setIfInBounds_toArray, List.set_cons_succ, List.set_cons_zero]
            refine dw_val rfl rfl rfl ?_; apply Exists.intro; refine ⟨fun wv HC => ?_, ?_⟩
            · obtain ⟨f0, f1, f2, f3, f4, f5, f6, f7, f8, f9⟩ := HF.out _ HC; go_simp <;> rfl
            simp only [Act.put, List.setIfInBounds_toArray, List.set_cons_succ, List.set_cons_zero]
            refine dw_val rfl rfl rfl ?_; apply Exists.intro; refine ⟨fun wv HC => ?_, ?_⟩
            · obtain ⟨f0, f1, f2, f3, f4, f5, f6, f7, f8, f9⟩ := HF.out _ HC; go_simp <;> rfl
            simp only [Act.put, List.setIfInBounds_toArray, List.set_cons_succ, List.set_cons_zero]
            refine dw_val rfl rfl rfl ?_; apply Exists.intro; refine ⟨fun wv HC => ?_, ?_⟩
            · obtain ⟨f0, f1, f2, f3, f4, f5, f6, f7, f8, f9⟩ := HF.out _ HC; go_simp <;> rfl
            simp only [Act.put, List.setIfInBounds_toArray, List.set_cons_succ, List.set_cons_zero]
            refine dw_val rfl rfl rfl ?_; apply Exists.intro; refine ⟨fun wv HC => ?_, ?_⟩
            · obtain ⟨f0, f1, f2, f3, f4, f5, f6, f7, f8, f9⟩ := HF.out _ HC; go_simp <;> rfl
            simp only [Act.put, List.setIfInBounds_toArray, List.set_cons_succ, List.set_cons_zero]
            refine dw_val rfl rfl rfl ?_; apply Exists.intro; refine ⟨fun wv HC => ?_, ?_⟩
            · obtain ⟨f0, f1, f2, f3, f4, f5, f6, f7, f8, f9⟩ := HF.out _ HC; go_simp <;> rfl
            simp only [Act.put, List.setIfInBounds_toArray, List.set_cons_succ, List.set_cons_zero]
            refine dw_val rfl rfl rfl ?_; apply Exists.intro; refine ⟨fun wv HC => ?_, ?_⟩
            · obtain ⟨f0, f1, f2, f3, f4, f5, f6, f7, f8, f9⟩ := HF.out _ HC; go_simp <;> rfl
            simp only [Act.put, List.setIfInBounds_toArray, List.set_cons_succ, List.set_cons_zero]
            refine dw_val rfl rfl rfl ?_; apply Exists.intro; refine ⟨fun wv HC => ?_, ?_⟩
            · obtain ⟨f0, f1, f2, f3, f4, f5, f6, f7, f8, f9⟩ := HF.out _ HC; go_simp <;> rfl
            simp only [Act.put, List.setIfInBounds_toArray, List.set_cons_succ, List.set_cons_zero]
            refine dw_val rfl rfl rfl ?_; apply Exists.intro; refine ⟨fun wv HC => ?_, ?_⟩
            · obtain ⟨f0, f1, f2, f3, f4, f5, f6, f7, f8, f9⟩ := HF.out _ HC; go_simp <;> rfl
            simp only [Act.put, List.setIfInBounds_toArray, List.set_cons_succ, List.set_cons_zero]
            refine dw_val rfl rfl rfl ?_; apply Exists.intro; refine ⟨fun wv HC => ?_, ?_⟩
            · obtain ⟨f0, f1, f2, f3, f4, f5, f6, f7, f8, f9⟩ := HF.out _ HC; go_simp <;> rfl
            simp only [Act.put, List.setIfInBounds_toArray, List.set_cons_succ, List.set_cons_zero]
            refine dw_val rfl rfl rfl ?_; apply Exists.intro; refine ⟨fun wv HC => ?_, ?_⟩
            · obtain ⟨f0, f1, f2, f3, f4, f5, f6, f7, f8, f9⟩ := HF.out _ HC; go_simp <;> rfl
            simp only [Act.put, List.setIfInBounds_toArray, List.set_cons_succ, List.set_cons_zero]
            refine dw_val rfl rfl rfl ?_; apply Exists.intro; refine ⟨fun wv HC => ?_, ?_⟩
            · obtain ⟨f0, f1, f2, f3, f4, f5, f6, f7, f8, f9⟩ := HF.out _ HC; go_simp <;> rfl
            simp only [Act.put, List.setIfInBounds_toArray, List.set_cons_succ, List.set_cons_zero]
            refine dw_val rfl rfl rfl ?_; apply Exists.intro; refine ⟨fun wv HC => ?_, ?_⟩
            · obtain ⟨f0, f1, f2, f3, f4, f5, f6, f7, f8, f9⟩ := HF.out _ HC; go_simp <;> rfl
            simp only [Act.put, List.setIfInBounds_toArray, List.set_cons_succ, List.set_cons_zero]
            refine dw_val rfl rfl rfl ?_; apply Exists.intro; refine ⟨fun wv HC => ?_, ?_⟩
            · obtain ⟨f0, f1, f2, f3, f4, f5, f6, f7, f8, f9⟩ := HF.out _ HC; go_simp <;> rfl
            simp only [Act.put, List.setIfInBounds_toArray, List.set_cons_succ, List.set_cons_zero]
            refine dw_val rfl rfl rfl ?_; apply Exists.intro; refine ⟨fun wv HC => ?_, ?_⟩
            · obtain ⟨f0, f1, f2, f3, f4, f5, f6, f7, f8, f9⟩ := HF.out _ HC; go_simp <;> rfl
            simp only [Act.put, List.setIfInBounds_toArray, List.set_cons_succ, List.set_cons_zero]
            refine dw_val rfl rfl rfl ?_; apply Exists.intro; refine ⟨fun wv HC => ?_, ?_⟩
            · obtain ⟨f0, f1, f2, f3, f4, f5, f6, f7, f8, f9⟩ := HF.out _ HC; go_simp <;> rfl
            simp only [Act.put, List.setIfInBounds_toArray, List.set_cons_succ, List.set_cons_zero]
            refine dw_val rfl rfl rfl ?_; apply Exists.intro; refine ⟨fun wv HC => ?_, ?_⟩
            · obtain ⟨f0, f1, f2, f3, f4, f5, f6, f7, f8, f9⟩ := HF.out _ HC; go_simp <;> rfl
            simp only [Act.put, List.setIfInBounds_toArray, List.set_cons_succ, List.set_cons_zero]
            refine rel_nil ?_
            rintro wx2 HX2
            rintro _hrm _HG
            rw [HKE.out] at HX2
            clear _hrm _HG
            go_wp2_with fail
            go_roundw
            case rel => exact ⟨j + 1, by omega, by go_num, HS2, HX2.drop (List.sublist_cons_self _ _)⟩
            case measure => simp [intOf]; omega
        · have e0 : (v.k == key.k) = false := by simpa using h0
          clear hvk h0
          obtain ⟨gb, hgb2⟩ : ∃ gb, gb = wr.heap.size := ⟨_, rfl⟩
          obtain ⟨KL, hKL⟩ : ∃ KL : List Hp, KL = [Hp.cst wr.heap.size 61 #[.int .i64 x.id, .slice (some ⟨gv, ov, none⟩) x.n x.c], .cst (w.heap.size + 1) 66 #[.int .i64 key.k, .int .i64 key.i, .string key.s], .cst w.heap.size 40 #[.string nm, .slice A n c, .int .i64 nx, .slice (some ⟨g, o, none⟩) m d], .ro (SlR 4 A n (colCells cs)), .ro (RwsIn (some ⟨g, o, none⟩) m l)] := ⟨_, rfl⟩
          rw [← hKL] at K2
          rw [← hgb2] at hKL
          have HF : Hid (∀ wv, Hold M none w wv KL → wv.cell? ⟨gb, 1, none⟩ = some (.slice (some ⟨gv, ov, none⟩) x.n x.c) ∧ gb < wv.heap.size ∧ wv.cell? ⟨w.heap.size + 1, 0, none⟩ = some (.int .i64 key.k) ∧ wv.cell? ⟨w.heap.size + 1, 1, none⟩ = some (.int .i64 key.i) ∧ wv.cell? ⟨w.heap.size + 1, 2, none⟩ = some (.string key.s) ∧ w.heap.size + 1 < wv.heap.size ∧ wv.cell? ⟨gv, ov + κ * 3, none⟩ = some (.int .i64 v.k) ∧ wv.cell? ⟨gv, ov + κ * 3 + 1, none⟩ = some (.int .i64 v.i) ∧ wv.cell? ⟨gv, ov + κ * 3 + 2, none⟩ = some (.string v.s) ∧ gv < wv.heap.size) := hid fun wv HC => by
            rw [hKL] at HC
            have b0 := HC.cst_ 0 rfl
            have b1 := HC.cst_ 1 rfl
            obtain ⟨gv', ov', e', hl, e0, e1, e2⟩ := ((HC.ro 4 rfl).now.2 x HXM.out).at_ HV.out
            rw [HA.out] at e'
            obtain ⟨rfl, rfl⟩ : gv = gv' ∧ ov = ov' := by injection e' with e'; injection e' with a1 a2; exact ⟨a1, a2⟩
            exact ⟨cell_of_row _ _ 1 _ _ _ b0, Blk.lt b0, cell_of_row _ _ 0 _ _ _ b1, cell_of_row _ _ 1 _ _ _ b1, cell_of_row _ _ 2 _ _ _ b1, Blk.lt b1, e0, e1, e2, hl⟩
          go_wp2_with fail
          rw [← hgb2]
          have HGB := hid hgb2
          have HKE := hid hKL
          clear hgb2 hKL
          generalize wr.alloc (.cells #[.int .i64 x.id, .slice (some ⟨gv, ov, none⟩) x.n x.c] 61) = w2 at *
          refine wp_region_any (by kernel_rfl) ?_
          refine wpAny_hold 17 40 (KL) (spL []) (by kernel_rfl) (by kernel_rfl) (by kernel_rfl) rfl ?_ (K2.drew) ?_
          · exact stays_nil _
          simp only [List.take_succ_cons, List.take_zero, List.drop_succ_cons, List.drop_zero, Act.put, List.getElem_toArray, List.getElem_cons_zero, List.getElem_cons_succ, List.setIfInBounds_toArray, List.set_cons_succ, List.set_cons_zero]
          refine dw_val rfl rfl rfl ?_; apply Exists.intro; refine ⟨fun wv HC => ?_, ?_⟩
          · obtain ⟨f0, f1, f2, f3, f4, f5, f6, f7, f8, f9⟩ := HF.out _ HC; go_simp <;> rfl
          simp only [Act.put, List.setIfInBounds_toArray, List.set_cons_succ, List.set_cons_zero]
          refine dw_val rfl rfl rfl ?_; apply Exists.intro; refine ⟨fun wv HC => ?_, ?_⟩
          · obtain ⟨f0, f1, f2, f3, f4, f5, f6, f7, f8, f9⟩ := HF.out _ HC; go_simp <;> rfl
          simp only [Act.put, List.setIfInBounds_toArray, List.set_cons_succ, List.set_cons_zero]
          refine dw_val rfl rfl rfl ?_; apply Exists.intro; refine ⟨fun wv HC => ?_, ?_⟩
          · obtain ⟨f0, f1, f2, f3, f4, f5, f6, f7, f8, f9⟩ := HF.out _ HC; go_simp <;> rfl
          simp only [Act.put, List.setIfInBounds_toArray, List.set_cons_succ, List.set_cons_zero]
          refine dw_val rfl rfl rfl ?_; apply Exists.intro; refine ⟨fun wv HC => ?_, ?_⟩
          · obtain ⟨f0, f1, f2, f3, f4, f5, f6, f7, f8, f9⟩ := HF.out _ HC; go_simp <;> rfl
          simp only [Act.put, List.setIfInBounds_toArray, List.set_cons_succ, List.set_cons_zero]
          refine dw_val rfl rfl rfl ?_; apply Exists.intro; refine ⟨fun wv HC => ?_, ?_⟩
          · obtain ⟨f0, f1, f2, f3, f4, f5, f6, f7, f8, f9⟩ := HF.out _ HC; go_simp <;> rfl
          simp only [Act.put, List.setIfInBounds_toArray, List.set_cons_succ, List.set_cons_zero]
          refine dw_val rfl rfl rfl ?_; apply Exists.intro; refine ⟨fun wv HC => ?_, ?_⟩
          · obtain ⟨f0, f1, f2, f3, f4, f5, f6, f7, f8, f9⟩ := HF.out _ HC; go_simp <;> rfl
          simp only [Act.put, List.setIfInBounds_toArray, List.set_cons_succ, List.set_cons_zero]
          refine dw_val rfl rfl rfl ?_; apply Exists.intro; refine ⟨fun wv HC => ?_, ?_⟩
          · obtain ⟨f0, f1, f2, f3, f4, f5, f6, f7, f8, f9⟩ := HF.out _ HC; go_simp <;> rfl
          simp only [Act.put, List.setIfInBounds_toArray, List.set_cons_succ, List.set_cons_zero]
          refine dw_val rfl rfl rfl ?_; apply Exists.intro; refine ⟨fun wv HC => ?_, ?_⟩
          · obtain ⟨f0, f1, f2, f3, f4, f5, f6, f7, f8, f9⟩ := HF.out _ HC; go_simp <;> rfl
          simp only [Act.put, List.setIfInBounds_toArray, List.set_cons_succ, List.set_cons_zero]
          refine dw_val rfl rfl rfl ?_; apply Exists.intro; refine ⟨fun wv HC => ?_, ?_⟩
          · obtain ⟨f0, f1, f2, f3, f4, f5, f6, f7, f8, f9⟩ := HF.out _ HC; go_simp <;> rfl
          simp only [Act.put, List.setIfInBounds_toArray, List.set_cons_succ, List.set_cons_zero]
          refine dw_val rfl rfl rfl ?_; apply Exists.intro; refine ⟨fun wv HC => ?_, ?_⟩
          · obtain ⟨f0, f1, f2, f3, f4, f5, f6, f7, f8, f9⟩ := HF.out _ HC; go_simp <;> rfl
          simp only [Act.put, List.setIfInBounds_toArray, List.set_cons_succ, List.set_cons_zero]
          refine dw_val rfl rfl rfl ?_; apply Exists.intro; refine ⟨fun wv HC => ?_, ?_⟩
          · obtain ⟨f0, f1, f2, f3, f4, f5, f6, f7, f8, f9⟩ := HF.out _ HC; go_simp <;> rfl
          simp only [Act.put, List.setIfInBounds_toArray, List.set_cons_succ, List.set_cons_zero]
          refine dw_val rfl rfl rfl ?_; apply Exists.intro; refine ⟨fun wv HC => ?_, ?_⟩
          · obtain ⟨f0, f1, f2, f3, f4, f5, f6, f7, f8, f9⟩ := HF.out _ HC; go_simp <;> rfl
          simp only [Act.put, List.setIfInBounds_toArray, List.set_cons_succ, List.set_cons_zero]
          refine dw_val rfl rfl rfl ?_; apply Exists.intro; refine ⟨fun wv HC => ?_, ?_⟩
          · obtain ⟨f0, f1, f2, f3, f4, f5, f6, f7, f8, f9⟩ := HF.out _ HC; go_simp <;> rfl
          simp only [Act.put, List.setIfInBounds_toArray, List.set_cons_succ, List.set_cons_zero]
          refine dw_val rfl rfl rfl ?_; apply Exists.intro; refine ⟨fun wv HC => ?_, ?_⟩
          · obtain ⟨f0, f1, f2, f3, f4, f5, f6, f7, f8, f9⟩ := HF.out _ HC; go_simp <;> rfl
          simp only [Act.put, List.setIfInBounds_toArray, List.set_cons_succ, List.set_cons_zero]
          refine dw_val rfl rfl rfl ?_; apply Exists.intro; refine ⟨fun wv HC => ?_, ?_⟩
          · obtain ⟨f0, f1, f2, f3, f4, f5, f6, f7, f8, f9⟩ := HF.out _ HC; go_simp <;> rfl
          simp only [Act.put, List.setIfInBounds_toArray, List.set_cons_succ, List.set_cons_zero]
          refine dw_val rfl rfl rfl ?_; apply Exists.intro; refine ⟨fun wv HC => ?_, ?_⟩
          · obtain ⟨f0, f1, f2, f3, f4, f5, f6, f7, f8, f9⟩ := HF.out _ HC; go_simp <;> rfl
          simp only [Act.put, List.setIfInBounds_toArray, List.set_cons_succ, List.set_cons_zero]
          refine dw_val rfl rfl rfl ?_; apply Exists.intro; refine ⟨fun wv HC => ?_, ?_⟩
          · obtain ⟨f0, f1, f2, f3, f4, f5, f6, f7, f8, f9⟩ := HF.out _ HC; go_simp <;> rfl
          simp only [Act.put, List.setIfInBounds_toArray, List.set_cons_succ, List.set_cons_zero]
          refine rel_nil ?_
          rintro wx2 HX2
          rintro _hrm _HG
          rw [HKE.out] at HX2
          clear _hrm _HG
          go_wp2_with fail
          go_roundw
          case rel => exact ⟨j + 1, by omega, by go_num, HS2, HX2.drop (List.sublist_cons_self _ _)⟩
          case measure => simp [intOf]; omega
      · have hd2 : decide ((κ : Int) < (x.n : Int)) = false := by simp; omega
        have HS2 := hid (show lookR κ (l.map Rw.row) key = lookR κ ((l.map Rw.row).drop (j + 1)) key by rw [HS.out]; exact lookR_short HX.out (by rw [HVL.out]; omega))
        have K2 := H.alloc_cst #[.int .i64 x.id, .slice x.A x.n x.c] 61
        obtain ⟨gb, hgb2⟩ : ∃ gb, gb = wr.heap.size := ⟨_, rfl⟩
        obtain ⟨KL, hKL⟩ : ∃ KL : List Hp, KL = [Hp.cst wr.heap.size 61 #[.int .i64 x.id, .slice x.A x.n x.c], .cst (w.heap.size + 1) 66 #[.int .i64 key.k, .int .i64 key.i, .string key.s], .cst w.heap.size 40 #[.string nm, .slice A n c, .int .i64 nx, .slice (some ⟨g, o, none⟩) m d], .ro (SlR 4 A n (colCells cs)), .ro (RwsIn (some ⟨g, o, none⟩) m l)] := ⟨_, rfl⟩
        rw [← hKL] at K2
        rw [← hgb2] at hKL
        have HF : Hid (∀ wv, Hold M none w wv KL → wv.cell? ⟨gb, 1, none⟩ = some (.slice x.A x.n x.c) ∧ gb < wv.heap.size ∧ wv.cell? ⟨w.heap.size + 1, 0, none⟩ = some (.int .i64 key.k) ∧ wv.cell? ⟨w.heap.size + 1, 1, none⟩ = some (.int .i64 key.i) ∧ wv.cell? ⟨w.heap.size + 1, 2, none⟩ = some (.string key.s) ∧ w.heap.size + 1 < wv.heap.size) := hid fun wv HC => by
          rw [hKL] at HC
          have b0 := HC.cst_ 0 rfl
          have b1 := HC.cst_ 1 rfl
          exact ⟨cell_of_row _ _ 1 _ _ _ b0, Blk.lt b0, cell_of_row _ _ 0 _ _ _ b1, cell_of_row _ _ 1 _ _ _ b1, cell_of_row _ _ 2 _ _ _ b1, Blk.lt b1⟩
        go_wp2_with fail
        rw [← hgb2]
        have HGB := hid hgb2
        have HKE := hid hKL
        clear hgb2 hKL
        generalize wr.alloc (.cells #[.int .i64 x.id, .slice x.A x.n x.c] 61) = w2 at *
        refine wp_region_any (by kernel_rfl) ?_
        refine wpAny_hold 17 40 (KL) (spL []) (by kernel_rfl) (by kernel_rfl) (by kernel_rfl) rfl ?_ (K2.drew) ?_
        · exact stays_nil _
        simp only [List.take_succ_cons, List.take_zero, List.drop_succ_cons, List.drop_zero, Act.put, List.getElem_toArray, List.getElem_cons_zero, List.getElem_cons_succ, List.setIfInBounds_toArray, List.set_cons_succ, List.set_cons_zero]
        refine dw_val rfl rfl rfl ?_; apply Exists.intro; refine ⟨fun wv HC => ?_, ?_⟩
        · obtain ⟨f0, f1, f2, f3, f4, f5⟩ := HF.out _ HC; go_simp <;> rfl
        simp only [Act.put, List.setIfInBounds_toArray, List.set_cons_succ, List.set_cons_zero]
        refine dw_val rfl rfl rfl ?_; apply Exists.intro; refine ⟨fun wv HC => ?_, ?_⟩
        · obtain ⟨f0, f1, f2, f3, f4, f5⟩ := HF.out _ HC; go_simp <;> rfl
        simp only [Act.put, List.setIfInBounds_toArray, List.set_cons_succ, List.set_cons_zero]
        refine dw_val rfl rfl rfl ?_; apply Exists.intro; refine ⟨fun wv HC => ?_, ?_⟩
        · obtain ⟨f0, f1, f2, f3, f4, f5⟩ := HF.out _ HC; go_simp <;> rfl
        simp only [Act.put, List.setIfInBounds_toArray, List.set_cons_succ, List.set_cons_zero]
        refine dw_val rfl rfl rfl ?_; apply Exists.intro; refine ⟨fun wv HC => ?_, ?_⟩
        · obtain ⟨f0, f1, f2, f3, f4, f5⟩ := HF.out _ HC; go_simp <;> rfl
        simp only [Act.put, List.setIfInBounds_toArray, List.set_cons_succ, List.set_cons_zero]
        refine dw_val rfl rfl rfl ?_; apply Exists.intro; refine ⟨fun wv HC => ?_, ?_⟩
        · obtain ⟨f0, f1, f2, f3, f4, f5⟩ := HF.out _ HC; go_simp <;> rfl
        simp only [Act.put, List.setIfInBounds_toArray, List.set_cons_succ, List.set_cons_zero]
        refine dw_val rfl rfl rfl ?_; apply Exists.intro; refine ⟨fun wv HC => ?_, ?_⟩
        · obtain ⟨f0, f1, f2, f3, f4, f5⟩ := HF.out _ HC; go_simp <;> rfl
        simp only [Act.put, List.setIfInBounds_toArray, List.set_cons_succ, List.set_cons_zero]
        refine dw_val rfl rfl rfl ?_; apply Exists.intro; refine ⟨fun wv HC => ?_, ?_⟩
        · obtain ⟨f0, f1, f2, f3, f4, f5⟩ := HF.out _ HC; go_simp <;> rfl
        simp only [Act.put, List.setIfInBounds_toArray, List.set_cons_succ, List.set_cons_zero]
        refine dw_val rfl rfl rfl ?_; apply Exists.intro; refine ⟨fun wv HC => ?_, ?_⟩
        · obtain ⟨f0, f1, f2, f3, f4, f5⟩ := HF.out _ HC; go_simp <;> rfl
        simp only [Act.put, List.setIfInBounds_toArray, List.set_cons_succ, List.set_cons_zero]
        refine dw_val rfl rfl rfl ?_; apply Exists.intro; refine ⟨fun wv HC => ?_, ?_⟩
        · obtain ⟨f0, f1, f2, f3, f4, f5⟩ := HF.out _ HC; go_simp <;> rfl
        simp only [Act.put, List.setIfInBounds_toArray, List.set_cons_succ, List.set_cons_zero]
        refine dw_val rfl rfl rfl ?_; apply Exists.intro; refine ⟨fun wv HC => ?_, ?_⟩
        · obtain ⟨f0, f1, f2, f3, f4, f5⟩ := HF.out _ HC; go_simp <;> rfl
        simp only [Act.put, List.setIfInBounds_toArray, List.set_cons_succ, List.set_cons_zero]
        refine dw_skip rfl rfl rfl ?_
        simp only [Act.put, List.setIfInBounds_toArray, List.set_cons_succ, List.set_cons_zero]
        refine dw_skip rfl rfl rfl ?_
        simp only [Act.put, List.setIfInBounds_toArray, List.set_cons_succ, List.set_cons_zero]
        refine dw_skip rfl rfl rfl ?_
        simp only [Act.put, List.setIfInBounds_toArray, List.set_cons_succ, List.set_cons_zero]
        refine dw_skip rfl rfl rfl ?_
        simp only [Act.put, List.setIfInBounds_toArray, List.set_cons_succ, List.set_cons_zero]
        refine dw_skip rfl rfl rfl ?_
        simp only [Act.put, List.setIfInBounds_toArray, List.set_cons_succ, List.set_cons_zero]
        refine dw_skip rfl rfl rfl ?_
        simp only [Act.put, List.setIfInBounds_toArray, List.set_cons_succ, List.set_cons_zero]
        refine dw_skip rfl rfl rfl ?_
        simp only [Act.put, List.setIfInBounds_toArray, List.set_cons_succ, List.set_cons_zero]
        refine rel_nil ?_
        rintro wx2 HX2
        rintro _hrm _HG
        rw [HKE.out] at HX2
        clear _hrm _HG
        go_wp2_with fail
        go_roundw
        case rel => exact ⟨j + 1, by omega, by go_num, HS2, HX2.drop (List.sublist_cons_self _ _)⟩
        case measure => simp [intOf]; omega
    · obtain rfl : j = m := by omega
      have hdd : decide ((j : Int) < (j : Int)) = false := by simp
      have HN := hid (show lookR kk (l.map Rw.row) key = none by rw [HS.out, List.drop_of_length_le (by rw [List.length_map, HL.out]; exact Nat.le_refl _)]; rfl)
      go_wp2_with fail
      go_ret2
      exact ⟨by rw [HKK.out, HN.out] <;> rfl, H.below⟩
end Go.Proofs.YtljmclbedpceoaaDoor

namespace Go.Proofs.YtljmclbedpceoaaDoor
open Go.RowKit Go.Maps
set_option linter.unusedVariables false

/-- Keys of one type, said by plain data. -/
structure KeyFam (P : Program) (k : TypeId) (κ : Type) where
  val : κ → Value
  ok : κ → Prop
  key : ∀ x, ok x → ∃ kl, keyOf P k (val x) = some kl
  inj : ∀ x y, val x = val y → x = y
/-- The map's type: key, element, its laws. -/
structure SetT (P : Program) (t k e : TypeId) : Prop where
  ht : P.underlying t = some (.map k e)
  he : P.underlying e = some .bool
  hz : ∀ w : World, (zeroValue e).run P w = .ok (.bool false) w
  law : Keyed P k
/-- Block b is a map that says true at the keys of S, and at no other. -/
def MSet {P : Program} {k : TypeId} {κ : Type} (e : TypeId) (F : KeyFam P k κ) (b n : Nat) (S : κ → Prop) (w : World) : Prop :=
  ∃ D : DataW Unit, w.ownsMap P k (plainElem P e) b n D ∧ ∀ x, F.ok x → ∀ kl, keyOf P k (F.val x) = some kl → ∃ c : Bool, D.atKey kl (.lit (.bool false)) = .lit (.bool c) ∧ (c = true ↔ S x)
section
variable {P : Program} {t k e : TypeId} {κ : Type} {F : KeyFam P k κ} {b n : Nat} {S : κ → Prop} {w w' : World}
theorem MSet.stay (h : MSet e F b n S w) (hb : w'.heap[b]? = w.heap[b]?) : MSet e F b n S w' := by
  obtain ⟨D, ⟨es, clock, h1, h2⟩, h3⟩ := h
  exact ⟨D, ⟨es, clock, hb.trans h1, h2⟩, h3⟩
theorem MSet.made (e : TypeId) (F : KeyFam P k κ) (w : World) (h : w.heap[b]? = some (.map #[] 0)) : MSet e F b 0 (fun _ => False) w := by
  have h0 := World.ownsMap_made w P k (plainElem (H := Unit) P e)
  obtain ⟨es, clock, h1, h2⟩ := h0
  have h3 : (w.alloc (.map #[] 0)).heap[w.heap.size]? = some (.map #[] 0) := heap_alloc_new w _
  rw [h3] at h1
  injection h1 with h1
  injection h1 with h4 h5
  subst h4 h5
  refine ⟨.map [], ⟨#[], 0, h, h2⟩, fun x _ kl _ => ⟨false, rfl, by simp⟩⟩
theorem plainElem_bool_inv {H : Type} (he : P.underlying e = some .bool) {v : Value} {z : DataW H × List MemPlace} (h : plainElem P e v = some z) : ∃ c, v = .bool c ∧ z = (.lit (.bool c), []) := by
  unfold plainElem at h
  rw [he] at h
  cases v <;> simp at h
  subst h
  exact ⟨_, rfl, rfl⟩
/-- m[x] -/
theorem MSet.look (T : SetT P t k e) (h : MSet e F b n S w) {x : κ} (hx : F.ok x) : ∃ c : Bool, (Instr.lookup t (.map (some b)) (F.val x) false).run P w = .ok (.bool c) w ∧ (c = true ↔ S x) := by
  obtain ⟨D, h1, h2⟩ := h
  obtain ⟨kl, hk⟩ := F.key x hx
  obtain ⟨c, h3, h4⟩ := h2 x hx kl hk
  obtain ⟨v, ps, hrun, hv⟩ := h1.lookup T.law T.ht (T.hz w) (plainElem_bool T.he false) hk
  obtain ⟨c', rfl, h5⟩ := plainElem_bool_inv T.he hv
  rw [h3] at h5
  injection h5 with h5
  injection h5 with h5
  injection h5 with h5
  subst h5
  exact ⟨c, hrun, h4⟩
/-- m[x] = true -/
theorem MSet.put (T : SetT P t k e) (h : MSet e F b n S w) {x : κ} (hx : F.ok x) (hn : n < maxLen) : ∃ w', (Instr.mapUpdate t (.map (some b)) (F.val x) (.bool true)).run P w = .ok () w' ∧ MSet e F b (n + 1) (fun y => y = x ∨ S y) w' ∧ w.grownBy w' (some b) := by
  obtain ⟨D, h1, h2⟩ := h
  obtain ⟨kl, hk⟩ := F.key x hx
  obtain ⟨w', hrun, h3, h4⟩ := h1.update T.law T.ht hn hk (plainElem_bool T.he true)
  refine ⟨w', hrun, ⟨_, h3, fun y hy kl' hk' => ?_⟩, h4⟩
  by_cases hxy : y = x
  · subst hxy
    rw [hk] at hk'
    injection hk' with hk'
    subst hk'
    refine ⟨true, ?_, by simp⟩
    have hD : IsMap D := by
      obtain ⟨es, clock, _, _, _, rfl⟩ := h1
      exact ⟨_, rfl⟩
    rw [atKey_put_same hD (T.law.key hk)]
  · have hne : kl' ≠ kl := fun e => by
      subst e
      exact hxy (F.inj _ _ (T.law.inj hk' hk))
    obtain ⟨c, h5, h6⟩ := h2 y hy kl' hk'
    exact ⟨c, by rw [atKey_put_other hne]; exact h5, by rw [h6]; simp [hxy]⟩
end
section
variable {P : Program} {M : Nat → Prop} {row : Option Nat} {w0 w : World} {L : List Hp} {t k e : TypeId} {κ : Type} {F : KeyFam P k κ} {b n : Nat} {S : κ → Prop}
theorem Hold.mset (K : Hold M row w0 w L) (e : TypeId) (F : KeyFam P k κ) : Hold M row w0 (w.alloc (.map #[] 0)) (.ob w.heap.size (MSet e F w.heap.size 0 (fun _ => False)) :: L) :=
  K.allocOb _ _ fun w' hw' => MSet.made e F w' hw'
/-- m[x] at the operation -/
theorem wpList_look (K : Hold M row w0 w L) (i : Nat) (hi : L[i]? = some (.ob b (MSet e F b n S))) (T : SetT P t k e) {ops : Array Oper} {rest : List Oper} {o : Oper} {a : Act} {Q : Exit → Act → World → Prop}
    (hg : o.guard = none) (m x : Operand) (hop : o.op = Op.lookup t m x false) (hm : a.eval m = .map (some b)) (y : κ) (hx : a.eval x = F.val y) (hy : F.ok y)
    (h : ∀ c : Bool, (c = true ↔ S y) → wpList P ops Q rest (a.put o.dst (.bool c)) w) : wpList P ops Q (o :: rest) a w := by
  refine wpList_plain hg fun K' hK' => ?_
  obtain ⟨c, hrun, hc⟩ := (K.ob_ i hi).look T hy
  unfold Oper.wp
  simp [execOp, hop, hm, hx, hrun, Result.andThen]
  exact hK' _ _ (h c hc)
/-- m[x] = true at the operation -/
theorem wpList_put (K : Hold M row w0 w L) (i : Nat) (hi : L[i]? = some (.ob b (MSet e F b n S))) (T : SetT P t k e) {ops : Array Oper} {rest : List Oper} {o : Oper} {a : Act} {Q : Exit → Act → World → Prop}
    (hg : o.guard = none) (m x v : Operand) (hop : o.op = Op.mapUpdate t m x v) (hm : a.eval m = .map (some b)) (y : κ) (hx : a.eval x = F.val y) (hv : a.eval v = .bool true) (hy : F.ok y) (hn : n < maxLen)
    (h : ∀ w', Hold M row w0 w' (L.set i (.ob b (MSet e F b (n + 1) (fun z => z = y ∨ S z)))) → wpList P ops Q rest (a.put o.dst undef) w') : wpList P ops Q (o :: rest) a w := by
  refine wpList_plain hg fun K' hK' => ?_
  obtain ⟨w', hrun, h1, h2⟩ := (K.ob_ i hi).put T hy hn
  unfold Oper.wp
  simp [execOp, hop, hm, hx, hv, hrun, Result.andThen]
  exact hK' _ _ (h w' (K.turnOb i hi h2 fun w2 hw2 => h1.stay hw2))
end
/-- a key of three fields: two numbers and a text -/
theorem keyOf_iis {P : Program} {k : TypeId} {f0 f1 f2 : Field} (hu : P.underlying k = some (.struct #[f0, f1, f2])) (hk : P.keyType k = true) (hc : P.cellsOf k = 3) (hs : 0 < P.types.size) (n0 : (f0.name != "_") = true) (n1 : (f1.name != "_") = true) (n2 : (f2.name != "_") = true)
    (o0 : f0.offset = 0) (o1 : f1.offset = 1) (o2 : f2.offset = 2) (u0 : P.underlying f0.type = some (.int .i64)) (u1 : P.underlying f1.type = some (.int .i64)) (u2 : P.underlying f2.type = some .string) (c0 : P.cellsOf f0.type = 1) (c1 : P.cellsOf f1.type = 1) (c2 : P.cellsOf f2.type = 1)
    {a b : Int} {s : ByteArray} (wa : (Lit.int .i64 a).wf = true) (wb : (Lit.int .i64 b).wf = true) (hl : s.size ≤ maxLen) : ∃ kl, keyOf P k (.agg #[.int .i64 a, .int .i64 b, .string s]) = some kl := by
  obtain ⟨m, hm⟩ : ∃ m, P.types.size = m + 1 := ⟨P.types.size - 1, by omega⟩
  simp [keyOf, hu, hk, Value.formed, hc, hm, Program.keyLits, Value.cells, n0, n1, n2, o0, o1, o2, u0, u1, u2, c0, c1, c2, wa, wb, hl]
end Go.Proofs.YtljmclbedpceoaaDoor

namespace Go.Proofs.YtljmclbedpceoaaDoor
open Go.RowKit Go.Maps
set_option linter.unusedVariables false
set_option linter.unusedSimpArgs false

theorem Tryd.laidOutV : laidOutB Tryd.prog = true := by kernel_rfl
theorem Tryd.valKeyed : Keyed Tryd.prog 66 := Keyed.of_law (deep_law_laid Tryd.laidOutV (m := 8) (by omega) (of_decide_eq_true (by kernel_rfl)) (by kernel_rfl) (by kernel_rfl))
theorem wf_i64 {x : Int} (h : I64 x) : (Lit.int .i64 x).wf = true := by
  simp [Lit.wf, IntKind.min, IntKind.max, IntKind.signed, IntKind.bits]
  obtain ⟨h1, h2⟩ := h
  omega
theorem keyOf_vl (x : Vl) (h : x.ok) : ∃ kl, keyOf Tryd.prog 66 x.val = some kl :=
  keyOf_iis Tryd.underlying66 (by kernel_rfl) (by kernel_rfl) (of_decide_eq_true (by kernel_rfl)) (by rfl) (by rfl) (by rfl) rfl rfl rfl Tryd.underlying3 Tryd.underlying2 Tryd.underlying9 (by kernel_rfl) (by kernel_rfl) (by kernel_rfl) (wf_i64 h.1) (wf_i64 h.2.1) h.2.2
/-- values as keys -/
def vlFam : KeyFam Tryd.prog 66 Vl where
  val := Vl.val
  ok := Vl.ok
  key := keyOf_vl
  inj := fun x y h => by
    cases x; cases y
    simp [Vl.val] at h
    obtain ⟨rfl, rfl, rfl⟩ := h
    rfl
theorem Tryd.setV : SetT Tryd.prog 131 66 4 := ⟨Tryd.underlying131, Tryd.underlying4, fun w => by kernel_rfl, Tryd.valKeyed⟩
theorem dupF_hit {κ : Nat} {seen : List Vl} {l : List (List Vl)} {j : Nat} {r : List Vl} {v : Vl} (hr : l[j]? = some r) (hv : r[κ]? = some v) (hs : v ∈ seen) : dupF κ seen (l.drop j) = true := by
  rw [drop_cons hr, dupF, if_pos (by omega), Int.toNat_natCast, hv]; simp [hs]
theorem dupF_new {κ : Nat} {seen : List Vl} {l : List (List Vl)} {j : Nat} {r : List Vl} {v : Vl} (hr : l[j]? = some r) (hv : r[κ]? = some v) (hs : v ∉ seen) : dupF κ seen (l.drop j) = dupF κ (v :: seen) (l.drop (j + 1)) := by
  rw [drop_cons hr, dupF, if_pos (by omega), Int.toNat_natCast, hv]; simp [hs]
theorem dupF_skip {κ : Nat} {seen : List Vl} {l : List (List Vl)} {j : Nat} {r : List Vl} (hr : l[j]? = some r) (hv : r.length ≤ κ) : dupF κ seen (l.drop j) = dupF κ seen (l.drop (j + 1)) := by
  rw [drop_cons hr, dupF, if_pos (by omega), Int.toNat_natCast, List.getElem?_eq_none hv]
theorem dupF_end {κ : Int} {seen : List Vl} {l : List (List Vl)} {j : Nat} (h : l.length ≤ j) : dupF κ seen (l.drop j) = false := by rw [List.drop_of_length_le h]; rfl
theorem dupB_eq (cs : List Col) (l : List Rw) : dupB cs (l.map Rw.row) = dupF (findB Col.key cs) [] (l.map Rw.vs) := by
  unfold dupB; rw [List.map_map]; rfl
theorem mem_set (v : Vl) (seen : List Vl) : (fun z => z = v ∨ z ∈ seen) = (fun z => z ∈ v :: seen) := by funext z; simp
set_option maxHeartbeats 4000000 in
set_option maxRecDepth 100000 in
theorem dup_any (M : Nat → Prop) (w : World) (hM : ∀ b, M b → b < w.heap.size) (nm : ByteArray) (A : Option Addr) (n c : Nat) (cs : List Col) (nx : Int) (B : Option Addr) (m d : Nat) (l : List Rw) (hD : Ro w M (SlR 4 A n (colCells cs))) (hE : Ro w M (RwsIn B m l)) (hn : n ≤ 9223372036854775807) (hm : m ≤ 4611686018427387904) (hok : ∀ r ∈ l, r.ok) :
    Calls Tryd.prog 71 #[.agg #[.string nm, .slice A n c, .int .i64 nx, .slice B m d]] w fun e w' => e = .returned (.bool (dupB cs (l.map Rw.row))) ∧ Below w.heap.size w w' := by
  have HL := hid hE.now.len
  have K0 := (((Hold.start M w hM).add (hE.less (by simp [Mut]))).add (hD.less (by simp [Mut, Hp.foot]))).alloc_cst #[.string nm, .slice A n c, .int .i64 nx, .slice B m d] 40
  have F0 := K0.facts
  simp only [World.size_alloc, World.size_drew, factsL, cellsF, Nat.reduceAdd, List.toList_toArray, List.set_cons_zero, List.set_cons_succ, List.setIfInBounds_toArray, and_true, true_and] at F0
  have hmm := @run_makeMap Tryd.prog
  clear hD hE
  go_enter Tryd.func71, Tryd.ntmps71
  go_wp2_with fail
  refine (keycol_any _ _ K0.mutLt nm A n c cs (K0.ro 1 rfl) hn).mono ?_
  rintro e w1 ⟨rfl, b1⟩
  have K1 := K0.call b1
  clear K0 b1 F0
  have F1 := K1.facts
  simp only [World.size_alloc, World.size_drew, factsL, cellsF, Nat.reduceAdd, List.toList_toArray, List.set_cons_zero, List.set_cons_succ, List.setIfInBounds_toArray, and_true, true_and] at F1
  by_cases hneg : findB Col.key cs < 0
  · have hd : decide (findB Col.key cs < 0) = true := by simpa using hneg
    have HB := hid (show dupB cs (l.map Rw.row) = false by rw [dupB_eq]; exact dupF_neg hneg _ _)
    go_wp2_with fail
    go_ret
    exact ⟨by rw [HB.out] <;> rfl, K1.below⟩
  · have hd : decide (findB Col.key cs < 0) = false := by simpa using hneg
    have HB0 := hid (dupB_eq cs l)
    obtain ⟨κ, hκ⟩ := Int.eq_ofNat_of_zero_le (show 0 ≤ findB Col.key cs by omega)
    rw [hκ] at HB0 hd ⊢
    clear hneg hκ
    have KM := Hold.mset K1 4 vlFam
    rw [show (fun _ : Vl => False) = (fun z => z ∈ ([] : List Vl)) by funext z; simp] at KM
    obtain ⟨gm, hgm⟩ : ∃ gm, gm = w1.heap.size := ⟨_, rfl⟩
    rw [← hgm] at KM
    have HGM := hid hgm
    go_wp2_with fail
    rw [← hgm]
    clear hgm K1 F1
    go_loopw [16] (fun iv wr => ∃ (j q : Nat) (seen : List Vl), j ≤ m ∧ iv = .int .i64 j ∧ q ≤ j ∧ Hid (dupF κ [] (l.map Rw.vs) = dupF κ seen ((l.map Rw.vs).drop j)) ∧ Hold M none w wr [.ob gm (MSet 4 vlFam gm q (fun z => z ∈ seen)), .cst w.heap.size 40 #[.string nm, .slice A n c, .int .i64 nx, .slice B m d], .ro (SlR 4 A n (colCells cs)), .ro (RwsIn B m l)]) (fun iv _ => m - (intOf iv).toNat)
    case atStart => exact ⟨0, 0, [], by omega, rfl, by omega, hid rfl, KM⟩
    case round =>
      clear KM
      obtain ⟨j, q, seen, hj, rfl, hq, HS, H⟩ := hrel
      by_cases hlt : j < m
      · have hdd : decide ((j : Int) < (m : Int)) = true := by simp; omega
        have j0 : (0 : Int) ≤ (j : Int) := by omega
        obtain ⟨x, hx⟩ := get_of HL.out hlt
        obtain ⟨g, o, rfl, hgb, c0, c1, hvi⟩ := (H.ro 3 rfl).now.at_ hx
        have hrok := hok x (List.mem_of_getElem? hx)
        have HX := hid (show (l.map Rw.vs)[j]? = some x.vs by simp [hx])
        have HVL := hid (show x.vs.length = x.n from hvi.len)
        have K2 := H.alloc_cst #[.int .i64 x.id, .slice x.A x.n x.c] 61
        clear hx
        have hk0 : decide ((κ : Int) ≥ 0) = true := by simp
        by_cases hkl : κ < x.n
        · have hd2 : decide ((κ : Int) ≥ (x.n : Int)) = false := by simp; omega
          have hd2' : decide ((κ : Int) < (x.n : Int)) = true := by simp; omega
          have k0 : (0 : Int) ≤ (κ : Int) := by omega
          have k1 : (κ : Int) < (x.n : Int) := by omega
          obtain ⟨v, hv⟩ := get_of HVL.out hkl
          obtain ⟨gv, ov, hA, hgv, v0, v1, v2⟩ := hvi.at_ hv
          have hvok := hrok.vs v (List.mem_of_getElem? hv)
          have HV := hid hv; clear hv
          rw [hA] at K2 c1
          by_cases hin : v ∈ seen
          · have HB := hid (show dupB cs (l.map Rw.row) = true by rw [HB0.out, HS.out, dupF_hit HX.out HV.out hin])
            have HIN := hid hin; clear hin
            go_wp2_with (at_lookup; go_must (refine wpList_look K2 1 rfl Tryd.setV rfl (.tmp 25) (.tmp 30) rfl rfl v rfl hvok ?_); intro cb hcb; obtain rfl : cb = true := hcb.2 HIN.out; clear hcb)
            go_ret
            exact ⟨by rw [HB.out] <;> rfl, K2.below⟩
          · have HS2 := hid (show dupF κ [] (l.map Rw.vs) = dupF κ (v :: seen) ((l.map Rw.vs).drop (j + 1)) by rw [HS.out, dupF_new HX.out HV.out hin])
            have HIN := hid hin; clear hin
            go_wp2_with (first
              | (at_lookup; go_must (refine wpList_look K2 1 rfl Tryd.setV rfl (.tmp 25) (.tmp 30) rfl rfl v rfl hvok ?_); intro cb hcb; obtain rfl : cb = false := (by cases cb; rfl; exact absurd (hcb.1 rfl) HIN.out); clear hcb)
              | (at_mapUpdate; go_must (refine wpList_put K2 1 rfl Tryd.setV rfl (.tmp 32) (.tmp 37) _ rfl rfl v rfl rfl hvok (by unfold maxLen; omega) ?_); intro w5 K5))
            have K6 := K5.drop (List.sublist_cons_self _ _)
            rw [mem_set] at K6
            go_roundw
            case rel => exact ⟨j + 1, q + 1, v :: seen, by omega, by go_num, by omega, HS2, K6⟩
            case measure => simp [intOf]; omega
        · have hd2 : decide ((κ : Int) ≥ (x.n : Int)) = true := by simp; omega
          have hd2' : decide ((κ : Int) < (x.n : Int)) = false := by simp; omega
          have HS2 := hid (show dupF κ [] (l.map Rw.vs) = dupF κ seen ((l.map Rw.vs).drop (j + 1)) by rw [HS.out, dupF_skip HX.out (by rw [HVL.out]; omega)])
          go_wp2_with fail
          go_roundw
          case rel => exact ⟨j + 1, q, seen, by omega, by go_num, by omega, HS2, K2.drop (List.sublist_cons_self _ _)⟩
          case measure => simp [intOf]; omega
      · obtain rfl : j = m := by omega
        have hdd : decide ((j : Int) < (j : Int)) = false := by simp
        have HB := hid (show dupB cs (l.map Rw.row) = false by rw [HB0.out, HS.out, dupF_end (by rw [List.length_map, HL.out]; exact Nat.le_refl _)])
        go_wp2_with fail
        go_ret
        exact ⟨by rw [HB.out] <;> rfl, H.below⟩
set_option maxHeartbeats 4000000 in
set_option maxRecDepth 100000 in
theorem rdup_any (M : Nat → Prop) (w : World) (hM : ∀ b, M b → b < w.heap.size) (nm : ByteArray) (A : Option Addr) (n c : Nat) (cs : List Col) (nx : Int) (B : Option Addr) (m d : Nat) (l : List Rw) (hD : Ro w M (SlR 4 A n (colCells cs))) (hE : Ro w M (RwsIn B m l)) (hn : n ≤ 9223372036854775807) (hm : m ≤ 4611686018427387904) (hok : ∀ r ∈ l, r.ok) :
    Calls Tryd.prog 75 #[.agg #[.string nm, .slice A n c, .int .i64 nx, .slice B m d]] w fun e w' => e = .returned (.bool (dupB cs (l.map Rw.row))) ∧ Below w.heap.size w w' := by
  have HL := hid hE.now.len
  have K0 := (((Hold.start M w hM).add (hE.less (by simp [Mut]))).add (hD.less (by simp [Mut, Hp.foot]))).alloc_cst #[.string nm, .slice A n c, .int .i64 nx, .slice B m d] 40
  have F0 := K0.facts
  simp only [World.size_alloc, World.size_drew, factsL, cellsF, Nat.reduceAdd, List.toList_toArray, List.set_cons_zero, List.set_cons_succ, List.setIfInBounds_toArray, and_true, true_and] at F0
  have hmm := @run_makeMap Tryd.prog
  clear hD hE
  go_enter Tryd.func75, Tryd.ntmps75
  go_wp2_with fail
  refine (rkeycol_any _ _ K0.mutLt nm A n c cs (K0.ro 1 rfl) hn).mono ?_
  rintro e w1 ⟨rfl, b1⟩
  have K1 := K0.call b1
  clear K0 b1 F0
  have F1 := K1.facts
  simp only [World.size_alloc, World.size_drew, factsL, cellsF, Nat.reduceAdd, List.toList_toArray, List.set_cons_zero, List.set_cons_succ, List.setIfInBounds_toArray, and_true, true_and] at F1
  by_cases hneg : findB Col.key cs < 0
  · have hd : decide (findB Col.key cs < 0) = true := by simpa using hneg
    have HB := hid (show dupB cs (l.map Rw.row) = false by rw [dupB_eq]; exact dupF_neg hneg _ _)
    have hd0 : decide (findB Col.key cs ≥ 0) = false := by simpa using hneg
    generalize findB Col.key cs = κ at *
    have KM := Hold.mset K1 4 vlFam
    obtain ⟨gm, hgm⟩ : ∃ gm, gm = w1.heap.size := ⟨_, rfl⟩
    rw [← hgm] at KM
    go_wp2_with fail
    rw [← hgm]
    clear hgm K1 F1
    go_loopw [14] (fun iv wr => ∃ (j : Nat), j ≤ m ∧ iv = .int .i64 j ∧ Hold M none w wr [.ob gm (MSet 4 vlFam gm 0 (fun _ => False)), .cst w.heap.size 40 #[.string nm, .slice A n c, .int .i64 nx, .slice B m d], .ro (SlR 4 A n (colCells cs)), .ro (RwsIn B m l)]) (fun iv _ => m - (intOf iv).toNat)
    case atStart => exact ⟨0, by omega, rfl, KM⟩
    case round =>
      clear KM
      obtain ⟨j, hj, rfl, H⟩ := hrel
      by_cases hlt : j < m
      · have hdd : decide ((j : Int) < (m : Int)) = true := by simp; omega
        have j0 : (0 : Int) ≤ (j : Int) := by omega
        obtain ⟨x, hx⟩ := get_of HL.out hlt
        obtain ⟨g, o, rfl, hgb, c0, c1, hvi⟩ := (H.ro 3 rfl).now.at_ hx
        have K2 := H.alloc_cst #[.int .i64 x.id, .slice x.A x.n x.c] 61
        clear hx
        go_wp2_with fail
        go_roundw
        case rel => exact ⟨j + 1, by omega, by go_num, K2.drop (List.sublist_cons_self _ _)⟩
        case measure => simp [intOf]; omega
      · obtain rfl : j = m := by omega
        have hdd : decide ((j : Int) < (j : Int)) = false := by simp
        go_wp2_with fail
        go_ret
        exact ⟨by rw [HB.out] <;> rfl, H.below⟩
  · have hd : decide (findB Col.key cs < 0) = false := by simpa using hneg
    have HB0 := hid (dupB_eq cs l)
    obtain ⟨κ, hκ⟩ := Int.eq_ofNat_of_zero_le (show 0 ≤ findB Col.key cs by omega)
    rw [hκ] at HB0 hd ⊢
    clear hneg hκ
    have KM := Hold.mset K1 4 vlFam
    rw [show (fun _ : Vl => False) = (fun z => z ∈ ([] : List Vl)) by funext z; simp] at KM
    obtain ⟨gm, hgm⟩ : ∃ gm, gm = w1.heap.size := ⟨_, rfl⟩
    rw [← hgm] at KM
    have HGM := hid hgm
    go_wp2_with fail
    rw [← hgm]
    clear hgm K1 F1
    go_loopw [14] (fun iv wr => ∃ (j q : Nat) (seen : List Vl), j ≤ m ∧ iv = .int .i64 j ∧ q ≤ j ∧ Hid (dupF κ [] (l.map Rw.vs) = dupF κ seen ((l.map Rw.vs).drop j)) ∧ Hold M none w wr [.ob gm (MSet 4 vlFam gm q (fun z => z ∈ seen)), .cst w.heap.size 40 #[.string nm, .slice A n c, .int .i64 nx, .slice B m d], .ro (SlR 4 A n (colCells cs)), .ro (RwsIn B m l)]) (fun iv _ => m - (intOf iv).toNat)
    case atStart => exact ⟨0, 0, [], by omega, rfl, by omega, hid rfl, KM⟩
    case round =>
      clear KM
      obtain ⟨j, q, seen, hj, rfl, hq, HS, H⟩ := hrel
      by_cases hlt : j < m
      · have hdd : decide ((j : Int) < (m : Int)) = true := by simp; omega
        have j0 : (0 : Int) ≤ (j : Int) := by omega
        obtain ⟨x, hx⟩ := get_of HL.out hlt
        obtain ⟨g, o, rfl, hgb, c0, c1, hvi⟩ := (H.ro 3 rfl).now.at_ hx
        have hrok := hok x (List.mem_of_getElem? hx)
        have HX := hid (show (l.map Rw.vs)[j]? = some x.vs by simp [hx])
        have HVL := hid (show x.vs.length = x.n from hvi.len)
        have K2 := H.alloc_cst #[.int .i64 x.id, .slice x.A x.n x.c] 61
        clear hx
        have hk0 : decide ((κ : Int) ≥ 0) = true := by simp
        by_cases hkl : κ < x.n
        · have hd2 : decide ((κ : Int) ≥ (x.n : Int)) = false := by simp; omega
          have hd2' : decide ((κ : Int) < (x.n : Int)) = true := by simp; omega
          have k0 : (0 : Int) ≤ (κ : Int) := by omega
          have k1 : (κ : Int) < (x.n : Int) := by omega
          obtain ⟨v, hv⟩ := get_of HVL.out hkl
          obtain ⟨gv, ov, hA, hgv, v0, v1, v2⟩ := hvi.at_ hv
          have hvok := hrok.vs v (List.mem_of_getElem? hv)
          have HV := hid hv; clear hv
          rw [hA] at K2 c1
          by_cases hin : v ∈ seen
          · have HB := hid (show dupB cs (l.map Rw.row) = true by rw [HB0.out, HS.out, dupF_hit HX.out HV.out hin])
            have HIN := hid hin; clear hin
            go_wp2_with (at_lookup; go_must (refine wpList_look K2 1 rfl Tryd.setV rfl (.tmp 27) (.tmp 32) rfl rfl v rfl hvok ?_); intro cb hcb; obtain rfl : cb = true := hcb.2 HIN.out; clear hcb)
            go_ret
            exact ⟨by rw [HB.out] <;> rfl, K2.below⟩
          · have HS2 := hid (show dupF κ [] (l.map Rw.vs) = dupF κ (v :: seen) ((l.map Rw.vs).drop (j + 1)) by rw [HS.out, dupF_new HX.out HV.out hin])
            have HIN := hid hin; clear hin
            go_wp2_with (first
              | (at_lookup; go_must (refine wpList_look K2 1 rfl Tryd.setV rfl (.tmp 27) (.tmp 32) rfl rfl v rfl hvok ?_); intro cb hcb; obtain rfl : cb = false := (by cases cb; rfl; exact absurd (hcb.1 rfl) HIN.out); clear hcb)
              | (at_mapUpdate; go_must (refine wpList_put K2 1 rfl Tryd.setV rfl (.tmp 34) (.tmp 39) _ rfl rfl v rfl rfl hvok (by unfold maxLen; omega) ?_); intro w5 K5))
            have K6 := K5.drop (List.sublist_cons_self _ _)
            rw [mem_set] at K6
            go_roundw
            case rel => exact ⟨j + 1, q + 1, v :: seen, by omega, by go_num, by omega, HS2, K6⟩
            case measure => simp [intOf]; omega
        · have hd2 : decide ((κ : Int) ≥ (x.n : Int)) = true := by simp; omega
          have hd2' : decide ((κ : Int) < (x.n : Int)) = false := by simp; omega
          have HS2 := hid (show dupF κ [] (l.map Rw.vs) = dupF κ seen ((l.map Rw.vs).drop (j + 1)) by rw [HS.out, dupF_skip HX.out (by rw [HVL.out]; omega)])
          go_wp2_with fail
          go_roundw
          case rel => exact ⟨j + 1, q, seen, by omega, by go_num, by omega, HS2, K2.drop (List.sublist_cons_self _ _)⟩
          case measure => simp [intOf]; omega
      · obtain rfl : j = m := by omega
        have hdd : decide ((j : Int) < (j : Int)) = false := by simp
        have HB := hid (show dupB cs (l.map Rw.row) = false by rw [HB0.out, HS.out, dupF_end (by rw [List.length_map, HL.out]; exact Nat.le_refl _)])
        go_wp2_with fail
        go_ret
        exact ⟨by rw [HB.out] <;> rfl, H.below⟩
end Go.Proofs.YtljmclbedpceoaaDoor

namespace Go.Proofs.YtljmclbedpceoaaDoor
open Go.RowKit
set_option linter.unusedVariables false
set_option linter.unusedSimpArgs false

set_option maxHeartbeats 4000000 in
theorem rvalidname_any (s : ByteArray) (w : World) (hs : s.size ≤ maxLen) :
    Calls Tryd.prog 126 #[.string s] w fun e w' => e = .returned (.bool (nameB s)) ∧ w = w' := by
  unfold maxLen at hs
  by_cases h1 : s.size < 1
  · have HN := hid (nameB_len0 h1)
    go_enter Tryd.func126, Tryd.ntmps126
    go_wp2
    go_ret
    exact ⟨by rw [HN.out] <;> rfl, rfl⟩
  by_cases h2 : 12 < s.size
  · have HN := hid (nameB_long h2)
    go_enter Tryd.func126, Tryd.ntmps126
    go_wp2
    go_ret
    exact ⟨by rw [HN.out] <;> rfl, rfl⟩
  have p0 : 0 < s.size := by omega
  have p1 : 1 ≤ s.size := by omega
  have p2 : s.size ≤ 12 := by omega
  have hf := hid (first_at s p0)
  have hlt : s[0].toNat < 256 := s[0].toNat_lt
  by_cases h3 : s[0].toNat < 97 ∨ 122 < s[0].toNat
  · have HN := hid (nameB_first hf.out (by simp [letterN]; omega))
    rcases h3 with h3 | h3
    · go_enter Tryd.func126, Tryd.ntmps126
      go_wp2
      go_ret
      exact ⟨by rw [HN.out] <;> rfl, rfl⟩
    · have h97 : 97 ≤ s[0].toNat := by omega
      have d1 : decide ((s[0].toNat : Int) ≤ 122) = false := by simp; omega
      have d0 : decide ((97 : Int) ≤ (s[0].toNat : Int)) = true := by simp; omega
      go_enter Tryd.func126, Tryd.ntmps126
      go_wp2
      go_ret
      exact ⟨by rw [HN.out] <;> rfl, rfl⟩
  have h97 : 97 ≤ s[0].toNat := by omega
  have h122 : s[0].toNat ≤ 122 := by omega
  have hl := hid (show letterN s[0].toNat = true by simp [letterN]; omega)
  clear h3
  have d1 : decide ((s[0].toNat : Int) ≤ 122) = true := by simp; omega
  have d0 : decide ((97 : Int) ≤ (s[0].toNat : Int)) = true := by simp; omega
  go_enter Tryd.func126, Tryd.ntmps126
  go_wp2
  go_loop [3] (fun i => ∃ k : Nat, k ≤ s.size ∧ i = .int .i64 k ∧ (s.data.toList.take k).all (fun c => nameN c.toNat) = true) (fun i => s.size - (intOf i).toNat)
  case atStart => exact ⟨0, by omega, rfl, rfl⟩
  case round =>
    obtain ⟨k, hk, rfl, hall⟩ := hrel
    have HA := hid hall; clear hall
    by_cases hlt : k < s.size
    · have HK := hid (byte_at s hlt)
      have hx : s[k].toNat < 256 := s[k].toNat_lt
      by_cases hcls : (97 ≤ s[k].toNat ∧ s[k].toNat ≤ 122) ∨ (48 ≤ s[k].toNat ∧ s[k].toNat ≤ 57) ∨ s[k].toNat = 95
      · have HN : Hid (nameN s[k].toNat = true) := by
          unfold Hid
          rcases hcls with ⟨a, b⟩ | ⟨a, b⟩ | a
          · exact nameN_letter a b
          · exact nameN_digit a b
          · rw [a]; rfl
        rcases hcls with ⟨a, b⟩ | ⟨a, b⟩ | a
        · have e0 : decide ((97 : Int) ≤ (s[k].toNat : Int)) = true := by simp; omega
          have e1 : decide ((s[k].toNat : Int) ≤ 122) = true := by simp; omega
          go_wp2
          go_round
          case rel => exact ⟨k + 1, by omega, by go_num, all_snoc HK.out HA.out HN.out⟩
          case measure => simp [intOf]; omega
        · have c1 : s[k].toNat < 97 := by omega
          have e0 : decide ((97 : Int) ≤ (s[k].toNat : Int)) = false := by simp; omega
          have e2 : decide ((48 : Int) ≤ (s[k].toNat : Int)) = true := by simp; omega
          have e3 : decide ((s[k].toNat : Int) ≤ 57) = true := by simp; omega
          go_wp2
          go_round
          case rel => exact ⟨k + 1, by omega, by go_num, all_snoc HK.out HA.out HN.out⟩
          case measure => simp [intOf]; omega
        · have c1 : s[k].toNat < 97 := by omega
          have c2 : 57 < s[k].toNat := by omega
          have c3 : ((s[k].toNat : Int) != 95) = false := by rw [bne_eq_false_iff_eq]; omega
          have e0 : decide ((97 : Int) ≤ (s[k].toNat : Int)) = false := by simp; omega
          have e2 : decide ((48 : Int) ≤ (s[k].toNat : Int)) = true := by simp; omega
          have e3 : decide ((s[k].toNat : Int) ≤ 57) = false := by simp; omega
          clear a
          go_wp2
          go_round
          case rel => exact ⟨k + 1, by omega, by go_num, all_snoc HK.out HA.out HN.out⟩
          case measure => simp [intOf]; omega
      · have HN : Hid (nameB s = false) := nameB_bad HK.out (nameN_false (by omega) (by omega) (by omega))
        have c3 : ((s[k].toNat : Int) != 95) = true := by rw [bne_iff_ne]; omega
        have hx : s[k].toNat < 48 ∨ (57 < s[k].toNat ∧ s[k].toNat < 97) ∨ 122 < s[k].toNat := by omega
        clear hcls
        rcases hx with h | ⟨h, h'⟩ | h
        · have e0 : decide ((97 : Int) ≤ (s[k].toNat : Int)) = false := by simp; omega
          have e2 : decide ((48 : Int) ≤ (s[k].toNat : Int)) = false := by simp; omega
          go_wp2
          go_ret
          exact ⟨by rw [HN.out] <;> rfl, rfl⟩
        · have e0 : decide ((97 : Int) ≤ (s[k].toNat : Int)) = false := by simp; omega
          have e2 : decide ((48 : Int) ≤ (s[k].toNat : Int)) = true := by simp; omega
          have e3 : decide ((s[k].toNat : Int) ≤ 57) = false := by simp; omega
          go_wp2
          go_ret
          exact ⟨by rw [HN.out] <;> rfl, rfl⟩
        · have e0 : decide ((97 : Int) ≤ (s[k].toNat : Int)) = true := by simp; omega
          have e1 : decide ((s[k].toNat : Int) ≤ 122) = false := by simp; omega
          have e2 : decide ((48 : Int) ≤ (s[k].toNat : Int)) = true := by simp; omega
          have e3 : decide ((s[k].toNat : Int) ≤ 57) = false := by simp; omega
          go_wp2
          go_ret
          exact ⟨by rw [HN.out] <;> rfl, rfl⟩
    · obtain rfl : k = s.size := by omega
      have HN := hid (nameB_ok p1 p2 hf.out hl.out (all_end HA.out))
      go_wp2
      go_ret
      exact ⟨by rw [HN.out] <;> rfl, rfl⟩
end Go.Proofs.YtljmclbedpceoaaDoor

namespace Go.Proofs.YtljmclbedpceoaaDoor
open Go.RowKit
set_option linter.unusedVariables false
set_option linter.unusedSimpArgs false

def colOk (l : List Col) (k : Nat) (c : Col) : Bool := nameB c.name && (findB (named c.name) l == (k : Int)) && decide (1 ≤ c.ty) && decide (c.ty ≤ 3) && (!c.key || c.nn)
def schemaB (nm : ByteArray) (l : List Col) : Bool := nameB nm && decide (1 ≤ l.length) && decide (l.length ≤ 6) && okFrom (colOk l) 0 l && decide ((l.filter Col.key).length ≤ 1)
theorem named_self (c : Col) : named c.name c = true := by simp [named]
theorem schemaB_bad {nm : ByteArray} {l : List Col} (h : okFrom (colOk l) 0 l = false) : schemaB nm l = false := by simp [schemaB, h]
theorem schemaB_end {nm : ByteArray} {l : List Col} {n : Nat} (hv : nameB nm = true) (hl : l.length = n) (h1 : 1 ≤ n) (h2 : n ≤ 6) (h : okFrom (colOk l) 0 l = true) : schemaB nm l = decide (((l.filter Col.key).length : Int) ≤ 1) := by
  simp [schemaB, hv, hl, h1, h2, h]; omega
theorem keys_end {l : List Col} {n : Nat} (hl : l.length = n) : ((l.take n).filter Col.key).length = (l.filter Col.key).length := by rw [List.take_of_length_le (by omega)]
theorem keys_le (l : List Col) (k : Nat) : ((l.take k).filter Col.key).length ≤ k := Nat.le_trans (List.length_filter_le _ _) (List.length_take_le _ _)

set_option maxHeartbeats 8000000 in
theorem svalid_any (M : Nat → Prop) (w : World) (hM : ∀ b, M b → b < w.heap.size) (nm : ByteArray) (A : Option Addr) (n c : Nat) (l : List Col) (hD : Ro w M (SlR 4 A n (colCells l))) (hn : n ≤ 9223372036854775807) (hs : nm.size ≤ maxLen) (hok : ∀ x ∈ l, x.name.size ≤ maxLen) :
    Calls Tryd.prog 76 #[.agg #[.string nm, .slice A n c]] w fun e w' => e = .returned (.bool (schemaB nm l)) ∧ Below w.heap.size w w' := by
  have HL := hid (RdC.of_sl hD.now).len
  have K0 := ((Hold.start M w hM).add (hD.less (by simp [Mut]))).alloc_cst #[.string nm, .slice A n c] 37
  cases hv : nameB nm
  · have HN : Hid (schemaB nm l = false) := by unfold Hid; simp [schemaB, hv]
    have HV := hid hv; clear hv
    go_enter Tryd.func76, Tryd.ntmps76
    go_wp2_with fail
    refine (validname_any nm _ hs).mono ?_
    rintro e w1 ⟨rfl, b1⟩
    have K1 := Hold.call (K0) b1
    clear b1
    try simp only [World.size_alloc] at K1
    have F1 := K1.facts
    simp only [World.size_alloc, World.size_drew, factsL, cellsF, Nat.reduceAdd, List.toList_toArray, List.set_cons_zero, List.set_cons_succ, List.setIfInBounds_toArray, and_true, true_and] at F1
    rw [HV.out]
    go_wp2_with fail
    go_ret
    exact ⟨by rw [HN.out] <;> rfl, K1.below⟩
  have HV := hid hv; clear hv
  by_cases h1 : n < 1
  · have HN : Hid (schemaB nm l = false) := by unfold Hid; have := HL.out; simp [schemaB]; intros; omega
    go_enter Tryd.func76, Tryd.ntmps76
    go_wp2_with fail
    refine (validname_any nm _ hs).mono ?_
    rintro e w1 ⟨rfl, b1⟩
    have K1 := Hold.call (K0) b1
    clear b1
    try simp only [World.size_alloc] at K1
    have F1 := K1.facts
    simp only [World.size_alloc, World.size_drew, factsL, cellsF, Nat.reduceAdd, List.toList_toArray, List.set_cons_zero, List.set_cons_succ, List.setIfInBounds_toArray, and_true, true_and] at F1
    rw [HV.out]
    go_wp2_with fail
    go_ret
    exact ⟨by rw [HN.out] <;> rfl, K1.below⟩
  by_cases h6 : 6 < n
  · have HN : Hid (schemaB nm l = false) := by unfold Hid; have := HL.out; simp [schemaB]; intros; omega
    go_enter Tryd.func76, Tryd.ntmps76
    go_wp2_with fail
    refine (validname_any nm _ hs).mono ?_
    rintro e w1 ⟨rfl, b1⟩
    have K1 := Hold.call (K0) b1
    clear b1
    try simp only [World.size_alloc] at K1
    have F1 := K1.facts
    simp only [World.size_alloc, World.size_drew, factsL, cellsF, Nat.reduceAdd, List.toList_toArray, List.set_cons_zero, List.set_cons_succ, List.setIfInBounds_toArray, and_true, true_and] at F1
    rw [HV.out]
    go_wp2_with fail
    go_ret
    exact ⟨by rw [HN.out] <;> rfl, K1.below⟩
  have n1 : 1 ≤ n := by omega
  have n6 : n ≤ 6 := by omega
  go_enter Tryd.func76, Tryd.ntmps76
  go_wp2_with fail
  refine (validname_any nm _ hs).mono ?_
  rintro e w1 ⟨rfl, b1⟩
  have K1 := Hold.call (K0) b1
  clear b1
  try simp only [World.size_alloc] at K1
  have F1 := K1.facts
  simp only [World.size_alloc, World.size_drew, factsL, cellsF, Nat.reduceAdd, List.toList_toArray, List.set_cons_zero, List.set_cons_succ, List.setIfInBounds_toArray, and_true, true_and] at F1
  rw [HV.out]
  go_wp2_with fail
  go_loopw [3, 25] (fun q i wr => ∃ k : Nat, k ≤ n ∧ i = .int .i64 k ∧ q = .int .i64 ((l.take k).filter Col.key).length ∧ okFrom (colOk l) 0 l = okFrom (colOk l) k (l.drop k) ∧ Hold M none w wr [.cst w.heap.size 37 #[.string nm, .slice A n c], .ro (SlR 4 A n (colCells l))]) (fun _ i _ => n - (intOf i).toNat)
  case atStart => exact ⟨0, by omega, rfl, rfl, rfl, K1⟩
  case round =>
    obtain ⟨k, hk, rfl, rfl, hf, H⟩ := hrel
    have HF := hid hf; clear hf F1
    by_cases hlt : k < n
    · obtain ⟨x, hc⟩ := get_col HL.out hlt
      have hx : x.name.size ≤ maxLen := hok x (List.mem_of_getElem? hc)
      have hfl := find_le (named_self x) hc
      have HQ := hid (filter_snoc Col.key hc)
      have hql := keys_le l k
      have hql1 := keys_le l (k + 1)
      obtain ⟨b, o, rfl, hb, c0, c1, c2, c3⟩ := (RdC.of_sl (H.ro 1 rfl).now).at_ hc
      have HOk : Hid (colOk l k x = (nameB x.name && (findB (named x.name) l == (k : Int)) && decide (1 ≤ x.ty) && decide (x.ty ≤ 3) && (!x.key || x.nn))) := rfl
      have HBad : Hid (colOk l k x = false → schemaB nm l = false) := fun h => schemaB_bad (ok_bad HF.out hc h)
      have HGood : Hid (colOk l k x = true → okFrom (colOk l) 0 l = okFrom (colOk l) (k + 1) (l.drop (k + 1))) := fun h => ok_good HF.out hc h
      obtain ⟨nx, ty, nn, key⟩ := x
      simp only at c0 c1 c2 c3 hx hfl
      have HX := hid (find_any M)
      obtain ⟨f, hfe⟩ : ∃ f, f = findB (named nx) l := ⟨_, rfl⟩
      rw [← hfe] at hfl
      have HFE := hid hfe; clear hfe
      obtain ⟨q, hqe⟩ : ∃ q, q = ((l.take k).filter Col.key).length := ⟨_, rfl⟩
      rw [← hqe] at hql
      have HQE := hid hqe
      rw [← hqe]
      clear hqe hc
      simp only at HOk HQ
      rw [← HFE.out] at HOk
      cases hvx : nameB nx
      · have HC : Hid (colOk l k ⟨nx, ty, nn, key⟩ = false) := by unfold Hid; rw [HOk.out, hvx]; rfl
        have HVX := hid hvx; clear hvx
        have KB := H.alloc_cst #[.string nx, .int .i64 ty, .bool nn, .bool key] 70
        go_wp2_with fail
        refine (validname_any nx _ hx).mono ?_
        rintro e w2 ⟨rfl, b2⟩
        have K2 := Hold.call (KB) b2
        clear b2
        try simp only [World.size_alloc] at K2
        have F2 := K2.facts
        simp only [World.size_alloc, World.size_drew, factsL, cellsF, Nat.reduceAdd, List.toList_toArray, List.set_cons_zero, List.set_cons_succ, List.setIfInBounds_toArray, and_true, true_and] at F2
        rw [HVX.out]
        go_wp2_with fail
        go_ret
        exact ⟨by rw [HBad.out HC.out] <;> rfl, K2.below⟩
      have HVX := hid hvx; clear hvx
      by_cases hfk : f < k
      · have HC : Hid (colOk l k ⟨nx, ty, nn, key⟩ = false) := by unfold Hid; rw [HOk.out, show (f == (k : Int)) = false from by rw [beq_eq_false_iff_ne]; omega]; simp
        have KB := H.alloc_cst #[.string nx, .int .i64 ty, .bool nn, .bool key] 70
        go_wp2_with fail
        refine (validname_any nx _ hx).mono ?_
        rintro e w2 ⟨rfl, b2⟩
        have K2 := Hold.call (KB) b2
        clear b2
        try simp only [World.size_alloc] at K2
        have F2 := K2.facts
        simp only [World.size_alloc, World.size_drew, factsL, cellsF, Nat.reduceAdd, List.toList_toArray, List.set_cons_zero, List.set_cons_succ, List.setIfInBounds_toArray, and_true, true_and] at F2
        rw [HVX.out]
        go_wp2_with fail
        refine (find_any (Mut M _) _ K2.mutLt nm _ n c l nx (K2.ro 2 rfl) hn).mono ?_
        rintro e w3 ⟨rfl, b3⟩
        have K3 := Hold.call K2 b3
        clear b3
        rw [← HFE.out]
        have F3 := K3.facts
        simp only [World.size_alloc, World.size_drew, factsL, cellsF, Nat.reduceAdd, List.toList_toArray, List.set_cons_zero, List.set_cons_succ, List.setIfInBounds_toArray, and_true, true_and] at F3
        go_wp2_with fail
        go_ret
        exact ⟨by rw [HBad.out HC.out] <;> rfl, K3.below⟩
      have hfe : f = k := by omega
      have HFK := hid hfe; clear hfe
      by_cases hlo : ty < 1
      · have HC : Hid (colOk l k ⟨nx, ty, nn, key⟩ = false) := by unfold Hid; rw [HOk.out, show decide (1 ≤ ty) = false from by simp; omega]; simp
        have KB := H.alloc_cst #[.string nx, .int .i64 ty, .bool nn, .bool key] 70
        go_wp2_with fail
        refine (validname_any nx _ hx).mono ?_
        rintro e w2 ⟨rfl, b2⟩
        have K2 := Hold.call (KB) b2
        clear b2
        try simp only [World.size_alloc] at K2
        have F2 := K2.facts
        simp only [World.size_alloc, World.size_drew, factsL, cellsF, Nat.reduceAdd, List.toList_toArray, List.set_cons_zero, List.set_cons_succ, List.setIfInBounds_toArray, and_true, true_and] at F2
        rw [HVX.out]
        go_wp2_with fail
        refine (find_any (Mut M _) _ K2.mutLt nm _ n c l nx (K2.ro 2 rfl) hn).mono ?_
        rintro e w3 ⟨rfl, b3⟩
        have K3 := Hold.call K2 b3
        clear b3
        rw [← HFE.out]
        have F3 := K3.facts
        simp only [World.size_alloc, World.size_drew, factsL, cellsF, Nat.reduceAdd, List.toList_toArray, List.set_cons_zero, List.set_cons_succ, List.setIfInBounds_toArray, and_true, true_and] at F3
        go_wp2_with fail
        go_ret
        exact ⟨by rw [HBad.out HC.out] <;> rfl, K3.below⟩
      have hlo1 : 1 ≤ ty := by omega
      by_cases hhi : 3 < ty
      · have HC : Hid (colOk l k ⟨nx, ty, nn, key⟩ = false) := by unfold Hid; rw [HOk.out, show decide (ty ≤ 3) = false from by simp; omega]; simp
        have KB := H.alloc_cst #[.string nx, .int .i64 ty, .bool nn, .bool key] 70
        go_wp2_with fail
        refine (validname_any nx _ hx).mono ?_
        rintro e w2 ⟨rfl, b2⟩
        have K2 := Hold.call (KB) b2
        clear b2
        try simp only [World.size_alloc] at K2
        have F2 := K2.facts
        simp only [World.size_alloc, World.size_drew, factsL, cellsF, Nat.reduceAdd, List.toList_toArray, List.set_cons_zero, List.set_cons_succ, List.setIfInBounds_toArray, and_true, true_and] at F2
        rw [HVX.out]
        go_wp2_with fail
        refine (find_any (Mut M _) _ K2.mutLt nm _ n c l nx (K2.ro 2 rfl) hn).mono ?_
        rintro e w3 ⟨rfl, b3⟩
        have K3 := Hold.call K2 b3
        clear b3
        rw [← HFE.out]
        have F3 := K3.facts
        simp only [World.size_alloc, World.size_drew, factsL, cellsF, Nat.reduceAdd, List.toList_toArray, List.set_cons_zero, List.set_cons_succ, List.setIfInBounds_toArray, and_true, true_and] at F3
        go_wp2_with fail
        go_ret
        exact ⟨by rw [HBad.out HC.out] <;> rfl, K3.below⟩
      have hhi3 : ty ≤ 3 := by omega
      by_cases hkn : key = false ∨ nn = true
      rotate_left
      · obtain ⟨rfl, rfl⟩ : key = true ∧ nn = false := by cases key <;> cases nn <;> simp at hkn ⊢
        have HC : Hid (colOk l k ⟨nx, ty, false, true⟩ = false) := by unfold Hid; rw [HOk.out]; simp
        clear hkn
        have KB := H.alloc_cst #[.string nx, .int .i64 ty, .bool false, .bool true] 70
        go_wp2_with fail
        refine (validname_any nx _ hx).mono ?_
        rintro e w2 ⟨rfl, b2⟩
        have K2 := Hold.call (KB) b2
        clear b2
        try simp only [World.size_alloc] at K2
        have F2 := K2.facts
        simp only [World.size_alloc, World.size_drew, factsL, cellsF, Nat.reduceAdd, List.toList_toArray, List.set_cons_zero, List.set_cons_succ, List.setIfInBounds_toArray, and_true, true_and] at F2
        rw [HVX.out]
        go_wp2_with fail
        refine (find_any (Mut M _) _ K2.mutLt nm _ n c l nx (K2.ro 2 rfl) hn).mono ?_
        rintro e w3 ⟨rfl, b3⟩
        have K3 := Hold.call K2 b3
        clear b3
        rw [← HFE.out]
        have F3 := K3.facts
        simp only [World.size_alloc, World.size_drew, factsL, cellsF, Nat.reduceAdd, List.toList_toArray, List.set_cons_zero, List.set_cons_succ, List.setIfInBounds_toArray, and_true, true_and] at F3
        go_wp2_with fail
        go_ret
        exact ⟨by rw [HBad.out HC.out] <;> rfl, K3.below⟩
      have HC : Hid (colOk l k ⟨nx, ty, nn, key⟩ = true) := by unfold Hid; rw [HOk.out, HVX.out, HFK.out, show decide (1 ≤ ty) = true from by simp; omega, show decide (ty ≤ 3) = true from by simp; omega]; rcases hkn with rfl | rfl <;> simp
      rcases hkn with rfl | rfl
      · have HQ0 : Hid (((l.take (k + 1)).filter Col.key).length = q) := by unfold Hid; rw [HQ.out, HQE.out]; rfl
        have KB := H.alloc_cst #[.string nx, .int .i64 ty, .bool nn, .bool false] 70
        go_wp2_with fail
        refine (validname_any nx _ hx).mono ?_
        rintro e w2 ⟨rfl, b2⟩
        have K2 := Hold.call (KB) b2
        clear b2
        try simp only [World.size_alloc] at K2
        have F2 := K2.facts
        simp only [World.size_alloc, World.size_drew, factsL, cellsF, Nat.reduceAdd, List.toList_toArray, List.set_cons_zero, List.set_cons_succ, List.setIfInBounds_toArray, and_true, true_and] at F2
        rw [HVX.out]
        go_wp2_with fail
        refine (find_any (Mut M _) _ K2.mutLt nm _ n c l nx (K2.ro 2 rfl) hn).mono ?_
        rintro e w3 ⟨rfl, b3⟩
        have K3 := Hold.call K2 b3
        clear b3
        rw [← HFE.out]
        have F3 := K3.facts
        simp only [World.size_alloc, World.size_drew, factsL, cellsF, Nat.reduceAdd, List.toList_toArray, List.set_cons_zero, List.set_cons_succ, List.setIfInBounds_toArray, and_true, true_and] at F3
        go_wp2_with fail
        go_roundw
        case rel => exact ⟨k + 1, by omega, by go_num, by rw [HQ0.out], HGood.out HC.out, K3.drop (List.sublist_cons_self _ _)⟩
        case measure => simp [intOf]; omega
      · cases key
        · have HQ0 : Hid (((l.take (k + 1)).filter Col.key).length = q) := by unfold Hid; rw [HQ.out, HQE.out]; rfl
          have KB := H.alloc_cst #[.string nx, .int .i64 ty, .bool true, .bool false] 70
          go_wp2_with fail
          refine (validname_any nx _ hx).mono ?_
          rintro e w2 ⟨rfl, b2⟩
          have K2 := Hold.call (KB) b2
          clear b2
          try simp only [World.size_alloc] at K2
          have F2 := K2.facts
          simp only [World.size_alloc, World.size_drew, factsL, cellsF, Nat.reduceAdd, List.toList_toArray, List.set_cons_zero, List.set_cons_succ, List.setIfInBounds_toArray, and_true, true_and] at F2
          rw [HVX.out]
          go_wp2_with fail
          refine (find_any (Mut M _) _ K2.mutLt nm _ n c l nx (K2.ro 2 rfl) hn).mono ?_
          rintro e w3 ⟨rfl, b3⟩
          have K3 := Hold.call K2 b3
          clear b3
          rw [← HFE.out]
          have F3 := K3.facts
          simp only [World.size_alloc, World.size_drew, factsL, cellsF, Nat.reduceAdd, List.toList_toArray, List.set_cons_zero, List.set_cons_succ, List.setIfInBounds_toArray, and_true, true_and] at F3
          go_wp2_with fail
          go_roundw
          case rel => exact ⟨k + 1, by omega, by go_num, by rw [HQ0.out], HGood.out HC.out, K3.drop (List.sublist_cons_self _ _)⟩
          case measure => simp [intOf]; omega
        · have HQ0 : Hid (((l.take (k + 1)).filter Col.key).length = q + 1) := by unfold Hid; rw [HQ.out, HQE.out]; rfl
          have KB := H.alloc_cst #[.string nx, .int .i64 ty, .bool true, .bool true] 70
          go_wp2_with fail
          refine (validname_any nx _ hx).mono ?_
          rintro e w2 ⟨rfl, b2⟩
          have K2 := Hold.call (KB) b2
          clear b2
          try simp only [World.size_alloc] at K2
          have F2 := K2.facts
          simp only [World.size_alloc, World.size_drew, factsL, cellsF, Nat.reduceAdd, List.toList_toArray, List.set_cons_zero, List.set_cons_succ, List.setIfInBounds_toArray, and_true, true_and] at F2
          rw [HVX.out]
          go_wp2_with fail
          refine (find_any (Mut M _) _ K2.mutLt nm _ n c l nx (K2.ro 2 rfl) hn).mono ?_
          rintro e w3 ⟨rfl, b3⟩
          have K3 := Hold.call K2 b3
          clear b3
          rw [← HFE.out]
          have F3 := K3.facts
          simp only [World.size_alloc, World.size_drew, factsL, cellsF, Nat.reduceAdd, List.toList_toArray, List.set_cons_zero, List.set_cons_succ, List.setIfInBounds_toArray, and_true, true_and] at F3
          go_wp2_with fail
          go_roundw
          case rel => exact ⟨k + 1, by omega, by go_num, by rw [HQ0.out]; go_num, HGood.out HC.out, K3.drop (List.sublist_cons_self _ _)⟩
          case measure => simp [intOf]; omega
    · obtain rfl : k = n := by omega
      have HN := hid (schemaB_end HV.out HL.out n1 n6 (ok_end HF.out (by rw [HL.out]; omega)))
      have HK := hid (keys_end HL.out)
      have hql := keys_le l k
      obtain ⟨q, hqe⟩ : ∃ q, q = ((l.take k).filter Col.key).length := ⟨_, rfl⟩
      rw [← hqe] at hql HK
      rw [← hqe]
      clear hqe
      go_wp2_with fail
      go_ret
      exact ⟨by rw [HN.out, ← HK.out] <;> rfl, H.below⟩

theorem rvalidname_b (s : ByteArray) (w : World) (hs : s.size ≤ maxLen) : Calls Tryd.prog 126 #[.string s] w fun e w' => e = .returned (.bool (nameB s)) ∧ Below w.heap.size w w' :=
  (rvalidname_any s w hs).mono fun e w' ⟨h1, h2⟩ => ⟨h1, by subst h2; exact Below.refl _ _⟩

set_option maxHeartbeats 8000000 in
theorem rsvalid_any (M : Nat → Prop) (w : World) (hM : ∀ b, M b → b < w.heap.size) (nm : ByteArray) (A : Option Addr) (n c : Nat) (l : List Col) (hD : Ro w M (SlR 4 A n (colCells l))) (hn : n ≤ 9223372036854775807) (hs : nm.size ≤ maxLen) (hok : ∀ x ∈ l, x.name.size ≤ maxLen) :
    Calls Tryd.prog 99 #[.agg #[.string nm, .slice A n c]] w fun e w' => e = .returned (.bool (schemaB nm l)) ∧ Below w.heap.size w w' := by
  have HL := hid (RdC.of_sl hD.now).len
  have K0 := ((Hold.start M w hM).add (hD.less (by simp [Mut]))).alloc_cst #[.string nm, .slice A n c] 37
  cases hv : nameB nm
  · have HN : Hid (schemaB nm l = false) := by unfold Hid; simp [schemaB, hv]
    have HV := hid hv; clear hv
    go_enter Tryd.func99, Tryd.ntmps99
    go_wp2_with fail
    refine (rvalidname_b nm _ hs).mono ?_
    rintro e w1 ⟨rfl, b1⟩
    have K1 := Hold.call (K0) b1
    clear b1
    try simp only [World.size_alloc] at K1
    have F1 := K1.facts
    simp only [World.size_alloc, World.size_drew, factsL, cellsF, Nat.reduceAdd, List.toList_toArray, List.set_cons_zero, List.set_cons_succ, List.setIfInBounds_toArray, and_true, true_and] at F1
    rw [HV.out]
    go_wp2_with fail
    go_ret
    exact ⟨by rw [HN.out] <;> rfl, K1.below⟩
  have HV := hid hv; clear hv
  by_cases h1 : n < 1
  · have HN : Hid (schemaB nm l = false) := by unfold Hid; have := HL.out; simp [schemaB]; intros; omega
    go_enter Tryd.func99, Tryd.ntmps99
    go_wp2_with fail
    refine (rvalidname_b nm _ hs).mono ?_
    rintro e w1 ⟨rfl, b1⟩
    have K1 := Hold.call (K0) b1
    clear b1
    try simp only [World.size_alloc] at K1
    have F1 := K1.facts
    simp only [World.size_alloc, World.size_drew, factsL, cellsF, Nat.reduceAdd, List.toList_toArray, List.set_cons_zero, List.set_cons_succ, List.setIfInBounds_toArray, and_true, true_and] at F1
    rw [HV.out]
    go_wp2_with fail
    go_ret
    exact ⟨by rw [HN.out] <;> rfl, K1.below⟩
  by_cases h6 : 6 < n
  · have HN : Hid (schemaB nm l = false) := by unfold Hid; have := HL.out; simp [schemaB]; intros; omega
    go_enter Tryd.func99, Tryd.ntmps99
    go_wp2_with fail
    refine (rvalidname_b nm _ hs).mono ?_
    rintro e w1 ⟨rfl, b1⟩
    have K1 := Hold.call (K0) b1
    clear b1
    try simp only [World.size_alloc] at K1
    have F1 := K1.facts
    simp only [World.size_alloc, World.size_drew, factsL, cellsF, Nat.reduceAdd, List.toList_toArray, List.set_cons_zero, List.set_cons_succ, List.setIfInBounds_toArray, and_true, true_and] at F1
    rw [HV.out]
    go_wp2_with fail
    go_ret
    exact ⟨by rw [HN.out] <;> rfl, K1.below⟩
  have n1 : 1 ≤ n := by omega
  have n6 : n ≤ 6 := by omega
  go_enter Tryd.func99, Tryd.ntmps99
  go_wp2_with fail
  refine (rvalidname_b nm _ hs).mono ?_
  rintro e w1 ⟨rfl, b1⟩
  have K1 := Hold.call (K0) b1
  clear b1
  try simp only [World.size_alloc] at K1
  have F1 := K1.facts
  simp only [World.size_alloc, World.size_drew, factsL, cellsF, Nat.reduceAdd, List.toList_toArray, List.set_cons_zero, List.set_cons_succ, List.setIfInBounds_toArray, and_true, true_and] at F1
  rw [HV.out]
  go_wp2_with fail
  go_loopw [3, 25] (fun q i wr => ∃ k : Nat, k ≤ n ∧ i = .int .i64 k ∧ q = .int .i64 ((l.take k).filter Col.key).length ∧ okFrom (colOk l) 0 l = okFrom (colOk l) k (l.drop k) ∧ Hold M none w wr [.cst w.heap.size 37 #[.string nm, .slice A n c], .ro (SlR 4 A n (colCells l))]) (fun _ i _ => n - (intOf i).toNat)
  case atStart => exact ⟨0, by omega, rfl, rfl, rfl, K1⟩
  case round =>
    obtain ⟨k, hk, rfl, rfl, hf, H⟩ := hrel
    have HF := hid hf; clear hf F1
    by_cases hlt : k < n
    · obtain ⟨x, hc⟩ := get_col HL.out hlt
      have hx : x.name.size ≤ maxLen := hok x (List.mem_of_getElem? hc)
      have hfl := find_le (named_self x) hc
      have HQ := hid (filter_snoc Col.key hc)
      have hql := keys_le l k
      have hql1 := keys_le l (k + 1)
      obtain ⟨b, o, rfl, hb, c0, c1, c2, c3⟩ := (RdC.of_sl (H.ro 1 rfl).now).at_ hc
      have HOk : Hid (colOk l k x = (nameB x.name && (findB (named x.name) l == (k : Int)) && decide (1 ≤ x.ty) && decide (x.ty ≤ 3) && (!x.key || x.nn))) := rfl
      have HBad : Hid (colOk l k x = false → schemaB nm l = false) := fun h => schemaB_bad (ok_bad HF.out hc h)
      have HGood : Hid (colOk l k x = true → okFrom (colOk l) 0 l = okFrom (colOk l) (k + 1) (l.drop (k + 1))) := fun h => ok_good HF.out hc h
      obtain ⟨nx, ty, nn, key⟩ := x
      simp only at c0 c1 c2 c3 hx hfl
      have HX := hid (find_any M)
      obtain ⟨f, hfe⟩ : ∃ f, f = findB (named nx) l := ⟨_, rfl⟩
      rw [← hfe] at hfl
      have HFE := hid hfe; clear hfe
      obtain ⟨q, hqe⟩ : ∃ q, q = ((l.take k).filter Col.key).length := ⟨_, rfl⟩
      rw [← hqe] at hql
      have HQE := hid hqe
      rw [← hqe]
      clear hqe hc
      simp only at HOk HQ
      rw [← HFE.out] at HOk
      cases hvx : nameB nx
      · have HC : Hid (colOk l k ⟨nx, ty, nn, key⟩ = false) := by unfold Hid; rw [HOk.out, hvx]; rfl
        have HVX := hid hvx; clear hvx
        have KB := H.alloc_cst #[.string nx, .int .i64 ty, .bool nn, .bool key] 70
        go_wp2_with fail
        refine (rvalidname_b nx _ hx).mono ?_
        rintro e w2 ⟨rfl, b2⟩
        have K2 := Hold.call (KB) b2
        clear b2
        try simp only [World.size_alloc] at K2
        have F2 := K2.facts
        simp only [World.size_alloc, World.size_drew, factsL, cellsF, Nat.reduceAdd, List.toList_toArray, List.set_cons_zero, List.set_cons_succ, List.setIfInBounds_toArray, and_true, true_and] at F2
        rw [HVX.out]
        go_wp2_with fail
        go_ret
        exact ⟨by rw [HBad.out HC.out] <;> rfl, K2.below⟩
      have HVX := hid hvx; clear hvx
      by_cases hlo : ty < 1
      · have HC : Hid (colOk l k ⟨nx, ty, nn, key⟩ = false) := by unfold Hid; rw [HOk.out, show decide (1 ≤ ty) = false from by simp; omega]; simp
        have KB := H.alloc_cst #[.string nx, .int .i64 ty, .bool nn, .bool key] 70
        go_wp2_with fail
        refine (rvalidname_b nx _ hx).mono ?_
        rintro e w2 ⟨rfl, b2⟩
        have K2 := Hold.call (KB) b2
        clear b2
        try simp only [World.size_alloc] at K2
        have F2 := K2.facts
        simp only [World.size_alloc, World.size_drew, factsL, cellsF, Nat.reduceAdd, List.toList_toArray, List.set_cons_zero, List.set_cons_succ, List.setIfInBounds_toArray, and_true, true_and] at F2
        rw [HVX.out]
        go_wp2_with fail
        go_ret
        exact ⟨by rw [HBad.out HC.out] <;> rfl, K2.below⟩
      have hlo1 : 1 ≤ ty := by omega
      by_cases hhi : 3 < ty
      · have HC : Hid (colOk l k ⟨nx, ty, nn, key⟩ = false) := by unfold Hid; rw [HOk.out, show decide (ty ≤ 3) = false from by simp; omega]; simp
        have KB := H.alloc_cst #[.string nx, .int .i64 ty, .bool nn, .bool key] 70
        go_wp2_with fail
        refine (rvalidname_b nx _ hx).mono ?_
        rintro e w2 ⟨rfl, b2⟩
        have K2 := Hold.call (KB) b2
        clear b2
        try simp only [World.size_alloc] at K2
        have F2 := K2.facts
        simp only [World.size_alloc, World.size_drew, factsL, cellsF, Nat.reduceAdd, List.toList_toArray, List.set_cons_zero, List.set_cons_succ, List.setIfInBounds_toArray, and_true, true_and] at F2
        rw [HVX.out]
        go_wp2_with fail
        go_ret
        exact ⟨by rw [HBad.out HC.out] <;> rfl, K2.below⟩
      have hhi3 : ty ≤ 3 := by omega
      by_cases hkn : key = false ∨ nn = true
      rotate_left
      · obtain ⟨rfl, rfl⟩ : key = true ∧ nn = false := by cases key <;> cases nn <;> simp at hkn ⊢
        have HC : Hid (colOk l k ⟨nx, ty, false, true⟩ = false) := by unfold Hid; rw [HOk.out]; simp
        clear hkn
        have KB := H.alloc_cst #[.string nx, .int .i64 ty, .bool false, .bool true] 70
        go_wp2_with fail
        refine (rvalidname_b nx _ hx).mono ?_
        rintro e w2 ⟨rfl, b2⟩
        have K2 := Hold.call (KB) b2
        clear b2
        try simp only [World.size_alloc] at K2
        have F2 := K2.facts
        simp only [World.size_alloc, World.size_drew, factsL, cellsF, Nat.reduceAdd, List.toList_toArray, List.set_cons_zero, List.set_cons_succ, List.setIfInBounds_toArray, and_true, true_and] at F2
        rw [HVX.out]
        go_wp2_with fail
        go_ret
        exact ⟨by rw [HBad.out HC.out] <;> rfl, K2.below⟩
      by_cases hfk : f < k
      · have HC : Hid (colOk l k ⟨nx, ty, nn, key⟩ = false) := by unfold Hid; rw [HOk.out, show (f == (k : Int)) = false from by rw [beq_eq_false_iff_ne]; omega]; simp
        have hne : (f != (k : Int)) = true := by rw [bne_iff_ne]; omega
        rcases hkn with rfl | rfl
        · have KB := H.alloc_cst #[.string nx, .int .i64 ty, .bool nn, .bool false] 70
          go_wp2_with fail
          refine (rvalidname_b nx _ hx).mono ?_
          rintro e w2 ⟨rfl, b2⟩
          have K2 := Hold.call (KB) b2
          clear b2
          try simp only [World.size_alloc] at K2
          have F2 := K2.facts
          simp only [World.size_alloc, World.size_drew, factsL, cellsF, Nat.reduceAdd, List.toList_toArray, List.set_cons_zero, List.set_cons_succ, List.setIfInBounds_toArray, and_true, true_and] at F2
          rw [HVX.out]
          go_wp2_with fail
          refine (rfind_any (Mut M _) _ K2.mutLt nm _ n c l nx (K2.ro 2 rfl) hn).mono ?_
          rintro e w3 ⟨rfl, b3⟩
          have K3 := Hold.call K2 b3
          clear b3
          rw [← HFE.out]
          have F3 := K3.facts
          simp only [World.size_alloc, World.size_drew, factsL, cellsF, Nat.reduceAdd, List.toList_toArray, List.set_cons_zero, List.set_cons_succ, List.setIfInBounds_toArray, and_true, true_and] at F3
          go_wp2_with fail
          go_ret
          exact ⟨by rw [HBad.out HC.out] <;> rfl, K3.below⟩
        · cases key
          · have KB := H.alloc_cst #[.string nx, .int .i64 ty, .bool true, .bool false] 70
            go_wp2_with fail
            refine (rvalidname_b nx _ hx).mono ?_
            rintro e w2 ⟨rfl, b2⟩
            have K2 := Hold.call (KB) b2
            clear b2
            try simp only [World.size_alloc] at K2
            have F2 := K2.facts
            simp only [World.size_alloc, World.size_drew, factsL, cellsF, Nat.reduceAdd, List.toList_toArray, List.set_cons_zero, List.set_cons_succ, List.setIfInBounds_toArray, and_true, true_and] at F2
            rw [HVX.out]
            go_wp2_with fail
            refine (rfind_any (Mut M _) _ K2.mutLt nm _ n c l nx (K2.ro 2 rfl) hn).mono ?_
            rintro e w3 ⟨rfl, b3⟩
            have K3 := Hold.call K2 b3
            clear b3
            rw [← HFE.out]
            have F3 := K3.facts
            simp only [World.size_alloc, World.size_drew, factsL, cellsF, Nat.reduceAdd, List.toList_toArray, List.set_cons_zero, List.set_cons_succ, List.setIfInBounds_toArray, and_true, true_and] at F3
            go_wp2_with fail
            go_ret
            exact ⟨by rw [HBad.out HC.out] <;> rfl, K3.below⟩
          · have KB := H.alloc_cst #[.string nx, .int .i64 ty, .bool true, .bool true] 70
            go_wp2_with fail
            refine (rvalidname_b nx _ hx).mono ?_
            rintro e w2 ⟨rfl, b2⟩
            have K2 := Hold.call (KB) b2
            clear b2
            try simp only [World.size_alloc] at K2
            have F2 := K2.facts
            simp only [World.size_alloc, World.size_drew, factsL, cellsF, Nat.reduceAdd, List.toList_toArray, List.set_cons_zero, List.set_cons_succ, List.setIfInBounds_toArray, and_true, true_and] at F2
            rw [HVX.out]
            go_wp2_with fail
            refine (rfind_any (Mut M _) _ K2.mutLt nm _ n c l nx (K2.ro 2 rfl) hn).mono ?_
            rintro e w3 ⟨rfl, b3⟩
            have K3 := Hold.call K2 b3
            clear b3
            rw [← HFE.out]
            have F3 := K3.facts
            simp only [World.size_alloc, World.size_drew, factsL, cellsF, Nat.reduceAdd, List.toList_toArray, List.set_cons_zero, List.set_cons_succ, List.setIfInBounds_toArray, and_true, true_and] at F3
            go_wp2_with fail
            go_ret
            exact ⟨by rw [HBad.out HC.out] <;> rfl, K3.below⟩
      have hfe : f = k := by omega
      have hne : (f != (k : Int)) = false := by rw [bne_eq_false_iff_eq]; omega
      have HFK := hid hfe; clear hfe
      have HC : Hid (colOk l k ⟨nx, ty, nn, key⟩ = true) := by unfold Hid; rw [HOk.out, HVX.out, HFK.out, show decide (1 ≤ ty) = true from by simp; omega, show decide (ty ≤ 3) = true from by simp; omega]; rcases hkn with rfl | rfl <;> simp
      rcases hkn with rfl | rfl
      · have HQ0 : Hid (((l.take (k + 1)).filter Col.key).length = q) := by unfold Hid; rw [HQ.out, HQE.out]; rfl
        have KB := H.alloc_cst #[.string nx, .int .i64 ty, .bool nn, .bool false] 70
        go_wp2_with fail
        refine (rvalidname_b nx _ hx).mono ?_
        rintro e w2 ⟨rfl, b2⟩
        have K2 := Hold.call (KB) b2
        clear b2
        try simp only [World.size_alloc] at K2
        have F2 := K2.facts
        simp only [World.size_alloc, World.size_drew, factsL, cellsF, Nat.reduceAdd, List.toList_toArray, List.set_cons_zero, List.set_cons_succ, List.setIfInBounds_toArray, and_true, true_and] at F2
        rw [HVX.out]
        go_wp2_with fail
        refine (rfind_any (Mut M _) _ K2.mutLt nm _ n c l nx (K2.ro 2 rfl) hn).mono ?_
        rintro e w3 ⟨rfl, b3⟩
        have K3 := Hold.call K2 b3
        clear b3
        rw [← HFE.out]
        have F3 := K3.facts
        simp only [World.size_alloc, World.size_drew, factsL, cellsF, Nat.reduceAdd, List.toList_toArray, List.set_cons_zero, List.set_cons_succ, List.setIfInBounds_toArray, and_true, true_and] at F3
        go_wp2_with fail
        go_roundw
        case rel => exact ⟨k + 1, by omega, by go_num, by rw [HQ0.out], HGood.out HC.out, K3.drop (List.sublist_cons_self _ _)⟩
        case measure => simp [intOf]; omega
      · cases key
        · have HQ0 : Hid (((l.take (k + 1)).filter Col.key).length = q) := by unfold Hid; rw [HQ.out, HQE.out]; rfl
          have KB := H.alloc_cst #[.string nx, .int .i64 ty, .bool true, .bool false] 70
          go_wp2_with fail
          refine (rvalidname_b nx _ hx).mono ?_
          rintro e w2 ⟨rfl, b2⟩
          have K2 := Hold.call (KB) b2
          clear b2
          try simp only [World.size_alloc] at K2
          have F2 := K2.facts
          simp only [World.size_alloc, World.size_drew, factsL, cellsF, Nat.reduceAdd, List.toList_toArray, List.set_cons_zero, List.set_cons_succ, List.setIfInBounds_toArray, and_true, true_and] at F2
          rw [HVX.out]
          go_wp2_with fail
          refine (rfind_any (Mut M _) _ K2.mutLt nm _ n c l nx (K2.ro 2 rfl) hn).mono ?_
          rintro e w3 ⟨rfl, b3⟩
          have K3 := Hold.call K2 b3
          clear b3
          rw [← HFE.out]
          have F3 := K3.facts
          simp only [World.size_alloc, World.size_drew, factsL, cellsF, Nat.reduceAdd, List.toList_toArray, List.set_cons_zero, List.set_cons_succ, List.setIfInBounds_toArray, and_true, true_and] at F3
          go_wp2_with fail
          go_roundw
          case rel => exact ⟨k + 1, by omega, by go_num, by rw [HQ0.out], HGood.out HC.out, K3.drop (List.sublist_cons_self _ _)⟩
          case measure => simp [intOf]; omega
        · have HQ0 : Hid (((l.take (k + 1)).filter Col.key).length = q + 1) := by unfold Hid; rw [HQ.out, HQE.out]; rfl
          have KB := H.alloc_cst #[.string nx, .int .i64 ty, .bool true, .bool true] 70
          go_wp2_with fail
          refine (rvalidname_b nx _ hx).mono ?_
          rintro e w2 ⟨rfl, b2⟩
          have K2 := Hold.call (KB) b2
          clear b2
          try simp only [World.size_alloc] at K2
          have F2 := K2.facts
          simp only [World.size_alloc, World.size_drew, factsL, cellsF, Nat.reduceAdd, List.toList_toArray, List.set_cons_zero, List.set_cons_succ, List.setIfInBounds_toArray, and_true, true_and] at F2
          rw [HVX.out]
          go_wp2_with fail
          refine (rfind_any (Mut M _) _ K2.mutLt nm _ n c l nx (K2.ro 2 rfl) hn).mono ?_
          rintro e w3 ⟨rfl, b3⟩
          have K3 := Hold.call K2 b3
          clear b3
          rw [← HFE.out]
          have F3 := K3.facts
          simp only [World.size_alloc, World.size_drew, factsL, cellsF, Nat.reduceAdd, List.toList_toArray, List.set_cons_zero, List.set_cons_succ, List.setIfInBounds_toArray, and_true, true_and] at F3
          go_wp2_with fail
          go_roundw
          case rel => exact ⟨k + 1, by omega, by go_num, by rw [HQ0.out]; go_num, HGood.out HC.out, K3.drop (List.sublist_cons_self _ _)⟩
          case measure => simp [intOf]; omega
    · obtain rfl : k = n := by omega
      have HN := hid (schemaB_end HV.out HL.out n1 n6 (ok_end HF.out (by rw [HL.out]; omega)))
      have HK := hid (keys_end HL.out)
      have hql := keys_le l k
      obtain ⟨q, hqe⟩ : ∃ q, q = ((l.take k).filter Col.key).length := ⟨_, rfl⟩
      rw [← hqe] at hql HK
      rw [← hqe]
      clear hqe
      go_wp2_with fail
      go_ret
      exact ⟨by rw [HN.out, ← HK.out] <;> rfl, H.below⟩
end Go.Proofs.YtljmclbedpceoaaDoor

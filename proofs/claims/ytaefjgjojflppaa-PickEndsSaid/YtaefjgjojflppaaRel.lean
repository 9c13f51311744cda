/- A region that draws its order, whose operations may hand back any of many values and may turn the world within a class: one walk in the order of the text serves every order. No program in sight. -/
import Derived.StillTail
import Derived.Tactics
import Derived.KernelRfl
namespace Go.Proofs.Ytaefjgjojflppaa
open Go
set_option linter.unusedVariables false
set_option linter.unusedSectionVars false
set_option linter.unusedSimpArgs false

def slot (a : Act) : Option Tmp → Value
  | some t => a.tmps.getD t undef
  | none => undef

section
variable (P : Program) (ops : Array Oper) (C : World → Prop) (G : Option Tmp → Value → World → Prop) (R : World → World → Prop)

/-- What an operation waits for lies there. -/
def Deps (o : Oper) (a : Act) (w : World) : Prop := ∀ e ∈ o.after, Region.binds .any e = true → ∀ oe, ops[e.on]? = some oe → G oe.dst (slot a oe.dst) w
def goodUpon (d : Option Tmp) (w : World) : Result Next → Prop
  | .ok (.value u) w' => G d u w' ∧ C w' ∧ R w w'
  | .ok .skip w' => G d undef w' ∧ C w' ∧ R w w'
  | .ok (.enter f args) w' => Calls P f args w' fun e w'' => ∃ u, e = .returned u ∧ G d u w'' ∧ C w'' ∧ R w w''
  | _ => False
def Good (o : Oper) (a : Act) (w : World) : Prop := goodUpon P C G R o.dst w ((execOp a.eval o).run P w)
def mayUpon (u : Value) : Result Next → Prop
  | .ok (.value x) _ => u = x
  | .ok .skip _ => u = undef
  | .ok (.enter _ _) _ => True
  | _ => False
def StepOk (o : Oper) (a : Act) : Prop :=
  if Region.wanted o (yielded ops a.tmps) = true then ∀ w, C w → Deps ops G o a w → Good P C G R o a w else ∀ w, C w → G o.dst undef w
def May (o : Oper) (a : Act) (u : Value) : Prop :=
  if Region.wanted o (yielded ops a.tmps) = true then ∃ w, C w ∧ Deps ops G o a w ∧ mayUpon u ((execOp a.eval o).run P w) else u = undef
/-- Some world has all that is done so far. -/
def Inh (S : Array Bool) (k : Nat) (a : Act) : Prop := ∃ w, C w ∧ ∀ j oj, ops[j]? = some oj → (S.getD j false = true ∨ j < k) → G oj.dst (slot a oj.dst) w
/-- The walk in the order of the text, over what is still to come (S: what has come up). -/
def Wk (S : Array Bool) (F : Act → Prop) : Nat → Nat → Act → Prop
  | 0, k, a => Inh ops C G S k a → F a
  | m + 1, k, a => Inh ops C G S k a → match ops[k]? with
    | none => False
    | some o => if S.getD k false = true then Wk S F m (k + 1) a else StepOk P ops C G R o a ∧ ∀ u, May P ops C G o a u → Inh ops C G S (k + 1) (a.put o.dst u) → Wk S F m (k + 1) (a.put o.dst u)
def Inv (S : Array Bool) (a : Act) (w : World) : Prop := C w ∧ ∀ j oj, ops[j]? = some oj → S.getD j false = true → G oj.dst (slot a oj.dst) w
end

section
variable {P : Program} {ops : Array Oper} {C : World → Prop} {G : Option Tmp → Value → World → Prop} {R : World → World → Prop}

/-- no two operations of the region fill one slot; each slot lies in the frame -/
def dstsB (ops : Array Oper) (n : Nat) : Bool :=
  (List.range ops.size).all fun i => match (ops[i]?).bind (·.dst) with
    | none => true
    | some d => decide (d < n) && (List.range ops.size).all fun j => j == i || (ops[j]?).bind (·.dst) != some d
theorem dstsB_in {n i : Nat} {o : Oper} {d : Tmp} (h : dstsB ops n = true) (hi : ops[i]? = some o) (hd : o.dst = some d) : d < n := by
  have h1 := List.all_eq_true.1 h i (List.mem_range.2 (Array.getElem?_eq_some_iff.1 hi).1)
  simp only [hi, Option.bind_some, hd, Bool.and_eq_true, decide_eq_true_eq] at h1
  exact h1.1
theorem dstsB_ne {n i j : Nat} {o o' : Oper} {d : Tmp} (h : dstsB ops n = true) (hi : ops[i]? = some o) (hj : ops[j]? = some o') (hd : o.dst = some d) (hij : j ≠ i) : o'.dst ≠ some d := by
  have h1 := List.all_eq_true.1 h i (List.mem_range.2 (Array.getElem?_eq_some_iff.1 hi).1)
  simp only [hi, Option.bind_some, hd, Bool.and_eq_true] at h1
  have h2 := List.all_eq_true.1 h1.2 j (List.mem_range.2 (Array.getElem?_eq_some_iff.1 hj).1)
  simp only [hj, Option.bind_some, Bool.or_eq_true, beq_iff_eq, bne_iff_ne, ne_eq] at h2
  exact h2.resolve_left hij

theorem slot_put_ne {a : Act} {x y : Option Tmp} {v : Value} (h : ∀ d, x = some d → y ≠ some d) : slot (a.put x v) y = slot a y := by
  cases x with
  | none => rfl
  | some d =>
    cases y with
    | none => rfl
    | some t =>
      have hne : d ≠ t := fun e => h d rfl (by rw [e])
      simp only [Act.put, slot, Array.getD_eq_getD_getElem?, Array.getElem?_setIfInBounds_ne hne]
theorem slot_put_same {a : Act} {d : Tmp} {v : Value} (h : d < a.tmps.size) : slot (a.put (some d) v) (some d) = v := by
  simp [Act.put, slot, h]
theorem size_put {a : Act} {x : Option Tmp} {v : Value} : (a.put x v).tmps.size = a.tmps.size := by
  cases x <;> simp [Act.put]

/-- o' is apart from o: its coming up makes no difference to o -/
structure Aside (ops : Array Oper) (o o' : Oper) : Prop where
  sel : ∀ cs b, o.op ≠ .select cs b
  look : ∀ d, o'.dst = some d → d ∉ o.looksAt ops
  deps : ∀ e ∈ o.after, Region.binds .any e = true → ∀ oe, ops[e.on]? = some oe → ∀ d, o'.dst = some d → oe.dst ≠ some d

theorem Aside.wanted {o o' : Oper} (h : Aside ops o o') (a : Act) (v : Value) : Region.wanted o (yielded ops (a.put o'.dst v).tmps) = Region.wanted o (yielded ops a.tmps) := wanted_put o a o'.dst v h.look
theorem Aside.exec {o o' : Oper} (h : Aside ops o o') (a : Act) (v : Value) : execOp (a.put o'.dst v).eval o = execOp a.eval o := execOp_put (ops := ops) o h.sel a o'.dst v h.look
theorem Aside.deps_ {o o' : Oper} (h : Aside ops o o') (a : Act) (v : Value) (w : World) : Deps ops G o (a.put o'.dst v) w ↔ Deps ops G o a w := by
  constructor
  · intro k e he hb oe hoe
    have := k e he hb oe hoe
    rwa [slot_put_ne (h.deps e he hb oe hoe)] at this
  · intro k e he hb oe hoe
    rw [slot_put_ne (h.deps e he hb oe hoe)]
    exact k e he hb oe hoe
theorem Aside.step {o o' : Oper} (h : Aside ops o o') (a : Act) (v : Value) : StepOk P ops C G R o (a.put o'.dst v) ↔ StepOk P ops C G R o a := by
  unfold StepOk Good
  rw [h.wanted, h.exec]
  simp only [h.deps_]
theorem Aside.may {o o' : Oper} (h : Aside ops o o') (a : Act) (v u : Value) : May P ops C G o (a.put o'.dst v) u ↔ May P ops C G o a u := by
  unfold May
  rw [h.wanted, h.exec]
  simp only [h.deps_]

variable {n N : Nat} {F : Act → Prop}

/-- What is known of the region by looking. -/
structure Shape (ops : Array Oper) (n N : Nat) : Prop where
  dsts : dstsB ops N = true
  le : n ≤ ops.size
  /-- a head waits for earlier operations alone, and what comes behind it waits for it or is apart from it -/
  back : ∀ k o, ops[k]? = some o → k < n → ∀ e ∈ o.after, Region.binds .any e = true → e.on < k
  aside : ∀ k i ok oi, k < i → i < n → ops[k]? = some ok → ops[i]? = some oi → (∀ e ∈ oi.after, Region.binds .any e = true → e.on ≠ k) → ok.apart ops oi = true
  sel : ∀ (j : Nat) (o : Oper) cs b, ops[j]? = some o → o.op ≠ .select cs b

theorem Shape.aside_of (h : Shape ops n N) {k i : Nat} {ok oi : Oper} (hki : k < i) (hi : i < n) (hk' : ops[k]? = some ok) (hi' : ops[i]? = some oi) (hno : ∀ e ∈ oi.after, Region.binds .any e = true → e.on ≠ k) : Aside ops oi ok ∧ Aside ops ok oi := by
  obtain ⟨h1, h2, h3⟩ := Oper.apart_spec (h.aside k i ok oi hki hi hk' hi' hno)
  refine ⟨⟨fun cs b => h.sel i oi cs b hi', h1, fun e he hb oe hoe d hd => ?_⟩, ⟨fun cs b => h.sel k ok cs b hk', h3, fun e he hb oe hoe d hd => ?_⟩⟩
  · exact dstsB_ne h.dsts hk' hoe hd (hno e he hb)
  · have := h.back k ok hk' (by omega) e he hb
    exact dstsB_ne h.dsts hi' hoe hd (by omega)

section
variable (sh : Shape ops n N) (hmono : ∀ d u w w', R w w' → G d u w → G d u w')
include sh hmono

theorem slots_keep {S : Array Bool} {i : Nat} {oi : Oper} {a : Act} {u : Value} (hi : ops[i]? = some oi) {j : Nat} {oj : Oper} (hj : ops[j]? = some oj) (hji : j ≠ i) : slot (a.put oi.dst u) oj.dst = slot a oj.dst :=
  slot_put_ne fun d hd => dstsB_ne sh.dsts hi hj hd hji
theorem slots_new {i : Nat} {oi : Oper} {a : Act} {u : Value} (hN : a.tmps.size = N) (hi : ops[i]? = some oi) {w : World} (h : G oi.dst u w) (hu : oi.dst = none → G none undef w) : G oi.dst (slot (a.put oi.dst u) oi.dst) w := by
  cases hd : oi.dst with
  | none => simpa [slot] using hu hd
  | some d =>
    rw [slot_put_same (by rw [hN]; exact dstsB_in sh.dsts hi hd), ← hd]
    exact h

/-- Some result comes, and a world that has it. -/
theorem StepOk.some_ {k : Nat} {o : Oper} {a : Act} {w : World} (h : StepOk P ops C G R o a) (hC : C w) (hD : Deps ops G o a w) (hR : R w w) : ∃ u w', May P ops C G o a u ∧ C w' ∧ R w w' ∧ G o.dst u w' := by
  unfold StepOk at h
  unfold May
  split at h
  · rename_i hw
    simp only [hw, if_true]
    have hg := h w hC hD
    unfold Good at hg
    have key : ∀ r, (execOp a.eval o).run P w = r → goodUpon P C G R o.dst w r → ∃ u w', (∃ w, C w ∧ Deps ops G o a w ∧ mayUpon u ((execOp a.eval o).run P w)) ∧ C w' ∧ R w w' ∧ G o.dst u w' := by
      intro r hr hg
      cases r with
      | ok nx w' =>
        cases nx <;> simp only [goodUpon] at hg
        case value u => exact ⟨u, w', ⟨w, hC, hD, by rw [hr]; rfl⟩, hg.2.1, hg.2.2, hg.1⟩
        case skip => exact ⟨undef, w', ⟨w, hC, hD, by rw [hr]; rfl⟩, hg.2.1, hg.2.2, hg.1⟩
        case enter f args =>
          obtain ⟨e, w2, fr, ⟨u, _, h1, h2, h3⟩, _⟩ := hg []
          exact ⟨u, w2, ⟨w, hC, hD, by rw [hr]; trivial⟩, h2, h3, h1⟩
      | halt x w' => simp only [goodUpon] at hg
    exact key _ rfl hg
  · rename_i hw
    simp only [hw, if_false]
    exact ⟨undef, w, rfl, hC, hR, h w hC⟩

/-- Behind operation i the walk is as it was. -/
theorem Wk.past {S : Array Bool} {i : Nat} : ∀ (m k : Nat) (a : Act), i < k → i < S.size → Wk P ops C G R S F m k a → Wk P ops C G R (S.setIfInBounds i true) F m k a
  | 0, k, a, hk, hS, h => fun ⟨w, hw, hg⟩ => h ⟨w, hw, fun j oj hj hs => hg j oj hj (hs.imp (getD_set_true ·) id)⟩
  | m + 1, k, a, hk, hS, h => fun hI => by
    obtain ⟨w, hw, hg⟩ := hI
    have hI' : Inh ops C G S k a := ⟨w, hw, fun j oj hj hs => hg j oj hj (hs.imp (getD_set_true ·) id)⟩
    have h1 := h hI'
    cases ho : ops[k]? with
    | none => simp only [ho] at h1
    | some o =>
      simp only [ho] at h1 ⊢
      rw [getD_set_ne false (by omega : i ≠ k)]
      split at h1
      · rename_i hs
        simp only [hs, if_true]
        exact Wk.past m (k + 1) a (by omega) hS h1
      · rename_i hs
        simp only [hs, if_false]
        refine ⟨h1.1, fun u hu hI2 => Wk.past m (k + 1) _ (by omega) hS (h1.2 u hu ?_)⟩
        obtain ⟨w, hw, hg⟩ := hI2
        exact ⟨w, hw, fun j oj hj hs => hg j oj hj (hs.imp (getD_set_true ·) id)⟩

/-- Operation i comes up first. -/
theorem Wk.front {S : Array Bool} {i : Nat} {oi : Oper} (hi : ops[i]? = some oi) (hin : i < n) (hS : S.size = ops.size) (hun : S.getD i false = false) (hw : ∀ e ∈ oi.after, Region.binds .any e = true → S.getD e.on false = true) {u : Value} :
    ∀ (m k : Nat) (a : Act), k ≤ i → k + m = n → a.tmps.size = N → May P ops C G oi a u → Wk P ops C G R S F m k a → Wk P ops C G R (S.setIfInBounds i true) F m k (a.put oi.dst u)
  | 0, k, a, hk, hkm, _, _, h => by omega
  | m + 1, k, a, hk, hkm, hN, hu, h => fun hI => by
    have hiS : i < S.size := by rw [hS]; exact (Array.getElem?_eq_some_iff.1 hi).1
    obtain ⟨w, hw', hg⟩ := hI
    have hI' : Inh ops C G S k a := ⟨w, hw', fun j oj hj hs => by
      have hji : j ≠ i := by rintro rfl; rcases hs with hs | hs; · rw [hun] at hs; cases hs
                             · omega
      have := hg j oj hj (hs.imp (getD_set_true ·) id)
      rwa [slots_keep sh hmono (S := S) hi hj hji] at this⟩
    have h1 := h hI'
    by_cases hki : k = i
    · subst hki
      simp only [hi, hun, if_false, Bool.false_eq_true] at h1
      simp only [hi]
      have hst : (S.setIfInBounds k true).getD k false = true := by simp [hiS]
      simp only [hst, if_true]
      refine Wk.past sh hmono m (k + 1) _ (by omega) hiS (h1.2 u hu ⟨w, hw', fun j oj hj hs => hg j oj hj ?_⟩)
      by_cases hjk : j = k
      · subst hjk; exact .inl hst
      · rcases hs with hs | hs
        · exact .inl (getD_set_true hs)
        · exact .inr (by omega)
    · cases ho : ops[k]? with
      | none => simp only [ho] at h1
      | some o =>
        simp only [ho] at h1 ⊢
        rw [getD_set_ne false (Ne.symm hki)]
        split at h1
        · rename_i hs
          simp only [hs, if_true]
          exact Wk.front hi hin hS hun hw m (k + 1) a (by omega) (by omega) hN hu h1
        · rename_i hs
          simp only [hs, if_false]
          have hno : ∀ e ∈ oi.after, Region.binds .any e = true → e.on ≠ k := fun e he hb hek => by
            have := hw e he hb
            rw [hek] at this
            exact hs this
          obtain ⟨as1, as2⟩ := sh.aside_of (show k < i by omega) hin ho hi hno
          refine ⟨(as2.step a u).2 h1.1, fun v hv hI2 => ?_⟩
          rw [as2.may] at hv
          have hdd : ∀ d, o.dst = some d → oi.dst ≠ some d := fun d hd => dstsB_ne sh.dsts ho hi hd (Ne.symm hki)
          have hcomm : (a.put oi.dst u).put o.dst v = (a.put o.dst v).put oi.dst u := (Act.put_comm a v u hdd).symm
          rw [hcomm] at hI2 ⊢
          refine Wk.front hi hin hS hun hw m (k + 1) _ (by omega) (by omega) (by rw [size_put]; exact hN) ((as1.may a v u).2 hu) (h1.2 v hv ?_)
          obtain ⟨w2, hw2, hg2⟩ := hI2
          refine ⟨w2, hw2, fun j oj hj hs2 => ?_⟩
          have hji : j ≠ i := by rintro rfl; rcases hs2 with hs2 | hs2; · rw [hun] at hs2; cases hs2
                                 · omega
          have := hg2 j oj hj (hs2.imp (getD_set_true ·) id)
          rwa [slots_keep sh hmono (S := S) hi hj hji] at this

/-- An operation that is ready is good. -/
theorem Wk.ready {S : Array Bool} {i : Nat} {oi : Oper} (hR : ∀ w, C w → R w w) (hu : ∀ w, C w → G none undef w) (hi : ops[i]? = some oi) (hin : i < n) (hun : S.getD i false = false) (hw : ∀ e ∈ oi.after, Region.binds .any e = true → S.getD e.on false = true) :
    ∀ (m k : Nat) (a : Act) (w : World), k ≤ i → k + m = n → a.tmps.size = N → C w → (∀ j oj, ops[j]? = some oj → (S.getD j false = true ∨ j < k) → G oj.dst (slot a oj.dst) w) → Wk P ops C G R S F m k a → StepOk P ops C G R oi a
  | 0, k, a, w, hk, hkm, _, _, _, h => by omega
  | m + 1, k, a, w, hk, hkm, hN, hC, hg, h => by
    have h1 := h ⟨w, hC, hg⟩
    by_cases hki : k = i
    · subst hki
      simp only [hi, hun, if_false, Bool.false_eq_true] at h1
      exact h1.1
    · cases ho : ops[k]? with
      | none => simp only [ho] at h1
      | some o =>
        simp only [ho] at h1
        split at h1
        · rename_i hs
          exact Wk.ready hR hu hi hin hun hw m (k + 1) a w (by omega) (by omega) hN hC (fun j oj hj hs2 => hg j oj hj (by
            rcases hs2 with hs2 | hs2
            · exact .inl hs2
            · rcases Nat.lt_or_ge j k with h' | h'
              · exact .inr h'
              · obtain rfl : j = k := by omega
                exact .inl hs)) h1
        · rename_i hs
          have hno : ∀ e ∈ oi.after, Region.binds .any e = true → e.on ≠ k := fun e he hb hek => by
            have := hw e he hb
            rw [hek] at this
            exact hs this
          obtain ⟨as1, as2⟩ := sh.aside_of (show k < i by omega) hin ho hi hno
          have hD : Deps ops G o a w := fun e he hb oe hoe => hg e.on oe hoe (.inr (sh.back k o ho (by omega) e he hb))
          obtain ⟨u, w', hm, hC', hR', hG'⟩ := StepOk.some_ sh hmono (k := k) h1.1 hC hD (hR w hC)
          have hg' : ∀ j oj, ops[j]? = some oj → (S.getD j false = true ∨ j < k + 1) → G oj.dst (slot (a.put o.dst u) oj.dst) w' := fun j oj hj hs2 => by
            by_cases hjk : j = k
            · subst hjk
              obtain rfl : o = oj := Option.some.inj (ho.symm.trans hj)
              exact slots_new sh hmono hN hj hG' (fun _ => hu w' hC')
            · rw [slots_keep sh hmono (S := S) ho hj hjk]
              exact hmono _ _ _ _ hR' (hg j oj hj (hs2.imp id (by omega)))
          have := Wk.ready hR hu hi hin hun hw m (k + 1) (a.put o.dst u) w' (by omega) (by omega) (by rw [size_put]; exact hN) hC' hg' (h1.2 u hm ⟨w', hC', hg'⟩)
          exact (as1.step a u).1 this
/-- All has come up. -/
theorem Wk.done {S : Array Bool} : ∀ (m k : Nat) (a : Act) (w : World), k + m = n → (∀ j, j < n → S.getD j false = true) → C w → (∀ j oj, ops[j]? = some oj → (S.getD j false = true ∨ j < k) → G oj.dst (slot a oj.dst) w) → Wk P ops C G R S F m k a → F a
  | 0, k, a, w, hkm, hall, hC, hg, h => h ⟨w, hC, hg⟩
  | m + 1, k, a, w, hkm, hall, hC, hg, h => by
    have h1 := h ⟨w, hC, hg⟩
    have hk := hall k (by omega)
    cases ho : ops[k]? with
    | none => simp only [ho] at h1
    | some o =>
      simp only [ho, hk, if_true] at h1
      exact Wk.done m (k + 1) a w (by omega) hall hC (fun j oj hj hs2 => hg j oj hj (by
        rcases hs2 with hs2 | hs2
        · exact .inl hs2
        · exact .inl (hall j (by omega)))) h1
end

/-! ### Every order -/
theorem count_one {i : Nat} {p q : Nat → Bool} (hp : p i = true) (hq : q i = false) (he : ∀ j, j ≠ i → q j = p j) : ∀ l : List Nat, l.Nodup → (i ∈ l → l.countP p = l.countP q + 1) ∧ (i ∉ l → l.countP p = l.countP q)
  | [], _ => ⟨(fun h => nomatch h), fun _ => rfl⟩
  | x :: l, h => by
    obtain ⟨h1, h2⟩ := List.nodup_cons.1 h
    obtain ⟨i1, i2⟩ := count_one hp hq he l h2
    by_cases hx : x = i
    · subst hx
      refine ⟨fun _ => ?_, fun hn => absurd (List.mem_cons_self ..) hn⟩
      have := i2 h1
      simp [List.countP_cons, hp, hq, this]
    · refine ⟨fun hm => ?_, fun hn => ?_⟩
      · have := i1 ((List.mem_cons.1 hm).resolve_left (Ne.symm hx))
        simp only [List.countP_cons, he x hx, this]
        omega
      · have := i2 fun hm => hn (List.mem_cons_of_mem _ hm)
        simp only [List.countP_cons, he x hx, this]
def unl (n : Nat) (S : Array Bool) : Nat := (List.range n).countP fun i => S.getD i true == false
theorem unl_set {n i : Nat} {S : Array Bool} (hi : i < n) (hun : S.getD i true = false) : unl n S = unl n (S.setIfInBounds i true) + 1 := by
  refine ((count_one (i := i) (by simp [hun]) ?_ fun j hj => ?_) (List.range n) List.nodup_range).1 (List.mem_range.2 hi)
  · rcases Nat.lt_or_ge i S.size with h | h
    · simp [h]
    · simp [Array.getElem?_eq_none h] at hun
  · rw [getD_set_ne true (Ne.symm hj)]
theorem unl_zero {n : Nat} {S : Array Bool} (h : unl n S = 0) (hs : n ≤ S.size) : ∀ j, j < n → S.getD j false = true := fun j hj => by
  have := List.countP_eq_zero.1 h j (List.mem_range.2 hj)
  have hl : j < S.size := by omega
  simpa [hl] using this
theorem unl_pos {n m : Nat} {S : Array Bool} (h : unl n S = m + 1) : ∃ j, j < n ∧ S.getD j true = false := by
  have : 0 < (List.range n).countP fun i => S.getD i true == false := by unfold unl at h; omega
  obtain ⟨j, hj, hp⟩ := List.countP_pos_iff.1 this
  exact ⟨j, List.mem_range.1 hj, by simpa using hp⟩
theorem least {p : Nat → Prop} : ∀ k, p k → ∃ j, p j ∧ ∀ i, i < j → ¬ p i := fun k h => by
  induction k using Nat.strongRecOn with
  | _ k ih =>
    by_cases hh : ∃ i, i < k ∧ p i
    · obtain ⟨i, hi, hp⟩ := hh; exact ih i hi hp
    · exact ⟨k, h, fun i hi hp => hh ⟨i, hi, hp⟩⟩

theorem good_wp {o : Oper} {a : Act} {w : World} {K : Act → World → Prop} {Q : Exit → Act → World → Prop} (hC : C w) (hD : Deps ops G o a w) (hw : Region.wanted o (yielded ops a.tmps) = true) (h : Good P C G R o a w)
    (hK : ∀ u w', May P ops C G o a u → C w' → R w w' → G o.dst u w' → K (a.put o.dst u) w') : o.wp P a w K Q := by
  unfold Good at h
  unfold May at hK
  simp only [hw, if_true] at hK
  unfold Oper.wp
  have key : ∀ r, (execOp a.eval o).run P w = r → goodUpon P C G R o.dst w r → Oper.upon P o a K Q r := by
    intro r hr hg
    cases r with
    | ok nx w' =>
      cases nx <;> simp only [goodUpon] at hg
      case value u => exact hK u w' ⟨w, hC, hD, by rw [hr]; rfl⟩ hg.2.1 hg.2.2 hg.1
      case skip => exact hK undef w' ⟨w, hC, hD, by rw [hr]; rfl⟩ hg.2.1 hg.2.2 hg.1
      case enter f args =>
        exact Calls.mono hg fun e w2 ⟨u, he, h1, h2, h3⟩ => by subst he; exact hK u w2 ⟨w, hC, hD, by rw [hr]; trivial⟩ h2 h3 h1
    | halt x w' => simp only [goodUpon] at hg
  exact key _ rfl h

theorem wpAny_of_wk (sh : Shape ops n N) (hmono : ∀ d u w w', R w w' → G d u w → G d u w') (hR : ∀ w, C w → R w w) (hu : ∀ w, C w → G none undef w) {g : Nat} {Q : Exit → Act → World → Prop} (S0 : Array Bool)
    (htail : ∀ S, HeadInv .any ops n S → (∀ j, S0.getD j false = true → S.getD j false = true) → (∃ i, i < n ∧ S.getD i true = false) → ∀ t, n ≤ t → t ∉ Region.ready .any ops S)
    (hend : ∀ S a w, HeadInv .any ops n S → (∀ j, j < n → S.getD j false = true) → C w → (∀ j oj, ops[j]? = some oj → j < n → G oj.dst (slot a oj.dst) w) → F a → wpAny P .any ops Q g S a w) :
    ∀ (f : Nat) (S : Array Bool) (a : Act) (w : World), HeadInv .any ops n S → (∀ j, S0.getD j false = true → S.getD j false = true) → unl n S = f → a.tmps.size = N → Inv ops C G S a w → Wk P ops C G R S F n 0 a → wpAny P .any ops Q (f + g) S a w
  | 0, S, a, w, hd, h0s, hf, hN, hI, h => by
    have hall := unl_zero hf (by rw [hd.size]; exact sh.le)
    rw [Nat.zero_add]
    exact hend S a w hd hall hI.1 (fun j oj hj hjn => hI.2 j oj hj (hall j hjn)) (Wk.done sh hmono n 0 a w (by omega) hall hI.1 (fun j oj hj hs => hI.2 j oj hj (hs.resolve_right (by omega))) h)
  | f + 1, S, a, w, hd, h0s, hf, hN, hI, h => by
    obtain ⟨k0, hk0, hun0⟩ := unl_pos hf
    obtain ⟨k, ⟨hk, hun⟩, hmin⟩ := least (p := fun j => j < n ∧ S.getD j true = false) k0 ⟨hk0, hun0⟩
    have hrk : k ∈ Region.ready .any ops S := by
      have hks : k < ops.size := by have := sh.le; omega
      refine mem_ready.2 ⟨hun, ops[k], Array.getElem?_eq_getElem hks, fun e he hb => ?_⟩
      have hlt := sh.back k _ (Array.getElem?_eq_getElem hks) hk e he hb
      cases hS : S.getD e.on false with
      | true => rfl
      | false => exact absurd ⟨by omega, getD_in (by rw [hd.size]; have := sh.le; omega) hS⟩ (hmin e.on hlt)
    rw [show f + 1 + g = (f + g) + 1 by omega]
    refine ⟨fun h0 => (by rw [h0] at hrk; cases hrk), fun i hi => ?_⟩
    have hin : i < n := by
      rcases Nat.lt_or_ge i n with h' | h'
      · exact h'
      · exact absurd hi (htail S hd h0s ⟨k, hk, hun⟩ i h')
    obtain ⟨huni, oi, hoi, hall⟩ := mem_ready.1 hi
    have hunf : S.getD i false = false := getD_both huni
    have hst := Wk.ready sh hmono hR hu hoi hin hunf hall n 0 a w (by omega) (by omega) hN hI.1 (fun j oj hj hs => hI.2 j oj hj (hs.resolve_right (by omega))) h
    have hD : Deps ops G oi a w := fun e he hb oe hoe => hI.2 e.on oe hoe (hall e he hb)
    have hnext : ∀ u w', May P ops C G oi a u → C w' → R w w' → G oi.dst u w' → wpAny P .any ops Q (f + g) (S.setIfInBounds i true) (a.put oi.dst u) w' := fun u w' hm hC' hR' hG' => by
      refine wpAny_of_wk sh hmono hR hu S0 htail hend f _ _ w' (hd.set hi hin) (fun j hj => getD_set_true (h0s j hj)) ?_ (by rw [size_put]; exact hN) ⟨hC', fun j oj hj hs => ?_⟩ (Wk.front sh hmono hoi hin (by rw [hd.size]) hunf hall n 0 a (by omega) (by omega) hN hm h)
      · have := unl_set hin huni; omega
      · by_cases hji : j = i
        · subst hji
          obtain rfl : oi = oj := Option.some.inj (hoi.symm.trans hj)
          exact slots_new sh hmono hN hj hG' (fun _ => hu w' hC')
        · rw [slots_keep sh hmono (S := S) hoi hj hji]
          rw [getD_set_ne false (Ne.symm hji)] at hs
          exact hmono _ _ _ _ hR' (hI.2 j oj hj hs)
    unfold wpOp
    simp only [hoi]
    split
    · rename_i hw
      refine .inl (good_wp hI.1 hD hw ?_ hnext)
      unfold StepOk at hst
      simp only [hw, if_true] at hst
      exact hst w hI.1 hD
    · rename_i hw
      unfold StepOk at hst
      rw [if_neg hw] at hst
      exact hnext undef w (by unfold May; rw [if_neg hw]) hI.1 (hR w hI.1) (hst w hI.1)

/-! ### What is looked at, as a Bool -/
def headList (n m : Nat) : Array Bool := (List.replicate n true ++ List.replicate (m - n) false).toArray
def backB (ops : Array Oper) (n : Nat) : Bool := (List.range n).all fun k => match ops[k]? with
  | some o => o.after.all fun e => !Region.binds .any e || decide (e.on < k)
  | none => true
def asideB (ops : Array Oper) (n : Nat) : Bool := (List.range n).all fun i => (List.range i).all fun k => match ops[i]?, ops[k]? with
  | some oi, some ok => oi.after.any (fun e => Region.binds .any e && e.on == k) || ok.apart ops oi
  | _, _ => true
/-- every operation below n, but those of S0, is waited for by a later one up to n -/
def sinkS (ops : Array Oper) (S0 : Array Bool) (n : Nat) : Bool := (List.range n).all fun i => S0.getD i false || (List.range (n + 1)).any fun j => decide (i < j) && Region.waitsFor .any ops j i
/-- S0 holds what its operations wait for, and nothing from n on -/
def closedB (ops : Array Oper) (S0 : Array Bool) (n : Nat) : Bool := decide (S0.size = ops.size) && (List.range ops.size).all fun j => !S0.getD j false || (decide (j < n) && match ops[j]? with
  | some o => o.after.all fun e => !Region.binds .any e || S0.getD e.on false
  | none => true)
/-- what comes behind n waits for something from n on -/
def laterB (ops : Array Oper) (n : Nat) : Bool := (List.range ops.size).all fun t => decide (t ≤ n) || (List.range ops.size).any fun j => decide (n ≤ j) && Region.waitsFor .any ops t j
def relC (ops : Array Oper) (S0 : Array Bool) (n N : Nat) : Bool :=
  Region.noSelect ops && dstsB ops N && decide (n ≤ ops.size) && backB ops n && asideB ops n && (decide (n = ops.size) || (decide (n < ops.size) && sinkS ops S0 n && laterB ops n)) && closedB ops S0 n
def relB (ops : Array Oper) (S0 : Array Bool) (n N : Nat) : Bool := relC ops S0 n N && Region.seqB .any ops (ops.size - n) n (headList n ops.size)
theorem closedB_head {S0 : Array Bool} {n : Nat} (h : closedB ops S0 n = true) : HeadInv .any ops n S0 := by
  simp only [closedB, Bool.and_eq_true, decide_eq_true_eq] at h
  have key : ∀ j, S0.getD j false = true → j < ops.size ∧ j < n ∧ ∀ o, ops[j]? = some o → ∀ e ∈ o.after, Region.binds .any e = true → S0.getD e.on false = true := fun j hj => by
    have hjs : j < ops.size := by
      rcases Nat.lt_or_ge j S0.size with h' | h'
      · rw [← h.1]; exact h'
      · simp [Array.getElem?_eq_none h'] at hj
    have h1 := List.all_eq_true.1 h.2 j (List.mem_range.2 hjs)
    simp only [hj, Bool.not_true, Bool.false_or, Bool.and_eq_true, decide_eq_true_eq] at h1
    refine ⟨hjs, h1.1, fun o ho e he hb => ?_⟩
    have h2 := h1.2
    simp only [ho] at h2
    have h3 := Array.all_eq_true'.1 h2 e he
    simpa only [hb, Bool.not_true, Bool.false_or] using h3
  refine ⟨h.1, fun j oj hj hl e he hb => (key j hl).2.2 oj hj e he hb, fun t ht htl => ?_⟩
  cases hS : S0.getD t true with
  | false => rfl
  | true =>
    have : S0.getD t false = true := by
      have hl : t < S0.size := by rw [h.1]; exact htl
      simpa [hl] using hS
    have := (key t this).2.1
    omega
theorem tail_waitsS {n : Nat} {S0 listed : Array Bool} (hs : sinkS ops S0 n = true) (hc : laterB ops n = true) (hn : n < ops.size) (inv : HeadInv .any ops n listed) (h0 : ∀ j, S0.getD j false = true → listed.getD j false = true) :
    ∀ (d i : Nat), n - i = d → i < n → listed.getD i true = false → ∀ t, n ≤ t → t ∉ Region.ready .any ops listed := by
  intro d
  induction d using Nat.strongRecOn with
  | _ d ih =>
    intro i hd hi hun t ht hr
    obtain ⟨_, ot, hot, hall⟩ := mem_ready.1 hr
    have htlt : t < ops.size := (Array.getElem?_eq_some_iff.1 hot).1
    by_cases htn : t = n
    · subst htn
      have h1 := List.all_eq_true.1 hs i (List.mem_range.2 hi)
      have hnot : S0.getD i false = false := by
        cases hS : S0.getD i false with
        | false => rfl
        | true => have := h0 i hS; rw [getD_both hun] at this; cases this
      rw [hnot, Bool.false_or] at h1
      obtain ⟨j, hj, hj2⟩ := List.any_eq_true.1 h1
      simp only [Bool.and_eq_true, decide_eq_true_eq] at hj2
      obtain ⟨oj, hoj, e, he, hb, hon⟩ := Region.waitsFor_spec hj2.2
      have hjle : j ≤ t := by have := List.mem_range.1 hj; omega
      by_cases hjt : j = t
      · subst hjt
        have : oj = ot := Option.some.inj (hoj.symm.trans hot)
        subst this
        have h2 := hall e he hb
        rw [hon, getD_both hun] at h2
        cases h2
      · cases hl : listed.getD j false with
        | true =>
          have h2 := inv.closed j oj hoj hl e he hb
          rw [hon, getD_both hun] at h2
          cases h2
        | false =>
          have hjs : j < listed.size := by rw [inv.size]; omega
          exact ih (t - j) (by omega) j rfl (by omega) (getD_in hjs hl) t (Nat.le_refl _) hr
    · have h1 := List.all_eq_true.1 hc t (List.mem_range.2 htlt)
      simp only [Bool.or_eq_true, decide_eq_true_eq] at h1
      rcases h1 with h1 | h1
      · omega
      · obtain ⟨j, hj, hj2⟩ := List.any_eq_true.1 h1
        simp only [Bool.and_eq_true, decide_eq_true_eq] at hj2
        obtain ⟨o', ho', e, he, hb, hon⟩ := Region.waitsFor_spec hj2.2
        have : o' = ot := Option.some.inj (ho'.symm.trans hot)
        subst this
        have h2 := hall e he hb
        rw [hon, getD_both (inv.tail j hj2.1 (List.mem_range.1 hj))] at h2
        cases h2
theorem relC_shape {S0 : Array Bool} {n N : Nat} (h : relC ops S0 n N = true) : Shape ops n N := by
  simp only [relC, Bool.and_eq_true, decide_eq_true_eq] at h
  obtain ⟨⟨⟨⟨⟨⟨hsel, hd⟩, hn⟩, hb⟩, ha⟩, _⟩, _⟩ := h
  refine ⟨hd, hn, fun k o hk hkn e he hbd => ?_, fun k i ok oi hki hin hk hi hno => ?_, Region.noSelect_spec hsel⟩
  · have h1 := List.all_eq_true.1 hb k (List.mem_range.2 hkn)
    simp only [hk] at h1
    have h2 := Array.all_eq_true'.1 h1 e he
    simp only [hbd, Bool.not_true, Bool.false_or, decide_eq_true_eq] at h2
    exact h2
  · have h1 := List.all_eq_true.1 (List.all_eq_true.1 ha i (List.mem_range.2 hin)) k (List.mem_range.2 hki)
    simp only [hk, hi, Bool.or_eq_true] at h1
    refine h1.resolve_left fun h2 => ?_
    obtain ⟨e, he, hb2⟩ := Array.any_eq_true'.1 h2
    simp only [Bool.and_eq_true, beq_iff_eq] at hb2
    exact hno e he hb2.1 hb2.2
theorem headList_eq {S : Array Bool} (hs : S.size = ops.size) (hn : n ≤ ops.size) (h1 : ∀ j, j < n → S.getD j false = true) (h2 : ∀ t, n ≤ t → t < ops.size → S.getD t true = false) : S = headList n ops.size := by
  apply Array.ext
  · simp [headList, hs]; omega
  · intro j hj hj'
    rcases Nat.lt_or_ge j n with h | h
    · have := h1 j h
      simp [hj] at this
      simp [headList, List.getElem_append, h, this]
    · have := h2 j h (by omega)
      simp [hj] at this
      simp [headList, List.getElem_append, Nat.not_lt.2 h, this]

/-- The walk in the order of the text. -/
def InhL (ops : Array Oper) (C : World → Prop) (G : Option Tmp → Value → World → Prop) (k : Nat) (a : Act) : Prop := ∃ w, C w ∧ ∀ j oj, ops[j]? = some oj → j < k → G oj.dst (slot a oj.dst) w
def wpRel (P : Program) (ops : Array Oper) (C : World → Prop) (G : Option Tmp → Value → World → Prop) (R : World → World → Prop) (S0 : Array Bool) (F : Act → Prop) : Nat → List Oper → Act → Prop
  | k, [], a => InhL ops C G k a → F a
  | k, o :: rest, a => if S0.getD k false = true then wpRel P ops C G R S0 F (k + 1) rest a else StepOk P ops C G R o a ∧ ∀ u, May P ops C G o a u → (∀ d, o.dst = some d → ∃ w, C w ∧ G (some d) u w) → wpRel P ops C G R S0 F (k + 1) rest (a.put o.dst u)
theorem getD_none_ (m j : Nat) : (Array.replicate m false).getD j false = false := getD_replicate_false m j
theorem wk_of_rel {S0 : Array Bool} (sh : Shape ops n N) : ∀ (l : List Oper) (k : Nat) (a : Act), (∀ j, j < l.length → l[j]? = ops[k + j]?) → k + l.length = n → a.tmps.size = N → wpRel P ops C G R S0 F k l a → Wk P ops C G R S0 F l.length k a
  | [], k, a, _, hk, hN, h => fun ⟨w, hw, hg⟩ => h ⟨w, hw, fun j oj hj hjk => hg j oj hj (.inr hjk)⟩
  | o :: l, k, a, hl, hk, hN, h => fun _ => by
    have h0 : ops[k]? = some o := by simpa using (hl 0 (by simp)).symm
    simp only [h0]
    unfold wpRel at h
    split at h
    · rename_i hs
      simp only [hs, if_true]
      exact wk_of_rel sh l (k + 1) a (fun j hj => by have := hl (j + 1) (by simp; omega); simpa [Nat.add_assoc, Nat.add_comm 1 j] using this) (by simp only [List.length_cons] at hk; omega) hN h
    · rename_i hs
      rw [if_neg hs]
      refine ⟨h.1, fun u hu hI => wk_of_rel sh l (k + 1) _ (fun j hj => by have := hl (j + 1) (by simp; omega); simpa [Nat.add_assoc, Nat.add_comm 1 j] using this) (by simp only [List.length_cons] at hk; omega) (by rw [size_put]; exact hN) (h.2 u hu fun d hd => ?_)⟩
      obtain ⟨w, hw, hg⟩ := hI
      refine ⟨w, hw, ?_⟩
      have h1 := hg k o h0 (.inr (by omega))
      rw [hd, slot_put_same (by rw [hN]; exact dstsB_in sh.dsts h0 hd)] at h1
      exact h1

/-- A region that draws its order, the operations of S0 done: the first n operations in any order; then the others. -/
theorem wpAny_relC {Q : Exit → Act → World → Prop} {a : Act} {w : World} {l : List Oper} (S0 : Array Bool) (n N : Nat) (C : World → Prop) (G : Option Tmp → Value → World → Prop) (R : World → World → Prop) {fuel : Nat}
    (hB : relC l.toArray S0 n N = true) (hf : fuel = unl n S0 + (l.length - n)) (hN : a.tmps.size = N) (hmono : ∀ d u w w', R w w' → G d u w → G d u w') (hR : ∀ w, C w → R w w) (hu : ∀ w, C w → G none undef w) (hC : C w)
    (h0 : ∀ j oj, l[j]? = some oj → S0.getD j false = true → G oj.dst (slot a oj.dst) w)
    (h : wpRel P l.toArray C G R S0 (fun a' => ∀ w', C w' → (∀ j oj, l[j]? = some oj → j < n → G oj.dst (slot a' oj.dst) w') → wpAny P .any l.toArray Q (l.length - n) (headList n l.length) a' w') 0 (l.take n) a) : wpAny P .any l.toArray Q fuel S0 a w := by
  have sh := relC_shape hB
  have hB' := hB
  simp only [relC, Bool.and_eq_true, Bool.or_eq_true, decide_eq_true_eq] at hB'
  obtain ⟨⟨⟨⟨⟨⟨hsel, hd⟩, hn⟩, hb⟩, ha⟩, hsc⟩, hcl⟩ := hB'
  have hnl : n ≤ l.length := by simpa using hn
  have htl : (l.take n).length = n := by simp; omega
  have hw := wk_of_rel sh (l.take n) 0 a (fun j hj => by
    have hj' : j < n := by rw [htl] at hj; exact hj
    simp [hj']) (by simpa using htl) hN h
  rw [htl] at hw
  have := wpAny_of_wk (Q := Q) (g := l.length - n) sh hmono hR hu S0 (fun S hI h0s hex t ht hr => ?_) (fun S a' w' hI hall hC' hg hF => ?_) _ S0 a w
    (closedB_head hcl) (fun _ h => h) rfl hN ⟨hC, fun j oj hj hs => h0 j oj (by simpa using hj) hs⟩ hw
  · rw [hf]; exact this
  · obtain ⟨i, hi, hun⟩ := hex
    rcases hsc with hsc | ⟨⟨hlt, hs⟩, hc⟩
    · have := (mem_ready.1 hr).2
      obtain ⟨o, ho, _⟩ := this
      have := (Array.getElem?_eq_some_iff.1 ho).1
      omega
    · exact tail_waitsS hs hc hlt hI h0s _ i rfl hi hun t ht hr
  · have hSeq := headList_eq hI.size hn hall hI.tail
    rw [show l.toArray.size = l.length from by simp] at hSeq
    rw [hSeq]
    exact hF w' hC' fun j oj hj hjn => hg j oj (by simpa using hj) hjn
theorem wpRel_mono {F F' : Act → Prop} (hF : ∀ a, F a → F' a) {S0 : Array Bool} : ∀ (l' : List Oper) (k : Nat) (a : Act), wpRel P ops C G R S0 F k l' a → wpRel P ops C G R S0 F' k l' a
  | [], k, a, h => fun hI => hF a (h hI)
  | o :: l', k, a, h => by
    unfold wpRel at h ⊢
    split
    · rename_i hs; rw [if_pos hs] at h; exact wpRel_mono hF l' _ _ h
    · rename_i hs; rw [if_neg hs] at h; exact ⟨h.1, fun u hu hd => wpRel_mono hF l' _ _ (h.2 u hu hd)⟩
/-- The others as they stand. -/
theorem wpAny_rel {Q : Exit → Act → World → Prop} {a : Act} {w : World} {l : List Oper} (S0 : Array Bool) (n N : Nat) (C : World → Prop) (G : Option Tmp → Value → World → Prop) (R : World → World → Prop) {fuel : Nat}
    (hB : relB l.toArray S0 n N = true) (hf : fuel = unl n S0 + (l.length - n)) (hN : a.tmps.size = N) (hmono : ∀ d u w w', R w w' → G d u w → G d u w') (hR : ∀ w, C w → R w w) (hu : ∀ w, C w → G none undef w) (hC : C w)
    (h0 : ∀ j oj, l[j]? = some oj → S0.getD j false = true → G oj.dst (slot a oj.dst) w)
    (h : wpRel P l.toArray C G R S0 (fun a' => ∀ w', C w' → (∀ j oj, l[j]? = some oj → j < n → G oj.dst (slot a' oj.dst) w') → wpList P l.toArray Q (l.drop n) a' w') 0 (l.take n) a) : wpAny P .any l.toArray Q fuel S0 a w := by
  simp only [relB, Bool.and_eq_true] at hB
  have hdl : (l.drop n).length = l.length - n := by simp
  refine wpAny_relC S0 n N C G R hB.1 hf hN hmono hR hu hC h0 (wpRel_mono (fun a' hF w' hC' hg => ?_) _ _ _ h)
  have := wpAny_of_seq (md := .any) (Q' := Q) (ops := l.toArray) (l.drop n) n (headList n l.length) a' w' (fun j => by simp [List.getElem?_drop]) (by rw [hdl]; simpa using hB.2) (hF w' hC' hg)
  rwa [hdl] at this

/-- The same from the region on. -/
theorem wp_region_rel {id : Nat} {Q : Exit → Act → World → Prop} {a : Act} {w : World} {l : List Oper} (n N : Nat) (C : World → Prop) (G : Option Tmp → Value → World → Prop) (R : World → World → Prop)
    (hm : P.follows .mixedOrders = true) (hB : relB l.toArray (Array.replicate l.length false) n N = true) (hN : a.tmps.size = N) (hmono : ∀ d u w w', R w w' → G d u w → G d u w') (hR : ∀ w, C w → R w w) (hu : ∀ w, C w → G none undef w) (hC : C w.drew)
    (h : wpRel P l.toArray C G R (Array.replicate l.length false) (fun a' => ∀ w', C w' → (∀ j oj, l[j]? = some oj → j < n → G oj.dst (slot a' oj.dst) w') → wpList P l.toArray Q (l.drop n) a' w') 0 (l.take n) a) : (Code.region id l.toArray true).wp P Q a w := by
  refine wp_region_any hm ?_
  have hn : n ≤ l.length := by
    simp only [relB, Bool.and_eq_true] at hB
    have := (relC_shape hB.1).le
    simpa using this
  refine wpAny_rel _ n N C G R hB ?_ hN hmono hR hu hC (fun j oj _ hs => (by rw [getD_none_] at hs; cases hs)) h
  have hunl : unl n (Array.replicate l.length false) = n := by
    unfold unl
    rw [List.countP_eq_length.2 fun j hj => ?_, List.length_range]
    have hj2 : j < l.length := by have := List.mem_range.1 hj; omega
    have := getD_in (listed := Array.replicate l.length false) (i := j) (by simpa using hj2) (getD_none_ _ _)
    simp only [this, beq_self_eq_true]
  rw [show l.toArray.size = l.length from by simp, hunl]
  omega

/-! ### The steps of the walk -/
section
variable {o : Oper} {rest : List Oper} {a : Act} {k : Nat} {S0 : Array Bool}
theorem rel_nil (h : F a) : wpRel P ops C G R S0 F k [] a := fun _ => h
theorem rel_done (hS : S0.getD k false = true) (hn : wpRel P ops C G R S0 F (k + 1) rest a) : wpRel P ops C G R S0 F k (o :: rest) a := by
  unfold wpRel; rw [if_pos hS]; exact hn
theorem rel_skip (hS : S0.getD k false = false) (hw : Region.wanted o (yielded ops a.tmps) = false) (hG : ∀ w, C w → G o.dst undef w) (hn : wpRel P ops C G R S0 F (k + 1) rest (a.put o.dst undef)) : wpRel P ops C G R S0 F k (o :: rest) a := by
  unfold wpRel
  rw [hS, if_neg (by simp)]
  refine ⟨by unfold StepOk; simp only [hw, if_false, Bool.false_eq_true]; exact hG, fun u hu _ => ?_⟩
  unfold May at hu
  simp only [hw, if_false, Bool.false_eq_true] at hu
  subst hu
  exact hn
/-- it hands back one value, and leaves the world -/
theorem rel_val (hR : ∀ w, C w → R w w) (hS : S0.getD k false = false) (hw : Region.wanted o (yielded ops a.tmps) = true) (u : Value) (hrun : ∀ w, C w → Deps ops G o a w → (execOp a.eval o).run P w = .ok (.value u) w) (hG : ∀ w, C w → Deps ops G o a w → G o.dst u w) (hn : wpRel P ops C G R S0 F (k + 1) rest (a.put o.dst u)) : wpRel P ops C G R S0 F k (o :: rest) a := by
  unfold wpRel
  rw [hS, if_neg (by simp)]
  refine ⟨by unfold StepOk; simp only [hw, if_true]; intro w hC hD; unfold Good; rw [hrun w hC hD]; exact ⟨hG w hC hD, hC, hR w hC⟩, fun x hx _ => ?_⟩
  unfold May at hx
  simp only [hw, if_true] at hx
  obtain ⟨w, hC, hD, hm⟩ := hx
  rw [hrun w hC hD] at hm
  obtain rfl : x = u := hm
  exact hn
/-- a call: any value that its slot lets in -/
theorem rel_call (hS : S0.getD k false = false) (hw : Region.wanted o (yielded ops a.tmps) = true) (f : FuncId) (args : Array Value) (d : Tmp) (hd : o.dst = some d) (hrun : ∀ w, C w → Deps ops G o a w → (execOp a.eval o).run P w = .ok (.enter f args) w)
    (hc : ∀ w, C w → Deps ops G o a w → Calls P f args w fun e w' => ∃ u, e = .returned u ∧ G (some d) u w' ∧ C w' ∧ R w w') (hn : ∀ u w, C w → G (some d) u w → wpRel P ops C G R S0 F (k + 1) rest (a.put (some d) u)) : wpRel P ops C G R S0 F k (o :: rest) a := by
  unfold wpRel
  rw [hS, if_neg (by simp)]
  refine ⟨by unfold StepOk; simp only [hw, if_true]; intro w hC hD; unfold Good; rw [hrun w hC hD, hd]; exact hc w hC hD, fun x _ hx => ?_⟩
  obtain ⟨w, hC, hg⟩ := hx d hd
  rw [hd]
  exact hn x w hC hg
/-- a new block -/
theorem rel_new (hS : S0.getD k false = false) (hw : Region.wanted o (yielded ops a.tmps) = true) (ob : Obj) (d : Tmp) (hd : o.dst = some d) (mk : Nat → Value) (hrun : ∀ w, C w → Deps ops G o a w → (execOp a.eval o).run P w = .ok (.value (mk w.heap.size)) (w.alloc ob))
    (hc : ∀ w, C w → Deps ops G o a w → G (some d) (mk w.heap.size) (w.alloc ob) ∧ C (w.alloc ob) ∧ R w (w.alloc ob)) (hn : ∀ g w, C w → G (some d) (mk g) w → wpRel P ops C G R S0 F (k + 1) rest (a.put (some d) (mk g))) : wpRel P ops C G R S0 F k (o :: rest) a := by
  unfold wpRel
  rw [hS, if_neg (by simp)]
  refine ⟨by unfold StepOk; simp only [hw, if_true]; intro w hC hD; unfold Good; rw [hrun w hC hD, hd]; exact hc w hC hD, fun x hm hx => ?_⟩
  obtain ⟨w, hC, hg⟩ := hx d hd
  unfold May at hm
  simp only [hw, if_true] at hm
  obtain ⟨w', hC', hD', hm⟩ := hm
  rw [hrun w' hC' hD'] at hm
  obtain rfl : x = mk w'.heap.size := hm
  rw [hd]
  exact hn _ w hC hg
end
end
end Go.Proofs.Ytaefjgjojflppaa

/- KeysForms answers true for every table, every change and every tape: Valid and Apply of the program and of the reference are the same. Condition: the row's own, the laid table of words; the tied card. -/
import Derived.Test.YtljmclbedpceoaaDoorKFormSaidMB
import Derived.Orders
import Derived.Test.YtljmclbedpceoaaDoorKFormSaidMF
import Derived.Test.YtljmclbedpceoaaDoorKFormSaidMC
import Derived.Test.YtljmclbedpceoaaDoorKFormSaidME
import Derived.Test.YtljmclbedpceoaaDoorKFormSaidMD
import Derived.Test.YtljmclbedpceoaaDoorCards
import Derived.Test.YtljmclbedpceoaaDoorTie
import Derived.Test.YtljmclbedpceoaaDoorKFormSaidMA
namespace Go.Proofs.YtljmclbedpceoaaDoor
open Go Go.RowKit
set_option linter.unusedVariables false
set_option linter.unusedSectionVars false
set_option linter.unusedSimpArgs false

section
variable {P : Program} {ops : Array Oper} {C : World → Prop} {G : Option Tmp → Value → World → Prop} {R : World → World → Prop} {n N : Nat} {F : Act → Prop}

/-- an operation that reads its slots alone -/
def plainOp (o : Oper) : Bool := match o.op with
  | .move _ => true
  | .extract _ _ => true
  | _ => false
theorem plain_run {o : Oper} (h : plainOp o = true) {a : Act} {w : World} {C : World → Prop} {G : Option Tmp → Value → World → Prop} {R : World → World → Prop} (hg : goodUpon P C G R o.dst w ((execOp a.eval o).run P w)) :
    ∃ v, (∀ w', (execOp a.eval o).run P w' = .ok (.value v) w') ∧ G o.dst v w ∧ C w ∧ R w w := by
  unfold plainOp at h
  split at h
  · rename_i x hx
    have e : ∀ w', (execOp a.eval o).run P w' = .ok (.value (a.eval x)) w' := fun w' => by
      unfold execOp; simp only [hx, Sem.run_pure]
    rw [e w] at hg
    exact ⟨_, e, hg⟩
  · rename_i t ix hx
    have e : ∀ w', (execOp a.eval o).run P w' = ((Instr.extract (a.eval t) ix).run P w').andThen fun u => (pure (.value u) : Sem Next).run P := fun w' => by
      unfold execOp; simp only [hx, Sem.run_bind]
    by_cases hv : ∃ vs v, a.eval t = .tuple vs ∧ vs[ix]? = some v
    · obtain ⟨vs, v, h1, h2⟩ := hv
      have e2 : ∀ w', (execOp a.eval o).run P w' = .ok (.value v) w' := fun w' => by
        rw [e w', h1]; unfold Instr.extract; simp only [h2, Sem.run_pure, Result.andThen_ok]
      rw [e2 w] at hg
      exact ⟨_, e2, hg⟩
    · exfalso
      have hh : ∃ x w2, (Instr.extract (a.eval t) ix).run P w = .halt x w2 := by
        unfold Instr.extract
        split
        · rename_i vs hvs
          split
          · rename_i v hvv; exact absurd ⟨vs, v, hvs, hvv⟩ hv
          · exact ⟨_, _, rfl⟩
        · exact ⟨_, _, rfl⟩
      obtain ⟨x, w2, hh⟩ := hh
      rw [e w, hh] at hg
      exact hg
  · cases h
/-- the exempt ones: they read their slots alone, and are apart from all that does not wait for them -/
def waitS (ops : Array Oper) (i : Nat) : Array Bool := ((List.range ops.size).map fun j => Region.waitsFor .any ops i j).toArray
def exB (ops : Array Oper) (E : List Nat) (n : Nat) : Bool := E.all fun i => decide (i < n) && (match ops[i]? with | some o => plainOp o | none => false) && Region.free .any ops (waitS ops i) i
def sinkE (ops : Array Oper) (S0 : Array Bool) (E : List Nat) (n : Nat) : Bool := (List.range n).all fun i => E.contains i || S0.getD i false || (List.range (n + 1)).any fun j => decide (i < j) && !E.contains j && Region.waitsFor .any ops j i
theorem free_mono {i : Nat} {oi : Oper} (hi : ops[i]? = some oi) (h : Region.free .any ops (waitS ops i) i = true) (S : Array Bool) (hS : S.size = ops.size) (hw : ∀ e ∈ oi.after, Region.binds .any e = true → S.getD e.on false = true) : Region.free .any ops S i = true := by
  simp only [Region.free, hi, List.all_eq_true, List.mem_range] at h ⊢
  intro j hj
  have h1 := h j hj
  simp only [Bool.or_eq_true] at h1 ⊢
  rcases h1 with (h1 | h1) | h1
  · exact .inl (.inl h1)
  · have h2 : Region.waitsFor .any ops i j = true := by simpa [waitS, hj] using h1
    obtain ⟨o', ho', e, he, hb, hon⟩ := Region.waitsFor_spec h2
    obtain rfl : oi = o' := Option.some.inj (hi.symm.trans ho')
    have h3 := hw e he hb
    rw [hon] at h3
    have hl : j < S.size := by omega
    exact .inl (.inr (by simpa [hl] using h3))
  · exact .inr h1
theorem tail_waitsE {S0 listed : Array Bool} {E : List Nat} (hs : sinkE ops S0 E n = true) (hc : laterB ops n = true) (hn : n < ops.size) (inv : HeadInv .any ops n listed) (h0 : ∀ j, S0.getD j false = true → listed.getD j false = true) :
    ∀ (d i : Nat), n - i = d → i < n → E.contains i = false → listed.getD i true = false → ∀ t, n ≤ t → t ∉ Region.ready .any ops listed := by
  intro d
  induction d using Nat.strongRecOn with
  | _ d ih =>
    intro i hd hi hE hun t ht hr
    obtain ⟨_, ot, hot, hall⟩ := mem_ready.1 hr
    have htlt : t < ops.size := (Array.getElem?_eq_some_iff.1 hot).1
    by_cases htn : t = n
    · subst htn
      have h1 := List.all_eq_true.1 hs i (List.mem_range.2 hi)
      have hnot : S0.getD i false = false := by
        cases hS : S0.getD i false with
        | false => rfl
        | true => have := h0 i hS; rw [getD_both hun] at this; cases this
      rw [hE, hnot, Bool.false_or, Bool.false_or] at h1
      obtain ⟨j, hj, hj2⟩ := List.any_eq_true.1 h1
      simp only [Bool.and_eq_true, decide_eq_true_eq, Bool.not_eq_true'] at hj2
      obtain ⟨oj, hoj, e, he, hb, hon⟩ := Region.waitsFor_spec hj2.2
      have hjle : j ≤ t := by have := List.mem_range.1 hj; omega
      by_cases hjt : j = t
      · subst hjt
        have : oj = ot := Option.some.inj (hoj.symm.trans hot)
        subst this
        have h2 := hall e he hb
        rw [hon, getD_both hun] at h2
        cases h2
      · cases hl : listed.getD j false with
        | true =>
          have h2 := inv.closed j oj hoj hl e he hb
          rw [hon, getD_both hun] at h2
          cases h2
        | false =>
          have hjs : j < listed.size := by rw [inv.size]; omega
          exact ih (t - j) (by omega) j rfl (by omega) hj2.1.2 (getD_in hjs hl) t (Nat.le_refl _) hr
    · have h1 := List.all_eq_true.1 hc t (List.mem_range.2 htlt)
      simp only [Bool.or_eq_true, decide_eq_true_eq] at h1
      rcases h1 with h1 | h1
      · omega
      · obtain ⟨j, hj, hj2⟩ := List.any_eq_true.1 h1
        simp only [Bool.and_eq_true, decide_eq_true_eq] at hj2
        obtain ⟨o', ho', e, he, hb, hon⟩ := Region.waitsFor_spec hj2.2
        have : o' = ot := Option.some.inj (ho'.symm.trans hot)
        subst this
        have h2 := hall e he hb
        rw [hon, getD_both (inv.tail j hj2.1 (List.mem_range.1 hj))] at h2
        cases h2
theorem wpAny_of_wkE (sh : Shape ops n N) (hmono : ∀ d u w w', R w w' → G d u w → G d u w') (hR : ∀ w, C w → R w w) (hu : ∀ w, C w → G none undef w) {g : Nat} {Q : Exit → Act → World → Prop} (S0 : Array Bool) (E : List Nat)
    (hE : ∀ i, E.contains i = true → i < n ∧ ∃ oi, ops[i]? = some oi ∧ plainOp oi = true ∧ ∀ S : Array Bool, S.size = ops.size → (∀ e ∈ oi.after, Region.binds .any e = true → S.getD e.on false = true) → Region.free .any ops S i = true) (hno : Region.noSelect ops = true) (hQ : ∀ c d v a w, Q (.panic c) (a.put d v) w → Q (.panic c) a w)
    (htail : ∀ S, HeadInv .any ops n S → (∀ j, S0.getD j false = true → S.getD j false = true) → (∃ i, i < n ∧ E.contains i = false ∧ S.getD i true = false) → ∀ t, n ≤ t → t ∉ Region.ready .any ops S)
    (hend : ∀ S a w, HeadInv .any ops n S → (∀ j, j < n → S.getD j false = true) → C w → (∀ j oj, ops[j]? = some oj → j < n → G oj.dst (slot a oj.dst) w) → F a → wpAny P .any ops Q g S a w) :
    ∀ (f : Nat) (S : Array Bool) (a : Act) (w : World), HeadInv .any ops n S → (∀ j, S0.getD j false = true → S.getD j false = true) → unl n S = f → a.tmps.size = N → Inv ops C G S a w → Wk P ops C G R S F n 0 a → wpAny P .any ops Q (f + g) S a w
  | 0, S, a, w, hd, h0s, hf, hN, hI, h => by
    have hall := unl_zero hf (by rw [hd.size]; exact sh.le)
    rw [Nat.zero_add]
    exact hend S a w hd hall hI.1 (fun j oj hj hjn => hI.2 j oj hj (hall j hjn)) (Wk.done sh hmono n 0 a w (by omega) hall hI.1 (fun j oj hj hs => hI.2 j oj hj (hs.resolve_right (by omega))) h)
  | f + 1, S, a, w, hd, h0s, hf, hN, hI, h => by
    obtain ⟨k0, hk0, hun0⟩ := unl_pos hf
    obtain ⟨k, ⟨hk, hun⟩, hmin⟩ := least (p := fun j => j < n ∧ S.getD j true = false) k0 ⟨hk0, hun0⟩
    have hrk : k ∈ Region.ready .any ops S := by
      have hks : k < ops.size := by have := sh.le; omega
      refine mem_ready.2 ⟨hun, ops[k], Array.getElem?_eq_getElem hks, fun e he hb => ?_⟩
      have hlt := sh.back k _ (Array.getElem?_eq_getElem hks) hk e he hb
      cases hS : S.getD e.on false with
      | true => rfl
      | false => exact absurd ⟨by omega, getD_in (by rw [hd.size]; have := sh.le; omega) hS⟩ (hmin e.on hlt)
    rw [show f + 1 + g = (f + g) + 1 by omega]
    have hstep : ∀ i, i < n → i ∈ Region.ready .any ops S → ∃ oi, ops[i]? = some oi ∧ StepOk P ops C G R oi a ∧ Deps ops G oi a w ∧ ∀ u w', May P ops C G oi a u → C w' → R w w' → G oi.dst u w' → wpAny P .any ops Q (f + g) (S.setIfInBounds i true) (a.put oi.dst u) w' := fun i hin hi => by
      obtain ⟨huni, oi, hoi, hall⟩ := mem_ready.1 hi
      have hunf : S.getD i false = false := getD_both huni
      have hst := Wk.ready sh hmono hR hu hoi hin hunf hall n 0 a w (by omega) (by omega) hN hI.1 (fun j oj hj hs => hI.2 j oj hj (hs.resolve_right (by omega))) h
      have hD : Deps ops G oi a w := fun e he hb oe hoe => hI.2 e.on oe hoe (hall e he hb)
      refine ⟨oi, hoi, hst, hD, fun u w' hm hC' hR' hG' => ?_⟩
      refine wpAny_of_wkE sh hmono hR hu S0 E hE hno hQ htail hend f _ _ w' (hd.set hi hin) (fun j hj => getD_set_true (h0s j hj)) ?_ (by rw [size_put]; exact hN) ⟨hC', fun j oj hj hs => ?_⟩ (Wk.front sh hmono hoi hin (by rw [hd.size]) hunf hall n 0 a (by omega) (by omega) hN hm h)
      · have := unl_set hin huni; omega
      · by_cases hji : j = i
        · subst hji
          obtain rfl : oi = oj := Option.some.inj (hoi.symm.trans hj)
          exact slots_new sh hmono hN hj hG' (fun _ => hu w' hC')
        · rw [slots_keep sh hmono (S := S) hoi hj hji]
          rw [getD_set_ne false (Ne.symm hji)] at hs
          exact hmono _ _ _ _ hR' (hI.2 j oj hj hs)
    cases hkE : E.contains k with
    | true =>
      obtain ⟨_, ok, hok, hpl, hfr⟩ := hE k hkE
      obtain ⟨oi, hoi, hst, hD, hnext⟩ := hstep k hk hrk
      obtain ⟨_, o3, ho3, hall⟩ := mem_ready.1 hrk
      obtain rfl : oi = o3 := Option.some.inj (hoi.symm.trans ho3)
      obtain rfl : ok = oi := Option.some.inj (hok.symm.trans hoi)
      by_cases hw : Region.wanted ok (yielded ops a.tmps) = true
      · unfold StepOk at hst
        simp only [hw, if_true] at hst
        have hg := hst w hI.1 hD
        unfold Good at hg
        obtain ⟨v, hv, hG, hC, hRR⟩ := plain_run hpl hg
        refine wpAny_take hok hno (hfr S hd.size hall) (by simpa using hrk) (fun c a w => hQ c _ _ a w) (.inl ⟨hw, hv⟩) (hnext v w ?_ hC hRR hG)
        unfold May
        rw [if_pos hw]
        exact ⟨w, hI.1, hD, by rw [hv w]; rfl⟩
      · unfold StepOk at hst
        rw [if_neg hw] at hst
        refine wpAny_take hok hno (hfr S hd.size hall) (by simpa using hrk) (fun c a w => hQ c _ _ a w) (.inr ⟨by simpa using hw, rfl⟩) (hnext undef w ?_ hI.1 (hR w hI.1) (hst w hI.1))
        unfold May
        rw [if_neg hw]
    | false =>
    refine ⟨fun h0 => (by rw [h0] at hrk; cases hrk), fun i hi => ?_⟩
    have hin : i < n := by
      rcases Nat.lt_or_ge i n with h' | h'
      · exact h'
      · exact absurd hi (htail S hd h0s ⟨k, hk, hkE, hun⟩ i h')
    obtain ⟨oi, hoi, hst, hD, hnext⟩ := hstep i hin hi
    unfold wpOp
    simp only [hoi]
    split
    · rename_i hw
      refine .inl (good_wp hI.1 hD hw ?_ hnext)
      unfold StepOk at hst
      simp only [hw, if_true] at hst
      exact hst w hI.1 hD
    · rename_i hw
      unfold StepOk at hst
      rw [if_neg hw] at hst
      exact hnext undef w (by unfold May; rw [if_neg hw]) hI.1 (hR w hI.1) (hst w hI.1)
def relE (ops : Array Oper) (S0 : Array Bool) (E : List Nat) (n N : Nat) : Bool :=
  Region.noSelect ops && dstsB ops N && decide (n ≤ ops.size) && backB ops n && asideB ops n && (decide (n = ops.size) || (decide (n < ops.size) && sinkE ops S0 E n && laterB ops n)) && closedB ops S0 n && exB ops E n && Region.seqB .any ops (ops.size - n) n (headList n ops.size)
theorem relE_shape {S0 : Array Bool} {E : List Nat} {n N : Nat} (h : relE ops S0 E n N = true) : Shape ops n N := by
  simp only [relE, Bool.and_eq_true, decide_eq_true_eq] at h
  obtain ⟨⟨⟨⟨⟨⟨⟨⟨hsel, hd⟩, hn⟩, hb⟩, ha⟩, _⟩, _⟩, _⟩, _⟩ := h
  refine ⟨hd, hn, fun k o hk hkn e he hbd => ?_, fun k i ok oi hki hin hk hi hno => ?_, Region.noSelect_spec hsel⟩
  · have h1 := List.all_eq_true.1 hb k (List.mem_range.2 hkn)
    simp only [hk] at h1
    have h2 := Array.all_eq_true'.1 h1 e he
    simp only [hbd, Bool.not_true, Bool.false_or, decide_eq_true_eq] at h2
    exact h2
  · have h1 := List.all_eq_true.1 (List.all_eq_true.1 ha i (List.mem_range.2 hin)) k (List.mem_range.2 hki)
    simp only [hk, hi, Bool.or_eq_true] at h1
    refine h1.resolve_left fun h2 => ?_
    obtain ⟨e, he, hb2⟩ := Array.any_eq_true'.1 h2
    simp only [Bool.and_eq_true, beq_iff_eq] at hb2
    exact hno e he hb2.1 hb2.2
/-- A region that draws its order, the operations of S0 done, E exempt: the first n operations in any order; then the others. -/
theorem wpAny_relE {Q : Exit → Act → World → Prop} {a : Act} {w : World} {l : List Oper} (S0 : Array Bool) (E : List Nat) (n N : Nat) (C : World → Prop) (G : Option Tmp → Value → World → Prop) (R : World → World → Prop) {fuel : Nat}
    (hB : relE l.toArray S0 E n N = true) (hQ : ∀ c d v a w, Q (.panic c) (a.put d v) w → Q (.panic c) a w) (hf : fuel = unl n S0 + (l.length - n)) (hN : a.tmps.size = N) (hmono : ∀ d u w w', R w w' → G d u w → G d u w') (hR : ∀ w, C w → R w w) (hu : ∀ w, C w → G none undef w) (hC : C w)
    (h0 : ∀ j oj, l[j]? = some oj → S0.getD j false = true → G oj.dst (slot a oj.dst) w)
    (h : wpRel P l.toArray C G R S0 (fun a' => ∀ w', C w' → (∀ j oj, l[j]? = some oj → j < n → G oj.dst (slot a' oj.dst) w') → wpList P l.toArray Q (l.drop n) a' w') 0 (l.take n) a) : wpAny P .any l.toArray Q fuel S0 a w := by
  have sh := relE_shape hB
  have hB' := hB
  simp only [relE, Bool.and_eq_true, Bool.or_eq_true, decide_eq_true_eq] at hB'
  obtain ⟨⟨⟨⟨⟨⟨⟨⟨hsel, hd⟩, hn⟩, hb⟩, ha⟩, hsc⟩, hcl⟩, hex⟩, hseq⟩ := hB'
  have hnl : n ≤ l.length := by simpa using hn
  have htl : (l.take n).length = n := by simp; omega
  have hw := wk_of_rel sh (l.take n) 0 a (fun j hj => by
    have hj' : j < n := by rw [htl] at hj; exact hj
    simp [hj']) (by simpa using htl) hN h
  rw [htl] at hw
  have := wpAny_of_wkE (Q := Q) (g := l.length - n) sh hmono hR hu S0 E (fun i hi => ?_) hsel hQ (fun S hI h0s hex t ht hr => ?_) (fun S a' w' hI hall hC' hg hF => ?_) _ S0 a w
    (closedB_head hcl) (fun _ h => h) rfl hN ⟨hC, fun j oj hj hs => h0 j oj (by simpa using hj) hs⟩ hw
  · rw [hf]; exact this
  · have h1 := List.all_eq_true.1 hex i (List.contains_iff_mem.1 hi)
    simp only [Bool.and_eq_true, decide_eq_true_eq] at h1
    obtain ⟨⟨h1, h2⟩, h3⟩ := h1
    have hil : i < l.toArray.size := by have : l.toArray.size = l.length := by simp
                                        omega
    have hio := Array.getElem?_eq_getElem hil
    rw [hio] at h2
    exact ⟨h1, _, hio, h2, fun S hS hw => free_mono hio h3 S hS hw⟩
  · obtain ⟨i, hi, hE, hun⟩ := hex
    rcases hsc with hsc | ⟨⟨hlt, hs⟩, hc⟩
    · have := (mem_ready.1 hr).2
      obtain ⟨o, ho, _⟩ := this
      have := (Array.getElem?_eq_some_iff.1 ho).1
      omega
    · exact tail_waitsE hs hc hlt hI h0s _ i rfl hi hE hun t ht hr
  · have hSeq := headList_eq hI.size hn hall hI.tail
    rw [show l.toArray.size = l.length from by simp] at hSeq
    rw [hSeq]
    have hdl : (l.drop n).length = l.length - n := by simp
    have := wpAny_of_seq (md := .any) (Q' := Q) (ops := l.toArray) (l.drop n) n (headList n l.length) a' w' (fun j => by simp [List.getElem?_drop]) (by rw [hdl]; simpa using hseq) (hF w' hC' fun j oj hj hjn => hg j oj (by simpa using hj) hjn)
    rwa [hdl] at this
end
section
variable {P : Program} {M : Nat → Prop} {row : Option Nat} {w0 w1 : World} {L : List Hp} {sp : SpW} {F : Act → Prop} {S0 : Array Bool}
theorem wpAny_holdE {Q : Exit → Act → World → Prop} {a : Act} {w : World} {l : List Oper} (E : List Nat) (n N : Nat) (L : List Hp) (sp : SpW) {fuel : Nat}
    (hB : relE l.toArray S0 E n N = true) (hQ : ∀ c d v a w, Q (.panic c) (a.put d v) w → Q (.panic c) a w) (hO : offW l.toArray S0 sp = true) (hf : fuel = unl n S0 + (l.length - n)) (hN : a.tmps.size = N) (hs : Stays (Mut M L) sp) (hC : Hold M row w0 w L)
    (h : wpRel P l.toArray (HC M row w0 w L) (GW sp) (RM (Mut M L)) S0 (fun a' => ∀ w', Hold M row w0 w' L → RM (Mut M L) w w' → (∀ j oj, l[j]? = some oj → j < n → GW sp oj.dst (slot a' oj.dst) w') → wpList P l.toArray Q (l.drop n) a' w') 0 (l.take n) a) : wpAny P .any l.toArray Q fuel S0 a w := by
  refine wpAny_relE S0 E n N (HC M row w0 w L) (GW sp) (RM (Mut M L)) hB hQ hf hN (fun d u w w' hr hg => ?_) (fun w _ => RM.refl _ w) (fun _ _ => trivial) ⟨hC, RM.refl _ _⟩ (fun j oj hj hs => offW_h hO (by simpa using hj) hs) (wpRel_mono (fun a' hF w' hC' hg => hF w' hC'.1 hC'.2 hg) _ _ _ h)
  unfold GW at hg ⊢
  cases hd : d.bind sp with
  | none => trivial
  | some V =>
    rw [hd] at hg
    obtain ⟨t, rfl, ht⟩ := Option.bind_eq_some_iff.1 hd
    exact hs t V ht u w w' hr hg
end
end Go.Proofs.YtljmclbedpceoaaDoor

namespace Go.Proofs.YtljmclbedpceoaaDoor
open Go.RowKit
set_option linter.unusedVariables false
set_option linter.unusedSimpArgs false

def k7Rows : List Row := [(1, vKey 2), (2, vKey 1)]
theorem k7_a : applyC nmU uCols 3 pRows [] [] [(1, vKey 1, vKey 2), (2, vKey 2, vKey 1)] = (0, ⟨nmU, uCols, 3, k7Rows⟩) := by decide +kernel
theorem k7_b : applyC nmU uCols 3 pRows [vKey 2] [] [] = (9, zeroT) := by decide +kernel
set_option maxHeartbeats 1000000 in
set_option maxRecDepth 100000 in
theorem known7 : Gives 27 #[] (.bool true) := by
  intro w
  have K0 := Hold.begin_ w
  obtain ⟨nu, hnu⟩ : ∃ nu, nu = nmU := ⟨_, rfl⟩
  have HS := hid small_u
  have HK1 := hid k7_a
  have HK2 := hid k7_b
  rw [← hnu] at HS HK1 HK2
  have HNU := hid hnu
  go_enter Tryd.func27, Tryd.ntmps27
  go_wp2_with fail
  refine (pairs_any _ _ K0.mutLt).mono ?_
  rintro e w1 ⟨v, rfl, ⟨A, n, c, B, m, d, l, hv, h1, h2, h3, h4, h5, h6, h7, h8⟩, b1⟩
  obtain rfl : v = .agg #[.string nu, .slice A n c, .int .i64 3, .slice B m d] := by rw [hnu]; exact hv
  clear hv hnu
  have K2 := (((K0.call b1).add h6).add (h5.less (by simp [Mut, Hp.foot]))).alloc_cst #[.string nu, .slice A n c, .int .i64 3, .slice B m d] 40
  clear K0 b1 h5 h6
  obtain ⟨gt, hgt⟩ : ∃ gt, gt = w1.heap.size := ⟨_, rfl⟩
  rw [← hgt] at K2
  go_wp2_with fail
  rw [← hgt]
  have HGT := hid hgt
  clear hgt
  obtain ⟨Ha, hHa⟩ : ∃ H, H = (World.alloc w1 (.cells #[.string nu, .slice A n c, .int .i64 3, .slice B m d] 40)).drew.heap.size := ⟨_, rfl⟩
  have HHa := hid hHa
  clear hHa
  refine wp_region_any (by kernel_rfl) ?_
  refine wpAny_holdE [12] 14 51 ([.cst gt 40 #[.string nu, .slice A n c, .int .i64 3, .slice B m d], .ro (ColsIn A n uCols), .ro (RwsIn B m l)]) (spL [(9, (VlsSlot (Mut None_ [.cst gt 40 #[.string nu, .slice A n c, .int .i64 3, .slice B m d], .ro (ColsIn A n uCols), .ro (RwsIn B m l)]) (vKey 1))), (10, (VlsSlot (Mut None_ [.cst gt 40 #[.string nu, .slice A n c, .int .i64 3, .slice B m d], .ro (ColsIn A n uCols), .ro (RwsIn B m l)]) (vKey 2))), (11, (PrSlot (Mut None_ [.cst gt 40 #[.string nu, .slice A n c, .int .i64 3, .slice B m d], .ro (ColsIn A n uCols), .ro (RwsIn B m l)]) (1, vKey 1, vKey 2))), (12, (VlsSlot (Mut None_ [.cst gt 40 #[.string nu, .slice A n c, .int .i64 3, .slice B m d], .ro (ColsIn A n uCols), .ro (RwsIn B m l)]) (vKey 2))), (13, (VlsSlot (Mut None_ [.cst gt 40 #[.string nu, .slice A n c, .int .i64 3, .slice B m d], .ro (ColsIn A n uCols), .ro (RwsIn B m l)]) (vKey 1))), (14, (PrSlot (Mut None_ [.cst gt 40 #[.string nu, .slice A n c, .int .i64 3, .slice B m d], .ro (ColsIn A n uCols), .ro (RwsIn B m l)]) (2, vKey 2, vKey 1))), (15, (PrsSlot (Mut None_ [.cst gt 40 #[.string nu, .slice A n c, .int .i64 3, .slice B m d], .ro (ColsIn A n uCols), .ro (RwsIn B m l)]) [(1, vKey 1, vKey 2), (2, vKey 2, vKey 1)])), (16, (ChgSlot (Mut None_ [.cst gt 40 #[.string nu, .slice A n c, .int .i64 3, .slice B m d], .ro (ColsIn A n uCols), .ro (RwsIn B m l)]) [] [] [(1, vKey 1, vKey 2), (2, vKey 2, vKey 1)])), (17, (ApSlot (Mut None_ [.cst gt 40 #[.string nu, .slice A n c, .int .i64 3, .slice B m d], .ro (ColsIn A n uCols), .ro (RwsIn B m l)]) (0, (⟨nu, uCols, 3, k7Rows⟩ : Tb)))), (7, (ApSlot (Mut None_ [.cst gt 40 #[.string nu, .slice A n c, .int .i64 3, .slice B m d], .ro (ColsIn A n uCols), .ro (RwsIn B m l)]) (0, (⟨nu, uCols, 3, k7Rows⟩ : Tb)))), (2, (NewSlot (Mut None_ [.cst gt 40 #[.string nu, .slice A n c, .int .i64 3, .slice B m d], .ro (ColsIn A n uCols), .ro (RwsIn B m l)]) Ha 40 #[.string ⟨#[]⟩, .slice none 0 0, .int .i64 0, .slice none 0 0]))]) (by kernel_rfl) (fun _ d _ _ _ h => by cases d <;> exact h) (by kernel_rfl) (by kernel_rfl) rfl ?_ (K2.drew) ?_
  · exact stays_cons vlsSlot_mono (stays_cons vlsSlot_mono (stays_cons prSlot_mono (stays_cons vlsSlot_mono (stays_cons vlsSlot_mono (stays_cons prSlot_mono (stays_cons prsSlot_mono (stays_cons chgSlot_mono (stays_cons apSlot_mono (stays_cons apSlot_mono (stays_cons newSlot_mono (stays_nil _)))))))))))
  simp only [List.take_succ_cons, List.take_zero, List.drop_succ_cons, List.drop_zero, Act.put, List.getElem_toArray, List.getElem_cons_zero, List.getElem_cons_succ, List.setIfInBounds_toArray, List.set_cons_succ, List.set_cons_zero]
  refine dw_val rfl rfl rfl ?_; apply Exists.intro; refine ⟨fun wv HC => ?_, ?_⟩
  · have FC := HC.facts; simp only [factsL, cellsF, Nat.reduceAdd, List.toList_toArray, and_true, true_and] at FC; go_simp <;> rfl
  simp only [Act.put, List.setIfInBounds_toArray, List.set_cons_succ, List.set_cons_zero]
  refine dw_callR 9 (VlsSlot (Mut None_ [.cst gt 40 #[.string nu, .slice A n c, .int .i64 3, .slice B m d], .ro (ColsIn A n uCols), .ro (RwsIn B m l)]) (vKey 1)) (f := 63) (args := #[.int .i64 1]) rfl rfl rfl rfl (fun wv => ?_) (fun wv HC hrm hD => ?_) ?_
  · go_simp <;> rfl
  · refine (keyed_any _ wv HC.mutLt 1).mono ?_
    rintro e w6 ⟨v, rfl, hv, b6⟩
    exact ⟨_, rfl, hv, HC.call b6, RM.below b6⟩
  rintro u wx HCx ⟨A9, n9, c9, rfl, -, -, -, -⟩
  clear HCx
  simp only [Act.put, List.setIfInBounds_toArray, List.set_cons_succ, List.set_cons_zero]
  refine dw_callR 10 (VlsSlot (Mut None_ [.cst gt 40 #[.string nu, .slice A n c, .int .i64 3, .slice B m d], .ro (ColsIn A n uCols), .ro (RwsIn B m l)]) (vKey 2)) (f := 63) (args := #[.int .i64 2]) rfl rfl rfl rfl (fun wv => ?_) (fun wv HC hrm hD => ?_) ?_
  · go_simp <;> rfl
  · refine (keyed_any _ wv HC.mutLt 2).mono ?_
    rintro e w6 ⟨v, rfl, hv, b6⟩
    exact ⟨_, rfl, hv, HC.call b6, RM.below b6⟩
  rintro u wx HCx ⟨A10, n10, c10, rfl, -, -, -, -⟩
  clear HCx
  simp only [Act.put, List.setIfInBounds_toArray, List.set_cons_succ, List.set_cons_zero]
  refine dw_valC 11 (PrSlot (Mut None_ [.cst gt 40 #[.string nu, .slice A n c, .int .i64 3, .slice B m d], .ro (ColsIn A n uCols), .ro (RwsIn B m l)]) (1, vKey 1, vKey 2)) rfl rfl rfl rfl (.agg #[.int .i64 1, .slice A9 n9 c9, .slice A10 n10 c10]) (fun wv HC => ?_) (fun wv HC hD => ?_) ?_
  · go_simp <;> rfl
  · have ha : VlsSlot (Mut None_ [.cst gt 40 #[.string nu, .slice A n c, .int .i64 3, .slice B m d], .ro (ColsIn A n uCols), .ro (RwsIn B m l)]) (vKey 1) (.slice A9 n9 c9) wv := deps_at hD 1 rfl (by kernel_rfl) rfl rfl
    have hb : VlsSlot (Mut None_ [.cst gt 40 #[.string nu, .slice A n c, .int .i64 3, .slice B m d], .ro (ColsIn A n uCols), .ro (RwsIn B m l)]) (vKey 2) (.slice A10 n10 c10) wv := deps_at hD 2 rfl (by kernel_rfl) rfl rfl
    exact prSlot_of (by unfold I64; omega) (vKey_ok (by unfold I64; omega)) (vKey_ok (by unfold I64; omega)) ha hb
  simp only [Act.put, List.setIfInBounds_toArray, List.set_cons_succ, List.set_cons_zero]
  refine dw_callR 12 (VlsSlot (Mut None_ [.cst gt 40 #[.string nu, .slice A n c, .int .i64 3, .slice B m d], .ro (ColsIn A n uCols), .ro (RwsIn B m l)]) (vKey 2)) (f := 63) (args := #[.int .i64 2]) rfl rfl rfl rfl (fun wv => ?_) (fun wv HC hrm hD => ?_) ?_
  · go_simp <;> rfl
  · refine (keyed_any _ wv HC.mutLt 2).mono ?_
    rintro e w6 ⟨v, rfl, hv, b6⟩
    exact ⟨_, rfl, hv, HC.call b6, RM.below b6⟩
  rintro u wx HCx ⟨A12, n12, c12, rfl, -, -, -, -⟩
  clear HCx
  simp only [Act.put, List.setIfInBounds_toArray, List.set_cons_succ, List.set_cons_zero]
  refine dw_callR 13 (VlsSlot (Mut None_ [.cst gt 40 #[.string nu, .slice A n c, .int .i64 3, .slice B m d], .ro (ColsIn A n uCols), .ro (RwsIn B m l)]) (vKey 1)) (f := 63) (args := #[.int .i64 1]) rfl rfl rfl rfl (fun wv => ?_) (fun wv HC hrm hD => ?_) ?_
  · go_simp <;> rfl
  · refine (keyed_any _ wv HC.mutLt 1).mono ?_
    rintro e w6 ⟨v, rfl, hv, b6⟩
    exact ⟨_, rfl, hv, HC.call b6, RM.below b6⟩
  rintro u wx HCx ⟨A13, n13, c13, rfl, -, -, -, -⟩
  clear HCx
  simp only [Act.put, List.setIfInBounds_toArray, List.set_cons_succ, List.set_cons_zero]
  refine dw_valC 14 (PrSlot (Mut None_ [.cst gt 40 #[.string nu, .slice A n c, .int .i64 3, .slice B m d], .ro (ColsIn A n uCols), .ro (RwsIn B m l)]) (2, vKey 2, vKey 1)) rfl rfl rfl rfl (.agg #[.int .i64 2, .slice A12 n12 c12, .slice A13 n13 c13]) (fun wv HC => ?_) (fun wv HC hD => ?_) ?_
  · go_simp <;> rfl
  · have ha : VlsSlot (Mut None_ [.cst gt 40 #[.string nu, .slice A n c, .int .i64 3, .slice B m d], .ro (ColsIn A n uCols), .ro (RwsIn B m l)]) (vKey 2) (.slice A12 n12 c12) wv := deps_at hD 4 rfl (by kernel_rfl) rfl rfl
    have hb : VlsSlot (Mut None_ [.cst gt 40 #[.string nu, .slice A n c, .int .i64 3, .slice B m d], .ro (ColsIn A n uCols), .ro (RwsIn B m l)]) (vKey 1) (.slice A13 n13 c13) wv := deps_at hD 5 rfl (by kernel_rfl) rfl rfl
    exact prSlot_of (by unfold I64; omega) (vKey_ok (by unfold I64; omega)) (vKey_ok (by unfold I64; omega)) ha hb
  simp only [Act.put, List.setIfInBounds_toArray, List.set_cons_succ, List.set_cons_zero]
  refine dw_new #[.int .i64 1, .slice A9 n9 c9, .slice A10 n10 c10, .int .i64 2, .slice A12 n12 c12, .slice A13 n13 c13] 99 15 (PrsSlot (Mut None_ [.cst gt 40 #[.string nu, .slice A n c, .int .i64 3, .slice B m d], .ro (ColsIn A n uCols), .ro (RwsIn B m l)]) [(1, vKey 1, vKey 2), (2, vKey 2, vKey 1)]) (fun g => .slice (some ⟨g, 0, none⟩) 2 2) rfl rfl rfl rfl (fun wv => ?_) (fun wv HC _hrm hD hro => ?_) ?_
  · go_simp <;> rfl
  · have hrr := RM.alloc (Mut None_ [.cst gt 40 #[.string nu, .slice A n c, .int .i64 3, .slice B m d], .ro (ColsIn A n uCols), .ro (RwsIn B m l)]) wv (.cells #[.int .i64 1, .slice A9 n9 c9, .slice A10 n10 c10, .int .i64 2, .slice A12 n12 c12, .slice A13 n13 c13] 99)
    have h0 : PrSlot (Mut None_ [.cst gt 40 #[.string nu, .slice A n c, .int .i64 3, .slice B m d], .ro (ColsIn A n uCols), .ro (RwsIn B m l)]) (1, vKey 1, vKey 2) (.agg #[.int .i64 1, .slice A9 n9 c9, .slice A10 n10 c10]) wv := deps_at hD 3 rfl (by kernel_rfl) rfl rfl
    have h1 : PrSlot (Mut None_ [.cst gt 40 #[.string nu, .slice A n c, .int .i64 3, .slice B m d], .ro (ColsIn A n uCols), .ro (RwsIn B m l)]) (2, vKey 2, vKey 1) (.agg #[.int .i64 2, .slice A12 n12 c12, .slice A13 n13 c13]) wv := deps_at hD 6 rfl (by kernel_rfl) rfl rfl
    replace h0 := prSlot_mono _ _ _ hrr h0
    replace h1 := prSlot_mono _ _ _ hrr h1
    exact prsSlot_two (hro _ HC.mutLt) (fun i j k i2 j2 k2 e1 e2 => by injection e1 with e1; injection e2 with e2; simp at e1 e2; obtain ⟨rfl, rfl, rfl⟩ := e1; obtain ⟨rfl, rfl, rfl⟩ := e2; rfl) h0 h1
  rintro g15 wg HCg hsl
  simp only [Act.put, List.setIfInBounds_toArray, List.set_cons_succ, List.set_cons_zero]
  clear hsl HCg
  refine dw_valC 16 (ChgSlot (Mut None_ [.cst gt 40 #[.string nu, .slice A n c, .int .i64 3, .slice B m d], .ro (ColsIn A n uCols), .ro (RwsIn B m l)]) [] [] [(1, vKey 1, vKey 2), (2, vKey 2, vKey 1)]) rfl rfl rfl rfl (.agg #[.slice none 0 0, .slice none 0 0, .slice (some ⟨g15, 0, none⟩) 2 2]) (fun wv HC => ?_) (fun wv HC hD => ?_) ?_
  · go_simp <;> rfl
  · have h0 : SlsSlot (Mut None_ [.cst gt 40 #[.string nu, .slice A n c, .int .i64 3, .slice B m d], .ro (ColsIn A n uCols), .ro (RwsIn B m l)]) [] (.slice none 0 0) wv := slsSlot_nil _
    have h1 : IsSlot (Mut None_ [.cst gt 40 #[.string nu, .slice A n c, .int .i64 3, .slice B m d], .ro (ColsIn A n uCols), .ro (RwsIn B m l)]) [] (.slice none 0 0) wv := isSlot_nil _
    have h2 : PrsSlot (Mut None_ [.cst gt 40 #[.string nu, .slice A n c, .int .i64 3, .slice B m d], .ro (ColsIn A n uCols), .ro (RwsIn B m l)]) [(1, vKey 1, vKey 2), (2, vKey 2, vKey 1)] (.slice (some ⟨g15, 0, none⟩) 2 2) wv := deps_at hD 7 rfl (by kernel_rfl) rfl rfl
    exact chgSlot_of h0 h1 h2
  simp only [Act.put, List.setIfInBounds_toArray, List.set_cons_succ, List.set_cons_zero]
  refine dw_callR 17 (ApSlot (Mut None_ [.cst gt 40 #[.string nu, .slice A n c, .int .i64 3, .slice B m d], .ro (ColsIn A n uCols), .ro (RwsIn B m l)]) (0, (⟨nu, uCols, 3, k7Rows⟩ : Tb))) (f := 62) (args := #[.agg #[.string nu, .slice A n c, .int .i64 3, .slice B m d], .agg #[.slice none 0 0, .slice none 0 0, .slice (some ⟨g15, 0, none⟩) 2 2]]) rfl rfl rfl rfl (fun wv => ?_) (fun wv HC hrm hD => ?_) ?_
  · go_simp <;> rfl
  · have hc : ChgSlot (Mut None_ [.cst gt 40 #[.string nu, .slice A n c, .int .i64 3, .slice B m d], .ro (ColsIn A n uCols), .ro (RwsIn B m l)]) [] [] [(1, vKey 1, vKey 2), (2, vKey 2, vKey 1)] (.agg #[.slice none 0 0, .slice none 0 0, .slice (some ⟨g15, 0, none⟩) 2 2]) wv := deps_at hD 8 rfl (by kernel_rfl) rfl rfl
    have hk := kapply_slot _ wv HC.mutLt _ _ ⟨nu, uCols, 3, pRows⟩ [] [] [(1, vKey 1, vKey 2), (2, vKey 2, vKey 1)] ⟨A, n, c, B, m, d, l, rfl, h1, h2, h3, h4, HC.ro 1 rfl, HC.ro 2 rfl, h7, h8⟩ hc HS.out.1 HS.out.2.1 (by show pRows.length ≤ _; decide) (by decide) (by decide) (by decide)
    rw [show applyC _ _ _ _ _ _ _ = _ from HK1.out] at hk
    refine hk.mono ?_
    rintro e w6 ⟨v, rfl, hv, b6⟩
    exact ⟨_, rfl, hv, HC.call b6, RM.below b6⟩
  rintro u wx HCx ⟨v, rfl, Aa, na, ca, Ba, ma, da, la, hv, -, -, -, -, -, -, -, -⟩
  obtain ⟨sa, xa, rfl⟩ : ∃ s x, v = .agg #[.string s, .slice Aa na ca, .int .i64 x, .slice Ba ma da] := ⟨_, _, hv⟩
  clear HCx hv
  simp only [Act.put, List.setIfInBounds_toArray, List.set_cons_succ, List.set_cons_zero]
  refine dw_valC 7 (ApSlot (Mut None_ [.cst gt 40 #[.string nu, .slice A n c, .int .i64 3, .slice B m d], .ro (ColsIn A n uCols), .ro (RwsIn B m l)]) (0, (⟨nu, uCols, 3, k7Rows⟩ : Tb))) rfl rfl rfl rfl (.tuple #[.agg #[.string sa, .slice Aa na ca, .int .i64 xa, .slice Ba ma da], .int .i64 0]) (fun wv HC => ?_) (fun wv HC hD => ?_) ?_
  · go_simp <;> rfl
  · exact deps_at hD 9 rfl (by kernel_rfl) rfl rfl
  simp only [Act.put, List.setIfInBounds_toArray, List.set_cons_succ, List.set_cons_zero]
  refine dw_val rfl rfl rfl ?_; apply Exists.intro; refine ⟨fun wv HC => ?_, ?_⟩
  ·  go_simp <;> rfl
  simp only [Act.put, List.setIfInBounds_toArray, List.set_cons_succ, List.set_cons_zero]
  refine dw_val rfl rfl rfl ?_; apply Exists.intro; refine ⟨fun wv HC => ?_, ?_⟩
  ·  go_simp <;> rfl
  simp only [Act.put, List.setIfInBounds_toArray, List.set_cons_succ, List.set_cons_zero]
  refine dw_new #[.string ⟨#[]⟩, .slice none 0 0, .int .i64 0, .slice none 0 0] 40 2 (NewSlot (Mut None_ [.cst gt 40 #[.string nu, .slice A n c, .int .i64 3, .slice B m d], .ro (ColsIn A n uCols), .ro (RwsIn B m l)]) Ha 40 #[.string ⟨#[]⟩, .slice none 0 0, .int .i64 0, .slice none 0 0]) (fun g => .pointer (some ⟨g, 0, none⟩)) rfl rfl rfl rfl (fun wv => ?_) (fun wv HC hrm hD hro => ?_) ?_
  · go_simp <;> rfl
  · exact ⟨_, rfl, by have := hrm.1; rw [HHa.out]; exact this, hro _ HC.mutLt⟩
  rintro ga wg HCg hsl
  simp only [Act.put, List.setIfInBounds_toArray, List.set_cons_succ, List.set_cons_zero]
  clear hsl HCg
  refine rel_nil ?_
  rintro wxa HX
  rintro _hrm HGW
  have hap : ApSlot (Mut None_ [.cst gt 40 #[.string nu, .slice A n c, .int .i64 3, .slice B m d], .ro (ColsIn A n uCols), .ro (RwsIn B m l)]) (0, (⟨nu, uCols, 3, k7Rows⟩ : Tb)) (.tuple #[.agg #[.string sa, .slice Aa na ca, .int .i64 xa, .slice Ba ma da], .int .i64 0]) wxa := (GW_on (d := 7) rfl).1 (HGW 10 _ rfl (by omega))
  have hns : NewSlot (Mut None_ [.cst gt 40 #[.string nu, .slice A n c, .int .i64 3, .slice B m d], .ro (ColsIn A n uCols), .ro (RwsIn B m l)]) Ha 40 #[.string ⟨#[]⟩, .slice none 0 0, .int .i64 0, .slice none 0 0] (.pointer (some ⟨ga, 0, none⟩)) wxa := (GW_on (d := 2) rfl).1 (HGW 13 _ rfl (by omega))
  clear HGW
  obtain ⟨g7, hg7, hgH, hgB⟩ := hns
  obtain rfl : ga = g7 := by injection hg7 with hg7; injection hg7 with hg7; injection hg7
  clear hg7
  rw [HHa.out] at hgH
  have HB := Hold.addFreshBlk K2.drew HX _hrm hgH hgB.now
  have hgn := hgB.now
  clear hgB hgH
  obtain ⟨v, hv, TT⟩ := hap
  obtain rfl : _ = v := by injection hv with hv; simpa using hv
  clear hv
  clear K2
  obtain ⟨A1, n1, c1, B1, m1, d1, l1, ev, -, -, -, -, -, q6, -, q8⟩ := TT
  have ev2 := ev.symm
  injection ev2 with ev2
  simp only [Array.mk.injEq, List.cons.injEq, Value.string.injEq, Value.slice.injEq, Value.int.injEq, and_true, true_and] at ev2
  obtain ⟨rfl, ⟨rfl, rfl, rfl⟩, rfl, rfl, rfl, rfl⟩ := ev2
  clear ev
  have HQ8 := hid q8
  have q9 : Ro wxa (Mut None_ (.blk ga 40 #[.string ⟨#[]⟩, .slice none 0 0, .int .i64 0, .slice none 0 0] :: [.cst gt 40 #[.string nu, .slice A n c, .int .i64 3, .slice B m d], .ro (ColsIn A n uCols), .ro (RwsIn B m l)])) (RwsIn B1 m1 l1) := (rows_apart q6 hgn (by rw [q8]; intro r hr; simp only [k7Rows, List.mem_cons, List.not_mem_nil, or_false] at hr; rcases hr with rfl | rfl <;> exact ⟨by decide, _, _, rfl, by decide⟩)).less (fun b hb => (mut_cons.1 hb).imp (fun e => by injection e with e; exact e.symm) id)
  clear hgn q6
  have K4 := ((((HB.add q9).store 1 rfl 0 (.string nu)).store 1 rfl 1 (.slice A1 n1 c1)).store 1 rfl 2 (.int .i64 3)).store 1 rfl 3 (.slice B1 m1 d1)
  have FB := HB.facts
  simp only [factsL, cellsF, Nat.reduceAdd, List.toList_toArray, and_true, true_and] at FB
  go_wp2_with fail
  generalize (((wxa.setCell _ _).setCell _ _).setCell _ _).setCell _ _ = w4 at K4 ⊢
  have K5 := K4.fix_ 1 rfl
  simp only [List.set_cons_zero, List.set_cons_succ, List.setIfInBounds_toArray] at K5
  clear K4 FB HB q9 HX _hrm HHa
  obtain ⟨Hb, hHb⟩ : ∃ H, H = w4.drew.heap.size := ⟨_, rfl⟩
  have HHb := hid hHb
  clear hHb
  refine wp_region_any (by kernel_rfl) ?_
  refine wpAny_holdE [7] 9 51 ([.ro (RwsIn B1 m1 l1), .cst ga 40 #[.string nu, .slice A1 n1 c1, .int .i64 3, .slice B1 m1 d1], .cst gt 40 #[.string nu, .slice A n c, .int .i64 3, .slice B m d], .ro (ColsIn A n uCols), .ro (RwsIn B m l)]) (spL [(22, (VlsSlot (Mut None_ [.ro (RwsIn B1 m1 l1), .cst ga 40 #[.string nu, .slice A1 n1 c1, .int .i64 3, .slice B1 m1 d1], .cst gt 40 #[.string nu, .slice A n c, .int .i64 3, .slice B m d], .ro (ColsIn A n uCols), .ro (RwsIn B m l)]) (vKey 2))), (23, (SlsSlot (Mut None_ [.ro (RwsIn B1 m1 l1), .cst ga 40 #[.string nu, .slice A1 n1 c1, .int .i64 3, .slice B1 m1 d1], .cst gt 40 #[.string nu, .slice A n c, .int .i64 3, .slice B m d], .ro (ColsIn A n uCols), .ro (RwsIn B m l)]) [vKey 2])), (24, (ChgSlot (Mut None_ [.ro (RwsIn B1 m1 l1), .cst ga 40 #[.string nu, .slice A1 n1 c1, .int .i64 3, .slice B1 m1 d1], .cst gt 40 #[.string nu, .slice A n c, .int .i64 3, .slice B m d], .ro (ColsIn A n uCols), .ro (RwsIn B m l)]) [vKey 2] [] [])), (25, (ApSlot (Mut None_ [.ro (RwsIn B1 m1 l1), .cst ga 40 #[.string nu, .slice A1 n1 c1, .int .i64 3, .slice B1 m1 d1], .cst gt 40 #[.string nu, .slice A n c, .int .i64 3, .slice B m d], .ro (ColsIn A n uCols), .ro (RwsIn B m l)]) (9, zeroT))), (20, (ApSlot (Mut None_ [.ro (RwsIn B1 m1 l1), .cst ga 40 #[.string nu, .slice A1 n1 c1, .int .i64 3, .slice B1 m1 d1], .cst gt 40 #[.string nu, .slice A n c, .int .i64 3, .slice B m d], .ro (ColsIn A n uCols), .ro (RwsIn B m l)]) (9, zeroT))), (4, (NewSlot (Mut None_ [.ro (RwsIn B1 m1 l1), .cst ga 40 #[.string nu, .slice A1 n1 c1, .int .i64 3, .slice B1 m1 d1], .cst gt 40 #[.string nu, .slice A n c, .int .i64 3, .slice B m d], .ro (ColsIn A n uCols), .ro (RwsIn B m l)]) Hb 40 #[.string ⟨#[]⟩, .slice none 0 0, .int .i64 0, .slice none 0 0]))]) (by kernel_rfl) (fun _ d _ _ _ h => by cases d <;> exact h) (by kernel_rfl) (by kernel_rfl) rfl ?_ (K5.drew) ?_
  · exact stays_cons vlsSlot_mono (stays_cons slsSlot_mono (stays_cons chgSlot_mono (stays_cons apSlot_mono (stays_cons apSlot_mono (stays_cons newSlot_mono (stays_nil _))))))
  simp only [List.take_succ_cons, List.take_zero, List.drop_succ_cons, List.drop_zero, Act.put, List.getElem_toArray, List.getElem_cons_zero, List.getElem_cons_succ, List.setIfInBounds_toArray, List.set_cons_succ, List.set_cons_zero]
  refine dw_val rfl rfl rfl ?_; apply Exists.intro; refine ⟨fun wv HC => ?_, ?_⟩
  · have FC := HC.facts; simp only [factsL, cellsF, Nat.reduceAdd, List.toList_toArray, and_true, true_and] at FC; go_simp <;> rfl
  simp only [Act.put, List.setIfInBounds_toArray, List.set_cons_succ, List.set_cons_zero]
  refine dw_callR 22 (VlsSlot (Mut None_ [.ro (RwsIn B1 m1 l1), .cst ga 40 #[.string nu, .slice A1 n1 c1, .int .i64 3, .slice B1 m1 d1], .cst gt 40 #[.string nu, .slice A n c, .int .i64 3, .slice B m d], .ro (ColsIn A n uCols), .ro (RwsIn B m l)]) (vKey 2)) (f := 63) (args := #[.int .i64 2]) rfl rfl rfl rfl (fun wv => ?_) (fun wv HC hrm hD => ?_) ?_
  · go_simp <;> rfl
  · refine (keyed_any _ wv HC.mutLt 2).mono ?_
    rintro e w6 ⟨v, rfl, hv, b6⟩
    exact ⟨_, rfl, hv, HC.call b6, RM.below b6⟩
  rintro u wx HCx ⟨A22, n22, c22, rfl, -, -, -, -⟩
  clear HCx
  simp only [Act.put, List.setIfInBounds_toArray, List.set_cons_succ, List.set_cons_zero]
  refine dw_new #[.slice A22 n22 c22] 27 23 (SlsSlot (Mut None_ [.ro (RwsIn B1 m1 l1), .cst ga 40 #[.string nu, .slice A1 n1 c1, .int .i64 3, .slice B1 m1 d1], .cst gt 40 #[.string nu, .slice A n c, .int .i64 3, .slice B m d], .ro (ColsIn A n uCols), .ro (RwsIn B m l)]) [vKey 2]) (fun g => .slice (some ⟨g, 0, none⟩) 1 1) rfl rfl rfl rfl (fun wv => ?_) (fun wv HC _hrm hD hro => ?_) ?_
  · go_simp <;> rfl
  · have h0 : VlsSlot (Mut None_ [.ro (RwsIn B1 m1 l1), .cst ga 40 #[.string nu, .slice A1 n1 c1, .int .i64 3, .slice B1 m1 d1], .cst gt 40 #[.string nu, .slice A n c, .int .i64 3, .slice B m d], .ro (ColsIn A n uCols), .ro (RwsIn B m l)]) (vKey 2) (.slice A22 n22 c22) wv := deps_at hD 1 rfl (by kernel_rfl) rfl rfl
    exact slsSlot_one (hro _ HC.mutLt) (vKey_ok (by unfold I64; omega)) (vlsSlot_mono _ _ _ (RM.alloc (Mut None_ [.ro (RwsIn B1 m1 l1), .cst ga 40 #[.string nu, .slice A1 n1 c1, .int .i64 3, .slice B1 m1 d1], .cst gt 40 #[.string nu, .slice A n c, .int .i64 3, .slice B m d], .ro (ColsIn A n uCols), .ro (RwsIn B m l)]) wv _) h0)
  rintro g23 wg HCg hsl
  simp only [Act.put, List.setIfInBounds_toArray, List.set_cons_succ, List.set_cons_zero]
  clear hsl HCg
  refine dw_valC 24 (ChgSlot (Mut None_ [.ro (RwsIn B1 m1 l1), .cst ga 40 #[.string nu, .slice A1 n1 c1, .int .i64 3, .slice B1 m1 d1], .cst gt 40 #[.string nu, .slice A n c, .int .i64 3, .slice B m d], .ro (ColsIn A n uCols), .ro (RwsIn B m l)]) [vKey 2] [] []) rfl rfl rfl rfl (.agg #[.slice (some ⟨g23, 0, none⟩) 1 1, .slice none 0 0, .slice none 0 0]) (fun wv HC => ?_) (fun wv HC hD => ?_) ?_
  · go_simp <;> rfl
  · have h0 : SlsSlot (Mut None_ [.ro (RwsIn B1 m1 l1), .cst ga 40 #[.string nu, .slice A1 n1 c1, .int .i64 3, .slice B1 m1 d1], .cst gt 40 #[.string nu, .slice A n c, .int .i64 3, .slice B m d], .ro (ColsIn A n uCols), .ro (RwsIn B m l)]) [vKey 2] (.slice (some ⟨g23, 0, none⟩) 1 1) wv := deps_at hD 2 rfl (by kernel_rfl) rfl rfl
    have h1 : IsSlot (Mut None_ [.ro (RwsIn B1 m1 l1), .cst ga 40 #[.string nu, .slice A1 n1 c1, .int .i64 3, .slice B1 m1 d1], .cst gt 40 #[.string nu, .slice A n c, .int .i64 3, .slice B m d], .ro (ColsIn A n uCols), .ro (RwsIn B m l)]) [] (.slice none 0 0) wv := isSlot_nil _
    have h2 : PrsSlot (Mut None_ [.ro (RwsIn B1 m1 l1), .cst ga 40 #[.string nu, .slice A1 n1 c1, .int .i64 3, .slice B1 m1 d1], .cst gt 40 #[.string nu, .slice A n c, .int .i64 3, .slice B m d], .ro (ColsIn A n uCols), .ro (RwsIn B m l)]) [] (.slice none 0 0) wv := prsSlot_nil _
    exact chgSlot_of h0 h1 h2
  simp only [Act.put, List.setIfInBounds_toArray, List.set_cons_succ, List.set_cons_zero]
  refine dw_callR 25 (ApSlot (Mut None_ [.ro (RwsIn B1 m1 l1), .cst ga 40 #[.string nu, .slice A1 n1 c1, .int .i64 3, .slice B1 m1 d1], .cst gt 40 #[.string nu, .slice A n c, .int .i64 3, .slice B m d], .ro (ColsIn A n uCols), .ro (RwsIn B m l)]) (9, zeroT)) (f := 62) (args := #[.agg #[.string nu, .slice A n c, .int .i64 3, .slice B m d], .agg #[.slice (some ⟨g23, 0, none⟩) 1 1, .slice none 0 0, .slice none 0 0]]) rfl rfl rfl rfl (fun wv => ?_) (fun wv HC hrm hD => ?_) ?_
  · go_simp <;> rfl
  · have hc : ChgSlot (Mut None_ [.ro (RwsIn B1 m1 l1), .cst ga 40 #[.string nu, .slice A1 n1 c1, .int .i64 3, .slice B1 m1 d1], .cst gt 40 #[.string nu, .slice A n c, .int .i64 3, .slice B m d], .ro (ColsIn A n uCols), .ro (RwsIn B m l)]) [vKey 2] [] [] (.agg #[.slice (some ⟨g23, 0, none⟩) 1 1, .slice none 0 0, .slice none 0 0]) wv := deps_at hD 3 rfl (by kernel_rfl) rfl rfl
    have hk := kapply_slot _ wv HC.mutLt _ _ ⟨nu, uCols, 3, pRows⟩ [vKey 2] [] [] ⟨A, n, c, B, m, d, l, rfl, h1, h2, h3, h4, HC.ro 3 rfl, HC.ro 4 rfl, h7, h8⟩ hc HS.out.1 HS.out.2.1 (by show pRows.length ≤ _; decide) (by decide) (by decide) (by decide)
    rw [show applyC _ _ _ _ _ _ _ = _ from HK2.out] at hk
    refine hk.mono ?_
    rintro e w6 ⟨v, rfl, hv, b6⟩
    exact ⟨_, rfl, hv, HC.call b6, RM.below b6⟩
  rintro u wx HCx ⟨v, rfl, Ab, nb, cb, Bb, mb, db, lb, hv, -, -, -, -, -, -, -, -⟩
  obtain ⟨sb, xb, rfl⟩ : ∃ s x, v = .agg #[.string s, .slice Ab nb cb, .int .i64 x, .slice Bb mb db] := ⟨_, _, hv⟩
  clear HCx hv
  simp only [Act.put, List.setIfInBounds_toArray, List.set_cons_succ, List.set_cons_zero]
  refine dw_valC 20 (ApSlot (Mut None_ [.ro (RwsIn B1 m1 l1), .cst ga 40 #[.string nu, .slice A1 n1 c1, .int .i64 3, .slice B1 m1 d1], .cst gt 40 #[.string nu, .slice A n c, .int .i64 3, .slice B m d], .ro (ColsIn A n uCols), .ro (RwsIn B m l)]) (9, zeroT)) rfl rfl rfl rfl (.tuple #[.agg #[.string sb, .slice Ab nb cb, .int .i64 xb, .slice Bb mb db], .int .i64 9]) (fun wv HC => ?_) (fun wv HC hD => ?_) ?_
  · go_simp <;> rfl
  · exact deps_at hD 4 rfl (by kernel_rfl) rfl rfl
  simp only [Act.put, List.setIfInBounds_toArray, List.set_cons_succ, List.set_cons_zero]
  refine dw_val rfl rfl rfl ?_; apply Exists.intro; refine ⟨fun wv HC => ?_, ?_⟩
  ·  go_simp <;> rfl
  simp only [Act.put, List.setIfInBounds_toArray, List.set_cons_succ, List.set_cons_zero]
  refine dw_val rfl rfl rfl ?_; apply Exists.intro; refine ⟨fun wv HC => ?_, ?_⟩
  ·  go_simp <;> rfl
  simp only [Act.put, List.setIfInBounds_toArray, List.set_cons_succ, List.set_cons_zero]
  refine dw_new #[.string ⟨#[]⟩, .slice none 0 0, .int .i64 0, .slice none 0 0] 40 4 (NewSlot (Mut None_ [.ro (RwsIn B1 m1 l1), .cst ga 40 #[.string nu, .slice A1 n1 c1, .int .i64 3, .slice B1 m1 d1], .cst gt 40 #[.string nu, .slice A n c, .int .i64 3, .slice B m d], .ro (ColsIn A n uCols), .ro (RwsIn B m l)]) Hb 40 #[.string ⟨#[]⟩, .slice none 0 0, .int .i64 0, .slice none 0 0]) (fun g => .pointer (some ⟨g, 0, none⟩)) rfl rfl rfl rfl (fun wv => ?_) (fun wv HC hrm hD hro => ?_) ?_
  · go_simp <;> rfl
  · exact ⟨_, rfl, by have := hrm.1; rw [HHb.out]; exact this, hro _ HC.mutLt⟩
  rintro gb wg HCg hsl
  simp only [Act.put, List.setIfInBounds_toArray, List.set_cons_succ, List.set_cons_zero]
  clear hsl HCg
  refine rel_nil ?_
  rintro wxb HX
  rintro _hrm HGW
  have hap : ApSlot (Mut None_ [.ro (RwsIn B1 m1 l1), .cst ga 40 #[.string nu, .slice A1 n1 c1, .int .i64 3, .slice B1 m1 d1], .cst gt 40 #[.string nu, .slice A n c, .int .i64 3, .slice B m d], .ro (ColsIn A n uCols), .ro (RwsIn B m l)]) (9, zeroT) (.tuple #[.agg #[.string sb, .slice Ab nb cb, .int .i64 xb, .slice Bb mb db], .int .i64 9]) wxb := (GW_on (d := 20) rfl).1 (HGW 5 _ rfl (by omega))
  have hns : NewSlot (Mut None_ [.ro (RwsIn B1 m1 l1), .cst ga 40 #[.string nu, .slice A1 n1 c1, .int .i64 3, .slice B1 m1 d1], .cst gt 40 #[.string nu, .slice A n c, .int .i64 3, .slice B m d], .ro (ColsIn A n uCols), .ro (RwsIn B m l)]) Hb 40 #[.string ⟨#[]⟩, .slice none 0 0, .int .i64 0, .slice none 0 0] (.pointer (some ⟨gb, 0, none⟩)) wxb := (GW_on (d := 4) rfl).1 (HGW 8 _ rfl (by omega))
  clear HGW
  obtain ⟨g7, hg7, hgH, hgB⟩ := hns
  obtain rfl : gb = g7 := by injection hg7 with hg7; injection hg7 with hg7; injection hg7
  clear hg7
  rw [HHb.out] at hgH
  have HB := Hold.addFreshBlk K5.drew HX _hrm hgH hgB.now
  have hgn := hgB.now
  clear hgB hgH
  obtain ⟨v, hv, TT⟩ := hap
  obtain rfl : _ = v := by injection hv with hv; simpa using hv
  clear hv
  clear K5
  obtain ⟨A2, n2, c2, B2, m2, d2, l2, ev, -, -, -, -, -, -, -, -⟩ := TT
  have ev2 := ev.symm
  simp only [zeroT] at ev2
  injection ev2 with ev2
  simp only [Array.mk.injEq, List.cons.injEq, Value.string.injEq, Value.slice.injEq, Value.int.injEq, and_true, true_and] at ev2
  obtain ⟨rfl, ⟨rfl, rfl, rfl⟩, rfl, rfl, rfl, rfl⟩ := ev2
  clear ev hgn
  have K6 := (((HB.store 0 rfl 0 (.string ⟨#[]⟩)).store 0 rfl 1 (.slice A2 n2 c2)).store 0 rfl 2 (.int .i64 0)).store 0 rfl 3 (.slice B2 m2 d2)
  have FB := HB.facts
  simp only [factsL, cellsF, Nat.reduceAdd, List.toList_toArray, and_true, true_and] at FB
  go_wp2_with fail
  generalize (((wxb.setCell _ _).setCell _ _).setCell _ _).setCell _ _ = w5 at K6 ⊢
  simp only [List.set_cons_zero, List.set_cons_succ, List.setIfInBounds_toArray] at K6
  clear FB HB HX _hrm HHb
  obtain ⟨r1, r2, rfl, e1, e2⟩ : ∃ r1 r2 : Rw, l1 = [r1, r2] ∧ r1.row = (1, vKey 2) ∧ r2.row = (2, vKey 1) := by
    cases l1 with
    | nil => simp [k7Rows] at q8
    | cons r1 l1 => cases l1 with
      | nil => simp [k7Rows] at q8
      | cons r2 l1 => cases l1 with
        | nil => simp [k7Rows] at q8; exact ⟨r1, r2, rfl, q8.1, q8.2⟩
        | cons r3 l1 => simp [k7Rows] at q8
  obtain rfl : 2 = m1 := (K6.ro 1 rfl).now.len
  obtain ⟨b1, o1, rfl, x1, x2⟩ := (K6.ro 1 rfl).rwsAt (k := 0) (x := r1) rfl
  have e3 : r1.vs = vKey 2 := (Prod.mk.inj e1).2
  rw [e3] at x2
  obtain ⟨b2, o2, ha2, x3⟩ := x2.vlsAt (k := 0) (x := vNum 2) rfl
  rw [ha2] at x1
  simp only [Nat.zero_mul, Nat.add_zero] at x1 x3
  have x4 := (K6.ro 1 rfl).imp (fun w h => h.1)
  obtain ⟨n3, hn3⟩ : ∃ n3, n3 = r1.n := ⟨_, rfl⟩
  have hn3p : n3 = 3 := by have := x2.now.len; rw [hn3, ← this]; rfl
  rw [← hn3] at x1
  obtain rfl := hn3p
  clear hn3
  generalize r1.c = c3 at x1
  have K7 := (K6.add x1).add (x3.less (fun b hb => (mut_cons.1 hb).resolve_left (fun h => nomatch h)))
  obtain ⟨KL, hKL, K8⟩ := K7.name
  clear K7
  have HF : Hid (∀ wv, Hold None_ none w wv KL → (wv.cell? ⟨ga, 3, none⟩ = some (.slice (some ⟨b1, o1, none⟩) 2 d1) ∧ ga < wv.heap.size) ∧ (b1 < wv.heap.size ∧ wv.cell? ⟨b1, o1 + 1, none⟩ = some (.slice (some ⟨b2, o2, none⟩) 3 c3)) ∧ b2 < wv.heap.size ∧ wv.cell? ⟨b2, o2, none⟩ = some (.int .i64 1) ∧ wv.cell? ⟨b2, o2 + 1, none⟩ = some (.int .i64 2) ∧ wv.cell? ⟨b2, o2 + 2, none⟩ = some (.string ⟨#[]⟩)) := hid fun wv HC => by
    rw [hKL] at HC
    have y1 := HC.cst_ 4 rfl
    have y2 := (HC.ro 1 rfl).now
    have y3 := (HC.ro 0 rfl).now
    exact ⟨⟨cell_of_row _ _ 3 _ _ _ y1, Blk.lt y1⟩, ⟨y2.1, y2.2.2⟩, y3⟩
  have HKL := hid hKL
  clear hKL x1 x3 x4 K6
  refine wp_region_any (by kernel_rfl) ?_
  refine wpAny_hold 24 51 (KL) (spL [(48, IsV (.agg #[.int .i64 1, .int .i64 2, .string ⟨#[]⟩]))]) (by kernel_rfl) (by kernel_rfl) (by kernel_rfl) rfl ?_ (K8.drew) ?_
  · exact stays_cons isV_mono (stays_nil _)
  simp only [List.take_succ_cons, List.take_zero, List.drop_succ_cons, List.drop_zero, Act.put, List.getElem_toArray, List.getElem_cons_zero, List.getElem_cons_succ, List.setIfInBounds_toArray, List.set_cons_succ, List.set_cons_zero]
  refine dw_val rfl rfl rfl ?_; apply Exists.intro; refine ⟨fun wv HC => ?_, ?_⟩
  · obtain ⟨⟨f0, f1⟩, ⟨f2, f3⟩, f4, f5, f6, f7⟩ := HF.out _ HC; go_simp <;> rfl
  simp only [Act.put, List.setIfInBounds_toArray, List.set_cons_succ, List.set_cons_zero]
  refine dw_val rfl rfl rfl ?_; apply Exists.intro; refine ⟨fun wv HC => ?_, ?_⟩
  · obtain ⟨⟨f0, f1⟩, ⟨f2, f3⟩, f4, f5, f6, f7⟩ := HF.out _ HC; go_simp <;> rfl
  simp only [Act.put, List.setIfInBounds_toArray, List.set_cons_succ, List.set_cons_zero]
  refine dw_val rfl rfl rfl ?_; apply Exists.intro; refine ⟨fun wv HC => ?_, ?_⟩
  · obtain ⟨⟨f0, f1⟩, ⟨f2, f3⟩, f4, f5, f6, f7⟩ := HF.out _ HC; go_simp <;> rfl
  simp only [Act.put, List.setIfInBounds_toArray, List.set_cons_succ, List.set_cons_zero]
  refine dw_val rfl rfl rfl ?_; apply Exists.intro; refine ⟨fun wv HC => ?_, ?_⟩
  · obtain ⟨⟨f0, f1⟩, ⟨f2, f3⟩, f4, f5, f6, f7⟩ := HF.out _ HC; go_simp <;> rfl
  simp only [Act.put, List.setIfInBounds_toArray, List.set_cons_succ, List.set_cons_zero]
  refine dw_val rfl rfl rfl ?_; apply Exists.intro; refine ⟨fun wv HC => ?_, ?_⟩
  · obtain ⟨⟨f0, f1⟩, ⟨f2, f3⟩, f4, f5, f6, f7⟩ := HF.out _ HC; go_simp <;> rfl
  simp only [Act.put, List.setIfInBounds_toArray, List.set_cons_succ, List.set_cons_zero]
  refine dw_val rfl rfl rfl ?_; apply Exists.intro; refine ⟨fun wv HC => ?_, ?_⟩
  · obtain ⟨⟨f0, f1⟩, ⟨f2, f3⟩, f4, f5, f6, f7⟩ := HF.out _ HC; go_simp <;> rfl
  simp only [Act.put, List.setIfInBounds_toArray, List.set_cons_succ, List.set_cons_zero]
  refine dw_val rfl rfl rfl ?_; apply Exists.intro; refine ⟨fun wv HC => ?_, ?_⟩
  · obtain ⟨⟨f0, f1⟩, ⟨f2, f3⟩, f4, f5, f6, f7⟩ := HF.out _ HC; go_simp <;> rfl
  simp only [Act.put, List.setIfInBounds_toArray, List.set_cons_succ, List.set_cons_zero]
  refine dw_val rfl rfl rfl ?_; apply Exists.intro; refine ⟨fun wv HC => ?_, ?_⟩
  · obtain ⟨⟨f0, f1⟩, ⟨f2, f3⟩, f4, f5, f6, f7⟩ := HF.out _ HC; go_simp <;> rfl
  simp only [Act.put, List.setIfInBounds_toArray, List.set_cons_succ, List.set_cons_zero]
  refine dw_val rfl rfl rfl ?_; apply Exists.intro; refine ⟨fun wv HC => ?_, ?_⟩
  · obtain ⟨⟨f0, f1⟩, ⟨f2, f3⟩, f4, f5, f6, f7⟩ := HF.out _ HC; go_simp <;> rfl
  simp only [Act.put, List.setIfInBounds_toArray, List.set_cons_succ, List.set_cons_zero]
  refine dw_val rfl rfl rfl ?_; apply Exists.intro; refine ⟨fun wv HC => ?_, ?_⟩
  · obtain ⟨⟨f0, f1⟩, ⟨f2, f3⟩, f4, f5, f6, f7⟩ := HF.out _ HC; go_simp <;> rfl
  simp only [Act.put, List.setIfInBounds_toArray, List.set_cons_succ, List.set_cons_zero]
  refine dw_val rfl rfl rfl ?_; apply Exists.intro; refine ⟨fun wv HC => ?_, ?_⟩
  · obtain ⟨⟨f0, f1⟩, ⟨f2, f3⟩, f4, f5, f6, f7⟩ := HF.out _ HC; go_simp <;> rfl
  simp only [Act.put, List.setIfInBounds_toArray, List.set_cons_succ, List.set_cons_zero]
  refine dw_val rfl rfl rfl ?_; apply Exists.intro; refine ⟨fun wv HC => ?_, ?_⟩
  · obtain ⟨⟨f0, f1⟩, ⟨f2, f3⟩, f4, f5, f6, f7⟩ := HF.out _ HC; go_simp <;> rfl
  simp only [Act.put, List.setIfInBounds_toArray, List.set_cons_succ, List.set_cons_zero]
  refine dw_val rfl rfl rfl ?_; apply Exists.intro; refine ⟨fun wv HC => ?_, ?_⟩
  · obtain ⟨⟨f0, f1⟩, ⟨f2, f3⟩, f4, f5, f6, f7⟩ := HF.out _ HC; go_simp <;> rfl
  simp only [Act.put, List.setIfInBounds_toArray, List.set_cons_succ, List.set_cons_zero]
  refine dw_val rfl rfl rfl ?_; apply Exists.intro; refine ⟨fun wv HC => ?_, ?_⟩
  · obtain ⟨⟨f0, f1⟩, ⟨f2, f3⟩, f4, f5, f6, f7⟩ := HF.out _ HC; go_simp <;> rfl
  simp only [Act.put, List.setIfInBounds_toArray, List.set_cons_succ, List.set_cons_zero]
  refine dw_val rfl rfl rfl ?_; apply Exists.intro; refine ⟨fun wv HC => ?_, ?_⟩
  · obtain ⟨⟨f0, f1⟩, ⟨f2, f3⟩, f4, f5, f6, f7⟩ := HF.out _ HC; go_simp <;> rfl
  simp only [Act.put, List.setIfInBounds_toArray, List.set_cons_succ, List.set_cons_zero]
  refine dw_val rfl rfl rfl ?_; apply Exists.intro; refine ⟨fun wv HC => ?_, ?_⟩
  · obtain ⟨⟨f0, f1⟩, ⟨f2, f3⟩, f4, f5, f6, f7⟩ := HF.out _ HC; go_simp <;> rfl
  simp only [Act.put, List.setIfInBounds_toArray, List.set_cons_succ, List.set_cons_zero]
  refine dw_val rfl rfl rfl ?_; apply Exists.intro; refine ⟨fun wv HC => ?_, ?_⟩
  · obtain ⟨⟨f0, f1⟩, ⟨f2, f3⟩, f4, f5, f6, f7⟩ := HF.out _ HC; go_simp <;> rfl
  simp only [Act.put, List.setIfInBounds_toArray, List.set_cons_succ, List.set_cons_zero]
  refine dw_val rfl rfl rfl ?_; apply Exists.intro; refine ⟨fun wv HC => ?_, ?_⟩
  · obtain ⟨⟨f0, f1⟩, ⟨f2, f3⟩, f4, f5, f6, f7⟩ := HF.out _ HC; go_simp <;> rfl
  simp only [Act.put, List.setIfInBounds_toArray, List.set_cons_succ, List.set_cons_zero]
  refine dw_val rfl rfl rfl ?_; apply Exists.intro; refine ⟨fun wv HC => ?_, ?_⟩
  · obtain ⟨⟨f0, f1⟩, ⟨f2, f3⟩, f4, f5, f6, f7⟩ := HF.out _ HC; go_simp <;> rfl
  simp only [Act.put, List.setIfInBounds_toArray, List.set_cons_succ, List.set_cons_zero]
  refine dw_val rfl rfl rfl ?_; apply Exists.intro; refine ⟨fun wv HC => ?_, ?_⟩
  · obtain ⟨⟨f0, f1⟩, ⟨f2, f3⟩, f4, f5, f6, f7⟩ := HF.out _ HC; go_simp <;> rfl
  simp only [Act.put, List.setIfInBounds_toArray, List.set_cons_succ, List.set_cons_zero]
  refine dw_callR 48 (IsV (.agg #[.int .i64 1, .int .i64 2, .string ⟨#[]⟩])) (f := 39) (args := #[.int .i64 2]) rfl rfl rfl rfl (fun wv => ?_) (fun wv HC hrm hD => ?_) ?_
  · go_simp <;> rfl
  · refine (num_any 2 wv).mono ?_
    rintro e w6 ⟨rfl, b6⟩
    exact ⟨_, rfl, rfl, HC.call b6, RM.below b6⟩
  rintro u wx HCx hu
  obtain rfl : u = _ := hu
  clear HCx
  simp only [Act.put, List.setIfInBounds_toArray, List.set_cons_succ, List.set_cons_zero]
  refine dw_val rfl rfl rfl ?_; apply Exists.intro; refine ⟨fun wv HC => ?_, ?_⟩
  ·  go_simp <;> rfl
  simp only [Act.put, List.setIfInBounds_toArray, List.set_cons_succ, List.set_cons_zero]
  refine dw_val rfl rfl rfl ?_; apply Exists.intro; refine ⟨fun wv HC => ?_, ?_⟩
  ·  go_simp <;> rfl
  simp only [Act.put, List.setIfInBounds_toArray, List.set_cons_succ, List.set_cons_zero]
  refine dw_val rfl rfl rfl ?_; apply Exists.intro; refine ⟨fun wv HC => ?_, ?_⟩
  ·  go_simp <;> rfl
  simp only [Act.put, List.setIfInBounds_toArray, List.set_cons_succ, List.set_cons_zero]
  refine rel_nil ?_
  rintro wx9 HX9
  rintro _hrm _HG
  go_wp2_with fail
  go_ret
  exact ⟨by first | rfl | simp, HX9.below⟩
end Go.Proofs.YtljmclbedpceoaaDoor

namespace Go.Proofs.YtljmclbedpceoaaDoor
open Go.RowKit
set_option linter.unusedVariables false
set_option linter.unusedSimpArgs false

theorem wantR_prop {P : List Vl → Prop} : ∀ {us : List Upd} {id : Int} {v : List Vl}, P v → (∀ u ∈ us, P u.2.2) → P (wantR us id v)
  | [], _, _, h, _ => h
  | u :: us, id, v, h, k => by
    rw [wantR_cons]
    refine wantR_prop ?_ fun x hx => k x (List.mem_cons_of_mem _ hx)
    split
    · exact k u (List.mem_cons_self ..)
    · exact h
theorem ApOk.rfits {nm : ByteArray} {cs : List Col} {nx : Int} {rs : List Row} {ins : List (List Vl)} {dels : List Int} {us : List Upd} {T : Tb} (h : ApOk nm cs nx rs ins dels us T) : ∀ r ∈ T.rs, fitsT cs r.2 = 0 := fun r hr => by
  rw [h.tb] at hr
  have hr : r ∈ keepR dels us rs ++ insR nx ins := hr
  rcases List.mem_append.1 hr with hr | hr
  · obtain ⟨y, hy, rfl⟩ := List.mem_map.1 hr
    exact wantR_prop (P := fun v => fitsT cs v = 0) (okR_fits (tabB_ok h.tab).2.2.2.2.1 y (List.mem_filter.1 hy).1) h.fits.1
  · unfold insR at hr
    obtain ⟨p, hp, rfl⟩ := List.mem_map.1 hr
    exact h.fits.2 _ (List.fst_mem_of_mem_zipIdx hp)
end Go.Proofs.YtljmclbedpceoaaDoor

namespace Go.Proofs.YtljmclbedpceoaaDoor
open Go.RowKit
set_option linter.unusedVariables false
set_option linter.unusedSimpArgs false

theorem okR_of {cs : List Col} {nx : Int} : ∀ {rs : List Row} {lst : Int}, (rs.map (·.1)).Pairwise (· < ·) → (∀ r ∈ rs, lst < r.1 ∧ r.1 < nx ∧ fitsT cs r.2 = 0) → okR cs nx lst rs = true
  | [], _, _, _ => rfl
  | r :: rs, lst, h, k => by
    obtain ⟨h1, h2⟩ := List.pairwise_cons.1 h
    obtain ⟨k1, k2, k3⟩ := k r (List.mem_cons_self ..)
    rw [okR]
    simp only [k1, k2, k3, decide_true, Bool.true_and]
    exact okR_of h2 fun x hx => ⟨h1 x.1 (List.mem_map_of_mem (f := fun x : Row => x.1) hx), (k x (List.mem_cons_of_mem _ hx)).2⟩
theorem zipK_asc {α : Type} {nx : Int} : ∀ (l : List α) (k : Nat), (((l.zipIdx k).map fun p => (nx + (p.2 : Int), p.1)).map (·.1)).Pairwise (· < ·) ∧ ∀ r ∈ (l.zipIdx k).map fun p => (nx + (p.2 : Int), p.1), nx + (k : Int) ≤ r.1 ∧ r.1 < nx + (k : Int) + l.length
  | [], k => ⟨List.Pairwise.nil, fun _ h => nomatch h⟩
  | x :: l, k => by
    obtain ⟨h1, h2⟩ := zipK_asc (nx := nx) l (k + 1)
    rw [List.zipIdx_cons, List.map_cons, List.map_cons]
    refine ⟨List.pairwise_cons.2 ⟨fun a ha => ?_, h1⟩, fun r hr => ?_⟩
    · obtain ⟨r, hr, rfl⟩ := List.mem_map.1 ha
      have h3 := (h2 r hr).1
      show nx + (k : Int) < r.1
      omega
    · rcases List.mem_cons.1 hr with rfl | hr
      · simp only [List.length_cons]
        refine ⟨Int.le_refl _, ?_⟩
        show nx + (k : Int) < _
        omega
      · have h3 := h2 r hr
        simp only [List.length_cons]
        omega
theorem ApOk.tab2 {nm : ByteArray} {cs : List Col} {nx : Int} {rs : List Row} {ins : List (List Vl)} {dels : List Int} {us : List Upd} {T : Tb} (h : ApOk nm cs nx rs ins dels us T) : tabB T.nm T.cs T.nx T.rs = true := by
  have hl := h.len
  have hf := h.rfits
  obtain ⟨h1, h2, h3, h4, h5, h6⟩ := tabB_ok h.tab
  have hlim := h.lim
  have hnl := h.nlim
  have hd := h.dup
  have ha := h.asc2
  obtain ⟨z1, z2⟩ := zipK_asc (nx := nx) ins 0
  have hT := h.tb
  subst hT
  have hlow : ∀ r ∈ keepR dels us rs, 0 < r.1 ∧ r.1 < nx := fun r hr => by
    obtain ⟨y, hy, rfl⟩ := List.mem_map.1 hr
    exact h.low y (List.mem_filter.1 hy).1
  have hins : ∀ r ∈ insR nx ins, nx ≤ r.1 ∧ r.1 < nx + ins.length := fun r hr => by
    have h8 := z2 r hr
    omega
  unfold tabB
  simp only [Bool.and_eq_true, decide_eq_true_eq, Bool.not_eq_true']
  refine ⟨⟨⟨⟨⟨h1, ?_⟩, ?_⟩, ?_⟩, okR_of ?_ fun r hr => ?_⟩, hd⟩
  · have hl2 : ((keepR dels us rs ++ insR nx ins).length : Int) = rs.length - dels.length + ins.length := hl
    show (keepR dels us rs ++ insR nx ins).length ≤ 100
    omega
  · show 1 ≤ nx + (ins.length : Int)
    omega
  · show nx + (ins.length : Int) ≤ 2147483648
    omega
  · show ((keepR dels us rs ++ insR nx ins).map (·.1)).Pairwise (· < ·)
    rw [List.map_append, List.pairwise_append]
    refine ⟨ha, z1, fun a ha' b hb => ?_⟩
    obtain ⟨x, hx, rfl⟩ := List.mem_map.1 ha'
    obtain ⟨y, hy, rfl⟩ := List.mem_map.1 hb
    have h8 := (hlow x hx).2
    have h9 := (hins y hy).1
    omega
  · refine ⟨?_, ?_, hf r hr⟩
    · rcases List.mem_append.1 hr with hr | hr
      · exact (hlow r hr).1
      · have := (hins r hr).1; omega
    · show r.1 < nx + (ins.length : Int)
      rcases List.mem_append.1 hr with hr | hr
      · have := (hlow r hr).2; omega
      · exact (hins r hr).2
end Go.Proofs.YtljmclbedpceoaaDoor

namespace Go.Proofs.YtljmclbedpceoaaDoor
open Go.RowKit
set_option linter.unusedVariables false
set_option linter.unusedSimpArgs false

theorem apC_zero {nm : ByteArray} {cs : List Col} {nx : Int} {rs : List Row} {ins : List (List Vl)} {dels : List Int} {us : List Upd} (h : (applyC nm cs nx rs ins dels us).1 ≠ 0) : (applyC nm cs nx rs ins dels us).2 = zeroT := by
  unfold applyC at h ⊢
  split
  · rfl
  · split
    · rfl
    · split
      · rfl
      · split
        · rfl
        · rename_i h1 h2 h3 h4
          rw [if_neg h1, if_neg h2, if_neg h3, if_neg h4] at h
          exact absurd rfl h
theorem apC_small {T : Int × Tb} {nm : ByteArray} {cs : List Col} {nx : Int} {rs : List Row} {ins : List (List Vl)} {dels : List Int} {us : List Upd} {A1 B1 : Option Addr} {n1 m1 : Nat} {l1 : List Rw} {w : World} (hT : T = applyC nm cs nx rs ins dels us) (hs : nm.size ≤ maxLen) (hcs : ∀ x ∈ cs, x.name.size ≤ maxLen) (hl : l1.map Rw.row = T.2.rs) (ho : ∀ r ∈ l1, r.ok) (r1 : ColsIn A1 n1 T.2.cs w) (q1 : RwsIn B1 m1 l1 w) :
    n1 ≤ 4398046511104 ∧ m1 ≤ 4398046511104 ∧ (∀ r ∈ l1, r.n ≤ 4398046511104) ∧ (∀ r ∈ l1, r.ok) ∧ T.2.nm.size ≤ maxLen ∧ ∀ x ∈ T.2.cs, x.name.size ≤ maxLen := by
  have hn : T.2.cs.length = n1 := (RdC.of_sl r1).len
  have hm := q1.len
  have hml := congrArg List.length hl
  rw [List.length_map] at hml
  by_cases h0 : T.1 = 0
  · have hap := apOk_of (T := T.2) (show applyC nm cs nx rs ins dels us = (0, T.2) by rw [← hT, ← h0])
    have ht := hap.tab2
    have h1 := tabB_cols ht
    have h2 := (tabB_rows ht).1
    have hnm : T.2.nm = nm := by rw [hap.tb]
    have hcc : T.2.cs = cs := by rw [hap.tb]
    refine ⟨by omega, by omega, fun r hr => ?_, ho, by rw [hnm]; exact hs, by rw [hcc]; exact hcs⟩
    have h3 := tabB_row ht (r := r.row) (by rw [← hl]; exact List.mem_map_of_mem hr)
    have h4 : r.vs.length = r.n := VlsIn.len (q1.2 r hr)
    have h5 : r.row.2 = r.vs := rfl
    rw [h5] at h3
    omega
  · have hz : T.2 = zeroT := by rw [hT] at h0 ⊢; exact apC_zero h0
    rw [hz] at hn hml ⊢
    have e1 : n1 = 0 := hn.symm
    have e2 : l1 = [] := List.length_eq_zero_iff.1 hml
    subst e2
    refine ⟨by omega, by rw [← hm]; simp, fun r hr => (nomatch hr), fun r hr => (nomatch hr), ?_, fun x hx => (nomatch hx)⟩
    show (0 : Nat) ≤ maxLen
    omega
set_option maxHeartbeats 4000000 in
set_option maxRecDepth 100000 in
theorem kalike_any (M : Nat → Prop) (w : World) (hM : ∀ b, M b → b < w.heap.size) (nm : ByteArray) (A : Option Addr) (n c : Nat) (cs : List Col) (nx : Int) (B : Option Addr) (m d : Nat) (l : List Rw) (I : Option Addr) (ni ci : Nat) (ins : List Sl) (D : Option Addr) (nd cd : Nat) (dels : List Int) (U : Option Addr) (nu cu : Nat) (us : List Pr)
    (hC : Ro w M (SlR 4 A n (colCells cs))) (hE : Ro w M (RwsIn B m l)) (hI : Ro w M (SlsIn I ni ins)) (hD : Ro w M (IsIn D nd dels)) (hU : Ro w M (PrsIn U nu us)) (hn : n ≤ 9223372036854775807) (hm : m ≤ 4611686018427387904) (hok : ∀ r ∈ l, r.ok) (hrn : ∀ r ∈ l, r.n ≤ 4398046511104) (hpn : ∀ p ∈ us, p.on ≤ 9223372036854775807) (hs : nm.size ≤ maxLen) (hcs : ∀ x ∈ cs, x.name.size ≤ maxLen)
    (hni : ni ≤ 1000000000000000) (hnd : nd ≤ 1000000000000000) (hnu : nu ≤ 4398046511104) (hnuc : nu ≤ cu) (hcu : cu ≤ 9223372036854775807) (hoi : ∀ s ∈ ins, s.ok) (hou : ∀ u ∈ us, u.ok) :
    Calls Tryd.prog 29 #[.agg #[.string nm, .slice A n c, .int .i64 nx, .slice B m d], .agg #[.slice I ni ci, .slice D nd cd, .slice U nu cu]] w fun e w' => e = .returned (.bool true) ∧ Below w.heap.size w w' := by
  have K0 := ((((((Hold.start M w hM).add (hU.less (by simp [Mut]))).add (hD.less (by simp [Mut, Hp.foot]))).add (hI.less (by simp [Mut, Hp.foot]))).add (hE.less (by simp [Mut, Hp.foot]))).add (hC.less (by simp [Mut, Hp.foot]))).alloc_cst #[.string nm, .slice A n c, .int .i64 nx, .slice B m d] 40 |>.alloc_cst #[.slice I ni ci, .slice D nd cd, .slice U nu cu] 54
  rw [World.size_alloc] at K0
  have F0 := K0.facts
  simp only [World.size_alloc, World.size_drew, factsL, cellsF, Nat.reduceAdd, List.toList_toArray, List.set_cons_zero, List.set_cons_succ, List.setIfInBounds_toArray, and_true, true_and] at F0
  clear hC hI hD hU hE
  go_enter Tryd.func29, Tryd.ntmps29
  obtain ⟨T, hT⟩ : ∃ T, T = applyC nm cs nx (l.map Rw.row) (ins.map Sl.vs) dels (us.map Pr.upd) := ⟨_, rfl⟩
  have HT := hid hT
  clear hT
  go_wp2_with fail
  have hk := kapply_any _ _ K0.mutLt nm A n c cs nx B m d l I ni ci ins D nd cd dels U nu cu us (K0.ro 2 rfl) (K0.ro 3 rfl) (K0.ro 4 rfl) (K0.ro 5 rfl) (K0.ro 6 rfl) hn hm hok hs hcs hni hnd hnu hnuc hcu hoi hou
  rw [← HT.out] at hk
  refine hk.mono ?_
  clear hk
  rintro e w1 ⟨v, rfl, ⟨A1, n1, c1, B1, m1, d1, l1, rfl, -, -, -, -, r1, q1, ho1, hl1⟩, b1⟩
  have HSM := hid (apC_small HT.out hs hcs hl1 ho1 r1.now q1.now)
  have KP := K0.call b1
  have FP := KP.facts
  simp only [World.size_alloc, World.size_drew, factsL, cellsF, Nat.reduceAdd, List.toList_toArray, List.set_cons_zero, List.set_cons_succ, List.setIfInBounds_toArray, and_true, true_and] at FP
  have K2 := ((KP.add r1).add (q1.less (by simp [Mut, Hp.foot]))).alloc #[.string T.2.nm, .slice A1 n1 c1, .int .i64 T.2.nx, .slice B1 m1 d1] 40
  clear K0 F0 b1 r1 q1 KP
  have F2 := K2.facts
  simp only [World.size_alloc, World.size_drew, factsL, cellsF, Nat.reduceAdd, List.toList_toArray, List.set_cons_zero, List.set_cons_succ, List.setIfInBounds_toArray, and_true, true_and] at F2
  go_wp2_with fail
  generalize World.alloc _ _ = w2 at K2 F2 ⊢
  obtain ⟨g5, hg5⟩ : ∃ g5, g5 = w1.heap.size := ⟨_, rfl⟩
  rw [← hg5] at K2 ⊢
  clear F2 FP
  have HG5 := hid hg5
  clear hg5
  have hk := rapply_any _ _ K2.mutLt nm A n c cs nx B m d l I ni ci ins D nd cd dels U nu cu us (K2.ro 5 rfl) (K2.ro 6 rfl) (K2.ro 7 rfl) (K2.ro 8 rfl) (K2.ro 9 rfl) hn hm hok hrn hpn hs hcs hni hnd hnu hoi hou
  rw [← HT.out] at hk
  refine hk.mono ?_
  clear hk
  rintro e w3 ⟨v, rfl, ⟨A2, n2, c2, B2, m2, d2, l2, rfl, -, -, -, -, r2, q2, ho2, hl2⟩, b2⟩
  have KP := K2.call b2
  have FP := KP.facts
  simp only [World.size_alloc, World.size_drew, factsL, cellsF, Nat.reduceAdd, List.toList_toArray, List.set_cons_zero, List.set_cons_succ, List.setIfInBounds_toArray, and_true, true_and] at FP
  have K4 := ((KP.add r2).add (q2.less (by simp [Mut, Hp.foot]))).alloc #[.string T.2.nm, .slice A2 n2 c2, .int .i64 T.2.nx, .slice B2 m2 d2] 40
  clear K2 b2 r2 q2 KP
  have F4 := K4.facts
  simp only [World.size_alloc, World.size_drew, factsL, cellsF, Nat.reduceAdd, List.toList_toArray, List.set_cons_zero, List.set_cons_succ, List.setIfInBounds_toArray, and_true, true_and] at F4
  go_wp2_with fail
  generalize World.alloc _ _ = w4 at K4 F4 ⊢
  obtain ⟨g7, hg7⟩ : ∃ g7, g7 = w3.heap.size := ⟨_, rfl⟩
  rw [← hg7] at K4 ⊢
  clear F4 FP
  have HG7 := hid hg7
  clear hg7
  obtain ⟨gt, hgt⟩ : ∃ gt, gt = w.heap.size := ⟨_, rfl⟩
  obtain ⟨gc, hgc⟩ : ∃ gc, gc = gt + 1 := ⟨_, rfl⟩
  rw [← hgt, ← hgc] at K4
  (try rw [← hgt]); (try rw [← hgc])
  have HGT := hid (And.intro hgt hgc)
  clear hgt hgc
  obtain ⟨cb, hcb⟩ : ∃ cb, chgB nm cs nx (l.map Rw.row) (ins.map Sl.vs) dels (us.map Pr.upd) = cb := ⟨_, rfl⟩
  have HCB := hid hcb
  clear hcb
  have HL12 := hid (hl1.trans hl2.symm)
  have HL1 := hid hl1
  have HO := hid (And.intro hok (And.intro hrn (And.intro hs (And.intro hcs hpn))))
  have HB := hid (And.intro hn (And.intro hm (And.intro (show ni ≤ 9223372036854775807 by omega) (And.intro (show nd ≤ 4611686018427387904 by omega) hnu))))
  clear hn hm hni hnd hnu hnuc hcu hl1 hl2 ho1 ho2 hok hrn hs hcs hpn hoi hou
  by_cases he : T.1 = 0
  · have hb : (T.1 != 0) = false := by simp [he]
    have HTB := hid (show tabB T.2.nm T.2.cs T.2.nx (l1.map Rw.row) = true by
      have h := HT.out
      rw [HL1.out]
      exact (apOk_of (T := T.2) (by rw [← h, ← he])).tab2)
    clear he
    obtain ⟨KL, hKL, KN⟩ := K4.name
    have HF : Hid (∀ wv, Hold M none w wv KL → (gt < wv.heap.size ∧ gc < wv.heap.size ∧ g5 < wv.heap.size ∧ g7 < wv.heap.size) ∧ (wv.cell? ⟨gt, 0, none⟩ = some (.string nm) ∧ wv.cell? ⟨gt, 1, none⟩ = some (.slice A n c) ∧ wv.cell? ⟨gt, 2, none⟩ = some (.int .i64 nx) ∧ wv.cell? ⟨gt, 3, none⟩ = some (.slice B m d)) ∧ (wv.cell? ⟨gc, 0, none⟩ = some (.slice I ni ci) ∧ wv.cell? ⟨gc, 1, none⟩ = some (.slice D nd cd) ∧ wv.cell? ⟨gc, 2, none⟩ = some (.slice U nu cu)) ∧ (wv.cell? ⟨g5, 0, none⟩ = some (.string T.2.nm) ∧ wv.cell? ⟨g5, 1, none⟩ = some (.slice A1 n1 c1) ∧ wv.cell? ⟨g5, 2, none⟩ = some (.int .i64 T.2.nx) ∧ wv.cell? ⟨g5, 3, none⟩ = some (.slice B1 m1 d1)) ∧ (wv.cell? ⟨g7, 0, none⟩ = some (.string T.2.nm) ∧ wv.cell? ⟨g7, 1, none⟩ = some (.slice A2 n2 c2) ∧ wv.cell? ⟨g7, 2, none⟩ = some (.int .i64 T.2.nx) ∧ wv.cell? ⟨g7, 3, none⟩ = some (.slice B2 m2 d2))) := hid fun wv HC => by
      rw [hKL] at HC
      have y7 := HC.blk_ 0 rfl
      have y5 := HC.blk_ 3 rfl
      have yc := HC.cst_ 6 rfl
      have yt := HC.cst_ 7 rfl
      exact ⟨⟨Blk.lt yt, Blk.lt yc, Blk.lt y5, Blk.lt y7⟩, ⟨cell_of_row _ _ 0 _ _ _ yt, cell_of_row _ _ 1 _ _ _ yt, cell_of_row _ _ 2 _ _ _ yt, cell_of_row _ _ 3 _ _ _ yt⟩, ⟨cell_of_row _ _ 0 _ _ _ yc, cell_of_row _ _ 1 _ _ _ yc, cell_of_row _ _ 2 _ _ _ yc⟩, ⟨cell_of_row _ _ 0 _ _ _ y5, cell_of_row _ _ 1 _ _ _ y5, cell_of_row _ _ 2 _ _ _ y5, cell_of_row _ _ 3 _ _ _ y5⟩, ⟨cell_of_row _ _ 0 _ _ _ y7, cell_of_row _ _ 1 _ _ _ y7, cell_of_row _ _ 2 _ _ _ y7, cell_of_row _ _ 3 _ _ _ y7⟩⟩
    have HR : Hid (∀ wv, Hold M none w wv KL → (Ro wv (Mut M KL) (SlR 4 A n (colCells cs)) ∧ Ro wv (Mut M KL) (RwsIn B m l) ∧ Ro wv (Mut M KL) (SlsIn I ni ins) ∧ Ro wv (Mut M KL) (IsIn D nd dels) ∧ Ro wv (Mut M KL) (PrsIn U nu us)) ∧ Ro wv (Mut M KL) (SlR 4 A1 n1 (colCells T.2.cs)) ∧ Ro wv (Mut M KL) (RwsIn B1 m1 l1) ∧ Ro wv (Mut M KL) (SlR 4 A2 n2 (colCells T.2.cs)) ∧ Ro wv (Mut M KL) (RwsIn B2 m2 l2)) := hid fun wv HC => by
      rw [hKL] at HC ⊢
      exact ⟨⟨HC.ro 8 rfl, HC.ro 9 rfl, HC.ro 10 rfl, HC.ro 11 rfl, HC.ro 12 rfl⟩, HC.ro 5 rfl, HC.ro 4 rfl, HC.ro 2 rfl, HC.ro 1 rfl⟩
    clear hKL K4
    refine wp_region_any (by kernel_rfl) ?_
    refine wpAny_hold 25 46 (KL) (spL [(23, IsV (.bool cb)), (26, IsV (.bool cb)), (36, IsV (.bool true)), (43, IsV (.bool true))]) (by kernel_rfl) (by kernel_rfl) (by kernel_rfl) rfl ?_ (KN.drew) ?_
    · exact stays_cons isV_mono (stays_cons isV_mono (stays_cons isV_mono (stays_cons isV_mono (stays_nil _))))
    simp only [List.take_succ_cons, List.take_zero, List.drop_succ_cons, List.drop_zero, Act.put, List.getElem_toArray, List.getElem_cons_zero, List.getElem_cons_succ, List.setIfInBounds_toArray, List.set_cons_succ, List.set_cons_zero]
    refine dw_val rfl rfl rfl ?_; apply Exists.intro; refine ⟨fun wv HC => ?_, ?_⟩
    · obtain ⟨⟨z1, z2, z3, z4⟩, ⟨a1, a2, a3, a4⟩, ⟨b1, b2, b3⟩, ⟨c1_, c2_, c3_, c4_⟩, ⟨d1_, d2_, d3_, d4_⟩⟩ := HF.out _ HC; go_simp <;> rfl
    simp only [Act.put, List.setIfInBounds_toArray, List.set_cons_succ, List.set_cons_zero]
    refine dw_val rfl rfl rfl ?_; apply Exists.intro; refine ⟨fun wv HC => ?_, ?_⟩
    · obtain ⟨⟨z1, z2, z3, z4⟩, ⟨a1, a2, a3, a4⟩, ⟨b1, b2, b3⟩, ⟨c1_, c2_, c3_, c4_⟩, ⟨d1_, d2_, d3_, d4_⟩⟩ := HF.out _ HC; go_simp <;> rfl
    simp only [Act.put, List.setIfInBounds_toArray, List.set_cons_succ, List.set_cons_zero]
    refine dw_callR 23 (IsV (.bool cb)) (f := 64) (args := #[.agg #[.string nm, .slice A n c, .int .i64 nx, .slice B m d], .agg #[.slice I ni ci, .slice D nd cd, .slice U nu cu]]) rfl rfl rfl rfl (fun wv => ?_) (fun wv HC hrm hD => ?_) ?_
    · go_simp <;> rfl
    · have h := kvalid_any _ wv HC.mutLt nm A n c cs nx B m d l I ni ci ins D nd cd dels U nu cu us (HR.out _ HC).1.1 (HR.out _ HC).1.2.1 (HR.out _ HC).1.2.2.1 (HR.out _ HC).1.2.2.2.1 (HR.out _ HC).1.2.2.2.2 HB.out.1 HB.out.2.1 HO.out.1 HO.out.2.2.1 HO.out.2.2.2.1 HB.out.2.2.1 (by have := HB.out.2.2.2.1; omega) HB.out.2.2.2.2
      rw [HCB.out] at h
      refine h.mono ?_
      rintro e w5 ⟨rfl, b5⟩
      exact ⟨_, rfl, rfl, HC.call b5, RM.below b5⟩
    rintro u wx HCx rfl
    clear HCx
    simp only [Act.put, List.setIfInBounds_toArray, List.set_cons_succ, List.set_cons_zero]
    refine dw_val rfl rfl rfl ?_; apply Exists.intro; refine ⟨fun wv HC => ?_, ?_⟩
    · obtain ⟨⟨z1, z2, z3, z4⟩, ⟨a1, a2, a3, a4⟩, ⟨b1, b2, b3⟩, ⟨c1_, c2_, c3_, c4_⟩, ⟨d1_, d2_, d3_, d4_⟩⟩ := HF.out _ HC; go_simp <;> rfl
    simp only [Act.put, List.setIfInBounds_toArray, List.set_cons_succ, List.set_cons_zero]
    refine dw_val rfl rfl rfl ?_; apply Exists.intro; refine ⟨fun wv HC => ?_, ?_⟩
    · obtain ⟨⟨z1, z2, z3, z4⟩, ⟨a1, a2, a3, a4⟩, ⟨b1, b2, b3⟩, ⟨c1_, c2_, c3_, c4_⟩, ⟨d1_, d2_, d3_, d4_⟩⟩ := HF.out _ HC; go_simp <;> rfl
    simp only [Act.put, List.setIfInBounds_toArray, List.set_cons_succ, List.set_cons_zero]
    refine dw_callR 26 (IsV (.bool cb)) (f := 65) (args := #[.agg #[.string nm, .slice A n c, .int .i64 nx, .slice B m d], .agg #[.slice I ni ci, .slice D nd cd, .slice U nu cu]]) rfl rfl rfl rfl (fun wv => ?_) (fun wv HC hrm hD => ?_) ?_
    · go_simp <;> rfl
    · have h := rkvalid_any _ wv HC.mutLt nm A n c cs nx B m d l I ni ci ins D nd cd dels U nu cu us (HR.out _ HC).1.1 (HR.out _ HC).1.2.1 (HR.out _ HC).1.2.2.1 (HR.out _ HC).1.2.2.2.1 (HR.out _ HC).1.2.2.2.2 HB.out.1 HB.out.2.1 HO.out.1 HO.out.2.1 HO.out.2.2.2.2 HO.out.2.2.1 HO.out.2.2.2.1 HB.out.2.2.1 HB.out.2.2.2.1 HB.out.2.2.2.2
      rw [HCB.out] at h
      refine h.mono ?_
      rintro e w5 ⟨rfl, b5⟩
      exact ⟨_, rfl, rfl, HC.call b5, RM.below b5⟩
    rintro u wx HCx rfl
    clear HCx
    simp only [Act.put, List.setIfInBounds_toArray, List.set_cons_succ, List.set_cons_zero]
    refine dw_val rfl rfl rfl ?_; apply Exists.intro; refine ⟨fun wv HC => ?_, ?_⟩
    ·  go_simp <;> rfl
    simp only [Act.put, List.setIfInBounds_toArray, List.set_cons_succ, List.set_cons_zero]
    refine dw_val rfl rfl rfl ?_; apply Exists.intro; refine ⟨fun wv HC => ?_, ?_⟩
    ·  go_simp <;> rfl
    simp only [Act.put, List.setIfInBounds_toArray, List.set_cons_succ, List.set_cons_zero]
    refine dw_val rfl rfl rfl ?_; apply Exists.intro; refine ⟨fun wv HC => ?_, ?_⟩
    ·  go_simp <;> rfl
    simp only [Act.put, List.setIfInBounds_toArray, List.set_cons_succ, List.set_cons_zero]
    refine dw_val rfl rfl rfl ?_; apply Exists.intro; refine ⟨fun wv HC => ?_, ?_⟩
    ·  go_simp <;> rfl
    simp only [Act.put, List.setIfInBounds_toArray, List.set_cons_succ, List.set_cons_zero]
    refine dw_val rfl rfl rfl ?_; apply Exists.intro; refine ⟨fun wv HC => ?_, ?_⟩
    ·  go_simp <;> rfl
    simp only [Act.put, List.setIfInBounds_toArray, List.set_cons_succ, List.set_cons_zero]
    refine dw_val rfl rfl rfl ?_; apply Exists.intro; refine ⟨fun wv HC => ?_, ?_⟩
    ·  go_simp <;> rfl
    simp only [Act.put, List.setIfInBounds_toArray, List.set_cons_succ, List.set_cons_zero]
    refine dw_val rfl rfl rfl ?_; apply Exists.intro; refine ⟨fun wv HC => ?_, ?_⟩
    ·  go_simp <;> rfl
    simp only [Act.put, List.setIfInBounds_toArray, List.set_cons_succ, List.set_cons_zero]
    refine dw_val rfl rfl rfl ?_; apply Exists.intro; refine ⟨fun wv HC => ?_, ?_⟩
    · obtain ⟨⟨z1, z2, z3, z4⟩, ⟨a1, a2, a3, a4⟩, ⟨b1, b2, b3⟩, ⟨c1_, c2_, c3_, c4_⟩, ⟨d1_, d2_, d3_, d4_⟩⟩ := HF.out _ HC; go_simp <;> rfl
    simp only [Act.put, List.setIfInBounds_toArray, List.set_cons_succ, List.set_cons_zero]
    refine dw_val rfl rfl rfl ?_; apply Exists.intro; refine ⟨fun wv HC => ?_, ?_⟩
    · obtain ⟨⟨z1, z2, z3, z4⟩, ⟨a1, a2, a3, a4⟩, ⟨b1, b2, b3⟩, ⟨c1_, c2_, c3_, c4_⟩, ⟨d1_, d2_, d3_, d4_⟩⟩ := HF.out _ HC; go_simp <;> rfl
    simp only [Act.put, List.setIfInBounds_toArray, List.set_cons_succ, List.set_cons_zero]
    refine dw_callR 36 (IsV (.bool true)) (f := 66) (args := #[.agg #[.string T.2.nm, .slice A1 n1 c1, .int .i64 T.2.nx, .slice B1 m1 d1], .agg #[.string T.2.nm, .slice A2 n2 c2, .int .i64 T.2.nx, .slice B2 m2 d2]]) rfl rfl rfl rfl (fun wv => ?_) (fun wv HC hrm hD => ?_) ?_
    · go_simp <;> rfl
    · have h := sametable_any wv T.2.nm A1 n1 c1 T.2.cs T.2.nx B1 m1 d1 l1 T.2.nm A2 n2 c2 T.2.cs T.2.nx B2 m2 d2 l2 (HR.out _ HC).2.1.now (HR.out _ HC).2.2.2.1.now (HR.out _ HC).2.2.1.now (HR.out _ HC).2.2.2.2.now HSM.out.1 HSM.out.2.1 HSM.out.2.2.1
      rw [HL12.out, decide_eq_true rfl] at h
      refine h.mono ?_
      rintro e w5 ⟨rfl, b5⟩
      exact ⟨_, rfl, rfl, HC.call b5, RM.below b5⟩
    rintro u wx HCx rfl
    clear HCx
    simp only [Act.put, List.setIfInBounds_toArray, List.set_cons_succ, List.set_cons_zero]
    refine dw_val rfl rfl rfl ?_; apply Exists.intro; refine ⟨fun wv HC => ?_, ?_⟩
    ·  go_simp <;> rfl
    simp only [Act.put, List.setIfInBounds_toArray, List.set_cons_succ, List.set_cons_zero]
    refine dw_val rfl rfl rfl ?_; apply Exists.intro; refine ⟨fun wv HC => ?_, ?_⟩
    ·  go_simp <;> rfl
    simp only [Act.put, List.setIfInBounds_toArray, List.set_cons_succ, List.set_cons_zero]
    refine dw_val rfl rfl rfl ?_; apply Exists.intro; refine ⟨fun wv HC => ?_, ?_⟩
    ·  go_simp <;> rfl
    simp only [Act.put, List.setIfInBounds_toArray, List.set_cons_succ, List.set_cons_zero]
    refine dw_val rfl rfl rfl ?_; apply Exists.intro; refine ⟨fun wv HC => ?_, ?_⟩
    ·  go_simp <;> rfl
    simp only [Act.put, List.setIfInBounds_toArray, List.set_cons_succ, List.set_cons_zero]
    refine dw_val rfl rfl rfl ?_; apply Exists.intro; refine ⟨fun wv HC => ?_, ?_⟩
    ·  go_simp <;> rfl
    simp only [Act.put, List.setIfInBounds_toArray, List.set_cons_succ, List.set_cons_zero]
    refine dw_val rfl rfl rfl ?_; apply Exists.intro; refine ⟨fun wv HC => ?_, ?_⟩
    · obtain ⟨⟨z1, z2, z3, z4⟩, ⟨a1, a2, a3, a4⟩, ⟨b1, b2, b3⟩, ⟨c1_, c2_, c3_, c4_⟩, ⟨d1_, d2_, d3_, d4_⟩⟩ := HF.out _ HC; go_simp <;> rfl
    simp only [Act.put, List.setIfInBounds_toArray, List.set_cons_succ, List.set_cons_zero]
    refine dw_callR 43 (IsV (.bool true)) (f := 67) (args := #[.agg #[.string T.2.nm, .slice A1 n1 c1, .int .i64 T.2.nx, .slice B1 m1 d1]]) rfl rfl rfl rfl (fun wv => ?_) (fun wv HC hrm hD => ?_) ?_
    · go_simp <;> rfl
    · have h := rtvalid_any _ wv HC.mutLt T.2.nm A1 n1 c1 T.2.cs T.2.nx B1 m1 d1 l1 (HR.out _ HC).2.1 (HR.out _ HC).2.2.1 (by have := HSM.out.1; omega) (by have := HSM.out.2.1; omega) HSM.out.2.2.2.1 HSM.out.2.2.2.2.1 HSM.out.2.2.2.2.2
      rw [HTB.out] at h
      refine h.mono ?_
      rintro e w5 ⟨rfl, b5⟩
      exact ⟨_, rfl, rfl, HC.call b5, RM.below b5⟩
    rintro u wx HCx rfl
    clear HCx
    simp only [Act.put, List.setIfInBounds_toArray, List.set_cons_succ, List.set_cons_zero]
    refine dw_val rfl rfl rfl ?_; apply Exists.intro; refine ⟨fun wv HC => ?_, ?_⟩
    ·  go_simp <;> rfl
    simp only [Act.put, List.setIfInBounds_toArray, List.set_cons_succ, List.set_cons_zero]
    refine dw_val rfl rfl rfl ?_; apply Exists.intro; refine ⟨fun wv HC => ?_, ?_⟩
    ·  go_simp <;> rfl
    simp only [Act.put, List.setIfInBounds_toArray, List.set_cons_succ, List.set_cons_zero]
    refine rel_nil ?_
    rintro wx9 HX9
    rintro _hrm _HG
    clear _hrm _HG
    go_wp2_with fail
    go_ret
    exact ⟨by first | rfl | simp, HX9.below⟩
  · have hb : (T.1 != 0) = true := by simpa using he
    clear he
    obtain ⟨KL, hKL, KN⟩ := K4.name
    have HF : Hid (∀ wv, Hold M none w wv KL → (gt < wv.heap.size ∧ gc < wv.heap.size ∧ g5 < wv.heap.size ∧ g7 < wv.heap.size) ∧ (wv.cell? ⟨gt, 0, none⟩ = some (.string nm) ∧ wv.cell? ⟨gt, 1, none⟩ = some (.slice A n c) ∧ wv.cell? ⟨gt, 2, none⟩ = some (.int .i64 nx) ∧ wv.cell? ⟨gt, 3, none⟩ = some (.slice B m d)) ∧ (wv.cell? ⟨gc, 0, none⟩ = some (.slice I ni ci) ∧ wv.cell? ⟨gc, 1, none⟩ = some (.slice D nd cd) ∧ wv.cell? ⟨gc, 2, none⟩ = some (.slice U nu cu)) ∧ (wv.cell? ⟨g5, 0, none⟩ = some (.string T.2.nm) ∧ wv.cell? ⟨g5, 1, none⟩ = some (.slice A1 n1 c1) ∧ wv.cell? ⟨g5, 2, none⟩ = some (.int .i64 T.2.nx) ∧ wv.cell? ⟨g5, 3, none⟩ = some (.slice B1 m1 d1)) ∧ (wv.cell? ⟨g7, 0, none⟩ = some (.string T.2.nm) ∧ wv.cell? ⟨g7, 1, none⟩ = some (.slice A2 n2 c2) ∧ wv.cell? ⟨g7, 2, none⟩ = some (.int .i64 T.2.nx) ∧ wv.cell? ⟨g7, 3, none⟩ = some (.slice B2 m2 d2))) := hid fun wv HC => by
      rw [hKL] at HC
      have y7 := HC.blk_ 0 rfl
      have y5 := HC.blk_ 3 rfl
      have yc := HC.cst_ 6 rfl
      have yt := HC.cst_ 7 rfl
      exact ⟨⟨Blk.lt yt, Blk.lt yc, Blk.lt y5, Blk.lt y7⟩, ⟨cell_of_row _ _ 0 _ _ _ yt, cell_of_row _ _ 1 _ _ _ yt, cell_of_row _ _ 2 _ _ _ yt, cell_of_row _ _ 3 _ _ _ yt⟩, ⟨cell_of_row _ _ 0 _ _ _ yc, cell_of_row _ _ 1 _ _ _ yc, cell_of_row _ _ 2 _ _ _ yc⟩, ⟨cell_of_row _ _ 0 _ _ _ y5, cell_of_row _ _ 1 _ _ _ y5, cell_of_row _ _ 2 _ _ _ y5, cell_of_row _ _ 3 _ _ _ y5⟩, ⟨cell_of_row _ _ 0 _ _ _ y7, cell_of_row _ _ 1 _ _ _ y7, cell_of_row _ _ 2 _ _ _ y7, cell_of_row _ _ 3 _ _ _ y7⟩⟩
    have HR : Hid (∀ wv, Hold M none w wv KL → (Ro wv (Mut M KL) (SlR 4 A n (colCells cs)) ∧ Ro wv (Mut M KL) (RwsIn B m l) ∧ Ro wv (Mut M KL) (SlsIn I ni ins) ∧ Ro wv (Mut M KL) (IsIn D nd dels) ∧ Ro wv (Mut M KL) (PrsIn U nu us)) ∧ Ro wv (Mut M KL) (SlR 4 A1 n1 (colCells T.2.cs)) ∧ Ro wv (Mut M KL) (RwsIn B1 m1 l1) ∧ Ro wv (Mut M KL) (SlR 4 A2 n2 (colCells T.2.cs)) ∧ Ro wv (Mut M KL) (RwsIn B2 m2 l2)) := hid fun wv HC => by
      rw [hKL] at HC ⊢
      exact ⟨⟨HC.ro 8 rfl, HC.ro 9 rfl, HC.ro 10 rfl, HC.ro 11 rfl, HC.ro 12 rfl⟩, HC.ro 5 rfl, HC.ro 4 rfl, HC.ro 2 rfl, HC.ro 1 rfl⟩
    clear hKL K4
    refine wp_region_any (by kernel_rfl) ?_
    refine wpAny_hold 25 46 (KL) (spL [(23, IsV (.bool cb)), (26, IsV (.bool cb)), (36, IsV (.bool true))]) (by kernel_rfl) (by kernel_rfl) (by kernel_rfl) rfl ?_ (KN.drew) ?_
    · exact stays_cons isV_mono (stays_cons isV_mono (stays_cons isV_mono (stays_nil _)))
    simp only [List.take_succ_cons, List.take_zero, List.drop_succ_cons, List.drop_zero, Act.put, List.getElem_toArray, List.getElem_cons_zero, List.getElem_cons_succ, List.setIfInBounds_toArray, List.set_cons_succ, List.set_cons_zero]
    refine dw_val rfl rfl rfl ?_; apply Exists.intro; refine ⟨fun wv HC => ?_, ?_⟩
    · obtain ⟨⟨z1, z2, z3, z4⟩, ⟨a1, a2, a3, a4⟩, ⟨b1, b2, b3⟩, ⟨c1_, c2_, c3_, c4_⟩, ⟨d1_, d2_, d3_, d4_⟩⟩ := HF.out _ HC; go_simp <;> rfl
    simp only [Act.put, List.setIfInBounds_toArray, List.set_cons_succ, List.set_cons_zero]
    refine dw_val rfl rfl rfl ?_; apply Exists.intro; refine ⟨fun wv HC => ?_, ?_⟩
    · obtain ⟨⟨z1, z2, z3, z4⟩, ⟨a1, a2, a3, a4⟩, ⟨b1, b2, b3⟩, ⟨c1_, c2_, c3_, c4_⟩, ⟨d1_, d2_, d3_, d4_⟩⟩ := HF.out _ HC; go_simp <;> rfl
    simp only [Act.put, List.setIfInBounds_toArray, List.set_cons_succ, List.set_cons_zero]
    refine dw_callR 23 (IsV (.bool cb)) (f := 64) (args := #[.agg #[.string nm, .slice A n c, .int .i64 nx, .slice B m d], .agg #[.slice I ni ci, .slice D nd cd, .slice U nu cu]]) rfl rfl rfl rfl (fun wv => ?_) (fun wv HC hrm hD => ?_) ?_
    · go_simp <;> rfl
    · have h := kvalid_any _ wv HC.mutLt nm A n c cs nx B m d l I ni ci ins D nd cd dels U nu cu us (HR.out _ HC).1.1 (HR.out _ HC).1.2.1 (HR.out _ HC).1.2.2.1 (HR.out _ HC).1.2.2.2.1 (HR.out _ HC).1.2.2.2.2 HB.out.1 HB.out.2.1 HO.out.1 HO.out.2.2.1 HO.out.2.2.2.1 HB.out.2.2.1 (by have := HB.out.2.2.2.1; omega) HB.out.2.2.2.2
      rw [HCB.out] at h
      refine h.mono ?_
      rintro e w5 ⟨rfl, b5⟩
      exact ⟨_, rfl, rfl, HC.call b5, RM.below b5⟩
    rintro u wx HCx rfl
    clear HCx
    simp only [Act.put, List.setIfInBounds_toArray, List.set_cons_succ, List.set_cons_zero]
    refine dw_val rfl rfl rfl ?_; apply Exists.intro; refine ⟨fun wv HC => ?_, ?_⟩
    · obtain ⟨⟨z1, z2, z3, z4⟩, ⟨a1, a2, a3, a4⟩, ⟨b1, b2, b3⟩, ⟨c1_, c2_, c3_, c4_⟩, ⟨d1_, d2_, d3_, d4_⟩⟩ := HF.out _ HC; go_simp <;> rfl
    simp only [Act.put, List.setIfInBounds_toArray, List.set_cons_succ, List.set_cons_zero]
    refine dw_val rfl rfl rfl ?_; apply Exists.intro; refine ⟨fun wv HC => ?_, ?_⟩
    · obtain ⟨⟨z1, z2, z3, z4⟩, ⟨a1, a2, a3, a4⟩, ⟨b1, b2, b3⟩, ⟨c1_, c2_, c3_, c4_⟩, ⟨d1_, d2_, d3_, d4_⟩⟩ := HF.out _ HC; go_simp <;> rfl
    simp only [Act.put, List.setIfInBounds_toArray, List.set_cons_succ, List.set_cons_zero]
    refine dw_callR 26 (IsV (.bool cb)) (f := 65) (args := #[.agg #[.string nm, .slice A n c, .int .i64 nx, .slice B m d], .agg #[.slice I ni ci, .slice D nd cd, .slice U nu cu]]) rfl rfl rfl rfl (fun wv => ?_) (fun wv HC hrm hD => ?_) ?_
    · go_simp <;> rfl
    · have h := rkvalid_any _ wv HC.mutLt nm A n c cs nx B m d l I ni ci ins D nd cd dels U nu cu us (HR.out _ HC).1.1 (HR.out _ HC).1.2.1 (HR.out _ HC).1.2.2.1 (HR.out _ HC).1.2.2.2.1 (HR.out _ HC).1.2.2.2.2 HB.out.1 HB.out.2.1 HO.out.1 HO.out.2.1 HO.out.2.2.2.2 HO.out.2.2.1 HO.out.2.2.2.1 HB.out.2.2.1 HB.out.2.2.2.1 HB.out.2.2.2.2
      rw [HCB.out] at h
      refine h.mono ?_
      rintro e w5 ⟨rfl, b5⟩
      exact ⟨_, rfl, rfl, HC.call b5, RM.below b5⟩
    rintro u wx HCx rfl
    clear HCx
    simp only [Act.put, List.setIfInBounds_toArray, List.set_cons_succ, List.set_cons_zero]
    refine dw_val rfl rfl rfl ?_; apply Exists.intro; refine ⟨fun wv HC => ?_, ?_⟩
    ·  go_simp <;> rfl
    simp only [Act.put, List.setIfInBounds_toArray, List.set_cons_succ, List.set_cons_zero]
    refine dw_val rfl rfl rfl ?_; apply Exists.intro; refine ⟨fun wv HC => ?_, ?_⟩
    ·  go_simp <;> rfl
    simp only [Act.put, List.setIfInBounds_toArray, List.set_cons_succ, List.set_cons_zero]
    refine dw_val rfl rfl rfl ?_; apply Exists.intro; refine ⟨fun wv HC => ?_, ?_⟩
    ·  go_simp <;> rfl
    simp only [Act.put, List.setIfInBounds_toArray, List.set_cons_succ, List.set_cons_zero]
    refine dw_val rfl rfl rfl ?_; apply Exists.intro; refine ⟨fun wv HC => ?_, ?_⟩
    ·  go_simp <;> rfl
    simp only [Act.put, List.setIfInBounds_toArray, List.set_cons_succ, List.set_cons_zero]
    refine dw_val rfl rfl rfl ?_; apply Exists.intro; refine ⟨fun wv HC => ?_, ?_⟩
    ·  go_simp <;> rfl
    simp only [Act.put, List.setIfInBounds_toArray, List.set_cons_succ, List.set_cons_zero]
    refine dw_val rfl rfl rfl ?_; apply Exists.intro; refine ⟨fun wv HC => ?_, ?_⟩
    ·  go_simp <;> rfl
    simp only [Act.put, List.setIfInBounds_toArray, List.set_cons_succ, List.set_cons_zero]
    refine dw_val rfl rfl rfl ?_; apply Exists.intro; refine ⟨fun wv HC => ?_, ?_⟩
    ·  go_simp <;> rfl
    simp only [Act.put, List.setIfInBounds_toArray, List.set_cons_succ, List.set_cons_zero]
    refine dw_val rfl rfl rfl ?_; apply Exists.intro; refine ⟨fun wv HC => ?_, ?_⟩
    · obtain ⟨⟨z1, z2, z3, z4⟩, ⟨a1, a2, a3, a4⟩, ⟨b1, b2, b3⟩, ⟨c1_, c2_, c3_, c4_⟩, ⟨d1_, d2_, d3_, d4_⟩⟩ := HF.out _ HC; go_simp <;> rfl
    simp only [Act.put, List.setIfInBounds_toArray, List.set_cons_succ, List.set_cons_zero]
    refine dw_val rfl rfl rfl ?_; apply Exists.intro; refine ⟨fun wv HC => ?_, ?_⟩
    · obtain ⟨⟨z1, z2, z3, z4⟩, ⟨a1, a2, a3, a4⟩, ⟨b1, b2, b3⟩, ⟨c1_, c2_, c3_, c4_⟩, ⟨d1_, d2_, d3_, d4_⟩⟩ := HF.out _ HC; go_simp <;> rfl
    simp only [Act.put, List.setIfInBounds_toArray, List.set_cons_succ, List.set_cons_zero]
    refine dw_callR 36 (IsV (.bool true)) (f := 66) (args := #[.agg #[.string T.2.nm, .slice A1 n1 c1, .int .i64 T.2.nx, .slice B1 m1 d1], .agg #[.string T.2.nm, .slice A2 n2 c2, .int .i64 T.2.nx, .slice B2 m2 d2]]) rfl rfl rfl rfl (fun wv => ?_) (fun wv HC hrm hD => ?_) ?_
    · go_simp <;> rfl
    · have h := sametable_any wv T.2.nm A1 n1 c1 T.2.cs T.2.nx B1 m1 d1 l1 T.2.nm A2 n2 c2 T.2.cs T.2.nx B2 m2 d2 l2 (HR.out _ HC).2.1.now (HR.out _ HC).2.2.2.1.now (HR.out _ HC).2.2.1.now (HR.out _ HC).2.2.2.2.now HSM.out.1 HSM.out.2.1 HSM.out.2.2.1
      rw [HL12.out, decide_eq_true rfl] at h
      refine h.mono ?_
      rintro e w5 ⟨rfl, b5⟩
      exact ⟨_, rfl, rfl, HC.call b5, RM.below b5⟩
    rintro u wx HCx rfl
    clear HCx
    simp only [Act.put, List.setIfInBounds_toArray, List.set_cons_succ, List.set_cons_zero]
    refine dw_val rfl rfl rfl ?_; apply Exists.intro; refine ⟨fun wv HC => ?_, ?_⟩
    ·  go_simp <;> rfl
    simp only [Act.put, List.setIfInBounds_toArray, List.set_cons_succ, List.set_cons_zero]
    refine dw_val rfl rfl rfl ?_; apply Exists.intro; refine ⟨fun wv HC => ?_, ?_⟩
    ·  go_simp <;> rfl
    simp only [Act.put, List.setIfInBounds_toArray, List.set_cons_succ, List.set_cons_zero]
    refine dw_val rfl rfl rfl ?_; apply Exists.intro; refine ⟨fun wv HC => ?_, ?_⟩
    ·  go_simp <;> rfl
    simp only [Act.put, List.setIfInBounds_toArray, List.set_cons_succ, List.set_cons_zero]
    refine dw_val rfl rfl rfl ?_; apply Exists.intro; refine ⟨fun wv HC => ?_, ?_⟩
    ·  go_simp <;> rfl
    simp only [Act.put, List.setIfInBounds_toArray, List.set_cons_succ, List.set_cons_zero]
    refine dw_val rfl rfl rfl ?_; apply Exists.intro; refine ⟨fun wv HC => ?_, ?_⟩
    ·  go_simp <;> rfl
    simp only [Act.put, List.setIfInBounds_toArray, List.set_cons_succ, List.set_cons_zero]
    refine dw_skip rfl rfl rfl ?_
    simp only [Act.put, List.setIfInBounds_toArray, List.set_cons_succ, List.set_cons_zero]
    refine dw_skip rfl rfl rfl ?_
    simp only [Act.put, List.setIfInBounds_toArray, List.set_cons_succ, List.set_cons_zero]
    refine dw_val rfl rfl rfl ?_; apply Exists.intro; refine ⟨fun wv HC => ?_, ?_⟩
    ·  go_simp <;> rfl
    simp only [Act.put, List.setIfInBounds_toArray, List.set_cons_succ, List.set_cons_zero]
    refine dw_val rfl rfl rfl ?_; apply Exists.intro; refine ⟨fun wv HC => ?_, ?_⟩
    ·  go_simp <;> rfl
    simp only [Act.put, List.setIfInBounds_toArray, List.set_cons_succ, List.set_cons_zero]
    refine rel_nil ?_
    rintro wx9 HX9
    rintro _hrm _HG
    clear _hrm _HG
    go_wp2_with fail
    go_ret
    exact ⟨by first | rfl | simp, HX9.below⟩
end Go.Proofs.YtljmclbedpceoaaDoor

namespace Go.Proofs.YtljmclbedpceoaaDoor
open Go.RowKit
set_option linter.unusedVariables false
set_option linter.unusedSimpArgs false
theorem own_empty {w : World} {g b0 size : Nat} {e : TypeId} (hb : b0 ≤ g) (hg : w.heap[g]? = some (.cells #[] e (0, 0))) : w.ownsRow b0 e size (.slice (some ⟨g, 0, none⟩) 0 0) 0 [] :=
  ⟨by simp, .inr ⟨g, 0, #[], rfl, hb, hg, Nat.le_refl _, Nat.zero_le _, by simp, by simp⟩⟩
theorem run_cloneEmpty {P : Program} {t e : TypeId} {size bytes : Nat} {z : Value} (hE : ElemT P t e size bytes z) (ty : TypeId) (w : World) {g b0 : Nat} (hb0 : b0 ≤ g) (hb1 : b0 ≤ w.heap.size) (hg : w.heap[g]? = some (.cells #[] e (0, 0))) {A : Option Addr} {m c : Nat} {ys : List Value} (hr : SlR size A m ys w) (h1 : ∀ u ∈ ys, u.oneCell' = true) (hq : m < 140737488355328) (hb : m * bytes ≤ 140737488355328) :
    ∃ C' cap' w', (Builtin.append_ #[t, t] ty #[.slice (some ⟨g, 0, none⟩) 0 0, .slice A m c]).run P w = .ok (.slice C' m cap') w' ∧ m ≤ cap' ∧ cap' ≤ 9223372036854775807 ∧ w'.ownsRow b0 e size (.slice C' m cap') m ys ∧ Below w.heap.size w w' := by
  obtain ⟨i0, hi1, hi2, hi3, hi4⟩ := info_parts hE.hi
  have hown := own_empty (size := size) hb0 hg
  have hz : A = none → m = 0 := fun hA => by
    rcases Nat.eq_zero_or_pos m with h0 | h0
    · exact h0
    · obtain ⟨b, o, h, _⟩ := hr.2 h0
      rw [hA] at h; cases h
  rcases A with _ | ad
  · obtain rfl := hz rfl
    have hn : ys = [] := List.eq_nil_of_length_eq_zero (by simpa using hr.1)
    subst hn
    exact ⟨some ⟨g, 0, none⟩, 0, w, run_append_self w _ t _ _ i0 size hE.ht hi1 _ _ _ hown c, by omega, by omega, hown, Below.refl _ _⟩
  · have hcells : ∀ j u, ys[j]? = some u → w.cell? (ad.add j) = some u := by
      intro j u hu
      have hpos : 0 < m := by
        rcases Nat.eq_zero_or_pos m with h0 | h0
        · have hn : ys = [] := List.eq_nil_of_length_eq_zero (by have := hr.1; rw [h0] at this; simpa using this)
          rw [hn] at hu; simp at hu
        · exact h0
      obtain ⟨b, o', hA, _, hc⟩ := hr.2 hpos
      injection hA with hA
      subst hA
      have := hc j u hu
      rwa [Addr.add_lit]
    rcases Nat.eq_zero_or_pos m with h0 | h0
    · subst h0
      have hn : ys = [] := List.eq_nil_of_length_eq_zero (by simpa using hr.1)
      subst hn
      have hrun := run_append_room_cells (P := P) (w := w) t ty e i0 hE.ht hi1 g 0 0 0 ad 0 c [] (by simp) (fun j u hu => by simp at hu) (fun u hu => nomatch hu) (by omega) (fun j hj => by simp at hj) (fun j hj => by simp at hj)
      exact ⟨some ⟨g, 0, none⟩, 0, w, hrun, by omega, by omega, hown, Below.refl _ _⟩
    · obtain ⟨v', w', hrun, h2, h3, _, h5⟩ := run_append_own_at (P := P) w b0 t ty e i0 z size bytes hE.ht hi1 hi2 hi3 hi4 hE.hzs hE.hsz _ 0 [] hown ad m c ys hr.1 hcells h1 (by unfold maxLen; omega) (by rw [Nat.zero_add]; exact hb) hb1
      rw [Nat.zero_add, List.nil_append] at h2
      obtain ⟨C', cap', rfl⟩ := own_form h2
      have hc := own_caps h2
      have hgr := run_append_grow (P := P) w t ty e i0 z hE.ht hi1 hi2 ⟨g, 0, none⟩ 0 0 [] (by simp) (fun j v hv => by simp at hv) ad m c ys (by rw [hi3]; exact hr.1) hcells (by omega) (by omega) (growslice_fits (by omega) (by rw [hi4, Nat.zero_add]; exact hb))
      have hgr2 := hrun.symm.trans hgr
      injection hgr2 with _ hw
      subst hw
      exact ⟨C', cap', _, hrun, hc.1, hc.2.1, h2, ⟨rfl, rfl, rfl, by simp, fun k hk => heap_alloc_old w.drew _ hk⟩⟩
section
variable {P : Program} {M : Nat → Prop} {row : Option Nat} {w0 w1 : World} {L : List Hp} {sp : SpW} {F : Act → Prop} {S0 : Array Bool}
variable {ops : Array Oper} {o : Oper} {rest : List Oper} {a : Act} {k : Nat}
theorem dw_cloneE {t e : TypeId} {size bytes : Nat} {z : Value} (hE : ElemT P t e size bytes z) (d : Tmp) (V : Value → World → Prop) (hS : S0.getD k false = false) (hw : Region.wanted o (yielded ops a.tmps) = true) (hd : o.dst = some d) (hsp : sp d = some V)
    (s x : Operand) (ho : o.op = .call { callee := .builtin .append, args := #[s, x], argTypes := #[t, t] }) {g b0 : Nat} (hs : a.eval s = .slice (some ⟨g, 0, none⟩) 0 0) {A : Option Addr} {m c : Nat} {ys : List Value} (hx : a.eval x = .slice A m c) (h1 : ∀ u ∈ ys, u.oneCell' = true) (hq : m < 140737488355328) (hb : m * bytes ≤ 140737488355328)
    (hb0 : b0 ≤ w1.heap.size) (hg : ∀ w, Hold M row w0 w L → Deps ops (GW sp) o a w → b0 ≤ g ∧ w.heap[g]? = some (.cells #[] e (0, 0))) (hr : ∀ w, Hold M row w0 w L → Deps ops (GW sp) o a w → SlR size A m ys w)
    (hV : ∀ C' cap' w w', Hold M row w0 w L → RM (Mut M L) w1 w → Hold M row w0 w' L → m ≤ cap' → cap' ≤ 9223372036854775807 → w'.ownsRow b0 e size (.slice C' m cap') m ys → V (.slice C' m cap') w')
    (hn : ∀ u w, Hold M row w0 w L → V u w → wpRel P ops (HC M row w0 w1 L) (GW sp) (RM (Mut M L)) S0 F (k + 1) rest (a.put (some d) u)) : wpRel P ops (HC M row w0 w1 L) (GW sp) (RM (Mut M L)) S0 F k (o :: rest) a := by
  refine rel_step hS hw d hd (fun w hC hD => ?_) fun u w hC hu => hn u w hC.1 ((GW_on hsp).1 hu)
  obtain ⟨hb2, hg2⟩ := hg w hC.1 hD
  obtain ⟨C', cap', w', hrun, c1, c2, ho2, hbl⟩ := run_cloneEmpty hE o.type w hb2 (Nat.le_trans hb0 hC.2.1) hg2 (hr w hC.1 hD) (c := c) h1 hq hb
  have hH := hC.1.call hbl
  refine ⟨.slice C' m cap', w', ?_, (GW_on hsp).2 (hV C' cap' w w' hC.1 hC.2 hH c1 c2 ho2), ⟨hH, hC.2.trans (RM.below hbl)⟩, RM.below hbl⟩
  unfold execOp
  simp only [ho, resolve, invoke, builtin, Sem.run_bind, Sem.run_pure, Result.andThen_ok, List.map_toArray, List.map_cons, List.map_nil, hs, hx, hrun]
end
/-- an empty literal's slot -/
def EmptySl (M : Nat → Prop) (b0 : Nat) (t : TypeId) (u : Value) (w : World) : Prop := ∃ g : Nat, u = .slice (some ⟨g, 0, none⟩) 0 0 ∧ b0 ≤ g ∧ Ro w M (fun w => w.heap[g]? = some (.cells #[] t (0, 0)))
theorem emptySl_mono {M : Nat → Prop} {b0 : Nat} {t : TypeId} (u : Value) (w w' : World) (hr : RM M w w') (h : EmptySl M b0 t u w) : EmptySl M b0 t u w' := by
  obtain ⟨g, h1, h2, h3⟩ := h
  exact ⟨g, h1, h2, hr.ro h3⟩
/-- a list's slot, as it stands in memory -/
def StSl (M : Nat → Prop) (size : Nat) (xs : List Value) (u : Value) (w : World) : Prop := ∃ g n : Nat, u = .slice (some ⟨g, 0, none⟩) n n ∧ Ro w M (SlR size (some ⟨g, 0, none⟩) n xs)
theorem stSl_mono {M : Nat → Prop} {size : Nat} {xs : List Value} (u : Value) (w w' : World) (hr : RM M w w') (h : StSl M size xs u w) : StSl M size xs u w' := by
  obtain ⟨g, n, h1, h2⟩ := h
  exact ⟨g, n, h1, hr.ro h2⟩
end Go.Proofs.YtljmclbedpceoaaDoor

namespace Go.Proofs.YtljmclbedpceoaaDoor
open Go.RowKit
set_option linter.unusedVariables false
set_option linter.unusedSimpArgs false

/-- Some change in memory. -/
def SomeChg (w : World) (T : Nat) (M : Nat → Prop) (e : Ending) (w' : World) : Prop :=
  ∃ (v : Value) (ins : List (List Vl)) (dels : List Int) (us : List Upd), e = .returned v ∧ ChgSlot M ins dels us v w' ∧ (ins.length ≤ 2000 ∧ dels.length ≤ 2000 ∧ us.length ≤ 2000) ∧ Tp w' T ∧ w.grownBy w' (some T)
theorem someChg_of {M : Nat → Prop} {T : Nat} {w w' : World} {I D U : Option Addr} {ni ci nd cd nu cu : Nat} {ins : List Sl} {dels : List Int} {us : List Pr} (h1 : ni ≤ ci ∧ ci ≤ 9223372036854775807) (h2 : nd ≤ cd ∧ cd ≤ 9223372036854775807) (h3 : nu ≤ cu ∧ cu ≤ 9223372036854775807) (hi : ∀ s ∈ ins, s.ok) (hu : ∀ p ∈ us, p.ok)
    (h5 : ni ≤ 2000 ∧ nd ≤ 2000 ∧ nu ≤ 2000) (r1 : Ro w' M (SlsIn I ni ins)) (r2 : Ro w' M (IsIn D nd dels)) (r3 : Ro w' M (PrsIn U nu us)) (ht : Tp w' T) (hg : w.grownBy w' (some T)) : SomeChg w T M (.returned (.agg #[.slice I ni ci, .slice D nd cd, .slice U nu cu])) w' := by
  have l1 := r1.now.len
  have l2 : dels.length = nd := by have h := (show Rd _ _ _ _ _ _ from r2.now).1; rw [iCells_len] at h; omega
  have l3 := r3.now.len
  exact ⟨_, ins.map Sl.vs, dels, us.map Pr.upd, rfl, chgSlot_of ⟨I, ni, ci, ins, rfl, h1.1, h1.2, rfl, hi, r1⟩ ⟨D, nd, cd, rfl, h2.1, h2.2, r2⟩ ⟨U, nu, cu, us, rfl, h3.1, h3.2, rfl, hu, r3⟩, ⟨by rw [List.length_map]; omega, by omega, by rw [List.length_map]; omega⟩, ht, hg⟩
theorem slCells_one (l : List Sl) : ∀ u ∈ slCells l, u.oneCell' = true := fun u hu => by
  unfold slCells at hu
  rw [List.mem_flatMap] at hu
  obtain ⟨x, _, hx⟩ := hu
  simp only [Sl.cells, List.mem_cons, List.not_mem_nil, or_false] at hx
  rw [hx]; rfl
theorem own_pr {w : World} {base g n cap k : Nat} {e : TypeId} {l : List Pr} {r : Pr} (h : w.ownsRow base e 3 (.slice (some ⟨g, 0, none⟩) n cap) n (prCells l)) (hr : l[k]? = some r) :
    (w.cell? ⟨g, k * 3, none⟩ = some (.int .i64 r.id) ∧ w.cell? ⟨g, k * 3 + 1, none⟩ = some (.slice r.oA r.on r.oc) ∧ w.cell? ⟨g, k * 3 + 2, none⟩ = some (.slice r.nA r.nn r.nc)) ∧ (w.frozen? ⟨g, k * 3, none⟩ = false ∧ w.frozen? ⟨g, k * 3 + 1, none⟩ = false ∧ w.frozen? ⟨g, k * 3 + 2, none⟩ = false) ∧ g < w.heap.size := by
  have hk := (List.getElem?_eq_some_iff.1 hr).1
  have hl : l.length = n := by have := h.1; rw [prCells_len] at this; omega
  have c0 := flat_get Pr.cells 3 (fun _ => rfl) l k 0 r (by omega) hr
  have c1 := flat_get Pr.cells 3 (fun _ => rfl) l k 1 r (by omega) hr
  have c2 := flat_get Pr.cells 3 (fun _ => rfl) l k 2 r (by omega) hr
  exact ⟨⟨(h.cellAt _ (by omega)).trans c0, (h.cellAt _ (by omega)).trans c1, (h.cellAt _ (by omega)).trans c2⟩, ⟨h.frozenAt _, h.frozenAt _, h.frozenAt _⟩, (h.lt g rfl).2⟩
theorem Ro.prsAt {w : World} {M : Nat → Prop} {A : Option Addr} {n : Nat} {l : List Pr} (h : Ro w M (PrsIn A n l)) {k : Nat} {x : Pr} (hx : l[k]? = some x) :
    ∃ b o, A = some ⟨b, o, none⟩ ∧ Ro w M (fun w => b < w.heap.size ∧ w.cell? ⟨b, o + k * 3, none⟩ = some (.int .i64 x.id) ∧ w.cell? ⟨b, o + k * 3 + 1, none⟩ = some (.slice x.oA x.on x.oc) ∧ w.cell? ⟨b, o + k * 3 + 2, none⟩ = some (.slice x.nA x.nn x.nc)) := by
  obtain ⟨b, o, e, _⟩ := h.now.at_ hx
  refine ⟨b, o, e, fun w2 h1 h2 => ?_⟩
  obtain ⟨b', o', e', h3, h4, h5, h6, _⟩ := (h w2 h1 h2).at_ hx
  rw [e] at e'
  injection e' with e'
  injection e' with e1 e2
  subst e1; subst e2
  exact ⟨h3, h4, h5, h6⟩
theorem prVals_new {U : Option Addr} {nu : Nat} {us : List Pr} {w : World} (h : PrsIn U nu us w) (r : Int) : PrVals (us ++ [⟨r, none, 0, 0, [], none, 0, 0, []⟩]) w := fun p hp => by
  rcases List.mem_append.1 hp with hp | hp
  · exact h.2 p hp
  · simp at hp; subst hp; exact ⟨Rd.none_, Rd.none_⟩
theorem prVals_dup {U : Option Addr} {nu : Nat} {us : List Pr} {w : World} (h : PrsIn U nu us w) {q : Pr} (hq : q ∈ us) : PrVals (us ++ [q]) w := fun p hp => by
  rcases List.mem_append.1 hp with hp | hp
  · exact h.2 p hp
  · simp at hp; subst hp; exact h.2 p hq
theorem prVals_set {U : Option Addr} {nu : Nat} {us : List Pr} {w : World} (h : PrsIn U nu us w) {q : Pr} (hq : q ∈ us) (k : Nat) : PrVals (us.set k ⟨q.id, none, 0, 0, [], q.nA, q.nn, q.nc, q.new⟩) w := fun p hp => by
  rcases List.mem_or_eq_of_mem_set hp with hp | hp
  · exact h.2 p hp
  · subst hp; exact ⟨Rd.none_, (h.2 q hq).2⟩
theorem prCells_setOld {l : List Pr} {q : Pr} (h : l[0]? = some q) : (prCells l).set 1 (.slice none 0 0) = prCells (l.set 0 ⟨q.id, none, 0, 0, [], q.nA, q.nn, q.nc, q.new⟩) := by
  cases l with
  | nil => simp at h
  | cons x l => simp at h; subst h; simp [prCells, Pr.cells]
theorem slVals_new {I : Option Addr} {ni : Nat} {ins : List Sl} {w : World} {x : Sl} (h : SlsIn I ni ins w) (k : VlsIn x.A x.n x.vs w) : SlVals (ins ++ [x]) w := fun p hp => by
  rcases List.mem_append.1 hp with hp | hp
  · exact h.2 p hp
  · simp at hp; subst hp; exact k
theorem prOk_new {r : Int} (h : I64 r) : Pr.ok ⟨r, none, 0, 0, [], none, 0, 0, []⟩ := ⟨h, Nat.le_refl _, Nat.zero_le _, Nat.le_refl _, Nat.zero_le _, fun v hv => (nomatch hv), fun v hv => (nomatch hv)⟩
theorem prOk_snoc {l : List Pr} {p : Pr} (h : ∀ q ∈ l, q.ok) (k : p.ok) : ∀ q ∈ l ++ [p], q.ok := prs_ok_app h (fun q hq => by simp at hq; subst hq; exact k)
set_option maxHeartbeats 8000000 in
set_option maxRecDepth 100000 in
theorem kspoil_any (M : Nat → Prop) (T : Nat) (w : World) (hM : ∀ b, M b → b < w.heap.size) (ht : Tp w T) (hMT : ∀ b, M b → T ≤ b) (I : Option Addr) (ni ci : Nat) (ins : List Sl) (D : Option Addr) (nd cd : Nat) (dels : List Int) (U : Option Addr) (nu cu : Nat) (us : List Pr)
    (hI : Ro w (Mut M [.tp T]) (SlsIn I ni ins)) (hD : Ro w (Mut M [.tp T]) (IsIn D nd dels)) (hU : Ro w (Mut M [.tp T]) (PrsIn U nu us)) (hni : ni ≤ 1000) (hnd : nd ≤ 1000) (hnu : nu ≤ 1000) (h1 : ni ≤ ci ∧ ci ≤ 9223372036854775807) (h2 : nd ≤ cd ∧ cd ≤ 9223372036854775807) (h3 : nu ≤ cu ∧ cu ≤ 9223372036854775807) (hoi : ∀ s ∈ ins, s.ok) (hou : ∀ p ∈ us, p.ok) :
    Calls Tryd.prog 30 #[.pointer (some ⟨T, 0, none⟩), .agg #[.slice I ni ci, .slice D nd cd, .slice U nu cu]] w fun e w' => SomeChg w T M e w' := by
  have HB1 := hid h1
  have HB2 := hid h2
  have HB3 := hid h3
  have HOI := hid hoi
  have HOU := hid hou
  have HUL := hid hU.now.len
  clear h1 h2 h3 hoi hou
  have K0 := (((((Hold.startT M w T hM ht hMT).add hU).add (hD.less (mut_none rfl))).add ((hI.less (mut_none rfl)).less (mut_none rfl))).alloc #[.slice I ni ci, .slice D nd cd, .slice U nu cu] 54).alloc #[.slice none 0 0, .slice none 0 0, .slice none 0 0] 54
  simp only [World.size_alloc] at K0
  have F0 := K0.facts
  simp only [World.size_alloc, World.size_drew, factsL, cellsF, Nat.reduceAdd, List.toList_toArray, List.set_cons_zero, List.set_cons_succ, List.setIfInBounds_toArray, and_true, true_and] at F0
  clear hI hD hU
  go_enter Tryd.func30, Tryd.ntmps30
  obtain ⟨g3, hg3⟩ : ∃ g3, g3 = w.heap.size := ⟨_, rfl⟩
  obtain ⟨g4, hg4⟩ : ∃ g4, g4 = g3 + 1 := ⟨_, rfl⟩
  go_wp2_with fail
  rw [← hg3, ← hg4] at K0 ⊢
  clear F0
  generalize (w.alloc _).alloc _ = w1 at K0 ⊢
  have HGX := hid hg3
  clear hg3 hg4
  refine (next_any T 6 _ (K0.tp_ 5 rfl) (by omega) (by omega)).mono ?_
  rintro e w2 ⟨z, rfl, z0, z1, t2, g2⟩
  have K2 := Hold.callT K0 5 rfl g2 t2
  clear K0 g2 t2
  have F2 := K2.facts
  simp only [World.size_alloc, World.size_drew, factsL, cellsF, Nat.reduceAdd, List.toList_toArray, List.set_cons_zero, List.set_cons_succ, List.setIfInBounds_toArray, and_true, true_and] at F2
  have NK := K2.nes
  simp only [nesL, neF, and_true, true_and] at NK
  obtain rfl | rfl | rfl | rfl | rfl | rfl : z = 0 ∨ z = 1 ∨ z = 2 ∨ z = 3 ∨ z = 4 ∨ z = 5 := by omega
  · skip
    have KE := K2.alloc_own #[] 3 1 0 (by unfold maxLen; omega) rfl
    have k5 := hid (KE.ro 4 rfl).now
    clear K2
    have FE := KE.facts
    simp only [World.size_alloc, World.size_drew, factsL, cellsF, Nat.reduceAdd, List.toList_toArray, List.set_cons_zero, List.set_cons_succ, List.setIfInBounds_toArray, and_true, true_and] at FE
    go_wp2_with (at_builtin; go_must (refine wpList_appAllH KE 0 rfl Tryd.elIntK k5.out rfl (.tmp 24) (.tmp 26) rfl rfl rfl (iCells_one _) (by omega) (by omega) ?_); intro C' cap' w6 hc6 hm6 KB; (try simp only [Nat.zero_add] at hc6 KB ⊢); simp only [Nat.zero_add, List.nil_append, List.set_cons_zero, List.set_cons_succ] at KB; (have FB := KB.facts); simp only [World.size_alloc, World.size_drew, factsL, cellsF, Nat.reduceAdd, List.toList_toArray, List.set_cons_zero, List.set_cons_succ, List.setIfInBounds_toArray, and_true, true_and] at FB)

    refine (next_any T 9 _ (KB.tp_ 6 rfl) (by omega) (by omega)).mono ?_
    rintro e w3 ⟨r, rfl, r0, r1, t3, g3'⟩
    have K3 := Hold.callT KB 6 rfl g3' t3
    clear KB g3' t3 FB FE k5
    have F3 := K3.facts
    simp only [World.size_alloc, World.size_drew, factsL, cellsF, Nat.reduceAdd, List.toList_toArray, List.set_cons_zero, List.set_cons_succ, List.setIfInBounds_toArray, and_true, true_and] at F3
    have HCE := hid (show iCells dels ++ (#[Value.int .i64 r]).toList = iCells (dels ++ [r]) by simp [iCells])
    go_wp2_with (at_builtin; go_must (refine wpList_appH K3 0 rfl Tryd.elIntK #[.int .i64 r] rfl (.tmp 27) (.tmp 30) rfl rfl _ rfl rfl rfl (by intro u hu; simp at hu; rcases hu with rfl; rfl) (by omega) (by omega) ?_); intro g9 cap9 w9 hc9 hm9 KC; rw [HCE.out] at KC; simp only [List.set_cons_zero, List.set_cons_succ] at KC; (have FC := KC.facts); simp only [World.size_alloc, World.size_drew, factsL, cellsF, Nat.reduceAdd, List.toList_toArray, List.set_cons_zero, List.set_cons_succ, List.setIfInBounds_toArray, and_true, true_and] at FC)
    have KD := KC.store 2 rfl 1 (.slice (some ⟨g9, 0, none⟩) (nd + 1) cap9)
    have KS := KD.sealRow 0 rfl
    simp only [List.set_cons_zero, List.set_cons_succ, List.setIfInBounds_toArray] at KS
    have KN := ((KS.store 1 rfl 0 (.slice I ni ci)).store 1 rfl 1 (.slice (some ⟨g9, 0, none⟩) (nd + 1) cap9)).store 1 rfl 2 (.slice U nu cu)

    exact bodyPost_ret (v := .agg #[.slice I ni ci, .slice (some ⟨g9, 0, none⟩) (nd + 1) cap9, .slice U nu cu]) (by simp [results, Tryd.results30, go_sem, FC, NK]) rfl (someChg_of HB1.out ⟨hc9, hm9⟩ HB3.out HOI.out HOU.out ⟨by omega, by omega, by omega⟩ (KN.roOut 3 rfl) (KN.roOut 0 rfl) (KN.roOut 5 rfl) (KN.tp_ 6 rfl) KN.grow)
  · skip
    have KE := K2.alloc_own #[] 99 3 0 (by unfold maxLen; omega) rfl
    have k5 := hid (KE.ro 5 rfl).now.1
    clear K2
    have FE := KE.facts
    simp only [World.size_alloc, World.size_drew, factsL, cellsF, Nat.reduceAdd, List.toList_toArray, List.set_cons_zero, List.set_cons_succ, List.setIfInBounds_toArray, and_true, true_and] at FE
    go_wp2_with (at_builtin; go_must (refine wpList_appAllH KE 0 rfl Tryd.elPr k5.out rfl (.tmp 35) (.tmp 37) rfl rfl rfl (prCells_one _) (by omega) (by omega) ?_); intro C' cap' w6 hc6 hm6 KB; (try simp only [Nat.zero_add] at hc6 KB ⊢); simp only [Nat.zero_add, List.nil_append, List.set_cons_zero, List.set_cons_succ] at KB; (have FB := KB.facts); simp only [World.size_alloc, World.size_drew, factsL, cellsF, Nat.reduceAdd, List.toList_toArray, List.set_cons_zero, List.set_cons_succ, List.setIfInBounds_toArray, and_true, true_and] at FB)

    refine (next_any T 9 _ (KB.tp_ 6 rfl) (by omega) (by omega)).mono ?_
    rintro e w3 ⟨r, rfl, r0, r1, t3, g3'⟩
    have K3 := Hold.callT KB 6 rfl g3' t3
    clear KB g3' t3 FB FE k5
    have F3 := K3.facts
    simp only [World.size_alloc, World.size_drew, factsL, cellsF, Nat.reduceAdd, List.toList_toArray, List.set_cons_zero, List.set_cons_succ, List.setIfInBounds_toArray, and_true, true_and] at F3
    have HCE := hid (show prCells us ++ (#[Value.int .i64 r, .slice none 0 0, .slice none 0 0]).toList = prCells (us ++ [⟨r, none, 0, 0, [], none, 0, 0, []⟩]) by simp [prCells, Pr.cells])
    go_wp2_with (at_builtin; go_must (refine wpList_appH K3 0 rfl Tryd.elPr #[.int .i64 r, .slice none 0 0, .slice none 0 0] rfl (.tmp 38) (.tmp 42) rfl rfl _ rfl rfl rfl (by intro u hu; simp at hu; rcases hu with rfl | rfl | rfl <;> rfl) (by omega) (by omega) ?_); intro g9 cap9 w9 hc9 hm9 KC; rw [HCE.out] at KC; simp only [List.set_cons_zero, List.set_cons_succ] at KC; (have FC := KC.facts); simp only [World.size_alloc, World.size_drew, factsL, cellsF, Nat.reduceAdd, List.toList_toArray, List.set_cons_zero, List.set_cons_succ, List.setIfInBounds_toArray, and_true, true_and] at FC)
    have KD := KC.store 2 rfl 2 (.slice (some ⟨g9, 0, none⟩) (nu + 1) cap9)
    have KS := KD.sealRow 0 rfl
    simp only [List.set_cons_zero, List.set_cons_succ, List.setIfInBounds_toArray] at KS
    have KN := ((KS.store 1 rfl 0 (.slice I ni ci)).store 1 rfl 1 (.slice D nd cd)).store 1 rfl 2 (.slice (some ⟨g9, 0, none⟩) (nu + 1) cap9)

    exact bodyPost_ret (v := .agg #[.slice I ni ci, .slice D nd cd, .slice (some ⟨g9, 0, none⟩) (nu + 1) cap9]) (by simp [results, Tryd.results30, go_sem, FC, NK]) rfl (someChg_of HB1.out HB2.out ⟨hc9, hm9⟩ HOI.out (prOk_snoc HOU.out (prOk_new (by unfold I64; omega))) ⟨by omega, by omega, by omega⟩ (KN.roOut 3 rfl) (KN.roOut 4 rfl) ((KN.roOut 0 rfl).and ((KN.roOut 5 rfl).imp fun w h => prVals_new h r)) (KN.tp_ 6 rfl) KN.grow)
  · skip
    have KE := K2.alloc_own #[] 27 1 0 (by unfold maxLen; omega) rfl
    have k5 := hid (KE.ro 3 rfl).now.1
    clear K2
    have FE := KE.facts
    simp only [World.size_alloc, World.size_drew, factsL, cellsF, Nat.reduceAdd, List.toList_toArray, List.set_cons_zero, List.set_cons_succ, List.setIfInBounds_toArray, and_true, true_and] at FE
    go_wp2_with (at_builtin; go_must (refine wpList_appAllH KE 0 rfl Tryd.elSlc k5.out rfl (.tmp 47) (.tmp 49) rfl rfl rfl (slCells_one _) (by omega) (by omega) ?_); intro C' cap' w6 hc6 hm6 KB; (try simp only [Nat.zero_add] at hc6 KB ⊢); simp only [Nat.zero_add, List.nil_append, List.set_cons_zero, List.set_cons_succ] at KB; (have FB := KB.facts); simp only [World.size_alloc, World.size_drew, factsL, cellsF, Nat.reduceAdd, List.toList_toArray, List.set_cons_zero, List.set_cons_succ, List.setIfInBounds_toArray, and_true, true_and] at FB; go_wp2_with (at_builtin; have KZ := KB.alloc_cst #[.int .i64 0, .int .i64 0, .string ⟨#[]⟩] 66; have HCE := hid (show slCells ins ++ (#[Value.slice (some ⟨w6.heap.size, 0, none⟩) 1 1]).toList = slCells (ins ++ [⟨some ⟨w6.heap.size, 0, none⟩, 1, 1, [⟨0, 0, ⟨#[]⟩⟩]⟩]) by simp [slCells, Sl.cells]); go_must (refine wpList_appH KZ 1 rfl Tryd.elSlc #[.slice (some ⟨w6.heap.size, 0, none⟩) 1 1] rfl (.tmp 50) (.tmp 53) rfl rfl (w6.heap.size + 1) (by simp) rfl rfl (by intro u hu; simp at hu; rcases hu with rfl; rfl) (by omega) (by omega) ?_); intro g9 cap9 w9 hc9 hm9 KC; rw [HCE.out] at KC; simp only [List.set_cons_zero, List.set_cons_succ] at KC; (have FC := KC.facts); simp only [World.size_alloc, World.size_drew, factsL, cellsF, Nat.reduceAdd, List.toList_toArray, List.set_cons_zero, List.set_cons_succ, List.setIfInBounds_toArray, and_true, true_and] at FC))
    have KD := KC.store 3 rfl 0 (.slice (some ⟨g9, 0, none⟩) (ni + 1) cap9)
    have hzr : Ro _ _ (VlsIn (some ⟨w6.heap.size, 0, none⟩) 1 [⟨0, 0, ⟨#[]⟩⟩]) := ro_block (t := 66) (cs := #[.int .i64 0, .int .i64 0, .string ⟨#[]⟩]) (KD.get 0 rfl) rfl
    replace KD := KD.add hzr
    clear hzr
    have KS := KD.sealRow 2 rfl
    simp only [List.set_cons_zero, List.set_cons_succ, List.setIfInBounds_toArray] at KS
    have KN := ((KS.store 3 rfl 0 (.slice (some ⟨g9, 0, none⟩) (ni + 1) cap9)).store 3 rfl 1 (.slice D nd cd)).store 3 rfl 2 (.slice U nu cu)

    exact bodyPost_ret (v := .agg #[.slice (some ⟨g9, 0, none⟩) (ni + 1) cap9, .slice D nd cd, .slice U nu cu]) (by simp [results, Tryd.results30, go_sem, FC, NK]) rfl (someChg_of ⟨hc9, hm9⟩ HB2.out HB3.out (sls_ok_snoc HOI.out ⟨Nat.le_refl _, by show (1 : Nat) ≤ _; omega, fun v hv => by simp at hv; subst hv; exact ⟨by unfold I64; decide, by unfold I64; decide, Nat.zero_le _⟩⟩) HOU.out ⟨by omega, by omega, by omega⟩ ((KN.roOut 2 rfl).and (((KN.roOut 5 rfl).and (KN.roOut 0 rfl)).imp fun w h => slVals_new h.1 h.2)) (KN.roOut 6 rfl) (KN.roOut 7 rfl) (KN.tp_ 8 rfl) KN.grow)
  · skip
    by_cases hm0 : 0 < nu
    · have hg0 : decide ((nu : Int) > 0) = true := by simp; omega
      obtain ⟨p0, hp0⟩ := get_of HUL.out hm0
      have HP0 := hid hp0
      have HPM := hid (List.mem_of_getElem? hp0)
      clear hp0
      have KE := K2.alloc_own #[] 99 3 0 (by unfold maxLen; omega) rfl
      have k5 := hid (KE.ro 5 rfl).now.1
      clear K2
      have FE := KE.facts
      simp only [World.size_alloc, World.size_drew, factsL, cellsF, Nat.reduceAdd, List.toList_toArray, List.set_cons_zero, List.set_cons_succ, List.setIfInBounds_toArray, and_true, true_and] at FE
      go_wp2_with (at_builtin; go_must (refine wpList_appAllH KE 0 rfl Tryd.elPr k5.out rfl (.tmp 62) (.tmp 64) rfl rfl rfl (prCells_one _) (by omega) (by omega) ?_); intro C' cap' w6 hc6 hm6 KB; (try simp only [Nat.zero_add] at hc6 KB ⊢); simp only [Nat.zero_add, List.nil_append, List.set_cons_zero, List.set_cons_succ] at KB; (have FB := KB.facts); simp only [World.size_alloc, World.size_drew, factsL, cellsF, Nat.reduceAdd, List.toList_toArray, List.set_cons_zero, List.set_cons_succ, List.setIfInBounds_toArray, and_true, true_and] at FB; obtain ⟨ga, rfl⟩ : ∃ g, C' = some ⟨g, 0, none⟩ := (own_addr (KB.get 0 rfl)).elim (fun h => absurd h.2.1 (by omega)) (fun ⟨g, h, _⟩ => ⟨g, h⟩); obtain ⟨⟨y0, y1, y2⟩, ⟨y3, y4, y5⟩, y6⟩ := own_pr (KB.get 0 rfl) HP0.out; simp only [Nat.zero_mul, Nat.zero_add] at y0 y1 y2 y3 y4 y5; have N4 := KB.apart_ 0 1 rfl rfl (by omega) rfl rfl; have N5 := KB.apart_ 0 2 rfl rfl (by omega) rfl rfl; have N6 := N4.symm; have N7 := N5.symm)
      have KD := (KB.store 2 rfl 2 (.slice (some ⟨ga, 0, none⟩) nu cap')).put_ 0 rfl 1 (.slice none 0 0)
      rw [prCells_setOld HP0.out] at KD
      simp only [List.set_cons_zero, List.set_cons_succ, List.setIfInBounds_toArray] at KD
      have HOK3 := hid (show ∀ q ∈ us.set 0 ⟨p0.id, none, 0, 0, [], p0.nA, p0.nn, p0.nc, p0.new⟩, q.ok from fun q hq => by
        rcases List.mem_or_eq_of_mem_set hq with hq | rfl
        · exact HOU.out q hq
        · have h := HOU.out p0 HPM.out
          exact ⟨h.id, Nat.le_refl _, Nat.zero_le _, h.nc, h.nc2, fun v hv => (nomatch hv), h.new⟩)
      have KS := KD.sealRow 0 rfl
      simp only [List.set_cons_zero, List.set_cons_succ, List.setIfInBounds_toArray] at KS
      have KN := ((KS.store 1 rfl 0 (.slice I ni ci)).store 1 rfl 1 (.slice D nd cd)).store 1 rfl 2 (.slice (some ⟨ga, 0, none⟩) nu cap')

      exact bodyPost_ret (v := .agg #[.slice I ni ci, .slice D nd cd, .slice (some ⟨ga, 0, none⟩) nu cap']) (by simp [results, Tryd.results30, go_sem, FB, NK, y0, y1, y2, y3, y4, y5, y6, N4, N5, N6, N7]) rfl (someChg_of HB1.out HB2.out ⟨hc6, hm6⟩ HOI.out HOK3.out ⟨by omega, by omega, by omega⟩ (KN.roOut 3 rfl) (KN.roOut 4 rfl) ((KN.roOut 0 rfl).and ((KN.roOut 5 rfl).imp fun w h => prVals_set h HPM.out 0)) (KN.tp_ 6 rfl) KN.grow)
    · have hg0 : decide ((nu : Int) > 0) = false := by simp; omega
      have hg1 : decide (0 < nu) = false := by simp; omega
      have KN := ((K2.store 0 rfl 0 (.slice I ni ci)).store 0 rfl 1 (.slice D nd cd)).store 0 rfl 2 (.slice U nu cu)
      go_wp2_with fail
      exact bodyPost_ret (v := .agg #[.slice I ni ci, .slice D nd cd, .slice U nu cu]) (by simp [results, Tryd.results30, go_sem, F2, NK]) rfl (someChg_of HB1.out HB2.out HB3.out HOI.out HOU.out ⟨by omega, by omega, by omega⟩ (KN.roOut 2 rfl) (KN.roOut 3 rfl) (KN.roOut 4 rfl) (KN.tp_ 5 rfl) KN.grow)
  · skip
    by_cases hm0 : 0 < nu
    · have hg0 : decide ((nu : Int) > 0) = true := by simp; omega
      obtain ⟨p0, hp0⟩ := get_of HUL.out (show nu - 1 < nu by omega)
      obtain ⟨bu, ou, rfl, hpc⟩ := (K2.ro 4 rfl).prsAt hp0
      clear hp0
      have hm1 : (0 : Int) ≤ (nu : Int) - 1 := by omega
      have hm2 : (nu : Int) - 1 < (nu : Int) := by omega
      have hm4 : ((nu : Int) - 1).toNat = nu - 1 := by omega
      have hm5 : (1 : Int) ≤ (nu : Int) := by omega
      have s1 : IntKind.i64.wrap ((nu : Int) - 1) = (nu : Int) - 1 := by rw [IntKind.wrap_i64]; omega
      have HDL := hid (show (iCells dels).length = nd from by have h := (show Rd _ _ _ _ _ _ from (K2.ro 3 rfl).now).1; omega)
      have K3 := K2.add hpc
      clear hpc K2
      go_wp2_with fail
      obtain ⟨KL, hKL, KN⟩ := K3.name
      have HF : Hid (∀ wv, Hold M (some T) w wv KL → (wv.cell? ⟨g3, 1, none⟩ = some (.slice D nd cd) ∧ wv.cell? ⟨g3, 2, none⟩ = some (.slice (some ⟨bu, ou, none⟩) nu cu) ∧ g3 < wv.heap.size) ∧ (bu < wv.heap.size ∧ wv.cell? ⟨bu, ou + (nu - 1) * 3, none⟩ = some (.int .i64 p0.id) ∧ wv.cell? ⟨bu, ou + (nu - 1) * 3 + 1, none⟩ = some (.slice p0.oA p0.on p0.oc) ∧ wv.cell? ⟨bu, ou + (nu - 1) * 3 + 2, none⟩ = some (.slice p0.nA p0.nn p0.nc)) ∧ SlR 1 D nd (iCells dels) wv) := hid fun wv HC => by
        rw [hKL] at HC
        have y1 := HC.blk_ 2 rfl
        exact ⟨⟨cell_of_row _ _ 1 _ _ _ y1, cell_of_row _ _ 2 _ _ _ y1, Blk.lt y1⟩, (HC.ro 0 rfl).now, (HC.ro 4 rfl).now⟩
      have HKL := hid hKL
      clear hKL K3
      obtain ⟨Hs, hHs⟩ : ∃ Hs, Hs = w2.drew.heap.size := ⟨_, rfl⟩
      have HHS := hid hHs
      have hMH : ∀ b, Mut M KL b → b < Hs := by rw [hHs]; exact KN.drew.mutLt
      clear hHs
      refine wp_region_any (by kernel_rfl) ?_
      refine wpAny_hold 14 94 (KL) (spL [(77, EmptySl (Mut M KL) Hs 3), (80, OwnSl 3 1 Hs (iCells dels)), (90, StSl (Mut M KL) 1 [.int .i64 p0.id])]) (by kernel_rfl) (by kernel_rfl) (by kernel_rfl) rfl ?_ (KN.drew) ?_
      · exact stays_cons emptySl_mono (stays_cons (ownSl_mono hMH) (stays_cons stSl_mono (stays_nil _)))
      simp only [List.take_succ_cons, List.take_zero, List.drop_succ_cons, List.drop_zero, Act.put, List.getElem_toArray, List.getElem_cons_zero, List.getElem_cons_succ, List.setIfInBounds_toArray, List.set_cons_succ, List.set_cons_zero]
      refine dw_new #[] 3 77 (EmptySl (Mut M KL) Hs 3) (fun g => .slice (some ⟨g, 0, none⟩) 0 0) rfl rfl rfl rfl (fun wv => ?_) (fun wv HC hrm hD hro => ?_) ?_
      · go_simp <;> rfl
      · exact ⟨_, rfl, by have := hrm.1; rw [HHS.out]; exact this, hro _ HC.mutLt⟩
      rintro g77 wg HCg hsl
      simp only [Act.put, List.setIfInBounds_toArray, List.set_cons_succ, List.set_cons_zero]
      clear hsl HCg
      refine dw_val rfl rfl rfl ?_; apply Exists.intro; refine ⟨fun wv HC => ?_, ?_⟩
      ·  go_simp <;> rfl
      simp only [Act.put, List.setIfInBounds_toArray, List.set_cons_succ, List.set_cons_zero]
      refine dw_val rfl rfl rfl ?_; apply Exists.intro; refine ⟨fun wv HC => ?_, ?_⟩
      · obtain ⟨⟨f0, f1, f2⟩, ⟨q0, q1, q2, q3⟩, _⟩ := HF.out _ HC; go_simp <;> rfl
      simp only [Act.put, List.setIfInBounds_toArray, List.set_cons_succ, List.set_cons_zero]
      refine dw_cloneE Tryd.elIntK 80 (OwnSl 3 1 Hs (iCells dels)) rfl rfl rfl rfl (.tmp 77) (.tmp 79) rfl (g := g77) (b0 := Hs) rfl (A := D) (m := nd) (c := cd) (ys := iCells dels) rfl (iCells_one _) (by omega) (by omega) (by rw [HHS.out]; exact Nat.le_refl _) (fun wv HC hD => ?_) (fun wv HC hD => (HF.out _ HC).2.2) (fun C9 c9 wv wv' HC hrm HC' q1 q2 ho => ⟨C9, nd, c9, rfl, by rw [HDL.out, Nat.mul_one], q1, q2, ho⟩) ?_
      · have hsl : EmptySl (Mut M KL) Hs 3 (.slice (some ⟨g77, 0, none⟩) 0 0) wv := deps_at hD 0 rfl (by kernel_rfl) rfl rfl
        obtain ⟨gq, e6, h1, h2⟩ := hsl
        obtain rfl : g77 = gq := by injection e6 with e6; injection e6 with e6; injection e6
        exact ⟨h1, h2.now⟩
      rintro u wx HCx ⟨A80, n80, c80, rfl, hn80, -, -, -⟩
      obtain rfl : n80 = nd := by rw [HDL.out] at hn80; omega
      clear HCx hn80
      simp only [Act.put, List.setIfInBounds_toArray, List.set_cons_succ, List.set_cons_zero]
      refine dw_val rfl rfl rfl ?_; apply Exists.intro; refine ⟨fun wv HC => ?_, ?_⟩
      ·  go_simp <;> rfl
      simp only [Act.put, List.setIfInBounds_toArray, List.set_cons_succ, List.set_cons_zero]
      refine dw_val rfl rfl rfl ?_; apply Exists.intro; refine ⟨fun wv HC => ?_, ?_⟩
      · obtain ⟨⟨f0, f1, f2⟩, ⟨q0, q1, q2, q3⟩, _⟩ := HF.out _ HC; go_simp <;> rfl
      simp only [Act.put, List.setIfInBounds_toArray, List.set_cons_succ, List.set_cons_zero]
      refine dw_val rfl rfl rfl ?_; apply Exists.intro; refine ⟨fun wv HC => ?_, ?_⟩
      ·  go_simp <;> rfl
      simp only [Act.put, List.setIfInBounds_toArray, List.set_cons_succ, List.set_cons_zero]
      refine dw_val rfl rfl rfl ?_; apply Exists.intro; refine ⟨fun wv HC => ?_, ?_⟩
      · obtain ⟨⟨f0, f1, f2⟩, ⟨q0, q1, q2, q3⟩, _⟩ := HF.out _ HC; go_simp <;> rfl
      simp only [Act.put, List.setIfInBounds_toArray, List.set_cons_succ, List.set_cons_zero]
      refine dw_val rfl rfl rfl ?_; apply Exists.intro; refine ⟨fun wv HC => ?_, ?_⟩
      ·  go_simp <;> rfl
      simp only [Act.put, List.setIfInBounds_toArray, List.set_cons_succ, List.set_cons_zero]
      refine dw_val rfl rfl rfl ?_; apply Exists.intro; refine ⟨fun wv HC => ?_, ?_⟩
      ·  go_simp <;> rfl
      simp only [Act.put, List.setIfInBounds_toArray, List.set_cons_succ, List.set_cons_zero]
      refine dw_val rfl rfl rfl ?_; apply Exists.intro; refine ⟨fun wv HC => ?_, ?_⟩
      ·  go_simp <;> rfl
      simp only [Act.put, List.setIfInBounds_toArray, List.set_cons_succ, List.set_cons_zero]
      refine dw_val rfl rfl rfl ?_; apply Exists.intro; refine ⟨fun wv HC => ?_, ?_⟩
      ·  go_simp <;> rfl
      simp only [Act.put, List.setIfInBounds_toArray, List.set_cons_succ, List.set_cons_zero]
      refine dw_val rfl rfl rfl ?_; apply Exists.intro; refine ⟨fun wv HC => ?_, ?_⟩
      · obtain ⟨⟨f0, f1, f2⟩, ⟨q0, q1, q2, q3⟩, _⟩ := HF.out _ HC; go_simp <;> rfl
      simp only [Act.put, List.setIfInBounds_toArray, List.set_cons_succ, List.set_cons_zero]
      refine dw_new #[.int .i64 p0.id] 3 90 (StSl (Mut M KL) 1 ([.int .i64 p0.id])) (fun g => .slice (some ⟨g, 0, none⟩) 1 1) rfl rfl rfl rfl (fun wv => ?_) (fun wv HC _hrm hD hro => ?_) ?_
      · go_simp <;> rfl
      · exact ⟨_, 1, rfl, ro_block (hro _ HC.mutLt) rfl⟩
      rintro g90 wg HCg hsl
      simp only [Act.put, List.setIfInBounds_toArray, List.set_cons_succ, List.set_cons_zero]
      clear hsl HCg
      refine rel_nil ?_
      rintro wx2 HX
      rintro _hrm HGW
      have ho70 : OwnSl 3 1 Hs (iCells dels) (.slice A80 n80 c80) wx2 := (GW_on (d := 80) rfl).1 (HGW 3 _ rfl (by omega))
      have hb76 : StSl (Mut M KL) 1 ([.int .i64 p0.id]) (.slice (some ⟨g90, 0, none⟩) 1 1) wx2 := (GW_on (d := 90) rfl).1 (HGW 13 _ rfl (by omega))
      clear HGW
      obtain ⟨gq, nq, e6, k4_⟩ := hb76
      obtain ⟨rfl, rfl⟩ : g90 = gq ∧ 1 = nq := by injection e6 with h1 h2; injection h1 with h1; injection h1 with h1; exact ⟨h1, h2⟩
      obtain ⟨A6, n6, c6, e7, hn6, hc61, hc62, ho6⟩ := ho70
      obtain ⟨rfl, rfl, rfl⟩ : A80 = A6 ∧ n80 = n6 ∧ c80 = c6 := by injection e7 with h1 h2 h3; exact ⟨h1, h2, h3⟩
      clear e6 e7 hn6
      have k5 := hid k4_.now
      rw [HHS.out] at ho6
      have KA := Hold.addOwn KN.drew HX _hrm ho6
      rw [HKL.out] at KA
      clear HX _hrm ho6 k4_ HF KN hMH HHS
      have FKA := KA.facts
      simp only [World.size_alloc, World.size_drew, factsL, cellsF, Nat.reduceAdd, List.toList_toArray, List.set_cons_zero, List.set_cons_succ, List.setIfInBounds_toArray, and_true, true_and] at FKA
      have HCE := hid (show iCells dels ++ [Value.int .i64 p0.id] = iCells (dels ++ [p0.id]) by simp [iCells])
      go_wp2_with (at_builtin; go_must (refine wpList_appAllH KA 0 rfl Tryd.elIntK k5.out rfl (.tmp 80) (.tmp 90) rfl rfl rfl (by intro u hu; simp at hu; rcases hu with rfl; rfl) (by omega) (by omega) ?_); intro C' cap' w6 hc6 hm6 KB; rw [HCE.out] at KB; simp only [List.set_cons_zero, List.set_cons_succ] at KB; (have F3 := KB.facts); simp only [World.size_alloc, World.size_drew, factsL, cellsF, Nat.reduceAdd, List.toList_toArray, List.set_cons_zero, List.set_cons_succ, List.setIfInBounds_toArray, and_true, true_and] at F3)
      have KD := KB.store 3 rfl 1 (.slice C' (n80 + 1) cap')
      have KS := KD.sealRow 0 rfl
      simp only [List.set_cons_zero, List.set_cons_succ, List.setIfInBounds_toArray] at KS
      have KN := ((KS.store 2 rfl 0 (.slice I ni ci)).store 2 rfl 1 (.slice C' (n80 + 1) cap')).store 2 rfl 2 (.slice (some ⟨bu, ou, none⟩) nu cu)

      exact bodyPost_ret (v := .agg #[.slice I ni ci, .slice C' (n80 + 1) cap', .slice (some ⟨bu, ou, none⟩) nu cu]) (by simp [results, Tryd.results30, go_sem, F3, NK]) rfl (someChg_of HB1.out ⟨hc6, hm6⟩ HB3.out HOI.out HOU.out ⟨by omega, by omega, by omega⟩ (KN.roOut 4 rfl) (KN.roOut 0 rfl) (KN.roOut 6 rfl) (KN.tp_ 7 rfl) KN.grow)
    · have hg0 : decide ((nu : Int) > 0) = false := by simp; omega
      have hg1 : decide (0 < nu) = false := by simp; omega
      have KN := ((K2.store 0 rfl 0 (.slice I ni ci)).store 0 rfl 1 (.slice D nd cd)).store 0 rfl 2 (.slice U nu cu)
      go_wp2_with fail
      exact bodyPost_ret (v := .agg #[.slice I ni ci, .slice D nd cd, .slice U nu cu]) (by simp [results, Tryd.results30, go_sem, F2, NK]) rfl (someChg_of HB1.out HB2.out HB3.out HOI.out HOU.out ⟨by omega, by omega, by omega⟩ (KN.roOut 2 rfl) (KN.roOut 3 rfl) (KN.roOut 4 rfl) (KN.tp_ 5 rfl) KN.grow)
  · skip
    by_cases hm0 : 0 < nu
    · have hg0 : decide ((nu : Int) > 0) = true := by simp; omega
      obtain ⟨p0, hp0⟩ := get_of HUL.out hm0
      have HP0 := hid hp0
      have HPM := hid (List.mem_of_getElem? hp0)
      obtain ⟨bu, ou, rfl, hpc⟩ := (K2.ro 4 rfl).prsAt hp0
      simp only [Nat.zero_mul, Nat.add_zero] at hpc
      clear hp0
      have HDL := hid (show (prCells us).length = nu * 3 from by rw [prCells_len, HUL.out])
      have K3 := K2.add hpc
      clear hpc K2
      go_wp2_with fail
      obtain ⟨KL, hKL, KN⟩ := K3.name
      have HF : Hid (∀ wv, Hold M (some T) w wv KL → (wv.cell? ⟨g3, 1, none⟩ = some (.slice D nd cd) ∧ wv.cell? ⟨g3, 2, none⟩ = some (.slice (some ⟨bu, ou, none⟩) nu cu) ∧ g3 < wv.heap.size) ∧ (bu < wv.heap.size ∧ wv.cell? ⟨bu, ou, none⟩ = some (.int .i64 p0.id) ∧ wv.cell? ⟨bu, ou + 1, none⟩ = some (.slice p0.oA p0.on p0.oc) ∧ wv.cell? ⟨bu, ou + 2, none⟩ = some (.slice p0.nA p0.nn p0.nc)) ∧ SlR 3 (some ⟨bu, ou, none⟩) nu (prCells us) wv) := hid fun wv HC => by
        rw [hKL] at HC
        have y1 := HC.blk_ 2 rfl
        exact ⟨⟨cell_of_row _ _ 1 _ _ _ y1, cell_of_row _ _ 2 _ _ _ y1, Blk.lt y1⟩, (HC.ro 0 rfl).now, (HC.ro 5 rfl).now.1⟩
      have HKL := hid hKL
      clear hKL K3
      obtain ⟨Hs, hHs⟩ : ∃ Hs, Hs = w2.drew.heap.size := ⟨_, rfl⟩
      have HHS := hid hHs
      have hMH : ∀ b, Mut M KL b → b < Hs := by rw [hHs]; exact KN.drew.mutLt
      clear hHs
      refine wp_region_any (by kernel_rfl) ?_
      refine wpAny_hold 9 94 (KL) (spL [(11, EmptySl (Mut M KL) Hs 99), (14, OwnSl 99 3 Hs (prCells us)), (19, StSl (Mut M KL) 3 p0.cells)]) (by kernel_rfl) (by kernel_rfl) (by kernel_rfl) rfl ?_ (KN.drew) ?_
      · exact stays_cons emptySl_mono (stays_cons (ownSl_mono hMH) (stays_cons stSl_mono (stays_nil _)))
      simp only [List.take_succ_cons, List.take_zero, List.drop_succ_cons, List.drop_zero, Act.put, List.getElem_toArray, List.getElem_cons_zero, List.getElem_cons_succ, List.setIfInBounds_toArray, List.set_cons_succ, List.set_cons_zero]
      refine dw_new #[] 99 11 (EmptySl (Mut M KL) Hs 99) (fun g => .slice (some ⟨g, 0, none⟩) 0 0) rfl rfl rfl rfl (fun wv => ?_) (fun wv HC hrm hD hro => ?_) ?_
      · go_simp <;> rfl
      · exact ⟨_, rfl, by have := hrm.1; rw [HHS.out]; exact this, hro _ HC.mutLt⟩
      rintro g11 wg HCg hsl
      simp only [Act.put, List.setIfInBounds_toArray, List.set_cons_succ, List.set_cons_zero]
      clear hsl HCg
      refine dw_val rfl rfl rfl ?_; apply Exists.intro; refine ⟨fun wv HC => ?_, ?_⟩
      ·  go_simp <;> rfl
      simp only [Act.put, List.setIfInBounds_toArray, List.set_cons_succ, List.set_cons_zero]
      refine dw_val rfl rfl rfl ?_; apply Exists.intro; refine ⟨fun wv HC => ?_, ?_⟩
      · obtain ⟨⟨f0, f1, f2⟩, ⟨q0, q1, q2, q3⟩, _⟩ := HF.out _ HC; go_simp <;> rfl
      simp only [Act.put, List.setIfInBounds_toArray, List.set_cons_succ, List.set_cons_zero]
      refine dw_cloneE Tryd.elPr 14 (OwnSl 99 3 Hs (prCells us)) rfl rfl rfl rfl (.tmp 11) (.tmp 13) rfl (g := g11) (b0 := Hs) rfl (A := some ⟨bu, ou, none⟩) (m := nu) (c := cu) (ys := prCells us) rfl (prCells_one _) (by omega) (by omega) (by rw [HHS.out]; exact Nat.le_refl _) (fun wv HC hD => ?_) (fun wv HC hD => (HF.out _ HC).2.2) (fun C9 c9 wv wv' HC hrm HC' q1 q2 ho => ⟨C9, nu, c9, rfl, by rw [HDL.out], q1, q2, ho⟩) ?_
      · have hsl : EmptySl (Mut M KL) Hs 99 (.slice (some ⟨g11, 0, none⟩) 0 0) wv := deps_at hD 0 rfl (by kernel_rfl) rfl rfl
        obtain ⟨gq, e6, h1, h2⟩ := hsl
        obtain rfl : g11 = gq := by injection e6 with e6; injection e6 with e6; injection e6
        exact ⟨h1, h2.now⟩
      rintro u wx HCx ⟨A80, n80, c80, rfl, hn80, -, -, -⟩
      obtain rfl : n80 = nu := by rw [HDL.out] at hn80; omega
      clear HCx hn80
      simp only [Act.put, List.setIfInBounds_toArray, List.set_cons_succ, List.set_cons_zero]
      refine dw_val rfl rfl rfl ?_; apply Exists.intro; refine ⟨fun wv HC => ?_, ?_⟩
      ·  go_simp <;> rfl
      simp only [Act.put, List.setIfInBounds_toArray, List.set_cons_succ, List.set_cons_zero]
      refine dw_val rfl rfl rfl ?_; apply Exists.intro; refine ⟨fun wv HC => ?_, ?_⟩
      · obtain ⟨⟨f0, f1, f2⟩, ⟨q0, q1, q2, q3⟩, _⟩ := HF.out _ HC; go_simp <;> rfl
      simp only [Act.put, List.setIfInBounds_toArray, List.set_cons_succ, List.set_cons_zero]
      refine dw_val rfl rfl rfl ?_; apply Exists.intro; refine ⟨fun wv HC => ?_, ?_⟩
      ·  go_simp <;> rfl
      simp only [Act.put, List.setIfInBounds_toArray, List.set_cons_succ, List.set_cons_zero]
      refine dw_val rfl rfl rfl ?_; apply Exists.intro; refine ⟨fun wv HC => ?_, ?_⟩
      · obtain ⟨⟨f0, f1, f2⟩, ⟨q0, q1, q2, q3⟩, _⟩ := HF.out _ HC; go_simp <;> rfl
      simp only [Act.put, List.setIfInBounds_toArray, List.set_cons_succ, List.set_cons_zero]
      refine dw_new #[.int .i64 p0.id, .slice p0.oA p0.on p0.oc, .slice p0.nA p0.nn p0.nc] 99 19 (StSl (Mut M KL) 3 (p0.cells)) (fun g => .slice (some ⟨g, 0, none⟩) 1 1) rfl rfl rfl rfl (fun wv => ?_) (fun wv HC _hrm hD hro => ?_) ?_
      · go_simp <;> rfl
      · exact ⟨_, 1, rfl, ro_block (hro _ HC.mutLt) rfl⟩
      rintro g19 wg HCg hsl
      simp only [Act.put, List.setIfInBounds_toArray, List.set_cons_succ, List.set_cons_zero]
      clear hsl HCg
      refine rel_nil ?_
      rintro wx2 HX
      rintro _hrm HGW
      have ho70 : OwnSl 99 3 Hs (prCells us) (.slice A80 n80 c80) wx2 := (GW_on (d := 14) rfl).1 (HGW 3 _ rfl (by omega))
      have hb76 : StSl (Mut M KL) 3 (p0.cells) (.slice (some ⟨g19, 0, none⟩) 1 1) wx2 := (GW_on (d := 19) rfl).1 (HGW 8 _ rfl (by omega))
      clear HGW
      obtain ⟨gq, nq, e6, k4_⟩ := hb76
      obtain ⟨rfl, rfl⟩ : g19 = gq ∧ 1 = nq := by injection e6 with h1 h2; injection h1 with h1; injection h1 with h1; exact ⟨h1, h2⟩
      obtain ⟨A6, n6, c6, e7, hn6, hc61, hc62, ho6⟩ := ho70
      obtain ⟨rfl, rfl, rfl⟩ : A80 = A6 ∧ n80 = n6 ∧ c80 = c6 := by injection e7 with h1 h2 h3; exact ⟨h1, h2, h3⟩
      clear e6 e7 hn6
      have k5 := hid k4_.now
      rw [HHS.out] at ho6
      have KA := Hold.addOwn KN.drew HX _hrm ho6
      rw [HKL.out] at KA
      clear HX _hrm ho6 k4_ HF KN hMH HHS
      have FKA := KA.facts
      simp only [World.size_alloc, World.size_drew, factsL, cellsF, Nat.reduceAdd, List.toList_toArray, List.set_cons_zero, List.set_cons_succ, List.setIfInBounds_toArray, and_true, true_and] at FKA
      have HCE := hid (show prCells us ++ p0.cells = prCells (us ++ [p0]) by simp [prCells])
      go_wp2_with (at_builtin; go_must (refine wpList_appAllH KA 0 rfl Tryd.elPr k5.out rfl (.tmp 14) (.tmp 19) rfl rfl rfl (by intro u hu; simp [Pr.cells] at hu; rcases hu with rfl | rfl | rfl <;> rfl) (by omega) (by omega) ?_); intro C' cap' w6 hc6 hm6 KB; rw [HCE.out] at KB; simp only [List.set_cons_zero, List.set_cons_succ] at KB; (have F3 := KB.facts); simp only [World.size_alloc, World.size_drew, factsL, cellsF, Nat.reduceAdd, List.toList_toArray, List.set_cons_zero, List.set_cons_succ, List.setIfInBounds_toArray, and_true, true_and] at F3)
      have KD := KB.store 3 rfl 2 (.slice C' (n80 + 1) cap')
      have KS := KD.sealRow 0 rfl
      simp only [List.set_cons_zero, List.set_cons_succ, List.setIfInBounds_toArray] at KS
      have KN := ((KS.store 2 rfl 0 (.slice I ni ci)).store 2 rfl 1 (.slice D nd cd)).store 2 rfl 2 (.slice C' (n80 + 1) cap')

      exact bodyPost_ret (v := .agg #[.slice I ni ci, .slice D nd cd, .slice C' (n80 + 1) cap']) (by simp [results, Tryd.results30, go_sem, F3, NK]) rfl (someChg_of HB1.out HB2.out ⟨hc6, hm6⟩ HOI.out (prOk_snoc HOU.out (HOU.out p0 HPM.out)) ⟨by omega, by omega, by omega⟩ (KN.roOut 4 rfl) (KN.roOut 5 rfl) ((KN.roOut 0 rfl).and ((KN.roOut 6 rfl).imp fun w h => prVals_dup h HPM.out)) (KN.tp_ 7 rfl) KN.grow)
    · have hg0 : decide ((nu : Int) > 0) = false := by simp; omega
      have hg1 : decide (0 < nu) = false := by simp; omega
      have KN := ((K2.store 0 rfl 0 (.slice I ni ci)).store 0 rfl 1 (.slice D nd cd)).store 0 rfl 2 (.slice U nu cu)
      go_wp2_with fail
      exact bodyPost_ret (v := .agg #[.slice I ni ci, .slice D nd cd, .slice U nu cu]) (by simp [results, Tryd.results30, go_sem, F2, NK]) rfl (someChg_of HB1.out HB2.out HB3.out HOI.out HOU.out ⟨by omega, by omega, by omega⟩ (KN.roOut 2 rfl) (KN.roOut 3 rfl) (KN.roOut 4 rfl) (KN.tp_ 5 rfl) KN.grow)

end Go.Proofs.YtljmclbedpceoaaDoor

namespace Go.Proofs.YtljmclbedpceoaaDoor
open Go.RowKit
set_option linter.unusedVariables false
set_option linter.unusedSimpArgs false
theorem kspoil_slot (M : Nat → Prop) (T : Nat) (w : World) (hM : ∀ b, M b → b < w.heap.size) (ht : Tp w T) (hMT : ∀ b, M b → T ≤ b) (v : Value) (ins : List (List Vl)) (dels : List Int) (us : List Upd) (hC : ChgSlot (Mut M [.tp T]) ins dels us v w) (h1 : ins.length ≤ 1000) (h2 : dels.length ≤ 1000) (h3 : us.length ≤ 1000) :
    Calls Tryd.prog 30 #[.pointer (some ⟨T, 0, none⟩), v] w fun e w' => SomeChg w T M e w' := by
  obtain ⟨x, y, z, rfl, ⟨I, ni, ci, pi, rfl, i1, i2, rfl, i4, i5⟩, ⟨D, nd, cd, rfl, d1, d2, d3⟩, ⟨U, nu, cu, pu, rfl, u1, u2, rfl, u4, u5⟩⟩ := hC
  have hil := i5.now.len
  have hul := u5.now.len
  have hdl : dels.length = nd := (show Rd w w.heap.size 1 D nd (iCells dels) from d3.now).1 |> fun h => by simpa [iCells] using h
  simp only [List.length_map] at h1 h3
  exact kspoil_any M T w hM ht hMT I ni ci pi D nd cd dels U nu cu pu i5 d3 u5 (by omega) (by omega) (by omega) ⟨i1, i2⟩ ⟨d1, d2⟩ ⟨u1, u2⟩ i4 u4
theorem kalike_slot (M : Nat → Prop) (w : World) (hM : ∀ b, M b → b < w.heap.size) (v c : Value) (t : Tb) (ins : List (List Vl)) (dels : List Int) (us : List Upd) (hT : TbAt w M v t) (hC : ChgSlot M ins dels us c w) (hs : t.nm.size ≤ maxLen) (hcs : ∀ x ∈ t.cs, x.name.size ≤ maxLen)
    (hr : t.rs.length ≤ 4398046511104) (hrl : ∀ r ∈ t.rs, r.2.length ≤ 4398046511104) (hi : ins.length ≤ 1000000000000000) (hd : dels.length ≤ 1000000000000000) (hu : us.length ≤ 4398046511104) :
    Calls Tryd.prog 29 #[v, c] w fun e w' => e = .returned (.bool true) ∧ Below w.heap.size w w' := by
  obtain ⟨A, n, cc, B, m, d, l, rfl, h1, h2, h3, h4, h5, h6, h7, h8⟩ := hT
  obtain ⟨x, y, z, rfl, ⟨I, ni, ci, pi, rfl, i1, i2, rfl, i4, i5⟩, ⟨D, nd, cd, rfl, d1, d2, d3⟩, ⟨U, nu, cu, pu, rfl, u1, u2, rfl, u4, u5⟩⟩ := hC
  have hml := h6.now.len
  have hil := i5.now.len
  have hul := u5.now.len
  have hdl : dels.length = nd := (show Rd w w.heap.size 1 D nd (iCells dels) from d3.now).1 |> fun h => by simpa [iCells] using h
  have hrn : ∀ r ∈ l, r.n ≤ 4398046511104 := fun r hr' => by
    have h9 := hrl r.row (by rw [← h8]; exact List.mem_map_of_mem hr')
    have h10 : r.vs.length = r.n := VlsIn.len (h6.now.2 r hr')
    have h11 : r.row.2 = r.vs := rfl
    rw [h11] at h9
    omega
  rw [← h8] at hr
  simp only [List.length_map] at hr hi hu
  exact kalike_any M w hM t.nm A n cc t.cs t.nx B m d l I ni ci pi D nd cd dels U nu cu pu h5 h6 i5 d3 u5 (by omega) (by omega) h7 hrn (fun p hp => Nat.le_trans (u4 p hp).oc (u4 p hp).oc2) hs hcs (by omega) (by omega) (by omega) u1 u2 i4 u4
end Go.Proofs.YtljmclbedpceoaaDoor

namespace Go.Proofs.YtljmclbedpceoaaDoor
open Go.RowKit
set_option linter.unusedVariables false
set_option linter.unusedSimpArgs false

def SomeChgSl (M : Nat → Prop) (u : Value) (w : World) : Prop := ∃ (ins : List (List Vl)) (dels : List Int) (us : List Upd), ChgSlot M ins dels us u w ∧ ins.length ≤ 2000 ∧ dels.length ≤ 2000 ∧ us.length ≤ 2000
def SomeTabSl (M : Nat → Prop) (u : Value) (w : World) : Prop := ∃ t : Tb, TbAt w M u t ∧ t.nm.size ≤ maxLen ∧ (∀ x ∈ t.cs, x.name.size ≤ maxLen) ∧ t.cs.length ≤ 1001 ∧ t.rs.length ≤ 1000 ∧ ∀ r ∈ t.rs, r.2.length ≤ 1000
def VTabSl (M : Nat → Prop) (N : Nat) (u : Value) (w : World) : Prop := ∃ t : Tb, TbAt w M u t ∧ VTab t ∧ t.rs.length ≤ N
theorem someChgSl_mono {M : Nat → Prop} (u : Value) (w w' : World) (hr : RM M w w') (h : SomeChgSl M u w) : SomeChgSl M u w' := by
  obtain ⟨i, d, s, h1, h2⟩ := h
  exact ⟨i, d, s, chgSlot_mono _ _ _ hr h1, h2⟩
theorem someTabSl_mono {M : Nat → Prop} (u : Value) (w w' : World) (hr : RM M w w') (h : SomeTabSl M u w) : SomeTabSl M u w' := by
  obtain ⟨t, h1, h2⟩ := h
  exact ⟨t, tbAt_mono hr h1, h2⟩
theorem vTabSl_mono {M : Nat → Prop} {N : Nat} (u : Value) (w w' : World) (hr : RM M w w') (h : VTabSl M N u w) : VTabSl M N u w' := by
  obtain ⟨t, h1, h2⟩ := h
  exact ⟨t, tbAt_mono hr h1, h2⟩
set_option maxHeartbeats 8000000 in
set_option maxRecDepth 100000 in
theorem kforms_walk (v0 v1 : Value) (t0 : Tb) (ins0 : List (List Vl)) (dels0 : List Int) (us0 : List Upd) (A : Option Addr) (n c : Nat) (zs : List Int) (w : World) (hT0 : TbAt w None_ v0 t0) (hC0 : ChgSlot None_ ins0 dels0 us0 v1 w) (hs0 : t0.nm.size ≤ maxLen) (hcs0 : ∀ x ∈ t0.cs, x.name.size ≤ maxLen) (hrl0 : ∀ r ∈ t0.rs, r.2.length ≤ 4398046511104) (hd0 : dels0.length ≤ 1000000000000000) (hu0 : us0.length ≤ 4398046511104)
    (hr : Rd w w.heap.size 1 A n (zs.map (Value.int .i64))) (hz : Ints zs) (hn : n ≤ c) (hc : c ≤ 9223372036854775807) (hw : Wds w) :
    Calls Tryd.prog 5 #[v0, v1, .slice A n c] w fun e w' => e = .returned (.bool true) ∧ Below w.heap.size w w' := by
  obtain ⟨A0, n0, c0, B0, m0, d0, l0, rfl, a01, a02, a03, a04, a05, a06, a07, a08⟩ := hT0
  obtain ⟨x_, y_, z_, rfl, ⟨I0, ni0, ci0, pi0, rfl, i01, i02, i03, i04, i05⟩, ⟨D0, nd0, cd0, rfl, d01, d02, d03⟩, ⟨U0, nu0, cu0, pu0, rfl, u01, u02, u03, u04, u05⟩⟩ := hC0
  have hwl := hw.lt
  have HML := hid (show t0.rs.length = m0 by rw [← a08, List.length_map]; exact a06.now.len)
  have HIL := hid (show ins0.length = ni0 by rw [← i03, List.length_map]; exact i05.now.len)
  have HQ := hid (And.intro (And.intro a01 a02) (And.intro (And.intro a03 a04) (And.intro a07 (And.intro a08 (And.intro i01 (And.intro i02 (And.intro i03 (And.intro i04 (And.intro d01 (And.intro d02 (And.intro u01 (And.intro u02 (And.intro u03 u04)))))))))))))
  have K0 := ((((((Hold.begin_ w).add (u05.less (by simp [Mut]))).add (d03.less (by simp [Mut, Hp.foot]))).add (i05.less (by simp [Mut, Hp.foot]))).add (a06.less (by simp [Mut, Hp.foot]))).add (a05.less (by simp [Mut, Hp.foot]))).alloc_cst #[.string t0.nm, .slice A0 n0 c0, .int .i64 t0.nx, .slice B0 m0 d0] 40 |>.alloc_cst #[.slice I0 ni0 ci0, .slice D0 nd0 cd0, .slice U0 nu0 cu0] 54
  rw [World.size_alloc] at K0
  have F0 := K0.facts
  simp only [World.size_alloc, World.size_drew, factsL, cellsF, Nat.reduceAdd, List.toList_toArray, List.set_cons_zero, List.set_cons_succ, List.setIfInBounds_toArray, and_true, true_and] at F0
  clear a01 a02 a03 a04 a05 a06 a07 a08 i01 i02 i03 i04 i05 d01 d02 d03 u01 u02 u03 u04 u05
  go_enter Tryd.func5, Tryd.ntmps5
  obtain ⟨g3, hg3⟩ : ∃ g3, g3 = w.heap.size := ⟨_, rfl⟩
  obtain ⟨g4, hg4⟩ : ∃ g4, g4 = g3 + 1 := ⟨_, rfl⟩
  by_cases hm30 : 30 < m0
  · have hb1 : decide ((m0 : Int) > 30) = true := by simp; omega
    go_wp2_with fail
    refine (known7 _).mono ?_
    rintro e w9 ⟨rfl, b9⟩
    have K9 := K0.call b9
    go_wp2_with fail
    go_ret
    exact ⟨by first | rfl | simp, K9.below⟩
  have hb1 : decide ((m0 : Int) > 30) = false := by simp; omega
  have hb1' : decide (30 < m0) = false := by simp; omega
  by_cases hi30 : 30 < ni0
  · have hb2 : decide ((ni0 : Int) > 30) = true := by simp; omega
    go_wp2_with fail
    refine (known7 _).mono ?_
    rintro e w9 ⟨rfl, b9⟩
    have K9 := K0.call b9
    go_wp2_with fail
    go_ret
    exact ⟨by first | rfl | simp, K9.below⟩
  have hb2 : decide ((ni0 : Int) > 30) = false := by simp; omega
  have hb2' : decide (30 < ni0) = false := by simp; omega
  have HB0 := hid (show t0.nm.size ≤ maxLen ∧ (∀ x ∈ t0.cs, x.name.size ≤ maxLen) ∧ t0.rs.length ≤ 4398046511104 ∧ (∀ r ∈ t0.rs, r.2.length ≤ 4398046511104) ∧ ins0.length ≤ 1000000000000000 ∧ dels0.length ≤ 1000000000000000 ∧ us0.length ≤ 4398046511104 from ⟨hs0, hcs0, by rw [HML.out]; omega, hrl0, by rw [HIL.out]; omega, hd0, hu0⟩)
  clear hs0 hcs0 hrl0 hd0 hu0
  go_wp2_with fail
  rw [← hg3, ← hg4] at K0 ⊢
  clear F0 hb1 hb1' hb2 hb2' hm30 hi30
  generalize (w.alloc _).alloc _ = w1 at K0 ⊢
  have hr1 : Rd w1 w1.heap.size 1 A n (zs.map (Value.int .i64)) := (hr.keep fun p hp => World.cell?_of_block (w := w) (K0.below.block p.block hp)).more K0.grow.size
  have wd1 : Wds w1 := hw.below K0.below hwl
  have hle1 : w.heap.size ≤ w1.heap.size := K0.grow.size
  clear hr hw
  refine (new_any A n c zs _ hr1 hz hn hc).mono ?_
  rintro e w2 ⟨T, rfl, hT, t1, b1⟩
  have K1 := Hold.newTape K0 b1 t1 hT (by simp [Mut, None_, Hp.foot])
  have hT1 : 1 < T := by omega
  have wd0 : Wds w2 := wd1.below b1 (by omega)
  have K2 := K1.add (wd0.ro2 (show ¬ Mut None_ _ 1 from fun h => by simp [Mut, None_, Hp.foot] at h; omega))
  clear K1 K0 wd0 wd1 t1 b1 hr1 hT
  have HGX := hid (And.intro hg3 hg4)
  clear hg3 hg4
  go_wp2_with fail
  refine (tname_any (Mut None_ _) T _ K2.mutLt (K2.tp_ 1 rfl) (K2.get 1 rfl).2).mono ?_
  rintro e w3 ⟨s, rfl, hs, t2, g2⟩
  have K3 := Hold.callT K2 1 rfl g2 t2
  clear K2 t2 g2
  have HSO0 := hid (schOk_name hs)
  clear hs
  go_wp2_with fail
  refine (schema_any (Mut None_ _) _ K3.mutLt s).mono ?_
  rintro e w4 ⟨A2, n2, c2, rfl, hc1, hc2, r3, b3⟩
  have K4 := (K3.call b3).add r3
  clear K3 b3 r3
  go_wp2_with fail
  have hn2 : (schemaOf s).2.length = n2 := cols_n (K4.ro 0 rfl).now
  have hl2 := HSO0.out.len
  refine (tof_slot (Mut None_ _) T _ K4.mutLt (K4.tp_ 2 rfl) (K4.get 2 rfl).2 _ A2 n2 c2 _ 6 ((K4.ro 0 rfl).less (mut_tp (i := 2) rfl)) hc1 (by omega) HSO0.out ((K4.ro 1 rfl).less (mut_tp (i := 2) rfl)) hT1 (by omega)).mono ?_
  clear hn2 hl2
  rintro e w5 ⟨v, t, rfl, ⟨A3, n3, c3, B, m, d, l, rfl, h31, h32, hmd, hd2, r4c, r4, hlk, hlr⟩, htv, -, -, hrl, t4, g4'⟩
  dsimp only at r4c hlr ⊢
  have K5 := ((Hold.callT K4 2 rfl g4' t4).add r4).add (r4c.less (mut_none rfl))
  have HVT := hid htv
  have HSO := hid htv.sch
  have HBX := hid (show t.rs.length ≤ 4398046511104 ∧ ∀ r ∈ t.rs, r.2.length ≤ 4398046511104 from ⟨by omega, fun r hr => by have := htv.len r hr; omega⟩)
  have HRL := hid hrl
  have HLK := hid hlk
  have HLR := hid hlr
  have HMD := hid (And.intro hmd hd2)
  clear K4 t4 g4' hc1 hc2 r4 r4c hlk hlr htv hrl hmd hd2
  have K6 := K5.alloc_cst #[.string t.nm, .slice A3 n3 c3, .int .i64 t.nx, .slice B m d] 40
  clear K5
  obtain ⟨g8, hg8⟩ : ∃ g8, g8 = w5.heap.size := ⟨_, rfl⟩
  rw [← hg8] at K6
  have FA := K6.facts
  simp only [World.size_alloc, World.size_drew, factsL, cellsF, Nat.reduceAdd, List.toList_toArray, List.set_cons_zero, List.set_cons_succ, List.setIfInBounds_toArray, and_true, true_and] at FA
  go_wp2_with fail
  rw [← hg8]
  have HG8 := hid hg8
  clear hg8
  have hT : TbAt _ (Mut (Mut None_ _) [.tp T]) (.agg #[.string t.nm, .slice A3 n3 c3, .int .i64 t.nx, .slice B m d]) t := ⟨A3, n3, c3, B, m, d, l, rfl, h31, h32, HMD.out.1, HMD.out.2, (K6.ro 1 rfl).less (mut_tp (i := 5) rfl), (K6.ro 2 rfl).less (mut_tp (i := 5) rfl), HLK.out, HLR.out⟩
  refine (chgof_slot (Mut None_ _) T _ K6.mutLt (K6.tp_ 5 rfl) (K6.get 5 rfl).2 _ t hT HVT.out ((K6.ro 4 rfl).less (mut_tp (i := 5) rfl)) hT1).mono ?_
  clear hT
  rintro e w6 ⟨v, ins, dels, us, rfl, ⟨a_, b_, c_, rfl, ⟨I, ni, ci, pi, rfl, i1, i2, i3, i4, i5⟩, ⟨D, nd, cd, rfl, d1, d2, d3⟩, ⟨U, nu, cu, pu, rfl, u1, u2, u3, u4, u5⟩⟩, hil, hdl, hul, t5, g5'⟩
  have K7 := ((((Hold.callT K6 5 rfl g5' t5).add u5).add (d3.less (mut_none rfl))).add ((i5.less (mut_none rfl)).less (mut_none rfl))).alloc_cst #[.slice I ni ci, .slice D nd cd, .slice U nu cu] 54
  have HBC := hid (show ins.length ≤ 1000000000000000 ∧ dels.length ≤ 1000000000000000 ∧ us.length ≤ 4398046511104 from ⟨by omega, by have := HRL.out; omega, by have := HRL.out; omega⟩)
  have HSM := hid (show ins.length ≤ 1000 ∧ dels.length ≤ 1000 ∧ us.length ≤ 1000 from ⟨by omega, by have := HRL.out; omega, by have := HRL.out; omega⟩)
  have HC3 := hid (And.intro i1 (And.intro i2 (And.intro i3 (And.intro i4 (And.intro d1 (And.intro d2 (And.intro u1 (And.intro u2 (And.intro u3 u4)))))))))
  clear K6 FA t5 g5' i1 i2 i3 i4 i5 d1 d2 d3 u1 u2 u3 u4 u5 hil hdl hul
  obtain ⟨g9, hg9⟩ : ∃ g9, g9 = w6.heap.size := ⟨_, rfl⟩
  rw [← hg9] at K7
  have FA := K7.facts
  simp only [World.size_alloc, World.size_drew, factsL, cellsF, Nat.reduceAdd, List.toList_toArray, List.set_cons_zero, List.set_cons_succ, List.setIfInBounds_toArray, and_true, true_and] at FA
  go_wp2_with fail
  rw [← hg9]
  have HG9 := hid hg9
  clear hg9 FA
  generalize World.alloc w6 _ = w7 at K7 ⊢
  obtain ⟨KL, hKL, KN⟩ := K7.name
  have HF : Hid (∀ wv, Hold None_ none w wv KL → (wv.cell? ⟨g3, 0, none⟩ = some (.string t0.nm) ∧ wv.cell? ⟨g3, 1, none⟩ = some (.slice A0 n0 c0) ∧ wv.cell? ⟨g3, 2, none⟩ = some (.int .i64 t0.nx) ∧ wv.cell? ⟨g3, 3, none⟩ = some (.slice B0 m0 d0) ∧ g3 < wv.heap.size) ∧ (wv.cell? ⟨g4, 0, none⟩ = some (.slice I0 ni0 ci0) ∧ wv.cell? ⟨g4, 1, none⟩ = some (.slice D0 nd0 cd0) ∧ wv.cell? ⟨g4, 2, none⟩ = some (.slice U0 nu0 cu0) ∧ g4 < wv.heap.size) ∧ (wv.cell? ⟨g8, 0, none⟩ = some (.string t.nm) ∧ wv.cell? ⟨g8, 1, none⟩ = some (.slice A3 n3 c3) ∧ wv.cell? ⟨g8, 2, none⟩ = some (.int .i64 t.nx) ∧ wv.cell? ⟨g8, 3, none⟩ = some (.slice B m d) ∧ g8 < wv.heap.size) ∧ (wv.cell? ⟨g9, 0, none⟩ = some (.slice I ni ci) ∧ wv.cell? ⟨g9, 1, none⟩ = some (.slice D nd cd) ∧ wv.cell? ⟨g9, 2, none⟩ = some (.slice U nu cu) ∧ g9 < wv.heap.size)) := hid fun wv HC => by
    rw [hKL] at HC
    have y0 := HC.cst_ 11 rfl
    have y1 := HC.cst_ 10 rfl
    have y2 := HC.cst_ 4 rfl
    have y3 := HC.cst_ 0 rfl
    exact ⟨⟨cell_of_row _ _ 0 _ _ _ y0, cell_of_row _ _ 1 _ _ _ y0, cell_of_row _ _ 2 _ _ _ y0, cell_of_row _ _ 3 _ _ _ y0, Blk.lt y0⟩, ⟨cell_of_row _ _ 0 _ _ _ y1, cell_of_row _ _ 1 _ _ _ y1, cell_of_row _ _ 2 _ _ _ y1, Blk.lt y1⟩, ⟨cell_of_row _ _ 0 _ _ _ y2, cell_of_row _ _ 1 _ _ _ y2, cell_of_row _ _ 2 _ _ _ y2, cell_of_row _ _ 3 _ _ _ y2, Blk.lt y2⟩, ⟨cell_of_row _ _ 0 _ _ _ y3, cell_of_row _ _ 1 _ _ _ y3, cell_of_row _ _ 2 _ _ _ y3, Blk.lt y3⟩⟩
  have HX : Hid (∀ wv, Hold None_ none w wv KL → TbAt wv (Mut None_ KL) (.agg #[.string t0.nm, .slice A0 n0 c0, .int .i64 t0.nx, .slice B0 m0 d0]) t0 ∧ ChgSlot (Mut None_ KL) ins0 dels0 us0 (.agg #[.slice I0 ni0 ci0, .slice D0 nd0 cd0, .slice U0 nu0 cu0]) wv ∧ TbAt wv (Mut None_ KL) (.agg #[.string t.nm, .slice A3 n3 c3, .int .i64 t.nx, .slice B m d]) t ∧ ChgSlot (Mut None_ KL) ins dels us (.agg #[.slice I ni ci, .slice D nd cd, .slice U nu cu]) wv ∧ Tp wv T ∧ (∀ b, (Mut None_ KL) b → T ≤ b) ∧ Ro wv (Mut None_ KL) Wds) := hid fun wv HC => by
    rw [hKL] at HC ⊢
    obtain ⟨⟨a01, a02⟩, ⟨a03, a04⟩, a07, a08, i01, i02, i03, i04, d01, d02, u01, u02, u03, u04⟩ := HQ.out
    obtain ⟨i1, i2, i3, i4, d1, d2, u1, u2, u3, u4⟩ := HC3.out
    exact ⟨⟨A0, n0, c0, B0, m0, d0, l0, rfl, a01, a02, a03, a04, HC.ro 12 rfl, HC.ro 13 rfl, a07, a08⟩, ⟨_, _, _, rfl, ⟨I0, ni0, ci0, pi0, rfl, i01, i02, i03, i04, HC.ro 14 rfl⟩, ⟨D0, nd0, cd0, rfl, d01, d02, HC.ro 15 rfl⟩, ⟨U0, nu0, cu0, pu0, rfl, u01, u02, u03, u04, HC.ro 16 rfl⟩⟩,
      ⟨A3, n3, c3, B, m, d, l, rfl, h31, h32, HMD.out.1, HMD.out.2, HC.ro 5 rfl, HC.ro 6 rfl, HLK.out, HLR.out⟩, ⟨_, _, _, rfl, ⟨I, ni, ci, pi, rfl, i1, i2, i3, i4, HC.ro 1 rfl⟩, ⟨D, nd, cd, rfl, d1, d2, HC.ro 2 rfl⟩, ⟨U, nu, cu, pu, rfl, u1, u2, u3, u4, HC.ro 3 rfl⟩⟩, HC.tp_ 9 rfl, (HC.get 9 rfl).2, HC.ro 8 rfl⟩
  have XC : Hid (∀ wv, Hold None_ none w wv KL → Ro wv (Mut None_ KL) (ColsIn A3 n3 t.cs)) := hid fun wv HC => by
    rw [hKL] at HC ⊢
    exact HC.ro 5 rfl
  have HKL := hid hKL
  clear hKL K7
  refine wp_region_any (by kernel_rfl) ?_
  refine wpAny_hold 40 71 (KL) (spL [(33, IsV (.bool true)), (37, IsV (.bool true)), (42, IsV (.bool true)), (48, SomeChgSl (Mut None_ KL)), (49, IsV (.bool true)), (54, SomeTabSl (Mut None_ KL)), (56, IsV (.bool true)), (64, VTabSl (Mut None_ KL) 4), (65, SomeChgSl (Mut None_ KL)), (66, IsV (.bool true)), (69, IsV (.bool true))]) (by kernel_rfl) (by kernel_rfl) (by kernel_rfl) rfl ?_ (KN.drew) ?_
  · exact stays_cons isV_mono (stays_cons isV_mono (stays_cons isV_mono (stays_cons someChgSl_mono (stays_cons isV_mono (stays_cons someTabSl_mono (stays_cons isV_mono (stays_cons vTabSl_mono (stays_cons someChgSl_mono (stays_cons isV_mono (stays_cons isV_mono (stays_nil _)))))))))))
  simp only [List.take_succ_cons, List.take_zero, List.drop_succ_cons, List.drop_zero, Act.put, List.getElem_toArray, List.getElem_cons_zero, List.getElem_cons_succ, List.setIfInBounds_toArray, List.set_cons_succ, List.set_cons_zero]
  refine dw_val rfl rfl rfl ?_; apply Exists.intro; refine ⟨fun wv HC => ?_, ?_⟩
  · obtain ⟨⟨f0, f1, f2, f3, f4⟩, ⟨f5, f6, f7, f8⟩, ⟨f9, f10, f11, f12, f13⟩, ⟨f14, f15, f16, f17⟩⟩ := HF.out _ HC; go_simp <;> rfl
  simp only [Act.put, List.setIfInBounds_toArray, List.set_cons_succ, List.set_cons_zero]
  refine dw_val rfl rfl rfl ?_; apply Exists.intro; refine ⟨fun wv HC => ?_, ?_⟩
  · obtain ⟨⟨f0, f1, f2, f3, f4⟩, ⟨f5, f6, f7, f8⟩, ⟨f9, f10, f11, f12, f13⟩, ⟨f14, f15, f16, f17⟩⟩ := HF.out _ HC; go_simp <;> rfl
  simp only [Act.put, List.setIfInBounds_toArray, List.set_cons_succ, List.set_cons_zero]
  refine dw_callR 33 (IsV (.bool true)) (f := 29) (args := #[.agg #[.string t0.nm, .slice A0 n0 c0, .int .i64 t0.nx, .slice B0 m0 d0], .agg #[.slice I0 ni0 ci0, .slice D0 nd0 cd0, .slice U0 nu0 cu0]]) rfl rfl rfl rfl (fun wv => ?_) (fun wv HC hrm hD => ?_) ?_
  · go_simp <;> rfl
  · obtain ⟨X0, X1, X2, X3, X4, X5, X6⟩ := HX.out _ HC
    refine (kalike_slot _ wv HC.mutLt _ _ _ _ _ _ X0 X1 HB0.out.1 HB0.out.2.1 HB0.out.2.2.1 HB0.out.2.2.2.1 HB0.out.2.2.2.2.1 HB0.out.2.2.2.2.2.1 HB0.out.2.2.2.2.2.2).mono ?_
    rintro e w5 ⟨rfl, b5⟩
    exact ⟨_, rfl, rfl, HC.call b5, RM.below b5⟩
  rintro u wx HCx rfl
  clear HCx
  simp only [Act.put, List.setIfInBounds_toArray, List.set_cons_succ, List.set_cons_zero]
  refine dw_val rfl rfl rfl ?_; apply Exists.intro; refine ⟨fun wv HC => ?_, ?_⟩
  ·  go_simp <;> rfl
  simp only [Act.put, List.setIfInBounds_toArray, List.set_cons_succ, List.set_cons_zero]
  refine dw_val rfl rfl rfl ?_; apply Exists.intro; refine ⟨fun wv HC => ?_, ?_⟩
  · obtain ⟨⟨f0, f1, f2, f3, f4⟩, ⟨f5, f6, f7, f8⟩, ⟨f9, f10, f11, f12, f13⟩, ⟨f14, f15, f16, f17⟩⟩ := HF.out _ HC; go_simp <;> rfl
  simp only [Act.put, List.setIfInBounds_toArray, List.set_cons_succ, List.set_cons_zero]
  refine dw_val rfl rfl rfl ?_; apply Exists.intro; refine ⟨fun wv HC => ?_, ?_⟩
  · obtain ⟨⟨f0, f1, f2, f3, f4⟩, ⟨f5, f6, f7, f8⟩, ⟨f9, f10, f11, f12, f13⟩, ⟨f14, f15, f16, f17⟩⟩ := HF.out _ HC; go_simp <;> rfl
  simp only [Act.put, List.setIfInBounds_toArray, List.set_cons_succ, List.set_cons_zero]
  refine dw_callR 37 (IsV (.bool true)) (f := 29) (args := #[.agg #[.string t.nm, .slice A3 n3 c3, .int .i64 t.nx, .slice B m d], .agg #[.slice I ni ci, .slice D nd cd, .slice U nu cu]]) rfl rfl rfl rfl (fun wv => ?_) (fun wv HC hrm hD => ?_) ?_
  · go_simp <;> rfl
  · obtain ⟨X0, X1, X2, X3, X4, X5, X6⟩ := HX.out _ HC
    refine (kalike_slot _ wv HC.mutLt _ _ _ _ _ _ X2 X3 HSO.out.nm HSO.out.cs HBX.out.1 HBX.out.2 HBC.out.1 HBC.out.2.1 HBC.out.2.2).mono ?_
    rintro e w5 ⟨rfl, b5⟩
    exact ⟨_, rfl, rfl, HC.call b5, RM.below b5⟩
  rintro u wx HCx rfl
  clear HCx
  simp only [Act.put, List.setIfInBounds_toArray, List.set_cons_succ, List.set_cons_zero]
  refine dw_val rfl rfl rfl ?_; apply Exists.intro; refine ⟨fun wv HC => ?_, ?_⟩
  ·  go_simp <;> rfl
  simp only [Act.put, List.setIfInBounds_toArray, List.set_cons_succ, List.set_cons_zero]
  refine dw_val rfl rfl rfl ?_; apply Exists.intro; refine ⟨fun wv HC => ?_, ?_⟩
  ·  go_simp <;> rfl
  simp only [Act.put, List.setIfInBounds_toArray, List.set_cons_succ, List.set_cons_zero]
  refine dw_val rfl rfl rfl ?_; apply Exists.intro; refine ⟨fun wv HC => ?_, ?_⟩
  · obtain ⟨⟨f0, f1, f2, f3, f4⟩, ⟨f5, f6, f7, f8⟩, ⟨f9, f10, f11, f12, f13⟩, ⟨f14, f15, f16, f17⟩⟩ := HF.out _ HC; go_simp <;> rfl
  simp only [Act.put, List.setIfInBounds_toArray, List.set_cons_succ, List.set_cons_zero]
  refine dw_val rfl rfl rfl ?_; apply Exists.intro; refine ⟨fun wv HC => ?_, ?_⟩
  · obtain ⟨⟨f0, f1, f2, f3, f4⟩, ⟨f5, f6, f7, f8⟩, ⟨f9, f10, f11, f12, f13⟩, ⟨f14, f15, f16, f17⟩⟩ := HF.out _ HC; go_simp <;> rfl
  simp only [Act.put, List.setIfInBounds_toArray, List.set_cons_succ, List.set_cons_zero]
  refine dw_callR 42 (IsV (.bool true)) (f := 29) (args := #[.agg #[.string t.nm, .slice A3 n3 c3, .int .i64 t.nx, .slice B m d], .agg #[.slice I0 ni0 ci0, .slice D0 nd0 cd0, .slice U0 nu0 cu0]]) rfl rfl rfl rfl (fun wv => ?_) (fun wv HC hrm hD => ?_) ?_
  · go_simp <;> rfl
  · obtain ⟨X0, X1, X2, X3, X4, X5, X6⟩ := HX.out _ HC
    refine (kalike_slot _ wv HC.mutLt _ _ _ _ _ _ X2 X1 HSO.out.nm HSO.out.cs HBX.out.1 HBX.out.2 HB0.out.2.2.2.2.1 HB0.out.2.2.2.2.2.1 HB0.out.2.2.2.2.2.2).mono ?_
    rintro e w5 ⟨rfl, b5⟩
    exact ⟨_, rfl, rfl, HC.call b5, RM.below b5⟩
  rintro u wx HCx rfl
  clear HCx
  simp only [Act.put, List.setIfInBounds_toArray, List.set_cons_succ, List.set_cons_zero]
  refine dw_val rfl rfl rfl ?_; apply Exists.intro; refine ⟨fun wv HC => ?_, ?_⟩
  ·  go_simp <;> rfl
  simp only [Act.put, List.setIfInBounds_toArray, List.set_cons_succ, List.set_cons_zero]
  refine dw_val rfl rfl rfl ?_; apply Exists.intro; refine ⟨fun wv HC => ?_, ?_⟩
  ·  go_simp <;> rfl
  simp only [Act.put, List.setIfInBounds_toArray, List.set_cons_succ, List.set_cons_zero]
  refine dw_val rfl rfl rfl ?_; apply Exists.intro; refine ⟨fun wv HC => ?_, ?_⟩
  · obtain ⟨⟨f0, f1, f2, f3, f4⟩, ⟨f5, f6, f7, f8⟩, ⟨f9, f10, f11, f12, f13⟩, ⟨f14, f15, f16, f17⟩⟩ := HF.out _ HC; go_simp <;> rfl
  simp only [Act.put, List.setIfInBounds_toArray, List.set_cons_succ, List.set_cons_zero]
  refine dw_val rfl rfl rfl ?_; apply Exists.intro; refine ⟨fun wv HC => ?_, ?_⟩
  ·  go_simp <;> rfl
  simp only [Act.put, List.setIfInBounds_toArray, List.set_cons_succ, List.set_cons_zero]
  refine dw_val rfl rfl rfl ?_; apply Exists.intro; refine ⟨fun wv HC => ?_, ?_⟩
  · obtain ⟨⟨f0, f1, f2, f3, f4⟩, ⟨f5, f6, f7, f8⟩, ⟨f9, f10, f11, f12, f13⟩, ⟨f14, f15, f16, f17⟩⟩ := HF.out _ HC; go_simp <;> rfl
  simp only [Act.put, List.setIfInBounds_toArray, List.set_cons_succ, List.set_cons_zero]
  refine dw_callR 48 (SomeChgSl (Mut None_ KL)) (f := 30) (args := #[.pointer (some ⟨T, 0, none⟩), .agg #[.slice I ni ci, .slice D nd cd, .slice U nu cu]]) rfl rfl rfl rfl (fun wv => ?_) (fun wv HC hrm hD => ?_) ?_
  · go_simp <;> rfl
  · obtain ⟨X0, X1, X2, X3, X4, X5, X6⟩ := HX.out _ HC
    refine (kspoil_slot (Mut None_ KL) T wv HC.mutLt X4 X5 _ _ _ _ (chgSlot_less X3 (mut_tp (i := 9) (by rw [HKL.out]; rfl))) HSM.out.1 HSM.out.2.1 HSM.out.2.2).mono ?_
    rintro e w5 ⟨v5, i5, d5, u5, rfl, hc5, hb5, t5, g5'⟩
    exact ⟨_, rfl, ⟨i5, d5, u5, hc5, hb5⟩, Hold.callT HC 9 (by rw [HKL.out]; rfl) g5' t5, RM.grown g5' (.inr ⟨_, List.mem_of_getElem? (i := 9) (by rw [HKL.out]; rfl), rfl⟩)⟩
  rintro s48 wx HCx hs48
  clear HCx hs48
  simp only [Act.put, List.setIfInBounds_toArray, List.set_cons_succ, List.set_cons_zero]
  refine dw_callR 49 (IsV (.bool true)) (f := 29) (args := #[.agg #[.string t.nm, .slice A3 n3 c3, .int .i64 t.nx, .slice B m d], s48]) rfl rfl rfl rfl (fun wv => ?_) (fun wv HC hrm hD => ?_) ?_
  · go_simp <;> rfl
  · obtain ⟨X0, X1, X2, X3, X4, X5, X6⟩ := HX.out _ HC
    have hsl : SomeChgSl (Mut None_ KL) s48 wv := deps_at hD 17 rfl (by kernel_rfl) rfl rfl
    obtain ⟨i5, d5, u5, h5, hb1, hb2, hb3⟩ := hsl
    refine (kalike_slot _ wv HC.mutLt _ _ _ _ _ _ X2 h5 HSO.out.nm HSO.out.cs HBX.out.1 HBX.out.2 (by omega) (by omega) (by omega)).mono ?_
    rintro e w5 ⟨rfl, b5⟩
    exact ⟨_, rfl, rfl, HC.call b5, RM.below b5⟩
  rintro u wx HCx rfl
  clear HCx
  simp only [Act.put, List.setIfInBounds_toArray, List.set_cons_succ, List.set_cons_zero]
  refine dw_val rfl rfl rfl ?_; apply Exists.intro; refine ⟨fun wv HC => ?_, ?_⟩
  ·  go_simp <;> rfl
  simp only [Act.put, List.setIfInBounds_toArray, List.set_cons_succ, List.set_cons_zero]
  refine dw_val rfl rfl rfl ?_; apply Exists.intro; refine ⟨fun wv HC => ?_, ?_⟩
  ·  go_simp <;> rfl
  simp only [Act.put, List.setIfInBounds_toArray, List.set_cons_succ, List.set_cons_zero]
  refine dw_val rfl rfl rfl ?_; apply Exists.intro; refine ⟨fun wv HC => ?_, ?_⟩
  ·  go_simp <;> rfl
  simp only [Act.put, List.setIfInBounds_toArray, List.set_cons_succ, List.set_cons_zero]
  refine dw_val rfl rfl rfl ?_; apply Exists.intro; refine ⟨fun wv HC => ?_, ?_⟩
  · obtain ⟨⟨f0, f1, f2, f3, f4⟩, ⟨f5, f6, f7, f8⟩, ⟨f9, f10, f11, f12, f13⟩, ⟨f14, f15, f16, f17⟩⟩ := HF.out _ HC; go_simp <;> rfl
  simp only [Act.put, List.setIfInBounds_toArray, List.set_cons_succ, List.set_cons_zero]
  refine dw_callR 54 (SomeTabSl (Mut None_ KL)) (f := 31) (args := #[.pointer (some ⟨T, 0, none⟩), .agg #[.string t.nm, .slice A3 n3 c3, .int .i64 t.nx, .slice B m d]]) rfl rfl rfl rfl (fun wv => ?_) (fun wv HC hrm hD => ?_) ?_
  · go_simp <;> rfl
  · obtain ⟨X0, X1, X2, X3, X4, X5, X6⟩ := HX.out _ HC
    refine (tspoil_slot (Mut None_ KL) T wv HC.mutLt X4 X5 _ _ (tbAt_less X2 (mut_tp (i := 9) (by rw [HKL.out]; rfl))) HVT.out (X6.less (mut_tp (i := 9) (by rw [HKL.out]; rfl))) hT1).mono ?_
    rintro e w5 ⟨v5, t5', rfl, hc5, hb5, t5, g5'⟩
    exact ⟨_, rfl, ⟨t5', hc5, hb5⟩, Hold.callT HC 9 (by rw [HKL.out]; rfl) g5' t5, RM.grown g5' (.inr ⟨_, List.mem_of_getElem? (i := 9) (by rw [HKL.out]; rfl), rfl⟩)⟩
  rintro s54 wx HCx hs54
  clear HCx hs54
  simp only [Act.put, List.setIfInBounds_toArray, List.set_cons_succ, List.set_cons_zero]
  refine dw_val rfl rfl rfl ?_; apply Exists.intro; refine ⟨fun wv HC => ?_, ?_⟩
  · obtain ⟨⟨f0, f1, f2, f3, f4⟩, ⟨f5, f6, f7, f8⟩, ⟨f9, f10, f11, f12, f13⟩, ⟨f14, f15, f16, f17⟩⟩ := HF.out _ HC; go_simp <;> rfl
  simp only [Act.put, List.setIfInBounds_toArray, List.set_cons_succ, List.set_cons_zero]
  refine dw_callR 56 (IsV (.bool true)) (f := 29) (args := #[s54, .agg #[.slice I ni ci, .slice D nd cd, .slice U nu cu]]) rfl rfl rfl rfl (fun wv => ?_) (fun wv HC hrm hD => ?_) ?_
  · go_simp <;> rfl
  · obtain ⟨X0, X1, X2, X3, X4, X5, X6⟩ := HX.out _ HC
    have hsl : SomeTabSl (Mut None_ KL) s54 wv := deps_at hD 23 rfl (by kernel_rfl) rfl rfl
    obtain ⟨t5, h5, hb1, hb2, hb3, hb4, hb5⟩ := hsl
    refine (kalike_slot _ wv HC.mutLt _ _ _ _ _ _ h5 X3 hb1 hb2 (by omega) (fun r hr => by have := hb5 r hr; omega) HBC.out.1 HBC.out.2.1 HBC.out.2.2).mono ?_
    rintro e w5 ⟨rfl, b5⟩
    exact ⟨_, rfl, rfl, HC.call b5, RM.below b5⟩
  rintro u wx HCx rfl
  clear HCx
  simp only [Act.put, List.setIfInBounds_toArray, List.set_cons_succ, List.set_cons_zero]
  refine dw_val rfl rfl rfl ?_; apply Exists.intro; refine ⟨fun wv HC => ?_, ?_⟩
  ·  go_simp <;> rfl
  simp only [Act.put, List.setIfInBounds_toArray, List.set_cons_succ, List.set_cons_zero]
  refine dw_val rfl rfl rfl ?_; apply Exists.intro; refine ⟨fun wv HC => ?_, ?_⟩
  ·  go_simp <;> rfl
  simp only [Act.put, List.setIfInBounds_toArray, List.set_cons_succ, List.set_cons_zero]
  refine dw_val rfl rfl rfl ?_; apply Exists.intro; refine ⟨fun wv HC => ?_, ?_⟩
  · obtain ⟨⟨f0, f1, f2, f3, f4⟩, ⟨f5, f6, f7, f8⟩, ⟨f9, f10, f11, f12, f13⟩, ⟨f14, f15, f16, f17⟩⟩ := HF.out _ HC; go_simp <;> rfl
  simp only [Act.put, List.setIfInBounds_toArray, List.set_cons_succ, List.set_cons_zero]
  refine dw_val rfl rfl rfl ?_; apply Exists.intro; refine ⟨fun wv HC => ?_, ?_⟩
  ·  go_simp <;> rfl
  simp only [Act.put, List.setIfInBounds_toArray, List.set_cons_succ, List.set_cons_zero]
  refine dw_val rfl rfl rfl ?_; apply Exists.intro; refine ⟨fun wv HC => ?_, ?_⟩
  ·  go_simp <;> rfl
  simp only [Act.put, List.setIfInBounds_toArray, List.set_cons_succ, List.set_cons_zero]
  refine dw_val rfl rfl rfl ?_; apply Exists.intro; refine ⟨fun wv HC => ?_, ?_⟩
  ·  go_simp <;> rfl
  simp only [Act.put, List.setIfInBounds_toArray, List.set_cons_succ, List.set_cons_zero]
  refine dw_val rfl rfl rfl ?_; apply Exists.intro; refine ⟨fun wv HC => ?_, ?_⟩
  · obtain ⟨⟨f0, f1, f2, f3, f4⟩, ⟨f5, f6, f7, f8⟩, ⟨f9, f10, f11, f12, f13⟩, ⟨f14, f15, f16, f17⟩⟩ := HF.out _ HC; go_simp <;> rfl
  simp only [Act.put, List.setIfInBounds_toArray, List.set_cons_succ, List.set_cons_zero]
  refine dw_callR 64 (VTabSl (Mut None_ KL) 4) (f := 18) (args := #[.pointer (some ⟨T, 0, none⟩), .agg #[.string t.nm, .slice A3 n3 c3], .int .i64 4]) rfl rfl rfl rfl (fun wv => ?_) (fun wv HC hrm hD => ?_) ?_
  · go_simp <;> rfl
  · obtain ⟨X0, X1, X2, X3, X4, X5, X6⟩ := HX.out _ HC
    refine (tof_slot (Mut None_ KL) T wv HC.mutLt X4 X5 t.nm A3 n3 c3 t.cs 4 ((XC.out _ HC).less (mut_tp (i := 9) (by rw [HKL.out]; rfl))) h31 h32 HSO.out (X6.less (mut_tp (i := 9) (by rw [HKL.out]; rfl))) hT1 (by omega)).mono ?_
    rintro e w5 ⟨v5, t5', rfl, hc5, hv5, hn5, hs5, hr5, t5, g5'⟩
    exact ⟨_, rfl, ⟨t5', hc5, hv5, hr5⟩, Hold.callT HC 9 (by rw [HKL.out]; rfl) g5' t5, RM.grown g5' (.inr ⟨_, List.mem_of_getElem? (i := 9) (by rw [HKL.out]; rfl), rfl⟩)⟩
  rintro s64 wx HCx hs64
  clear HCx hs64
  simp only [Act.put, List.setIfInBounds_toArray, List.set_cons_succ, List.set_cons_zero]
  refine dw_callR 65 (SomeChgSl (Mut None_ KL)) (f := 28) (args := #[.pointer (some ⟨T, 0, none⟩), s64]) rfl rfl rfl rfl (fun wv => ?_) (fun wv HC hrm hD => ?_) ?_
  · go_simp <;> rfl
  · obtain ⟨X0, X1, X2, X3, X4, X5, X6⟩ := HX.out _ HC
    have hsl : VTabSl (Mut None_ KL) 4 s64 wv := deps_at hD 33 rfl (by kernel_rfl) rfl rfl
    obtain ⟨tt, h5, hv5, hr5⟩ := hsl
    refine (chgof_slot (Mut None_ KL) T wv HC.mutLt X4 X5 _ _ (tbAt_less h5 (mut_tp (i := 9) (by rw [HKL.out]; rfl))) hv5 (X6.less (mut_tp (i := 9) (by rw [HKL.out]; rfl))) hT1).mono ?_
    rintro e w5 ⟨v5, i5, d5, u5, rfl, hc5, hb1, hb2, hb3, t5, g5'⟩
    exact ⟨_, rfl, ⟨i5, d5, u5, hc5, by omega, by omega, by omega⟩, Hold.callT HC 9 (by rw [HKL.out]; rfl) g5' t5, RM.grown g5' (.inr ⟨_, List.mem_of_getElem? (i := 9) (by rw [HKL.out]; rfl), rfl⟩)⟩
  rintro s65 wx HCx hs65
  clear HCx hs65
  simp only [Act.put, List.setIfInBounds_toArray, List.set_cons_succ, List.set_cons_zero]
  refine dw_callR 66 (IsV (.bool true)) (f := 29) (args := #[.agg #[.string t.nm, .slice A3 n3 c3, .int .i64 t.nx, .slice B m d], s65]) rfl rfl rfl rfl (fun wv => ?_) (fun wv HC hrm hD => ?_) ?_
  · go_simp <;> rfl
  · obtain ⟨X0, X1, X2, X3, X4, X5, X6⟩ := HX.out _ HC
    have hsl : SomeChgSl (Mut None_ KL) s65 wv := deps_at hD 34 rfl (by kernel_rfl) rfl rfl
    obtain ⟨i5, d5, u5, h5, hb1, hb2, hb3⟩ := hsl
    refine (kalike_slot _ wv HC.mutLt _ _ _ _ _ _ X2 h5 HSO.out.nm HSO.out.cs HBX.out.1 HBX.out.2 (by omega) (by omega) (by omega)).mono ?_
    rintro e w5 ⟨rfl, b5⟩
    exact ⟨_, rfl, rfl, HC.call b5, RM.below b5⟩
  rintro u wx HCx rfl
  clear HCx
  simp only [Act.put, List.setIfInBounds_toArray, List.set_cons_succ, List.set_cons_zero]
  refine dw_val rfl rfl rfl ?_; apply Exists.intro; refine ⟨fun wv HC => ?_, ?_⟩
  ·  go_simp <;> rfl
  simp only [Act.put, List.setIfInBounds_toArray, List.set_cons_succ, List.set_cons_zero]
  refine dw_val rfl rfl rfl ?_; apply Exists.intro; refine ⟨fun wv HC => ?_, ?_⟩
  ·  go_simp <;> rfl
  simp only [Act.put, List.setIfInBounds_toArray, List.set_cons_succ, List.set_cons_zero]
  refine dw_callR 69 (IsV (.bool true)) (f := 27) (args := #[]) rfl rfl rfl rfl (fun wv => ?_) (fun wv HC hrm hD => ?_) ?_
  · go_simp <;> rfl
  · obtain ⟨X0, X1, X2, X3, X4, X5, X6⟩ := HX.out _ HC
    refine (known7 _).mono ?_
    rintro e w5 ⟨rfl, b5⟩
    exact ⟨_, rfl, rfl, HC.call b5, RM.below b5⟩
  rintro u wx HCx rfl
  clear HCx
  simp only [Act.put, List.setIfInBounds_toArray, List.set_cons_succ, List.set_cons_zero]
  refine dw_val rfl rfl rfl ?_; apply Exists.intro; refine ⟨fun wv HC => ?_, ?_⟩
  ·  go_simp <;> rfl
  simp only [Act.put, List.setIfInBounds_toArray, List.set_cons_succ, List.set_cons_zero]
  refine rel_nil ?_
  rintro wx9 HX9
  rintro _hrm _HG
  clear _hrm _HG
  go_wp2_with fail
  go_ret
  exact ⟨by first | rfl | simp, HX9.below⟩
end Go.Proofs.YtljmclbedpceoaaDoor

namespace Go.Proofs.YtljmclbedpceoaaDoor
open Go.ChangeShapes Go.WideShapes Go.ChangeAt Go.RowKit
set_option linter.unusedVariables false
set_option linter.unusedSimpArgs false

namespace LawKeysForms
set_option maxRecDepth 100000 in
theorem contract (H : Type) (enc : TypeId × Value → H) (W : World) (base : Nat) (args : Array Value) (ds gs : List (DataW H)) (before : List MemPlace)
    (hval0 : ∀ (j : Nat) t v, Tryd.f5.params[j]? = some t → args[j]? = some v → Value.okWide Tryd.prog W .any base t v)
    (hsz0 : (DataW.weightsEach Tryd.prog (Tryd.f5.params.toList ++ Rows.keysFormsSpec.plain.varTypes Tryd.prog) (ds ++ gs)).all (· ≤ reachBytes) = true)
    (hW : DataW.Whole enc Tryd.prog Tryd.f5.params.toList Rows.keysFormsSpec.vars false W args.toList ds gs before) (hL : laidMetH Tryd.prog Rows.keysFormsRow.laid W) (hsh : W.ShapedOpen Tryd.prog) :
    Calls Tryd.prog 5 args W fun e W' => ∃ v, e = .returned v ∧ Rows.keysFormsSpec.post enc Tryd.prog Tryd.f5 false true false false W args v W' := by
  have hsz : (DataW.weightsEach Tryd.prog (Tryd.f5.params.toList ++ Rows.keysFormsSpec.plain.varTypes Tryd.prog) (ds ++ gs)).all (· ≤ reachBytes) = true := hsz0
  have hval : ∀ (j : Nat) t v, Tryd.f5.params[j]? = some t → args[j]? = some v → Value.okWide Tryd.prog W .any base t v := hval0
  have hW' := hW
  obtain ⟨p, q, hA0, hV, rfl, hfz, hnd⟩ := hW
  have hA : DataW.TrodAll enc Tryd.prog W 0 (fun _ => true) true Tryd.f5.params.toList args.toList ds p := hA0
  rw [Tryd.params5] at hA hval hsz
  obtain ⟨v0, vs0, d0, ds0, p0, q0, hargs, rfl, rfl, h0, r0⟩ := trodAll_cons hA
  obtain ⟨v1, vs1, d1, ds1, p1, q1, rfl, rfl, rfl, h1, r1⟩ := trodAll_cons r0
  obtain ⟨v2, vs2, d2, ds2, p2, q2, rfl, rfl, rfl, h2, r2⟩ := trodAll_cons r1
  obtain ⟨rfl, rfl, rfl⟩ := trodAll_nil r2
  obtain rfl : args = #[v0, v1, v2] := by cases args; simp_all
  obtain ⟨rfl, rfl⟩ := trodVars_none hV
  obtain ⟨tb0, ok0, rfl⟩ := opens_tb.agg Tryd.underlying40 (hval 0 40 v0 rfl rfl) h0 (sz_arg hsz (j := 0) rfl rfl)
  obtain ⟨tb1, ok1, rfl⟩ := opens_ch.agg Tryd.underlying54 (hval 1 54 v1 rfl rfl) h1 (sz_arg hsz (j := 1) rfl rfl)
  obtain ⟨A2, n2, c2, zs2, rfl, k2, z2, l2, m2, e2⟩ := open_i64s Tryd.underlying22 Tryd.underlying3 (by kernel_rfl) (hval 2 22 v2 rfl rfl) h2
  refine (kforms_walk _ _ _ _ _ _ A2 n2 c2 zs2 W (tbAt_arg ok0 fun _ _ h => h) (chg_arg ok1 fun _ _ h => h) ok0.nm (tbArg_cs ok0) (tbArg_rows ok0) (chgArg_dels ok1) (chgArg_us ok1) k2 z2 l2 (by unfold maxLen at m2; omega) (wds_of_laid (rest := []) hL)).mono fun e W' ⟨he, hb⟩ => ?_
  exact ⟨_, he, law_post rfl laidOut (by kernel_rfl) (by kernel_rfl) Tryd.underlying4 rfl hW' hb⟩

theorem laid_met (os : Os) : laidMet Tryd.prog Rows.keysFormsRow.laid ((wordsWorld os).forCall (fun _ _ => 0) ⟨#[], #[.agg #[.string ⟨#[]⟩, .slice none 0 0, .int .i64 0, .slice none 0 0], .agg #[.slice none 0 0, .slice none 0 0, .slice none 0 0], .slice none 0 0], []⟩).memory :=
  laidMet_of_run' 16 (by kernel_rfl) (by kernel_rfl)
theorem reads (os : Os) {H : Type} (enc : TypeId × Value → H) : ∃ places, DataW.whole enc Tryd.prog ((wordsWorld os).forCall (fun _ _ => 0) ⟨#[], #[.agg #[.string ⟨#[]⟩, .slice none 0 0, .int .i64 0, .slice none 0 0], .agg #[.slice none 0 0, .slice none 0 0, .slice none 0 0], .slice none 0 0], []⟩).memory Tryd.f5.params.toList Rows.keysFormsSpec.vars false #[.agg #[.string ⟨#[]⟩, .slice none 0 0, .int .i64 0, .slice none 0 0], .agg #[.slice none 0 0, .slice none 0 0, .slice none 0 0], .slice none 0 0].toList 8 = some ([.agg [.agg [.lit (.string []), .nil], .lit (.int .i64 0), .nil], .agg [.nil, .nil, .nil], .nil], [], places) :=
  ⟨[], by kernel_rfl⟩

set_option maxRecDepth 100000 in
theorem lifted (os : Os) (started : os.Started) (H : Type) (enc : TypeId × Value → H) (F : Stop.Interp) :
    ReturnsInHanded {} Tryd.checked os 5 .any ((OpenSpec.ofChange Rows.keysFormsSpec).preRow enc Tryd.prog Tryd.f5 Rows.keysFormsRow.domain false Rows.keysFormsRow.laid) (((OpenSpec.ofChange Rows.keysFormsSpec).at F).post enc Tryd.prog Tryd.f5 false true false false) := by
  obtain ⟨places, hx⟩ := reads os enc
  refine returnsInHanded_of_row (C := Tryd.checked) (s := OpenSpec.ofChange Rows.keysFormsSpec) own started (by kernel_rfl) Tryd.func5
    (witness_row_at (enc := enc) (C := Tryd.checked) false (wordsWorld os) #[.agg #[.string ⟨#[]⟩, .slice none 0 0, .int .i64 0, .slice none 0 0], .agg #[.slice none 0 0, .slice none 0 0, .slice none 0 0], .slice none 0 0] rfl (by kernel_rfl) (by kernel_rfl) (by kernel_rfl)
      (OpenSpec.preRow_of_cond 8 hx (by kernel_rfl) (fun k hk => by cases hk) (by kernel_rfl) (laid_met os))) ?_
  intro W base args ds gs before hval hW _ _ hsz0 hL hsh _
  exact contract H enc W base args ds gs before hval hsz0 hW hL hsh

theorem said : Rows.KeysFormsSaid :=
  OpenClaim.holds_of_cond 5 Tryd.f5 rfl rfl rfl rfl rfl rfl rfl ⟨rfl, rfl, rfl, rfl, rfl⟩ rfl rfl rfl rfl rfl (by kernel_rfl) Tryd.func5 (by kernel_rfl)
    (of_decide_eq_true (by kernel_rfl)) (by unfold Func.isWrapper; first | (rw [if_pos (by decide +kernel)]; kernel_rfl) | (rw [if_neg (by decide +kernel)]; exact ⟨rfl, rfl⟩))
    (fun os started H enc _ F => by rw [OpenClaim.pre_eq_preRow]; exact lifted os started H enc F)

theorem plain (f : FuncId) (fn : Func) (hf : Tryd.pinned.checked.prog.funcNamed "triggerstore/triggerstorelaw7.KeysForms" = some f) (hfn : Tryd.pinned.checked.prog.funcs[f]? = some fn) :
    false = Tryd.pinned.checked.prog.looks [] ∧ ∀ (j : Nat) t, fn.params[j]? = some t → Tryd.pinned.checked.prog.wantsStandIn t = false := by
  obtain rfl : f = 5 := Option.some.inj ((show Tryd.prog.funcNamed "triggerstore/triggerstorelaw7.KeysForms" = some 5 by kernel_rfl).symm.trans hf) |>.symm
  obtain rfl : fn = Tryd.f5 := (Option.some.inj (Tryd.func5.symm.trans hfn)).symm
  refine ⟨by kernel_rfl, fun j t ht => ?_⟩
  rw [Tryd.params5] at ht
  have hm := Array.mem_of_getElem? ht
  simp only [List.mem_toArray, List.mem_cons, List.not_mem_nil, or_false] at hm
  rcases hm with rfl | rfl | rfl
  · exact (show Tryd.prog.wantsStandIn 40 = false by kernel_rfl)
  · exact (show Tryd.prog.wantsStandIn 54 = false by kernel_rfl)
  · exact (show Tryd.prog.wantsStandIn 22 = false by kernel_rfl)
end LawKeysForms

theorem keysForms_holds : Rows.KeysFormsCardSaid :=
  Claim7.holds_tied_plain_at .later [] _ _ _ _ LawKeysForms.said (fun _ h => by cases h) (by kernel_rfl) (fun _ h => by cases h) keysForms_row_tie rfl ⟨rfl, rfl⟩ (by kernel_rfl) rfl LawKeysForms.plain (by kernel_rfl)
#print axioms keysForms_holds
end Go.Proofs.YtljmclbedpceoaaDoor

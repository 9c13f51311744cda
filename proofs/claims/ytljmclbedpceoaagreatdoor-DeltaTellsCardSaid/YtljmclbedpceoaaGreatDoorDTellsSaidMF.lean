/- Gr: a call that draws and lays blocks and does nothing else. No program in sight. -/
import Derived.Test.YtljmclbedpceoaaGreatDoorDTellsSaidMB
import Derived.Orders
import Derived.Test.YtljmclbedpceoaaGreatDoorDTellsSaidME
import Derived.Test.YtljmclbedpceoaaGreatDoorDTellsSaidMC
import Derived.Test.YtljmclbedpceoaaGreatDoorDTellsSaidMD
import Derived.Test.YtljmclbedpceoaaGreatDoorDTellsSaidMA
import Derived.Shelf.SlGeneric
import Derived.Shelf.SlSortCmp.NoneTotal
import Derived.Ground.SlsfProg
import Derived.Test.YtljmclbedpceoaaGreatDoorProg
import Derived.Deep.RegionHeld3
import Derived.Shelf.SlSortCmp.QuietGrown
namespace Go.Proofs.YtljmclbedpceoaaGreatDoor
open Go Go.RowKit
set_option linter.unusedVariables false
set_option linter.unusedSectionVars false
set_option linter.unusedSimpArgs false

section
variable {P : Program} {ops : Array Oper} {C : World → Prop} {G : Option Tmp → Value → World → Prop} {R : World → World → Prop} {n N : Nat} {F : Act → Prop}

/-- an operation that reads its slots alone -/
def plainOp (o : Oper) : Bool := match o.op with
  | .move _ => true
  | .extract _ _ => true
  | _ => false
theorem plain_run {o : Oper} (h : plainOp o = true) {a : Act} {w : World} {C : World → Prop} {G : Option Tmp → Value → World → Prop} {R : World → World → Prop} (hg : goodUpon P C G R o.dst w ((execOp a.eval o).run P w)) :
    ∃ v, (∀ w', (execOp a.eval o).run P w' = .ok (.value v) w') ∧ G o.dst v w ∧ C w ∧ R w w := by
  unfold plainOp at h
  split at h
  · rename_i x hx
    have e : ∀ w', (execOp a.eval o).run P w' = .ok (.value (a.eval x)) w' := fun w' => by
      unfold execOp; simp only [hx, Sem.run_pure]
    rw [e w] at hg
    exact ⟨_, e, hg⟩
  · rename_i t ix hx
    have e : ∀ w', (execOp a.eval o).run P w' = ((Instr.extract (a.eval t) ix).run P w').andThen fun u => (pure (.value u) : Sem Next).run P := fun w' => by
      unfold execOp; simp only [hx, Sem.run_bind]
    by_cases hv : ∃ vs v, a.eval t = .tuple vs ∧ vs[ix]? = some v
    · obtain ⟨vs, v, h1, h2⟩ := hv
      have e2 : ∀ w', (execOp a.eval o).run P w' = .ok (.value v) w' := fun w' => by
        rw [e w', h1]; unfold Instr.extract; simp only [h2, Sem.run_pure, Result.andThen_ok]
      rw [e2 w] at hg
      exact ⟨_, e2, hg⟩
    · exfalso
      have hh : ∃ x w2, (Instr.extract (a.eval t) ix).run P w = .halt x w2 := by
        unfold Instr.extract
        split
        · rename_i vs hvs
          split
          · rename_i v hvv; exact absurd ⟨vs, v, hvs, hvv⟩ hv
          · exact ⟨_, _, rfl⟩
        · exact ⟨_, _, rfl⟩
      obtain ⟨x, w2, hh⟩ := hh
      rw [e w, hh] at hg
      exact hg
  · cases h
/-- the exempt ones: they read their slots alone, and are apart from all that does not wait for them -/
def waitS (ops : Array Oper) (i : Nat) : Array Bool := ((List.range ops.size).map fun j => Region.waitsFor .any ops i j).toArray
def exB (ops : Array Oper) (E : List Nat) (n : Nat) : Bool := E.all fun i => decide (i < n) && (match ops[i]? with | some o => plainOp o | none => false) && Region.free .any ops (waitS ops i) i
def sinkE (ops : Array Oper) (S0 : Array Bool) (E : List Nat) (n : Nat) : Bool := (List.range n).all fun i => E.contains i || S0.getD i false || (List.range (n + 1)).any fun j => decide (i < j) && !E.contains j && Region.waitsFor .any ops j i
theorem free_mono {i : Nat} {oi : Oper} (hi : ops[i]? = some oi) (h : Region.free .any ops (waitS ops i) i = true) (S : Array Bool) (hS : S.size = ops.size) (hw : ∀ e ∈ oi.after, Region.binds .any e = true → S.getD e.on false = true) : Region.free .any ops S i = true := by
  simp only [Region.free, hi, List.all_eq_true, List.mem_range] at h ⊢
  intro j hj
  have h1 := h j hj
  simp only [Bool.or_eq_true] at h1 ⊢
  rcases h1 with (h1 | h1) | h1
  · exact .inl (.inl h1)
  · have h2 : Region.waitsFor .any ops i j = true := by simpa [waitS, hj] using h1
    obtain ⟨o', ho', e, he, hb, hon⟩ := Region.waitsFor_spec h2
    obtain rfl : oi = o' := Option.some.inj (hi.symm.trans ho')
    have h3 := hw e he hb
    rw [hon] at h3
    have hl : j < S.size := by omega
    exact .inl (.inr (by simpa [hl] using h3))
  · exact .inr h1
theorem tail_waitsE {S0 listed : Array Bool} {E : List Nat} (hs : sinkE ops S0 E n = true) (hc : laterB ops n = true) (hn : n < ops.size) (inv : HeadInv .any ops n listed) (h0 : ∀ j, S0.getD j false = true → listed.getD j false = true) :
    ∀ (d i : Nat), n - i = d → i < n → E.contains i = false → listed.getD i true = false → ∀ t, n ≤ t → t ∉ Region.ready .any ops listed := by
  intro d
  induction d using Nat.strongRecOn with
  | _ d ih =>
    intro i hd hi hE hun t ht hr
    obtain ⟨_, ot, hot, hall⟩ := mem_ready.1 hr
    have htlt : t < ops.size := (Array.getElem?_eq_some_iff.1 hot).1
    by_cases htn : t = n
    · subst htn
      have h1 := List.all_eq_true.1 hs i (List.mem_range.2 hi)
      have hnot : S0.getD i false = false := by
        cases hS : S0.getD i false with
        | false => rfl
        | true => have := h0 i hS; rw [getD_both hun] at this; cases this
      rw [hE, hnot, Bool.false_or, Bool.false_or] at h1
      obtain ⟨j, hj, hj2⟩ := List.any_eq_true.1 h1
      simp only [Bool.and_eq_true, decide_eq_true_eq, Bool.not_eq_true'] at hj2
      obtain ⟨oj, hoj, e, he, hb, hon⟩ := Region.waitsFor_spec hj2.2
      have hjle : j ≤ t := by have := List.mem_range.1 hj; omega
      by_cases hjt : j = t
      · subst hjt
        have : oj = ot := Option.some.inj (hoj.symm.trans hot)
        subst this
        have h2 := hall e he hb
        rw [hon, getD_both hun] at h2
        cases h2
      · cases hl : listed.getD j false with
        | true =>
          have h2 := inv.closed j oj hoj hl e he hb
          rw [hon, getD_both hun] at h2
          cases h2
        | false =>
          have hjs : j < listed.size := by rw [inv.size]; omega
          exact ih (t - j) (by omega) j rfl (by omega) hj2.1.2 (getD_in hjs hl) t (Nat.le_refl _) hr
    · have h1 := List.all_eq_true.1 hc t (List.mem_range.2 htlt)
      simp only [Bool.or_eq_true, decide_eq_true_eq] at h1
      rcases h1 with h1 | h1
      · omega
      · obtain ⟨j, hj, hj2⟩ := List.any_eq_true.1 h1
        simp only [Bool.and_eq_true, decide_eq_true_eq] at hj2
        obtain ⟨o', ho', e, he, hb, hon⟩ := Region.waitsFor_spec hj2.2
        have : o' = ot := Option.some.inj (ho'.symm.trans hot)
        subst this
        have h2 := hall e he hb
        rw [hon, getD_both (inv.tail j hj2.1 (List.mem_range.1 hj))] at h2
        cases h2
theorem wpAny_of_wkE (sh : Shape ops n N) (hmono : ∀ d u w w', R w w' → G d u w → G d u w') (hR : ∀ w, C w → R w w) (hu : ∀ w, C w → G none undef w) {g : Nat} {Q : Exit → Act → World → Prop} (S0 : Array Bool) (E : List Nat)
    (hE : ∀ i, E.contains i = true → i < n ∧ ∃ oi, ops[i]? = some oi ∧ plainOp oi = true ∧ ∀ S : Array Bool, S.size = ops.size → (∀ e ∈ oi.after, Region.binds .any e = true → S.getD e.on false = true) → Region.free .any ops S i = true) (hno : Region.noSelect ops = true) (hQ : ∀ c d v a w, Q (.panic c) (a.put d v) w → Q (.panic c) a w)
    (htail : ∀ S, HeadInv .any ops n S → (∀ j, S0.getD j false = true → S.getD j false = true) → (∃ i, i < n ∧ E.contains i = false ∧ S.getD i true = false) → ∀ t, n ≤ t → t ∉ Region.ready .any ops S)
    (hend : ∀ S a w, HeadInv .any ops n S → (∀ j, j < n → S.getD j false = true) → C w → (∀ j oj, ops[j]? = some oj → j < n → G oj.dst (slot a oj.dst) w) → F a → wpAny P .any ops Q g S a w) :
    ∀ (f : Nat) (S : Array Bool) (a : Act) (w : World), HeadInv .any ops n S → (∀ j, S0.getD j false = true → S.getD j false = true) → unl n S = f → a.tmps.size = N → Inv ops C G S a w → Wk P ops C G R S F n 0 a → wpAny P .any ops Q (f + g) S a w
  | 0, S, a, w, hd, h0s, hf, hN, hI, h => by
    have hall := unl_zero hf (by rw [hd.size]; exact sh.le)
    rw [Nat.zero_add]
    exact hend S a w hd hall hI.1 (fun j oj hj hjn => hI.2 j oj hj (hall j hjn)) (Wk.done sh hmono n 0 a w (by omega) hall hI.1 (fun j oj hj hs => hI.2 j oj hj (hs.resolve_right (by omega))) h)
  | f + 1, S, a, w, hd, h0s, hf, hN, hI, h => by
    obtain ⟨k0, hk0, hun0⟩ := unl_pos hf
    obtain ⟨k, ⟨hk, hun⟩, hmin⟩ := least (p := fun j => j < n ∧ S.getD j true = false) k0 ⟨hk0, hun0⟩
    have hrk : k ∈ Region.ready .any ops S := by
      have hks : k < ops.size := by have := sh.le; omega
      refine mem_ready.2 ⟨hun, ops[k], Array.getElem?_eq_getElem hks, fun e he hb => ?_⟩
      have hlt := sh.back k _ (Array.getElem?_eq_getElem hks) hk e he hb
      cases hS : S.getD e.on false with
      | true => rfl
      | false => exact absurd ⟨by omega, getD_in (by rw [hd.size]; have := sh.le; omega) hS⟩ (hmin e.on hlt)
    rw [show f + 1 + g = (f + g) + 1 by omega]
    have hstep : ∀ i, i < n → i ∈ Region.ready .any ops S → ∃ oi, ops[i]? = some oi ∧ StepOk P ops C G R oi a ∧ Deps ops G oi a w ∧ ∀ u w', May P ops C G oi a u → C w' → R w w' → G oi.dst u w' → wpAny P .any ops Q (f + g) (S.setIfInBounds i true) (a.put oi.dst u) w' := fun i hin hi => by
      obtain ⟨huni, oi, hoi, hall⟩ := mem_ready.1 hi
      have hunf : S.getD i false = false := getD_both huni
      have hst := Wk.ready sh hmono hR hu hoi hin hunf hall n 0 a w (by omega) (by omega) hN hI.1 (fun j oj hj hs => hI.2 j oj hj (hs.resolve_right (by omega))) h
      have hD : Deps ops G oi a w := fun e he hb oe hoe => hI.2 e.on oe hoe (hall e he hb)
      refine ⟨oi, hoi, hst, hD, fun u w' hm hC' hR' hG' => ?_⟩
      refine wpAny_of_wkE sh hmono hR hu S0 E hE hno hQ htail hend f _ _ w' (hd.set hi hin) (fun j hj => getD_set_true (h0s j hj)) ?_ (by rw [size_put]; exact hN) ⟨hC', fun j oj hj hs => ?_⟩ (Wk.front sh hmono hoi hin (by rw [hd.size]) hunf hall n 0 a (by omega) (by omega) hN hm h)
      · have := unl_set hin huni; omega
      · by_cases hji : j = i
        · subst hji
          obtain rfl : oi = oj := Option.some.inj (hoi.symm.trans hj)
          exact slots_new sh hmono hN hj hG' (fun _ => hu w' hC')
        · rw [slots_keep sh hmono (S := S) hoi hj hji]
          rw [getD_set_ne false (Ne.symm hji)] at hs
          exact hmono _ _ _ _ hR' (hI.2 j oj hj hs)
    cases hkE : E.contains k with
    | true =>
      obtain ⟨_, ok, hok, hpl, hfr⟩ := hE k hkE
      obtain ⟨oi, hoi, hst, hD, hnext⟩ := hstep k hk hrk
      obtain ⟨_, o3, ho3, hall⟩ := mem_ready.1 hrk
      obtain rfl : oi = o3 := Option.some.inj (hoi.symm.trans ho3)
      obtain rfl : ok = oi := Option.some.inj (hok.symm.trans hoi)
      by_cases hw : Region.wanted ok (yielded ops a.tmps) = true
      · unfold StepOk at hst
        simp only [hw, if_true] at hst
        have hg := hst w hI.1 hD
        unfold Good at hg
        obtain ⟨v, hv, hG, hC, hRR⟩ := plain_run hpl hg
        refine wpAny_take hok hno (hfr S hd.size hall) (by simpa using hrk) (fun c a w => hQ c _ _ a w) (.inl ⟨hw, hv⟩) (hnext v w ?_ hC hRR hG)
        unfold May
        rw [if_pos hw]
        exact ⟨w, hI.1, hD, by rw [hv w]; rfl⟩
      · unfold StepOk at hst
        rw [if_neg hw] at hst
        refine wpAny_take hok hno (hfr S hd.size hall) (by simpa using hrk) (fun c a w => hQ c _ _ a w) (.inr ⟨by simpa using hw, rfl⟩) (hnext undef w ?_ hI.1 (hR w hI.1) (hst w hI.1))
        unfold May
        rw [if_neg hw]
    | false =>
    refine ⟨fun h0 => (by rw [h0] at hrk; cases hrk), fun i hi => ?_⟩
    have hin : i < n := by
      rcases Nat.lt_or_ge i n with h' | h'
      · exact h'
      · exact absurd hi (htail S hd h0s ⟨k, hk, hkE, hun⟩ i h')
    obtain ⟨oi, hoi, hst, hD, hnext⟩ := hstep i hin hi
    unfold wpOp
    simp only [hoi]
    split
    · rename_i hw
      refine .inl (good_wp hI.1 hD hw ?_ hnext)
      unfold StepOk at hst
      simp only [hw, if_true] at hst
      exact hst w hI.1 hD
    · rename_i hw
      unfold StepOk at hst
      rw [if_neg hw] at hst
      exact hnext undef w (by unfold May; rw [if_neg hw]) hI.1 (hR w hI.1) (hst w hI.1)
def relE (ops : Array Oper) (S0 : Array Bool) (E : List Nat) (n N : Nat) : Bool :=
  Region.noSelect ops && dstsB ops N && decide (n ≤ ops.size) && backB ops n && asideB ops n && (decide (n = ops.size) || (decide (n < ops.size) && sinkE ops S0 E n && laterB ops n)) && closedB ops S0 n && exB ops E n && Region.seqB .any ops (ops.size - n) n (headList n ops.size)
theorem relE_shape {S0 : Array Bool} {E : List Nat} {n N : Nat} (h : relE ops S0 E n N = true) : Shape ops n N := by
  simp only [relE, Bool.and_eq_true, decide_eq_true_eq] at h
  obtain ⟨⟨⟨⟨⟨⟨⟨⟨hsel, hd⟩, hn⟩, hb⟩, ha⟩, _⟩, _⟩, _⟩, _⟩ := h
  refine ⟨hd, hn, fun k o hk hkn e he hbd => ?_, fun k i ok oi hki hin hk hi hno => ?_, Region.noSelect_spec hsel⟩
  · have h1 := List.all_eq_true.1 hb k (List.mem_range.2 hkn)
    simp only [hk] at h1
    have h2 := Array.all_eq_true'.1 h1 e he
    simp only [hbd, Bool.not_true, Bool.false_or, decide_eq_true_eq] at h2
    exact h2
  · have h1 := List.all_eq_true.1 (List.all_eq_true.1 ha i (List.mem_range.2 hin)) k (List.mem_range.2 hki)
    simp only [hk, hi, Bool.or_eq_true] at h1
    refine h1.resolve_left fun h2 => ?_
    obtain ⟨e, he, hb2⟩ := Array.any_eq_true'.1 h2
    simp only [Bool.and_eq_true, beq_iff_eq] at hb2
    exact hno e he hb2.1 hb2.2
/-- A region that draws its order, the operations of S0 done, E exempt: the first n operations in any order; then the others. -/
theorem wpAny_relE {Q : Exit → Act → World → Prop} {a : Act} {w : World} {l : List Oper} (S0 : Array Bool) (E : List Nat) (n N : Nat) (C : World → Prop) (G : Option Tmp → Value → World → Prop) (R : World → World → Prop) {fuel : Nat}
    (hB : relE l.toArray S0 E n N = true) (hQ : ∀ c d v a w, Q (.panic c) (a.put d v) w → Q (.panic c) a w) (hf : fuel = unl n S0 + (l.length - n)) (hN : a.tmps.size = N) (hmono : ∀ d u w w', R w w' → G d u w → G d u w') (hR : ∀ w, C w → R w w) (hu : ∀ w, C w → G none undef w) (hC : C w)
    (h0 : ∀ j oj, l[j]? = some oj → S0.getD j false = true → G oj.dst (slot a oj.dst) w)
    (h : wpRel P l.toArray C G R S0 (fun a' => ∀ w', C w' → (∀ j oj, l[j]? = some oj → j < n → G oj.dst (slot a' oj.dst) w') → wpList P l.toArray Q (l.drop n) a' w') 0 (l.take n) a) : wpAny P .any l.toArray Q fuel S0 a w := by
  have sh := relE_shape hB
  have hB' := hB
  simp only [relE, Bool.and_eq_true, Bool.or_eq_true, decide_eq_true_eq] at hB'
  obtain ⟨⟨⟨⟨⟨⟨⟨⟨hsel, hd⟩, hn⟩, hb⟩, ha⟩, hsc⟩, hcl⟩, hex⟩, hseq⟩ := hB'
  have hnl : n ≤ l.length := by simpa using hn
  have htl : (l.take n).length = n := by simp; omega
  have hw := wk_of_rel sh (l.take n) 0 a (fun j hj => by
    have hj' : j < n := by rw [htl] at hj; exact hj
    simp [hj']) (by simpa using htl) hN h
  rw [htl] at hw
  have := wpAny_of_wkE (Q := Q) (g := l.length - n) sh hmono hR hu S0 E (fun i hi => ?_) hsel hQ (fun S hI h0s hex t ht hr => ?_) (fun S a' w' hI hall hC' hg hF => ?_) _ S0 a w
    (closedB_head hcl) (fun _ h => h) rfl hN ⟨hC, fun j oj hj hs => h0 j oj (by simpa using hj) hs⟩ hw
  · rw [hf]; exact this
  · have h1 := List.all_eq_true.1 hex i (List.contains_iff_mem.1 hi)
    simp only [Bool.and_eq_true, decide_eq_true_eq] at h1
    obtain ⟨⟨h1, h2⟩, h3⟩ := h1
    have hil : i < l.toArray.size := by have : l.toArray.size = l.length := by simp
                                        omega
    have hio := Array.getElem?_eq_getElem hil
    rw [hio] at h2
    exact ⟨h1, _, hio, h2, fun S hS hw => free_mono hio h3 S hS hw⟩
  · obtain ⟨i, hi, hE, hun⟩ := hex
    rcases hsc with hsc | ⟨⟨hlt, hs⟩, hc⟩
    · have := (mem_ready.1 hr).2
      obtain ⟨o, ho, _⟩ := this
      have := (Array.getElem?_eq_some_iff.1 ho).1
      omega
    · exact tail_waitsE hs hc hlt hI h0s _ i rfl hi hE hun t ht hr
  · have hSeq := headList_eq hI.size hn hall hI.tail
    rw [show l.toArray.size = l.length from by simp] at hSeq
    rw [hSeq]
    have hdl : (l.drop n).length = l.length - n := by simp
    have := wpAny_of_seq (md := .any) (Q' := Q) (ops := l.toArray) (l.drop n) n (headList n l.length) a' w' (fun j => by simp [List.getElem?_drop]) (by rw [hdl]; simpa using hseq) (hF w' hC' fun j oj hj hjn => hg j oj (by simpa using hj) hjn)
    rwa [hdl] at this
end
section
variable {P : Program} {M : Nat → Prop} {row : Option Nat} {w0 w1 : World} {L : List Hp} {sp : SpW} {F : Act → Prop} {S0 : Array Bool}
theorem wpAny_holdE {Q : Exit → Act → World → Prop} {a : Act} {w : World} {l : List Oper} (E : List Nat) (n N : Nat) (L : List Hp) (sp : SpW) {fuel : Nat}
    (hB : relE l.toArray S0 E n N = true) (hQ : ∀ c d v a w, Q (.panic c) (a.put d v) w → Q (.panic c) a w) (hO : offW l.toArray S0 sp = true) (hf : fuel = unl n S0 + (l.length - n)) (hN : a.tmps.size = N) (hs : Stays (Mut M L) sp) (hC : Hold M row w0 w L)
    (h : wpRel P l.toArray (HC M row w0 w L) (GW sp) (RM (Mut M L)) S0 (fun a' => ∀ w', Hold M row w0 w' L → RM (Mut M L) w w' → (∀ j oj, l[j]? = some oj → j < n → GW sp oj.dst (slot a' oj.dst) w') → wpList P l.toArray Q (l.drop n) a' w') 0 (l.take n) a) : wpAny P .any l.toArray Q fuel S0 a w := by
  refine wpAny_relE S0 E n N (HC M row w0 w L) (GW sp) (RM (Mut M L)) hB hQ hf hN (fun d u w w' hr hg => ?_) (fun w _ => RM.refl _ w) (fun _ _ => trivial) ⟨hC, RM.refl _ _⟩ (fun j oj hj hs => offW_h hO (by simpa using hj) hs) (wpRel_mono (fun a' hF w' hC' hg => hF w' hC'.1 hC'.2 hg) _ _ _ h)
  unfold GW at hg ⊢
  cases hd : d.bind sp with
  | none => trivial
  | some V =>
    rw [hd] at hg
    obtain ⟨t, rfl, ht⟩ := Option.bind_eq_some_iff.1 hd
    exact hs t V ht u w w' hr hg
end
end Go.Proofs.YtljmclbedpceoaaGreatDoor

namespace Go.Proofs.YtljmclbedpceoaaGreatDoor
open Go.RowKit
set_option linter.unusedVariables false
set_option linter.unusedSimpArgs false

end Go.Proofs.YtljmclbedpceoaaGreatDoor

namespace Go.Proofs.YtljmclbedpceoaaGreatDoor
open Go.RowKit
set_option linter.unusedVariables false
set_option linter.unusedSimpArgs false

theorem wantR_prop {P : List Vl → Prop} : ∀ {us : List Upd} {id : Int} {v : List Vl}, P v → (∀ u ∈ us, P u.2.2) → P (wantR us id v)
  | [], _, _, h, _ => h
  | u :: us, id, v, h, k => by
    rw [wantR_cons]
    refine wantR_prop ?_ fun x hx => k x (List.mem_cons_of_mem _ hx)
    split
    · exact k u (List.mem_cons_self ..)
    · exact h
theorem ApOk.rfits {nm : ByteArray} {cs : List Col} {nx : Int} {rs : List Row} {ins : List (List Vl)} {dels : List Int} {us : List Upd} {T : Tb} (h : ApOk nm cs nx rs ins dels us T) : ∀ r ∈ T.rs, fitsT cs r.2 = 0 := fun r hr => by
  rw [h.tb] at hr
  have hr : r ∈ keepR dels us rs ++ insR nx ins := hr
  rcases List.mem_append.1 hr with hr | hr
  · obtain ⟨y, hy, rfl⟩ := List.mem_map.1 hr
    exact wantR_prop (P := fun v => fitsT cs v = 0) (okR_fits (tabB_ok h.tab).2.2.2.2.1 y (List.mem_filter.1 hy).1) h.fits.1
  · unfold insR at hr
    obtain ⟨p, hp, rfl⟩ := List.mem_map.1 hr
    exact h.fits.2 _ (List.fst_mem_of_mem_zipIdx hp)
end Go.Proofs.YtljmclbedpceoaaGreatDoor

namespace Go.Proofs.YtljmclbedpceoaaGreatDoor
open Go.RowKit
set_option linter.unusedVariables false
set_option linter.unusedSimpArgs false

theorem okR_of {cs : List Col} {nx : Int} : ∀ {rs : List Row} {lst : Int}, (rs.map (·.1)).Pairwise (· < ·) → (∀ r ∈ rs, lst < r.1 ∧ r.1 < nx ∧ fitsT cs r.2 = 0) → okR cs nx lst rs = true
  | [], _, _, _ => rfl
  | r :: rs, lst, h, k => by
    obtain ⟨h1, h2⟩ := List.pairwise_cons.1 h
    obtain ⟨k1, k2, k3⟩ := k r (List.mem_cons_self ..)
    rw [okR]
    simp only [k1, k2, k3, decide_true, Bool.true_and]
    exact okR_of h2 fun x hx => ⟨h1 x.1 (List.mem_map_of_mem (f := fun x : Row => x.1) hx), (k x (List.mem_cons_of_mem _ hx)).2⟩
theorem zipK_asc {α : Type} {nx : Int} : ∀ (l : List α) (k : Nat), (((l.zipIdx k).map fun p => (nx + (p.2 : Int), p.1)).map (·.1)).Pairwise (· < ·) ∧ ∀ r ∈ (l.zipIdx k).map fun p => (nx + (p.2 : Int), p.1), nx + (k : Int) ≤ r.1 ∧ r.1 < nx + (k : Int) + l.length
  | [], k => ⟨List.Pairwise.nil, fun _ h => nomatch h⟩
  | x :: l, k => by
    obtain ⟨h1, h2⟩ := zipK_asc (nx := nx) l (k + 1)
    rw [List.zipIdx_cons, List.map_cons, List.map_cons]
    refine ⟨List.pairwise_cons.2 ⟨fun a ha => ?_, h1⟩, fun r hr => ?_⟩
    · obtain ⟨r, hr, rfl⟩ := List.mem_map.1 ha
      have h3 := (h2 r hr).1
      show nx + (k : Int) < r.1
      omega
    · rcases List.mem_cons.1 hr with rfl | hr
      · simp only [List.length_cons]
        refine ⟨Int.le_refl _, ?_⟩
        show nx + (k : Int) < _
        omega
      · have h3 := h2 r hr
        simp only [List.length_cons]
        omega
theorem ApOk.tab2 {nm : ByteArray} {cs : List Col} {nx : Int} {rs : List Row} {ins : List (List Vl)} {dels : List Int} {us : List Upd} {T : Tb} (h : ApOk nm cs nx rs ins dels us T) : tabB T.nm T.cs T.nx T.rs = true := by
  have hl := h.len
  have hf := h.rfits
  obtain ⟨h1, h2, h3, h4, h5, h6⟩ := tabB_ok h.tab
  have hlim := h.lim
  have hnl := h.nlim
  have hd := h.dup
  have ha := h.asc2
  obtain ⟨z1, z2⟩ := zipK_asc (nx := nx) ins 0
  have hT := h.tb
  subst hT
  have hlow : ∀ r ∈ keepR dels us rs, 0 < r.1 ∧ r.1 < nx := fun r hr => by
    obtain ⟨y, hy, rfl⟩ := List.mem_map.1 hr
    exact h.low y (List.mem_filter.1 hy).1
  have hins : ∀ r ∈ insR nx ins, nx ≤ r.1 ∧ r.1 < nx + ins.length := fun r hr => by
    have h8 := z2 r hr
    omega
  unfold tabB
  simp only [Bool.and_eq_true, decide_eq_true_eq, Bool.not_eq_true']
  refine ⟨⟨⟨⟨⟨h1, ?_⟩, ?_⟩, ?_⟩, okR_of ?_ fun r hr => ?_⟩, hd⟩
  · have hl2 : ((keepR dels us rs ++ insR nx ins).length : Int) = rs.length - dels.length + ins.length := hl
    show (keepR dels us rs ++ insR nx ins).length ≤ 100
    omega
  · show 1 ≤ nx + (ins.length : Int)
    omega
  · show nx + (ins.length : Int) ≤ 2147483648
    omega
  · show ((keepR dels us rs ++ insR nx ins).map (·.1)).Pairwise (· < ·)
    rw [List.map_append, List.pairwise_append]
    refine ⟨ha, z1, fun a ha' b hb => ?_⟩
    obtain ⟨x, hx, rfl⟩ := List.mem_map.1 ha'
    obtain ⟨y, hy, rfl⟩ := List.mem_map.1 hb
    have h8 := (hlow x hx).2
    have h9 := (hins y hy).1
    omega
  · refine ⟨?_, ?_, hf r hr⟩
    · rcases List.mem_append.1 hr with hr | hr
      · exact (hlow r hr).1
      · have := (hins r hr).1; omega
    · show r.1 < nx + (ins.length : Int)
      rcases List.mem_append.1 hr with hr | hr
      · have := (hlow r hr).2; omega
      · exact (hins r hr).2
end Go.Proofs.YtljmclbedpceoaaGreatDoor

namespace Go.Proofs.YtljmclbedpceoaaGreatDoor
open Go.RowKit
set_option linter.unusedVariables false
set_option linter.unusedSimpArgs false

theorem apC_zero {nm : ByteArray} {cs : List Col} {nx : Int} {rs : List Row} {ins : List (List Vl)} {dels : List Int} {us : List Upd} (h : (applyC nm cs nx rs ins dels us).1 ≠ 0) : (applyC nm cs nx rs ins dels us).2 = zeroT := by
  unfold applyC at h ⊢
  split
  · rfl
  · split
    · rfl
    · split
      · rfl
      · split
        · rfl
        · rename_i h1 h2 h3 h4
          rw [if_neg h1, if_neg h2, if_neg h3, if_neg h4] at h
          exact absurd rfl h
end Go.Proofs.YtljmclbedpceoaaGreatDoor

namespace Go.Proofs.YtljmclbedpceoaaGreatDoor
open Go.RowKit
set_option linter.unusedVariables false
set_option linter.unusedSimpArgs false

/-- the second table is the first one some changes later -/
def LaterOk (t t' : Tb) : Prop := t'.nm = t.nm ∧ t'.cs = t.cs ∧ t.nx ≤ t'.nx ∧ ∀ r ∈ t'.rs, (getR t.rs r.1).isSome = true ∨ t.nx ≤ r.1
theorem getR_isSome {rs : List Row} {id : Int} (h : id ∈ rs.map (·.1)) : (getR rs id).isSome = true := by
  unfold getR
  rw [Option.isSome_map, List.find?_isSome]
  obtain ⟨x, hx, rfl⟩ := List.mem_map.1 h
  exact ⟨x, hx, by simp⟩
theorem LaterOk.refl (t : Tb) : LaterOk t t := ⟨rfl, rfl, Int.le_refl _, fun r hr => .inl (getR_isSome (List.mem_map_of_mem (f := fun x : Row => x.1) hr))⟩
theorem LaterOk.trans {a b c : Tb} (h : LaterOk a b) (k : LaterOk b c) : LaterOk a c := by
  obtain ⟨h1, h2, h3, h4⟩ := h
  obtain ⟨k1, k2, k3, k4⟩ := k
  refine ⟨k1.trans h1, k2.trans h2, by omega, fun r hr => ?_⟩
  rcases k4 r hr with h5 | h5
  · obtain ⟨x, hx, he⟩ := List.mem_map.1 (getR_some h5)
    rcases h4 x hx with h6 | h6
    · exact .inl (by rw [← he]; exact h6)
    · exact .inr (by rw [← he]; exact h6)
  · exact .inr (by omega)
theorem ApOk.later {nm : ByteArray} {cs : List Col} {nx : Int} {rs : List Row} {ins : List (List Vl)} {dels : List Int} {us : List Upd} {T : Tb} (h : ApOk nm cs nx rs ins dels us T) : LaterOk ⟨nm, cs, nx, rs⟩ T := by
  rw [h.tb]
  refine ⟨rfl, rfl, by show nx ≤ nx + (ins.length : Int); omega, fun r hr => ?_⟩
  rcases List.mem_append.1 hr with hr | hr
  · obtain ⟨y, hy, rfl⟩ := List.mem_map.1 hr
    have h1 : getR rs y.1 |>.isSome := getR_isSome (List.mem_map_of_mem (f := fun x : Row => x.1) (List.mem_filter.1 hy).1)
    exact .inl h1
  · right
    unfold insR at hr
    obtain ⟨p, hp, rfl⟩ := List.mem_map.1 hr
    show nx ≤ nx + _
    omega
theorem ApOk.vtab {t : Tb} {ins : List (List Vl)} {dels : List Int} {us : List Upd} {T : Tb} (hv : VTab t) (h : ApOk t.nm t.cs t.nx t.rs ins dels us T) : VTab T := by
  have h2 := h.tab2
  have h3 : T.nm = t.nm ∧ T.cs = t.cs := by rw [h.tb]; exact ⟨rfl, rfl⟩
  exact ⟨by rw [h3.1, h3.2]; exact hv.sch, h2⟩
/-- what holds two numbers one behind the other is apart from a block that holds the zero table -/
theorem Ro.apartPair {w : World} {Q : Nat → Prop} {size n : Nat} {A : Option Addr} {xs : List Value} (h : Ro w Q (SlR size A n xs)) {ga : Nat} {t : TypeId} (hg : w.heap[ga]? = some (.cells zeroTc t (0, 0))) (hx : n = 0 ∨ ∃ x y : Int, xs[0]? = some (.int .i64 x) ∧ xs[1]? = some (.int .i64 y)) : Ro w (fun b => b = ga ∨ Q b) (SlR size A n xs) := by
  rcases hx with rfl | ⟨x0, y0, hx0, hy0⟩
  · exact fun w2 _ _ => ⟨(show Rd w w.heap.size size A 0 xs from h.now).1, fun h0 => absurd h0 (by omega)⟩
  · intro w2 h1 h2
    have hgl : ga < w.heap.size := Blk.lt (t := t) (cs := zeroTc) hg
    have hgs : (w2.heap.setIfInBounds ga (.cells zeroTc t (0, 0)))[ga]? = some (.cells zeroTc t (0, 0)) := by
      rw [Array.getElem?_setIfInBounds, if_pos rfl, if_pos (by omega)]
    have hne : ∀ b, b ≠ ga → (w2.heap.setIfInBounds ga (.cells zeroTc t (0, 0)))[b]? = w2.heap[b]? := fun b hb => by
      rw [Array.getElem?_setIfInBounds, if_neg (fun e => hb e.symm)]
    have h3 : Rd { w2 with heap := w2.heap.setIfInBounds ga (.cells zeroTc t (0, 0)) } _ size A n xs := h { w2 with heap := w2.heap.setIfInBounds ga (.cells zeroTc t (0, 0)) } (by simpa using h1) (fun b hb hn => by
      by_cases e : b = ga
      · subst e; exact hgs.trans hg.symm
      · exact (hne b e).trans (h2 b hb (fun hm => hm.elim e hn)))
    refine ⟨h3.1, fun hn => ?_⟩
    obtain ⟨b, o, e, hb, hc⟩ := h3.2 hn
    have hbg : b ≠ ga := by
      rintro rfl
      have h4 := hc 0 _ hx0
      have h5 := hc 1 _ hy0
      rw [cell_of_row _ _ _ _ _ _ hgs] at h4 h5
      rcases o with _ | _ | _ | _ | o <;> simp [zeroTc] at h4 h5
    refine ⟨b, o, e, by simpa using hb, fun j u hu => ?_⟩
    rw [← hc j u hu]
    exact (World.cell?_of_block (w := w2) (w' := { w2 with heap := w2.heap.setIfInBounds ga (.cells zeroTc t (0, 0)) }) (a := ⟨b, o + j, none⟩) (hne b hbg)).symm
theorem vls_apart {w : World} {Q : Nat → Prop} {A : Option Addr} {n : Nat} {vs : List Vl} (h : Ro w Q (VlsIn A n vs)) {ga : Nat} {t : TypeId} (hg : w.heap[ga]? = some (.cells zeroTc t (0, 0))) : Ro w (fun b => b = ga ∨ Q b) (VlsIn A n vs) := by
  have hl := VlsIn.len h.now
  exact (show Ro w Q (SlR 3 A n (vlCells vs)) from h).apartPair hg (by
    cases vs with
    | nil => left; simpa using hl.symm
    | cons v vs => exact .inr ⟨v.k, v.i, rfl, rfl⟩)
theorem rws_apart {w : World} {Q : Nat → Prop} {B : Option Addr} {m : Nat} {l : List Rw} (h : Ro w Q (RwsIn B m l)) {ga : Nat} {t : TypeId} (hg : w.heap[ga]? = some (.cells zeroTc t (0, 0))) (hx : ∀ r ∈ l, r.id ≠ 0) : Ro w (fun b => b = ga ∨ Q b) (RwsIn B m l) := by
  have hl := h.now.len
  have h1 : Ro w Q (SlR 2 B m (rwCells l)) := h.imp fun w2 h2 => h2.1
  have k1 := h1.apartBlk hg (by
    cases l with
    | nil => left; simpa using hl.symm
    | cons r l => exact .inr ⟨.int .i64 r.id, rfl, int_apart (hx r (by simp))⟩)
  refine k1.and fun w2 g1 g2 r hr => ?_
  have h2 : Ro w Q (VlsIn r.A r.n r.vs) := h.imp fun w2 h2 => h2.2 r hr
  exact vls_apart h2 hg w2 g1 g2
theorem rapply_slot (M : Nat → Prop) (w : World) (hM : ∀ b, M b → b < w.heap.size) (v c : Value) (t : Tb) (ins : List (List Vl)) (dels : List Int) (us : List Upd) (hT : TbAt w M v t) (hC : ChgSlot M ins dels us c w) (hs : t.nm.size ≤ maxLen) (hcs : ∀ x ∈ t.cs, x.name.size ≤ maxLen)
    (hr : t.rs.length ≤ 1000000) (hrl : ∀ r ∈ t.rs, r.2.length ≤ 1000000) (hi : ins.length ≤ 1000000) (hd : dels.length ≤ 1000000) (hu : us.length ≤ 1000000) :
    Calls Tryz.prog 32 #[v, c] w fun e w' => ∃ u, e = .returned u ∧ ApSlot M (applyC t.nm t.cs t.nx t.rs ins dels us) u w' ∧ Below w.heap.size w w' := by
  obtain ⟨A, n, cc, B, m, d, l, rfl, h1, h2, h3, h4, h5, h6, h7, h8⟩ := hT
  obtain ⟨x, y, z, rfl, ⟨I, ni, ci, pi, rfl, i1, i2, rfl, i4, i5⟩, ⟨D, nd, cd, rfl, d1, d2, d3⟩, ⟨U, nu, cu, pu, rfl, u1, u2, rfl, u4, u5⟩⟩ := hC
  have hml := h6.now.len
  have hil := i5.now.len
  have hul := u5.now.len
  have hdl : dels.length = nd := (show Rd w w.heap.size 1 D nd (iCells dels) from d3.now).1 |> fun h => by simpa [iCells] using h
  have hrn : ∀ r ∈ l, r.n ≤ 4398046511104 := fun r hr' => by
    have h9 := hrl r.row (by rw [← h8]; exact List.mem_map_of_mem hr')
    have h10 : r.vs.length = r.n := VlsIn.len (h6.now.2 r hr')
    have h11 : r.row.2 = r.vs := rfl
    rw [h11] at h9
    omega
  rw [← h8] at hr
  simp only [List.length_map] at hr hi hu
  have := rapply_any M w hM t.nm A n cc t.cs t.nx B m d l I ni ci pi D nd cd dels U nu cu pu h5 h6 i5 d3 u5 (by omega) (by omega) h7 hrn (fun p hp => Nat.le_trans (u4 p hp).oc (u4 p hp).oc2) hs hcs (by omega) (by omega) (by omega) i4 u4
  rw [h8] at this
  refine this.mono ?_
  rintro e w' ⟨v, rfl, hv, b⟩
  exact ⟨_, rfl, ⟨v, rfl, hv⟩, b⟩
def ChgSl (M : Nat → Prop) (u : Value) (w : World) : Prop := ∃ (ins : List (List Vl)) (dels : List Int) (us : List Upd), ChgSlot M ins dels us u w ∧ ins.length ≤ 2000 ∧ dels.length ≤ 2000 ∧ us.length ≤ 2000
theorem chgSl_mono {M : Nat → Prop} (u : Value) (w w' : World) (hr : RM M w w') (h : ChgSl M u w) : ChgSl M u w' := by
  obtain ⟨i, d, s, h1, h2⟩ := h
  exact ⟨i, d, s, chgSlot_mono _ _ _ hr h1, h2⟩
/-- what Apply answers of a table and some change -/
def ApE (M : Nat → Prop) (t : Tb) (u : Value) (w : World) : Prop := ∃ (ins : List (List Vl)) (dels : List Int) (us : List Upd), ApSlot M (applyC t.nm t.cs t.nx t.rs ins dels us) u w
theorem apE_mono {M : Nat → Prop} {t : Tb} (u : Value) (w w' : World) (hr : RM M w w') (h : ApE M t u w) : ApE M t u w' := by
  obtain ⟨i, d, s, h1⟩ := h
  exact ⟨i, d, s, apSlot_mono _ _ _ hr h1⟩
set_option maxHeartbeats 8000000 in
set_option maxRecDepth 100000 in
theorem later_any (M : Nat → Prop) (T : Nat) (w : World) (hM : ∀ b, M b → b < w.heap.size) (ht : Tp w T) (hMT : ∀ b, M b → T ≤ b) (v : Value) (t : Tb) (hT : TbAt w (Mut M [.tp T]) v t) (hv : VTab t) (hW : Ro w (Mut M [.tp T]) Wds) (hw : 1 < T) :
    Calls Tryz.prog 13 #[.pointer (some ⟨T, 0, none⟩), v] w fun e w' => ∃ (v' : Value) (t' : Tb), e = .returned v' ∧ TbAt w' M v' t' ∧ VTab t' ∧ LaterOk t t' ∧ Tp w' T ∧ w.grownBy w' (some T) := by
  obtain ⟨A, n, c, B, m, d, l, rfl, h1, h2, h3, h4, h5, h6, h7, h8⟩ := hT
  have K0 := (((((Hold.startT M w T hM ht hMT).add h6).add (h5.less (mut_none rfl))).add ((hW.less (mut_none rfl)).less (mut_none rfl))).alloc #[.string t.nm, .slice A n c, .int .i64 t.nx, .slice B m d] 34).alloc #[.string ⟨#[]⟩, .slice none 0 0, .int .i64 0, .slice none 0 0] 34
  simp only [World.size_alloc] at K0
  clear h5 h6 hW
  go_enter Tryz.func13, Tryz.ntmps13
  go_wp2_with fail
  obtain ⟨g3, hg3⟩ : ∃ g, g = w.heap.size := ⟨_, rfl⟩
  obtain ⟨g4, hg4⟩ : ∃ g, g = g3 + 1 := ⟨_, rfl⟩
  rw [← hg3, ← hg4] at K0 ⊢
  generalize (w.alloc _).alloc _ = w1 at K0 ⊢
  have HGX := hid hg3
  clear hg3 hg4
  have K1 : Hold M (some T) w w1 [.blk g3 34 #[.string t.nm, .slice A n c, .int .i64 t.nx, .slice B m d], .blk g4 34 #[.string ⟨#[]⟩, .slice none 0 0, .int .i64 0, .slice none 0 0], .ro Wds, .ro (ColsIn A n t.cs), .ro (RwsIn B m l), .tp T] := K0.perm (List.Perm.swap _ _ _)
  clear K0
  refine (next_any T 3 _ (K1.tp_ 5 rfl) (by omega) (by omega)).mono ?_
  rintro e w2 ⟨i0, rfl, i00, i01, t2, g2⟩
  obtain ⟨i0, rfl⟩ := Int.eq_ofNat_of_zero_le i00
  have K2 := Hold.callT K1 5 rfl g2 t2
  clear K1 g2 t2
  have s0 : IntKind.i64.wrap (1 + (i0 : Int)) = 1 + (i0 : Int) := by rw [IntKind.wrap_i64]; omega
  go_wp2_with fail
  clear s0
  go_loopw [5] (fun iv wr => ∃ (i n c m d : Nat) (A B : Option Addr) (l : List Rw) (tc : Tb), i ≤ 3 ∧ iv = .int .i64 i ∧ n ≤ c ∧ c ≤ 9223372036854775807 ∧ m ≤ d ∧ d ≤ 9223372036854775807 ∧ Hid ((∀ r ∈ l, r.ok) ∧ l.map Rw.row = tc.rs) ∧ Hid (VTab tc) ∧ Hid (LaterOk t tc) ∧ Hold M (some T) w wr [.blk g3 34 #[.string tc.nm, .slice A n c, .int .i64 tc.nx, .slice B m d], .blk g4 34 #[.string ⟨#[]⟩, .slice none 0 0, .int .i64 0, .slice none 0 0], .ro Wds, .ro (ColsIn A n tc.cs), .ro (RwsIn B m l), .tp T]) (fun iv _ => (intOf iv).toNat)
  case atStart => exact ⟨i0 + 1, n, c, m, d, A, B, l, t, by omega, by congr 1; omega, h1, h2, h3, h4, hid ⟨h7, h8⟩, hid hv, hid (LaterOk.refl t), K2⟩
  case round =>
    clear K2 h1 h2 h3 h4 h7 h8 hv i00 i01
    obtain ⟨i, n, c, m, d, A, B, l, tc, hi, rfl, hnc, hc, hmd, hd, HLO, HVT, HLT, H⟩ := hrel
    by_cases hpos : 0 < i
    · obtain ⟨i, rfl⟩ : ∃ i', i = i' + 1 := ⟨i - 1, by omega⟩
      have hdd : decide (((i + 1 : Nat) : Int) > 0) = true := by rw [decide_eq_true_iff]; omega
      clear hpos
      have FH := H.facts
      simp only [World.size_alloc, World.size_drew, factsL, cellsF, Nat.reduceAdd, List.toList_toArray, List.set_cons_zero, List.set_cons_succ, List.setIfInBounds_toArray, and_true, true_and] at FH
      go_wp2_with fail
      obtain ⟨KL, hKL, KN⟩ := H.name
      have HF : Hid (∀ wv, Hold M (some T) w wv KL → wv.cell? ⟨g3, 0, none⟩ = some (.string tc.nm) ∧ wv.cell? ⟨g3, 1, none⟩ = some (.slice A n c) ∧ wv.cell? ⟨g3, 2, none⟩ = some (.int .i64 tc.nx) ∧ wv.cell? ⟨g3, 3, none⟩ = some (.slice B m d) ∧ g3 < wv.heap.size) := hid fun wv HC => by
        rw [hKL] at HC
        have y := HC.blk_ 0 rfl
        exact ⟨cell_of_row _ _ 0 _ _ _ y, cell_of_row _ _ 1 _ _ _ y, cell_of_row _ _ 2 _ _ _ y, cell_of_row _ _ 3 _ _ _ y, Blk.lt y⟩
      have HX : Hid (∀ wv, Hold M (some T) w wv KL → TbAt wv (Mut M KL) (.agg #[.string tc.nm, .slice A n c, .int .i64 tc.nx, .slice B m d]) tc ∧ Tp wv T ∧ (∀ b, Mut M KL b → T ≤ b) ∧ Ro wv (Mut M KL) Wds) := hid fun wv HC => by
        rw [hKL] at HC ⊢
        exact ⟨⟨A, n, c, B, m, d, l, rfl, hnc, hc, hmd, hd, HC.ro 3 rfl, HC.ro 4 rfl, HLO.out.1, HLO.out.2⟩, HC.tp_ 5 rfl, (HC.get 5 rfl).2, HC.ro 2 rfl⟩
      have HKL := hid hKL
      have HNCD := hid (And.intro hnc (And.intro hc (And.intro hmd hd)))
      clear hKL H FH hnc hc hmd hd
      obtain ⟨Hb, hHb⟩ : ∃ Hb, Hb = wr.drew.heap.size := ⟨_, rfl⟩
      have HHb := hid hHb
      clear hHb
      refine wp_region_any (by kernel_rfl) ?_
      refine wpAny_holdE [7] 9 27 (KL) (spL [(19, ChgSl (Mut M KL)), (20, ApE (Mut M KL) tc), (15, ApE (Mut M KL) tc), (6, NewSlot (Mut M KL) Hb 34 #[.string ⟨#[]⟩, .slice none 0 0, .int .i64 0, .slice none 0 0])]) (by kernel_rfl) (fun _ d _ _ _ h => by cases d <;> exact h) (by kernel_rfl) (by kernel_rfl) rfl ?_ (KN.drew) ?_
      · exact stays_cons chgSl_mono (stays_cons apE_mono (stays_cons apE_mono (stays_cons newSlot_mono (stays_nil _))))
      simp only [List.take_succ_cons, List.take_zero, List.drop_succ_cons, List.drop_zero, Act.put, List.getElem_toArray, List.getElem_cons_zero, List.getElem_cons_succ, List.setIfInBounds_toArray, List.set_cons_succ, List.set_cons_zero]
      refine dw_val rfl rfl rfl ?_; apply Exists.intro; refine ⟨fun wv HC => ?_, ?_⟩
      · obtain ⟨f0, f1, f2, f3, f4⟩ := HF.out _ HC; go_simp <;> rfl
      simp only [Act.put, List.setIfInBounds_toArray, List.set_cons_succ, List.set_cons_zero]
      refine dw_val rfl rfl rfl ?_; apply Exists.intro; refine ⟨fun wv HC => ?_, ?_⟩
      ·  go_simp <;> rfl
      simp only [Act.put, List.setIfInBounds_toArray, List.set_cons_succ, List.set_cons_zero]
      refine dw_val rfl rfl rfl ?_; apply Exists.intro; refine ⟨fun wv HC => ?_, ?_⟩
      · obtain ⟨f0, f1, f2, f3, f4⟩ := HF.out _ HC; go_simp <;> rfl
      simp only [Act.put, List.setIfInBounds_toArray, List.set_cons_succ, List.set_cons_zero]
      refine dw_callR 19 (ChgSl (Mut M KL)) (f := 33) (args := #[.pointer (some ⟨T, 0, none⟩), .agg #[.string tc.nm, .slice A n c, .int .i64 tc.nx, .slice B m d]]) rfl rfl rfl rfl (fun wv => ?_) (fun wv HC hrm hD => ?_) ?_
      · go_simp <;> rfl
      · refine (chgof_slot (Mut M KL) T wv HC.mutLt (HX.out _ HC).2.1 (HX.out _ HC).2.2.1 _ tc (tbAt_less (HX.out _ HC).1 (mut_tp (i := 5) (by rw [HKL.out]; rfl))) HVT.out ((HX.out _ HC).2.2.2.less (mut_tp (i := 5) (by rw [HKL.out]; rfl))) hw).mono ?_
        rintro e w5 ⟨v5, i5, d5, u5, rfl, hc5, hb1, hb2, hb3, t5, g5'⟩
        have hvr := HVT.out.rows
        exact ⟨_, rfl, ⟨i5, d5, u5, hc5, by omega, by omega, by omega⟩, Hold.callT HC 5 (by rw [HKL.out]; rfl) g5' t5, RM.grown g5' (.inr ⟨_, List.mem_of_getElem? (i := 5) (by rw [HKL.out]; rfl), rfl⟩)⟩
      rintro s19 wx HCx hs19
      clear HCx hs19
      simp only [Act.put, List.setIfInBounds_toArray, List.set_cons_succ, List.set_cons_zero]
      refine dw_callR 20 (ApE (Mut M KL) tc) (f := 32) (args := #[.agg #[.string tc.nm, .slice A n c, .int .i64 tc.nx, .slice B m d], s19]) rfl rfl rfl rfl (fun wv => ?_) (fun wv HC hrm hD => ?_) ?_
      · go_simp <;> rfl
      · have hsl : ChgSl (Mut M KL) s19 wv := deps_at hD 3 rfl (by kernel_rfl) rfl rfl
        obtain ⟨i5, d5, u5, h5, hb1, hb2, hb3⟩ := hsl
        have hvr := HVT.out.rows
        refine (rapply_slot _ wv HC.mutLt _ _ tc i5 d5 u5 (HX.out _ HC).1 h5 HVT.out.sch.nm HVT.out.sch.cs (by omega) (fun r hr => by have := HVT.out.len r hr; omega) (by omega) (by omega) (by omega)).mono ?_
        rintro e w6 ⟨u6, rfl, hv6, b6⟩
        exact ⟨_, rfl, ⟨i5, d5, u5, hv6⟩, HC.call b6, RM.below b6⟩
      rintro u wx HCx ⟨i5, d5, u5, v5, rfl, Ab, nb, cb, Bb, mb, db, lb, hv5, -, -, -, -, -, -, -, -⟩
      obtain ⟨E5, hE5⟩ : ∃ E5 : Int × Tb, E5 = applyC tc.nm tc.cs tc.nx tc.rs i5 d5 u5 := ⟨_, rfl⟩
      rw [← hE5] at hv5 ⊢
      obtain ⟨e5, T5⟩ := E5
      dsimp only at hv5 ⊢
      subst hv5
      clear HCx hE5
      simp only [Act.put, List.setIfInBounds_toArray, List.set_cons_succ, List.set_cons_zero]
      refine dw_valC 15 (ApE (Mut M KL) tc) rfl rfl rfl rfl (.tuple #[.agg #[.string T5.nm, .slice Ab nb cb, .int .i64 T5.nx, .slice Bb mb db], .int .i64 e5]) (fun wv HC => ?_) (fun wv HC hD => ?_) ?_
      · go_simp <;> rfl
      · exact deps_at hD 4 rfl (by kernel_rfl) rfl rfl
      simp only [Act.put, List.setIfInBounds_toArray, List.set_cons_succ, List.set_cons_zero]
      refine dw_val rfl rfl rfl ?_; apply Exists.intro; refine ⟨fun wv HC => ?_, ?_⟩
      ·  go_simp <;> rfl
      simp only [Act.put, List.setIfInBounds_toArray, List.set_cons_succ, List.set_cons_zero]
      refine dw_val rfl rfl rfl ?_; apply Exists.intro; refine ⟨fun wv HC => ?_, ?_⟩
      ·  go_simp <;> rfl
      simp only [Act.put, List.setIfInBounds_toArray, List.set_cons_succ, List.set_cons_zero]
      refine dw_new #[.string ⟨#[]⟩, .slice none 0 0, .int .i64 0, .slice none 0 0] 34 6 (NewSlot (Mut M KL) Hb 34 #[.string ⟨#[]⟩, .slice none 0 0, .int .i64 0, .slice none 0 0]) (fun g => .pointer (some ⟨g, 0, none⟩)) rfl rfl rfl rfl (fun wv => ?_) (fun wv HC hrm hD hro => ?_) ?_
      · go_simp <;> rfl
      · exact ⟨_, rfl, by have := hrm.1; rw [HHb.out]; exact this, hro _ HC.mutLt⟩
      rintro gb wg HCg hsl
      simp only [Act.put, List.setIfInBounds_toArray, List.set_cons_succ, List.set_cons_zero]
      clear hsl HCg
      refine rel_nil ?_
      rintro wxb HY
      rintro _hrm HGW
      have hap : ApE (Mut M KL) tc (.tuple #[.agg #[.string T5.nm, .slice Ab nb cb, .int .i64 T5.nx, .slice Bb mb db], .int .i64 e5]) wxb := (GW_on (d := 15) rfl).1 (HGW 5 _ rfl (by omega))
      have hns : NewSlot (Mut M KL) Hb 34 #[.string ⟨#[]⟩, .slice none 0 0, .int .i64 0, .slice none 0 0] (.pointer (some ⟨gb, 0, none⟩)) wxb := (GW_on (d := 6) rfl).1 (HGW 8 _ rfl (by omega))
      clear HGW
      obtain ⟨g7, hg7, hgH, hgB⟩ := hns
      obtain rfl : gb = g7 := by injection hg7 with hg7; injection hg7 with hg7; injection hg7
      clear hg7
      rw [HHb.out] at hgH
      have HB := Hold.addFreshBlk KN.drew HY _hrm hgH hgB.now
      have hgn := hgB.now
      obtain ⟨i6, d6, u6, v6, hv6, TT⟩ := hap
      obtain ⟨E6, hE6⟩ : ∃ E6 : Int × Tb, E6 = applyC tc.nm tc.cs tc.nx tc.rs i6 d6 u6 := ⟨_, rfl⟩
      rw [← hE6] at hv6 TT
      obtain ⟨e6, T6⟩ := E6
      dsimp only at hv6 TT
      obtain ⟨rfl, rfl⟩ : _ = v6 ∧ e5 = e6 := by injection hv6 with hv6; simpa using hv6
      obtain ⟨A6, n6, c6, B6, m6, d6', l6, ev, k1, k2, k3, k4, k5, k6, k7, k8⟩ := TT
      have hst : ∃ (A' : Option Addr) (n' c' : Nat) (B' : Option Addr) (m' d' : Nat), Value.agg #[.string T5.nm, .slice Ab nb cb, .int .i64 T5.nx, .slice Bb mb db] = .agg #[.string T6.nm, .slice A' n' c', .int .i64 T6.nx, .slice B' m' d'] ∧ A' = A6 ∧ n' = n6 ∧ c' = c6 ∧ B' = B6 ∧ m' = m6 ∧ d' = d6' := ⟨A6, n6, c6, B6, m6, d6', ev, rfl, rfl, rfl, rfl, rfl, rfl⟩
      clear hst
      obtain ⟨e1, e2, e3, e4, e7, e8, e9, e10⟩ : T5.nm = T6.nm ∧ Ab = A6 ∧ nb = n6 ∧ cb = c6 ∧ T5.nx = T6.nx ∧ Bb = B6 ∧ mb = m6 ∧ db = d6' := by
        injection ev with ev
        simp only [Array.mk.injEq, List.cons.injEq, Value.string.injEq, Value.slice.injEq, Value.int.injEq, and_true, true_and] at ev
        obtain ⟨a1, ⟨a2, a3, a4⟩, a5, a6, a7, a8⟩ := ev
        exact ⟨a1, a2, a3, a4, a5, a6, a7, a8⟩
      subst e2 e3 e4 e8 e9 e10
      rw [e1, e7]
      clear e1 e7 ev hv6 T5
      have hcd : e5 = 0 → ApOk tc.nm tc.cs tc.nx tc.rs i6 d6 u6 T6 := fun h0 => apOk_of (by rw [← hE6, h0])
      have hnz : ∀ r ∈ l6, r.id ≠ 0 := fun r hr => by
        by_cases h0 : e5 = 0
        · have h9 := ((okR_asc (tabB_ok (hcd h0).tab2).2.2.2.2.1).2 r.row (by rw [← k8]; exact List.mem_map_of_mem hr)).1
          have h10 : r.row.1 = r.id := rfl
          rw [h10] at h9
          omega
        · have hz : T6 = zeroT := by
            have h9 := apC_zero (nm := tc.nm) (cs := tc.cs) (nx := tc.nx) (rs := tc.rs) (ins := i6) (dels := d6) (us := u6) (by rw [← hE6]; exact h0)
            rw [← hE6] at h9
            exact h9
          rw [hz] at k8
          rw [List.map_eq_nil_iff.1 k8] at hr
          cases hr
      have HK := hid (And.intro k1 (And.intro k2 (And.intro k3 (And.intro k4 (And.intro k7 k8)))))
      have HCD := hid hcd
      have K3 := (HB.add ((rws_apart k6 (t := 34) hgn hnz).less fun b hb => (mut_cons.1 hb).elim (fun hf => Or.inl (by have hf : some gb = some b := hf; injection hf with hf; exact hf.symm)) Or.inr)).add (((k5.colsOff hgn).less fun b hb => (mut_cons.1 hb).elim (fun hf => Or.inr (by have hf : some gb = some b := hf; injection hf with hf; exact hf.symm)) Or.inl).less (mut_none rfl))
      clear hcd hnz hE6 k1 k2 k3 k4 k5 k6 k7 k8 hgn hgB hgH HY _hrm HHb KN HF HX
      rw [HKL.out] at K3
      clear HB
      have FB := K3.facts
      simp only [World.size_alloc, World.size_drew, factsL, cellsF, Nat.reduceAdd, List.toList_toArray, List.set_cons_zero, List.set_cons_succ, List.setIfInBounds_toArray, and_true, true_and] at FB
      have NK := K3.nes
      simp only [nesL, neF, and_true, true_and] at NK
      have K6 := (((K3.store 2 rfl 0 (.string T6.nm)).store 2 rfl 1 (.slice Ab nb cb)).store 2 rfl 2 (.int .i64 T6.nx)).store 2 rfl 3 (.slice Bb mb db)
      simp only [List.set_cons_zero, List.set_cons_succ, List.setIfInBounds_toArray] at K6
      have s1 : IntKind.i64.wrap (((i + 1 : Nat) : Int) - 1) = (i : Int) := by rw [IntKind.wrap_i64]; omega
      have s2 : IntKind.i64.wrap ((i : Int) + 1 - 1) = (i : Int) := by rw [IntKind.wrap_i64]; omega
      by_cases h0 : e5 = 0
      · have hb0 : (e5 == 0) = true := by simp [h0]
        have hap := HCD.out h0
        have HV2 := hid (hap.vtab HVT.out)
        have HL2 := hid (HLT.out.trans hap.later)
        clear hap h0
        have K7 := (((K6.store 3 rfl 0 (.string T6.nm)).store 3 rfl 1 (.slice Ab nb cb)).store 3 rfl 2 (.int .i64 T6.nx)).store 3 rfl 3 (.slice Bb mb db)
        simp only [List.set_cons_zero, List.set_cons_succ, List.setIfInBounds_toArray] at K7
        have K8a : Hold M (some T) w _ [.ro (ColsIn Ab nb T6.cs), .ro (RwsIn Bb mb l6), .blk g3 34 #[.string T6.nm, .slice Ab nb cb, .int .i64 T6.nx, .slice Bb mb db], .blk g4 34 #[.string ⟨#[]⟩, .slice none 0 0, .int .i64 0, .slice none 0 0], .ro Wds, .tp T] := K7.drop (List.Sublist.cons_cons _ (List.Sublist.cons_cons _ (List.Sublist.cons _ (List.Sublist.cons_cons _ (List.Sublist.cons_cons _ (List.Sublist.cons_cons _ (List.Sublist.cons _ (List.Sublist.cons _ (List.Sublist.refl _)))))))))
        have K8b : Hold M (some T) w _ [.ro (RwsIn Bb mb l6), .blk g3 34 #[.string T6.nm, .slice Ab nb cb, .int .i64 T6.nx, .slice Bb mb db], .blk g4 34 #[.string ⟨#[]⟩, .slice none 0 0, .int .i64 0, .slice none 0 0], .ro Wds, .ro (ColsIn Ab nb T6.cs), .tp T] := K8a.sinkN 4
        have K8 : Hold M (some T) w _ [.blk g3 34 #[.string T6.nm, .slice Ab nb cb, .int .i64 T6.nx, .slice Bb mb db], .blk g4 34 #[.string ⟨#[]⟩, .slice none 0 0, .int .i64 0, .slice none 0 0], .ro Wds, .ro (ColsIn Ab nb T6.cs), .ro (RwsIn Bb mb l6), .tp T] := K8b.sinkN 4
        clear K8a K8b K7
        go_wp2_with fail
        go_roundw
        case rel => exact ⟨i, nb, cb, mb, db, Ab, Bb, l6, T6, by omega, by first | rfl | go_num, HK.out.1, HK.out.2.1, HK.out.2.2.1, HK.out.2.2.2.1, hid ⟨HK.out.2.2.2.2.1, HK.out.2.2.2.2.2⟩, HV2, HL2, K8⟩
        case measure => simp [intOf] <;> omega
      · have hb0 : (e5 == 0) = false := by simpa using h0
        clear h0
        have K8 := K6.drop (List.Sublist.cons _ (List.Sublist.cons _ (List.sublist_cons_self _ _)))
        go_wp2_with fail
        go_roundw
        case rel => exact ⟨i, n, c, m, d, A, B, l, tc, by omega, by first | rfl | go_num, HNCD.out.1, HNCD.out.2.1, HNCD.out.2.2.1, HNCD.out.2.2.2, HLO, HVT, HLT, K8⟩
        case measure => simp [intOf] <;> omega
    · obtain rfl : i = 0 := by omega
      have hdd : decide (((0 : Nat) : Int) > 0) = false := by decide
      have F := H.facts
      simp only [World.size_alloc, World.size_drew, factsL, cellsF, Nat.reduceAdd, List.toList_toArray, List.set_cons_zero, List.set_cons_succ, List.setIfInBounds_toArray, and_true, true_and] at F
      have NK := H.nes
      simp only [nesL, neF, and_true, true_and] at NK
      have KN := (((H.store 1 rfl 0 (.string tc.nm)).store 1 rfl 1 (.slice A n c)).store 1 rfl 2 (.int .i64 tc.nx)).store 1 rfl 3 (.slice B m d)
      have r1 := KN.roOut 3 rfl
      have r2 := KN.roOut 4 rfl
      go_wp2_with fail
      exact bodyPost_ret (v := .agg #[.string tc.nm, .slice A n c, .int .i64 tc.nx, .slice B m d]) (by simp [results, Tryz.results13, go_sem, F, NK]) rfl ⟨_, tc, rfl, ⟨A, n, c, B, m, d, l, rfl, hnc, hc, hmd, hd, r1, r2, HLO.out.1, HLO.out.2⟩, HVT.out, HLT.out, KN.tp_ 5 rfl, KN.grow⟩
end Go.Proofs.YtljmclbedpceoaaGreatDoor

namespace Go.Proofs.YtljmclbedpceoaaGreatDoor
open Go.RowKit
set_option linter.unusedVariables false
set_option linter.unusedSimpArgs false

/-- a row handed back, its values in memory -/
def RowOne (w : World) (M : Nat → Prop) (id : Int) (vs : List Vl) (e : Ending) (w' : World) : Prop := ∃ (A : Option Addr) (n c : Nat), e = .returned (.agg #[.int .i64 id, .slice A n c]) ∧ n = vs.length ∧ n ≤ c ∧ c ≤ 9223372036854775807 ∧ Ro w' M (VlsIn A n vs) ∧ Below w.heap.size w w'
set_option maxHeartbeats 2000000 in
set_option maxRecDepth 100000 in
theorem dcopied_any (M : Nat → Prop) (w : World) (hM : ∀ b, M b → b < w.heap.size) (id : Int) (A : Option Addr) (n c : Nat) (vs : List Vl) (hD : Ro w M (VlsIn A n vs)) (hn : n ≤ 4398046511104) : Calls Tryz.prog 94 #[.agg #[.int .i64 id, .slice A n c]] w fun e w' => RowOne w M id vs e w' := by
  have K0 := ((Hold.start M w hM).add (hD.less (by simp [Mut]))).alloc_cst #[.int .i64 id, .slice A n c] 89 |>.alloc #[.int .i64 0, .slice none 0 0] 89
  simp only [World.size_alloc] at K0
  clear hD
  go_enter Tryz.func94, Tryz.ntmps94
  go_wp2_with fail
  obtain ⟨g1, hg1⟩ : ∃ g, g = w.heap.size := ⟨_, rfl⟩
  obtain ⟨g2, hg2⟩ : ∃ g, g = g1 + 1 := ⟨_, rfl⟩
  rw [← hg1, ← hg2] at K0 ⊢
  generalize (w.alloc _).alloc _ = w1 at K0 ⊢
  have HG := hid hg1
  clear hg1 hg2
  obtain ⟨KL, hKL, KN⟩ := K0.name
  have HF : Hid (∀ wv, Hold M none w wv KL → (wv.cell? ⟨g1, 0, none⟩ = some (.int .i64 id) ∧ wv.cell? ⟨g1, 1, none⟩ = some (.slice A n c) ∧ g1 < wv.heap.size) ∧ Ro wv (Mut M KL) (VlsIn A n vs)) := hid fun wv HC => by
    rw [hKL] at HC ⊢
    have y1 := HC.cst_ 1 rfl
    exact ⟨⟨cell_of_row _ _ 0 _ _ _ y1, cell_of_row _ _ 1 _ _ _ y1, Blk.lt y1⟩, HC.ro 2 rfl⟩
  have HKL := hid hKL
  clear hKL K0
  refine wp_region_any (by kernel_rfl) ?_
  refine wpAny_hold 6 9 (KL) (spL [(7, VlsSlot (Mut M KL) vs)]) (by kernel_rfl) (by kernel_rfl) (by kernel_rfl) rfl ?_ (KN.drew) ?_
  · exact stays_cons vlsSlot_mono (stays_nil _)
  simp only [List.take_succ_cons, List.take_zero, List.drop_succ_cons, List.drop_zero, Act.put, List.getElem_toArray, List.getElem_cons_zero, List.getElem_cons_succ, List.setIfInBounds_toArray, List.set_cons_succ, List.set_cons_zero]
  refine dw_val rfl rfl rfl ?_; apply Exists.intro; refine ⟨fun wv HC => ?_, ?_⟩
  ·  go_simp <;> rfl
  simp only [Act.put, List.setIfInBounds_toArray, List.set_cons_succ, List.set_cons_zero]
  refine dw_val rfl rfl rfl ?_; apply Exists.intro; refine ⟨fun wv HC => ?_, ?_⟩
  · obtain ⟨⟨f0, f1, f2⟩, _⟩ := HF.out _ HC; go_simp <;> rfl
  simp only [Act.put, List.setIfInBounds_toArray, List.set_cons_succ, List.set_cons_zero]
  refine dw_val rfl rfl rfl ?_; apply Exists.intro; refine ⟨fun wv HC => ?_, ?_⟩
  ·  go_simp <;> rfl
  simp only [Act.put, List.setIfInBounds_toArray, List.set_cons_succ, List.set_cons_zero]
  refine dw_val rfl rfl rfl ?_; apply Exists.intro; refine ⟨fun wv HC => ?_, ?_⟩
  · obtain ⟨⟨f0, f1, f2⟩, _⟩ := HF.out _ HC; go_simp <;> rfl
  simp only [Act.put, List.setIfInBounds_toArray, List.set_cons_succ, List.set_cons_zero]
  refine dw_callR 7 (VlsSlot (Mut M KL) vs) (f := 96) (args := #[.slice A n c]) rfl rfl rfl rfl (fun wv => ?_) (fun wv HC hrm hD => ?_) ?_
  · go_simp <;> rfl
  · refine (cloneVls_any _ wv HC.mutLt A n c vs (HF.out _ HC).2 hn).mono ?_
    rintro e w5 ⟨A5, n5, c5, rfl, h50, h51, h52, h53, b5⟩
    exact ⟨_, rfl, ⟨A5, n5, c5, rfl, h50, h51, h52, h53⟩, HC.call b5, RM.below b5⟩
  rintro x_ wx HCx ⟨A5, n5, c5, rfl, -, -, -, -⟩
  simp only [Act.put, List.setIfInBounds_toArray, List.set_cons_succ, List.set_cons_zero]
  clear HCx
  refine dw_val rfl rfl rfl ⟨.agg #[.int .i64 id, .slice A5 n5 c5], fun wv HC => ?_, ?_⟩
  · go_simp <;> rfl
  simp only [Act.put, List.setIfInBounds_toArray, List.set_cons_succ, List.set_cons_zero]
  refine rel_nil ?_
  rintro wx2 HX
  rintro _hrm HGW
  have hb : VlsSlot (Mut M KL) vs (.slice A5 n5 c5) wx2 := (GW_on (d := 7) rfl).1 (HGW 4 _ rfl (by omega))
  clear HGW _hrm
  obtain ⟨A6, n6, c6, e6, k0_, k1_, k2_, k3_⟩ := hb
  obtain ⟨rfl, rfl, rfl⟩ : A5 = A6 ∧ n5 = n6 ∧ c5 = c6 := by injection e6 with h1 h2 h3; exact ⟨h1, h2, h3⟩
  clear e6
  have K1 := HX.add k3_
  rw [HKL.out] at K1
  have F1 := K1.facts
  simp only [World.size_alloc, World.size_drew, factsL, cellsF, Nat.reduceAdd, List.toList_toArray, List.set_cons_zero, List.set_cons_succ, List.setIfInBounds_toArray, and_true, true_and] at F1
  have H0 := hid k0_
  clear HF KN k3_ HX k0_
  have KN := (K1.store 1 rfl 0 (.int .i64 id)).store 1 rfl 1 (.slice A5 n5 c5)
  have r1 := KN.roOut 0 rfl
  go_wp2_with fail
  exact bodyPost_ret (v := .agg #[.int .i64 id, .slice A5 n5 c5]) (by simp [results, Tryz.results94, go_sem, F1]) rfl ⟨A5, n5, c5, rfl, H0.out, k1_, k2_, r1, KN.below⟩
set_option maxHeartbeats 2000000 in
set_option maxRecDepth 100000 in
theorem rcopyrow_any (M : Nat → Prop) (w : World) (hM : ∀ b, M b → b < w.heap.size) (id : Int) (A : Option Addr) (n c : Nat) (vs : List Vl) (hD : Ro w M (VlsIn A n vs)) (hn : n ≤ 4398046511104) : Calls Tryz.prog 55 #[.agg #[.int .i64 id, .slice A n c]] w fun e w' => RowOne w M id vs e w' := by
  have K0 := ((Hold.start M w hM).add (hD.less (by simp [Mut]))).alloc_cst #[.int .i64 id, .slice A n c] 89 |>.alloc #[.int .i64 0, .slice none 0 0] 89
  simp only [World.size_alloc] at K0
  clear hD
  go_enter Tryz.func55, Tryz.ntmps55
  go_wp2_with fail
  obtain ⟨g1, hg1⟩ : ∃ g, g = w.heap.size := ⟨_, rfl⟩
  obtain ⟨g2, hg2⟩ : ∃ g, g = g1 + 1 := ⟨_, rfl⟩
  rw [← hg1, ← hg2] at K0 ⊢
  generalize (w.alloc _).alloc _ = w1 at K0 ⊢
  have HG := hid hg1
  clear hg1 hg2
  obtain ⟨KL, hKL, KN⟩ := K0.name
  have HF : Hid (∀ wv, Hold M none w wv KL → (wv.cell? ⟨g1, 0, none⟩ = some (.int .i64 id) ∧ wv.cell? ⟨g1, 1, none⟩ = some (.slice A n c) ∧ g1 < wv.heap.size) ∧ Ro wv (Mut M KL) (VlsIn A n vs)) := hid fun wv HC => by
    rw [hKL] at HC ⊢
    have y1 := HC.cst_ 1 rfl
    exact ⟨⟨cell_of_row _ _ 0 _ _ _ y1, cell_of_row _ _ 1 _ _ _ y1, Blk.lt y1⟩, HC.ro 2 rfl⟩
  have HKL := hid hKL
  clear hKL K0
  refine wp_region_any (by kernel_rfl) ?_
  refine wpAny_hold 6 9 (KL) (spL [(7, VlsSlot (Mut M KL) vs)]) (by kernel_rfl) (by kernel_rfl) (by kernel_rfl) rfl ?_ (KN.drew) ?_
  · exact stays_cons vlsSlot_mono (stays_nil _)
  simp only [List.take_succ_cons, List.take_zero, List.drop_succ_cons, List.drop_zero, Act.put, List.getElem_toArray, List.getElem_cons_zero, List.getElem_cons_succ, List.setIfInBounds_toArray, List.set_cons_succ, List.set_cons_zero]
  refine dw_val rfl rfl rfl ?_; apply Exists.intro; refine ⟨fun wv HC => ?_, ?_⟩
  ·  go_simp <;> rfl
  simp only [Act.put, List.setIfInBounds_toArray, List.set_cons_succ, List.set_cons_zero]
  refine dw_val rfl rfl rfl ?_; apply Exists.intro; refine ⟨fun wv HC => ?_, ?_⟩
  · obtain ⟨⟨f0, f1, f2⟩, _⟩ := HF.out _ HC; go_simp <;> rfl
  simp only [Act.put, List.setIfInBounds_toArray, List.set_cons_succ, List.set_cons_zero]
  refine dw_val rfl rfl rfl ?_; apply Exists.intro; refine ⟨fun wv HC => ?_, ?_⟩
  ·  go_simp <;> rfl
  simp only [Act.put, List.setIfInBounds_toArray, List.set_cons_succ, List.set_cons_zero]
  refine dw_val rfl rfl rfl ?_; apply Exists.intro; refine ⟨fun wv HC => ?_, ?_⟩
  · obtain ⟨⟨f0, f1, f2⟩, _⟩ := HF.out _ HC; go_simp <;> rfl
  simp only [Act.put, List.setIfInBounds_toArray, List.set_cons_succ, List.set_cons_zero]
  refine dw_callR 7 (VlsSlot (Mut M KL) vs) (f := 57) (args := #[.slice A n c]) rfl rfl rfl rfl (fun wv => ?_) (fun wv HC hrm hD => ?_) ?_
  · go_simp <;> rfl
  · refine (copyVls_any _ wv HC.mutLt A n c vs (HF.out _ HC).2 hn).mono ?_
    rintro e w5 ⟨A5, n5, c5, rfl, h50, h51, h52, h53, b5⟩
    exact ⟨_, rfl, ⟨A5, n5, c5, rfl, h50, h51, h52, h53⟩, HC.call b5, RM.below b5⟩
  rintro x_ wx HCx ⟨A5, n5, c5, rfl, -, -, -, -⟩
  simp only [Act.put, List.setIfInBounds_toArray, List.set_cons_succ, List.set_cons_zero]
  clear HCx
  refine dw_val rfl rfl rfl ⟨.agg #[.int .i64 id, .slice A5 n5 c5], fun wv HC => ?_, ?_⟩
  · go_simp <;> rfl
  simp only [Act.put, List.setIfInBounds_toArray, List.set_cons_succ, List.set_cons_zero]
  refine rel_nil ?_
  rintro wx2 HX
  rintro _hrm HGW
  have hb : VlsSlot (Mut M KL) vs (.slice A5 n5 c5) wx2 := (GW_on (d := 7) rfl).1 (HGW 4 _ rfl (by omega))
  clear HGW _hrm
  obtain ⟨A6, n6, c6, e6, k0_, k1_, k2_, k3_⟩ := hb
  obtain ⟨rfl, rfl, rfl⟩ : A5 = A6 ∧ n5 = n6 ∧ c5 = c6 := by injection e6 with h1 h2 h3; exact ⟨h1, h2, h3⟩
  clear e6
  have K1 := HX.add k3_
  rw [HKL.out] at K1
  have F1 := K1.facts
  simp only [World.size_alloc, World.size_drew, factsL, cellsF, Nat.reduceAdd, List.toList_toArray, List.set_cons_zero, List.set_cons_succ, List.setIfInBounds_toArray, and_true, true_and] at F1
  have H0 := hid k0_
  clear HF KN k3_ HX k0_
  have KN := (K1.store 1 rfl 0 (.int .i64 id)).store 1 rfl 1 (.slice A5 n5 c5)
  have r1 := KN.roOut 0 rfl
  go_wp2_with fail
  exact bodyPost_ret (v := .agg #[.int .i64 id, .slice A5 n5 c5]) (by simp [results, Tryz.results55, go_sem, F1]) rfl ⟨A5, n5, c5, rfl, H0.out, k1_, k2_, r1, KN.below⟩
set_option maxHeartbeats 1000000 in
set_option maxRecDepth 100000 in
theorem dsameschema_any (w : World) (nm : ByteArray) (A : Option Addr) (n c : Nat) (cs : List Col) (nm2 : ByteArray) (B : Option Addr) (m d : Nat) (ds : List Col) (hD : ColsIn A n cs w) (hE : ColsIn B m ds w) (hn : n ≤ 4398046511104) :
    Calls Tryz.prog 93 #[.agg #[.string nm, .slice A n c], .agg #[.string nm2, .slice B m d]] w fun e w' => e = .returned (.bool (decide (nm = nm2 ∧ cs = ds))) ∧ Below w.heap.size w w' := by
  have K0 := ((((Hold.start None_ w (fun b hb => hb.elim)).add (Rd.ro hE (Nat.le_refl _) (by simp [Mut, None_]) : Ro w _ (ColsIn B m ds))).add (Rd.ro hD (Nat.le_refl _) (by simp [Mut, None_, Hp.foot]) : Ro w _ (ColsIn A n cs))).alloc_cst #[.string nm, .slice A n c] 28).alloc_cst #[.string nm2, .slice B m d] 28
  rw [World.size_alloc] at K0
  have F0 := K0.facts
  simp only [World.size_alloc, World.size_drew, factsL, cellsF, Nat.reduceAdd, List.toList_toArray, List.set_cons_zero, List.set_cons_succ, List.setIfInBounds_toArray, and_true, true_and] at F0
  clear hD hE
  by_cases hi : nm = nm2
  · have h1 : (nm.toList == nm2.toList) = true := by simp [hi]
    have HI := hid hi; clear hi
    go_enter Tryz.func93, Tryz.ntmps93
    go_wp2_with fail
    refine (eqCols_any _ A n c cs B m d ds (K0.ro 2 rfl).now (K0.ro 3 rfl).now hn).mono ?_
    rintro e w1 ⟨rfl, q, rfl⟩
    have K1 := K0.drewN q
    have HB := hid (show decide (nm = nm2 ∧ cs = ds) = decide (cs = ds) by simp [HI.out])
    go_wp2_with fail
    go_ret
    exact ⟨by rw [HB.out] <;> first | rfl | simp, K1.below⟩
  · have h1 : (nm.toList == nm2.toList) = false := by rw [beq_eq_false_iff_ne]; exact fun h => hi (bytesEq h)
    have HB := hid (show decide (nm = nm2 ∧ cs = ds) = false by simp [hi])
    clear hi
    go_enter Tryz.func93, Tryz.ntmps93
    go_wp2_with fail
    go_ret
    exact ⟨by rw [HB.out] <;> rfl, K0.below⟩
end Go.Proofs.YtljmclbedpceoaaGreatDoor

namespace Go.Proofs.YtljmclbedpceoaaGreatDoor
open Go.RowKit
set_option linter.unusedVariables false
set_option linter.unusedSimpArgs false

set_option maxHeartbeats 4000000 in
set_option maxRecDepth 100000 in
theorem rsameschema_any (w : World) (nm : ByteArray) (A : Option Addr) (n c : Nat) (cs : List Col) (nm2 : ByteArray) (B : Option Addr) (m d : Nat) (ds : List Col) (hD : ColsIn A n cs w) (hE : ColsIn B m ds w) (hn : n ≤ 4398046511104) :
    Calls Tryz.prog 53 #[.agg #[.string nm, .slice A n c], .agg #[.string nm2, .slice B m d]] w fun e w' => e = .returned (.bool (decide (nm = nm2 ∧ cs = ds))) ∧ Below w.heap.size w w' := by
  have HL := hid (show cs.length = n from cols_n hD)
  have HK := hid (show ds.length = m from cols_n hE)
  have K0 := ((((Hold.start None_ w (fun b hb => hb.elim)).add (Rd.ro hE (Nat.le_refl _) (by simp [Mut, None_]) : Ro w _ (ColsIn B m ds))).add (Rd.ro hD (Nat.le_refl _) (by simp [Mut, None_, Hp.foot]) : Ro w _ (ColsIn A n cs))).alloc_cst #[.string nm, .slice A n c] 28).alloc_cst #[.string nm2, .slice B m d] 28
  rw [World.size_alloc] at K0
  have F0 := K0.facts
  simp only [World.size_alloc, World.size_drew, factsL, cellsF, Nat.reduceAdd, List.toList_toArray, List.set_cons_zero, List.set_cons_succ, List.setIfInBounds_toArray, and_true, true_and] at F0
  clear hD hE
  by_cases hi : nm = nm2
  · subst hi
    have h1 : (nm.toList == nm.toList) = true := by simp
    have h1' : (nm.toList != nm.toList) = false := by simp
    by_cases hnm : n = m
    · subst hnm
      have hb : ((n : Int) != (n : Int)) = false := by simp
      go_enter Tryz.func53, Tryz.ntmps53
      go_wp2_with fail
      obtain ⟨g2, hg2⟩ : ∃ g, g = w.heap.size := ⟨_, rfl⟩
      obtain ⟨g3, hg3⟩ : ∃ g, g = g2 + 1 := ⟨_, rfl⟩
      rw [← hg2, ← hg3] at K0 ⊢
      clear F0
      generalize (w.alloc _).alloc _ = w1 at K0 ⊢
      have HG := hid hg2
      clear hg2 hg3
      go_loopw [23] (fun iv wr => ∃ (k : Nat), k ≤ n ∧ iv = .int .i64 k ∧ Hid (cs.take k = ds.take k) ∧ Hold None_ none w wr [.cst g3 28 #[.string nm, .slice B n d], .cst g2 28 #[.string nm, .slice A n c], .ro (ColsIn A n cs), .ro (ColsIn B n ds)]) (fun iv _ => n - (intOf iv).toNat)
      case atStart => exact ⟨0, by omega, rfl, hid (by simp), K0⟩
      case round =>
        clear K0
        obtain ⟨k, hk, rfl, HTK, H⟩ := hrel
        have F := H.facts
        simp only [World.size_alloc, World.size_drew, factsL, cellsF, Nat.reduceAdd, List.toList_toArray, List.set_cons_zero, List.set_cons_succ, List.setIfInBounds_toArray, and_true, true_and] at F
        by_cases hlt : k < n
        · have hd : decide ((k : Int) < (n : Int)) = true := by simp; omega
          have i0 : (0 : Int) ≤ (k : Int) := by omega
          have i1 : (k : Int) < (n : Int) := by omega
          obtain ⟨x, hx⟩ := get_of HL.out hlt
          obtain ⟨y, hy⟩ := get_of HK.out hlt
          obtain ⟨g, o, rfl, hbx, x0, x1, x2, x3⟩ := (RdC.of_sl (H.ro 2 rfl).now).at_ hx
          obtain ⟨g', o', rfl, hby, y0, y1, y2, y3⟩ := (RdC.of_sl (H.ro 3 rfl).now).at_ hy
          have HX := hid hx; have HY := hid hy; clear hx hy
          by_cases h0 : x.name = y.name
          · have e0 : (x.name.toList == y.name.toList) = true := by simp [h0]
            by_cases h1 : x.ty = y.ty
            · have e1 : (x.ty == y.ty) = true := by simp [h1]
              by_cases h2 : x.nn = y.nn
              · have e2 : (x.nn == y.nn) = true := by simp [h2]
                by_cases h3 : x.key = y.key
                · have e3 : (x.key == y.key) = true := by simp [h3]
                  have HXY := hid (show x = y by cases x; cases y; simp_all)
                  clear h0 h1 h2 h3
                  go_wp2_with fail
                  go_quiet (fail)
                  have HZ := H.drewN nq
                  go_wp2_with fail
                  go_roundw
                  case rel => exact ⟨k + 1, by omega, by go_num, hid (takeEq_succ HX.out HY.out HTK.out HXY.out), HZ⟩
                  case measure => simp [intOf]; omega
                · have e3 : (x.key == y.key) = false := by simpa using h3
                  have HN := hid (show decide (nm = nm ∧ cs = ds) = false from by rw [decide_eq_false_iff_not]; rintro ⟨_, h⟩; exact take_ne HX.out HY.out (by intro h; exact h3 (by rw [h])) h)
                  clear h0 h1 h2 h3
                  go_wp2_with fail
                  go_quiet (fail)
                  have HZ := H.drewN nq
                  go_wp2_with fail
                  go_ret
                  exact ⟨by rw [HN.out] <;> rfl, HZ.below⟩
              · have e2 : (x.nn == y.nn) = false := by simpa using h2
                have HN := hid (show decide (nm = nm ∧ cs = ds) = false from by rw [decide_eq_false_iff_not]; rintro ⟨_, h⟩; exact take_ne HX.out HY.out (by intro h; exact h2 (by rw [h])) h)
                clear h0 h1 h2
                go_wp2_with fail
                go_quiet (fail)
                have HZ := H.drewN nq
                go_wp2_with fail
                go_ret
                exact ⟨by rw [HN.out] <;> rfl, HZ.below⟩
            · have e1 : (x.ty == y.ty) = false := by simpa using h1
              have HN := hid (show decide (nm = nm ∧ cs = ds) = false from by rw [decide_eq_false_iff_not]; rintro ⟨_, h⟩; exact take_ne HX.out HY.out (by intro h; exact h1 (by rw [h])) h)
              clear h0 h1
              go_wp2_with fail
              go_quiet (fail)
              have HZ := H.drewN nq
              go_wp2_with fail
              go_ret
              exact ⟨by rw [HN.out] <;> rfl, HZ.below⟩
          · have e0 : (x.name.toList == y.name.toList) = false := by rw [beq_eq_false_iff_ne]; exact fun h => h0 (bytesEq h)
            have HN := hid (show decide (nm = nm ∧ cs = ds) = false from by rw [decide_eq_false_iff_not]; rintro ⟨_, h⟩; exact take_ne HX.out HY.out (by intro h; exact h0 (by rw [h])) h)
            clear h0
            go_wp2_with fail
            go_quiet (fail)
            have HZ := H.drewN nq
            go_wp2_with fail
            go_ret
            exact ⟨by rw [HN.out] <;> rfl, HZ.below⟩
        · obtain rfl : n = k := by omega
          have hd : decide ((n : Int) < (n : Int)) = false := by simp
          have HE := hid (show cs = ds from by
            have h := HTK.out
            rw [List.take_of_length_le (by rw [HL.out]; exact Nat.le_refl _), List.take_of_length_le (by rw [HK.out]; exact Nat.le_refl _)] at h
            simp [h])
          go_wp2_with fail
          go_ret
          exact ⟨congrArg (fun b => Ending.returned (Value.bool b)) (a₁ := true) (by simp [HE.out]), H.below⟩
    · have hb : ((n : Int) != (m : Int)) = true := by simp; omega
      have HB := hid (show ¬ cs = ds from by rintro rfl; have := HL.out; have := HK.out; omega)
      go_enter Tryz.func53, Tryz.ntmps53
      go_wp2_with fail
      go_ret
      exact ⟨congrArg (fun b => Ending.returned (Value.bool b)) (a₁ := false) (by simp [HB.out]), K0.below⟩
  · have h1 : (nm.toList == nm2.toList) = false := by rw [beq_eq_false_iff_ne]; exact fun h => hi (bytesEq h)
    have h1' : (nm.toList != nm2.toList) = true := by rw [bne_iff_ne]; exact fun h => hi (bytesEq h)
    have HB := hid (show decide (nm = nm2 ∧ cs = ds) = false by simp [hi])
    clear hi
    go_enter Tryz.func53, Tryz.ntmps53
    go_wp2_with fail
    go_ret
    exact ⟨by rw [HB.out] <;> rfl, K0.below⟩
end Go.Proofs.YtljmclbedpceoaaGreatDoor

namespace Go.Proofs.YtljmclbedpceoaaGreatDoor
open Go.RowKit
set_option linter.unusedVariables false
set_option linter.unusedSimpArgs false

set_option maxHeartbeats 8000000 in
set_option maxRecDepth 100000 in
theorem rbetw_any (M : Nat → Prop) (w : World) (hM : ∀ b, M b → b < w.heap.size) (va vb : Value) (a b : Tb) (hTa : TbAt w M va a) (hTb : TbAt w M vb b) (hsa : a.nm.size ≤ maxLen) (hca : ∀ x ∈ a.cs, x.name.size ≤ maxLen) (hra : a.rs.length ≤ 4398046511104) (hsb : b.nm.size ≤ maxLen) (hcb : ∀ x ∈ b.cs, x.name.size ≤ maxLen) (hrb : b.rs.length ≤ 4398046511104) :
    Calls Tryz.prog 12 #[va, vb] w fun e w' => BetRet w M (betweenC a b) e w' := by
  obtain ⟨aA, an, ac, aB, am, ad, la, rfl, a1, a2, a3, a4, a5, a6, a7, a8⟩ := hTa
  obtain ⟨bA, bn, bc, bB, bm, bd, lb, rfl, b1, b2, b3, b4, b5, b6, b7, b8⟩ := hTb
  have HAL := hid (show la.length = am from a6.now.len)
  have HBL := hid (show lb.length = bm from b6.now.len)
  have HAR := hid a8
  have HBR := hid b8
  have HAO := hid a7
  have HBO := hid b7
  have HAE := hid a6.now
  have HBE := hid b6.now
  have HAC := hid (show a.cs.length = an from cols_n a5.now)
  have ham : am ≤ 4398046511104 := by have := HAL.out; have h := congrArg List.length a8; rw [List.length_map] at h; omega
  have hbm : bm ≤ 4398046511104 := by have := HBL.out; have h := congrArg List.length b8; rw [List.length_map] at h; omega
  have K0 := (((((((Hold.start M w hM).add (b6.less (by simp [Mut]))).add (b5.less (by simp [Mut, Hp.foot]))).add (a6.less (by simp [Mut, Hp.foot]))).add (a5.less (by simp [Mut, Hp.foot]))).alloc_cst #[.string a.nm, .slice aA an ac, .int .i64 a.nx, .slice aB am ad] 34).alloc_cst #[.string b.nm, .slice bA bn bc, .int .i64 b.nx, .slice bB bm bd] 34).alloc #[.string ⟨#[]⟩, .slice none 0 0, .slice none 0 0, .slice none 0 0] 25
  simp only [World.size_alloc] at K0
  have F0 := K0.facts
  simp only [World.size_alloc, World.size_drew, factsL, cellsF, Nat.reduceAdd, List.toList_toArray, List.set_cons_zero, List.set_cons_succ, List.setIfInBounds_toArray, and_true, true_and] at F0
  clear a5 a6 a7 a8 b5 b6 b7 b8
  go_enter Tryz.func12, Tryz.ntmps12
  go_wp2_with fail
  obtain ⟨g2, hg2⟩ : ∃ g, g = w.heap.size := ⟨_, rfl⟩
  obtain ⟨g3, hg3⟩ : ∃ g, g = g2 + 1 := ⟨_, rfl⟩
  obtain ⟨g4, hg4⟩ : ∃ g, g = g3 + 1 := ⟨_, rfl⟩
  rw [← hg2, ← hg3, ← hg4] at K0 ⊢
  clear F0
  generalize ((w.alloc _).alloc _).alloc _ = w1 at K0 ⊢
  have HGX := hid hg2
  clear hg2 hg3 hg4
  have hv := rtvalid_any _ _ K0.mutLt a.nm aA an ac a.cs a.nx aB am ad la (K0.ro 3 rfl) (K0.ro 4 rfl) (by omega) (by omega) HAO.out hsa hca
  rw [HAR.out] at hv
  refine hv.mono ?_
  clear hv
  rintro e w2 ⟨rfl, b1_⟩
  have K1 := K0.call b1_
  clear K0 b1_
  have F1 := K1.facts
  simp only [World.size_alloc, World.size_drew, factsL, cellsF, Nat.reduceAdd, List.toList_toArray, List.set_cons_zero, List.set_cons_succ, List.setIfInBounds_toArray, and_true, true_and] at F1
  cases hva : tabB a.nm a.cs a.nx a.rs
  · have HN := hid (betC_a (b := b) hva)
    clear hva
    have KN := (((K1.store 0 rfl 0 (.string ⟨#[]⟩)).store 0 rfl 1 (.slice none 0 0)).store 0 rfl 2 (.slice none 0 0)).store 0 rfl 3 (.slice none 0 0)
    go_wp2_with fail
    exact bodyPost_ret (v := .tuple #[.agg #[.string ⟨#[]⟩, .slice none 0 0, .slice none 0 0, .slice none 0 0], .bool false]) (by simp [results, Tryz.results12, go_sem, F1]) rfl ⟨_, by rw [HN.out], by rw [HN.out]; exact dlAt_zero, KN.below⟩
  have HVA := hid hva
  clear hva
  go_wp2_with fail
  have hv := rtvalid_any _ _ K1.mutLt b.nm bA bn bc b.cs b.nx bB bm bd lb (K1.ro 5 rfl) (K1.ro 6 rfl) (by omega) (by omega) HBO.out hsb hcb
  rw [HBR.out] at hv
  refine hv.mono ?_
  clear hv
  rintro e w3 ⟨rfl, b1_⟩
  have K2 := K1.call b1_
  clear K1 b1_ F1
  have F2 := K2.facts
  simp only [World.size_alloc, World.size_drew, factsL, cellsF, Nat.reduceAdd, List.toList_toArray, List.set_cons_zero, List.set_cons_succ, List.setIfInBounds_toArray, and_true, true_and] at F2
  cases hvb : tabB b.nm b.cs b.nx b.rs
  · have HN := hid (betC_b (a := a) hvb)
    clear hvb
    have KN := (((K2.store 0 rfl 0 (.string ⟨#[]⟩)).store 0 rfl 1 (.slice none 0 0)).store 0 rfl 2 (.slice none 0 0)).store 0 rfl 3 (.slice none 0 0)
    go_wp2_with fail
    exact bodyPost_ret (v := .tuple #[.agg #[.string ⟨#[]⟩, .slice none 0 0, .slice none 0 0, .slice none 0 0], .bool false]) (by simp [results, Tryz.results12, go_sem, F2]) rfl ⟨_, by rw [HN.out], by rw [HN.out]; exact dlAt_zero, KN.below⟩
  have HVB := hid hvb
  clear hvb hsa hca hsb hcb
  have han6 : an ≤ 6 := by have := tabB_cols HVA.out; have := HAC.out; omega
  have ham1 : am ≤ 100 := by have := (tabB_rows HVA.out).1; have h := congrArg List.length HAR.out; rw [List.length_map] at h; have := HAL.out; omega
  have hbm1 : bm ≤ 100 := by have := (tabB_rows HVB.out).1; have h := congrArg List.length HBR.out; rw [List.length_map] at h; have := HBL.out; omega
  have HSA := hid (rw_short HAE.out (by rw [HAR.out]; exact HVA.out))
  have HSB := hid (rw_short HBE.out (by rw [HBR.out]; exact HVB.out))
  clear ham hbm hra hrb
  go_wp2_with fail
  refine (rsameschema_any _ a.nm aA an ac a.cs b.nm bA bn bc b.cs (K2.ro 3 rfl).now (K2.ro 5 rfl).now (by omega)).mono ?_
  rintro e w4 ⟨rfl, b1_⟩
  have K3 := K2.call b1_
  clear K2 b1_ F2
  have F3 := K3.facts
  simp only [World.size_alloc, World.size_drew, factsL, cellsF, Nat.reduceAdd, List.toList_toArray, List.set_cons_zero, List.set_cons_succ, List.setIfInBounds_toArray, and_true, true_and] at F3
  cases hss : decide (a.nm = b.nm ∧ a.cs = b.cs)
  · have HN := hid (betC_s hss)
    clear hss
    have KN := (((K3.store 0 rfl 0 (.string ⟨#[]⟩)).store 0 rfl 1 (.slice none 0 0)).store 0 rfl 2 (.slice none 0 0)).store 0 rfl 3 (.slice none 0 0)
    go_wp2_with fail
    exact bodyPost_ret (v := .tuple #[.agg #[.string ⟨#[]⟩, .slice none 0 0, .slice none 0 0, .slice none 0 0], .bool false]) (by simp [results, Tryz.results12, go_sem, F3]) rfl ⟨_, by rw [HN.out], by rw [HN.out]; exact dlAt_zero, KN.below⟩
  have HEQ := hid (of_decide_eq_true hss)
  clear hss
  by_cases hnx : b.nx < a.nx
  · have hd : decide (b.nx < a.nx) = true := by simpa using hnx
    have HN := hid (betC_n hnx)
    clear hnx
    have KN := (((K3.store 0 rfl 0 (.string ⟨#[]⟩)).store 0 rfl 1 (.slice none 0 0)).store 0 rfl 2 (.slice none 0 0)).store 0 rfl 3 (.slice none 0 0)
    go_wp2_with fail
    exact bodyPost_ret (v := .tuple #[.agg #[.string ⟨#[]⟩, .slice none 0 0, .slice none 0 0, .slice none 0 0], .bool false]) (by simp [results, Tryz.results12, go_sem, F3]) rfl ⟨_, by rw [HN.out], by rw [HN.out]; exact dlAt_zero, KN.below⟩
  have hd : decide (b.nx < a.nx) = false := by simpa using hnx
  have HST := hid (RSt.zero HVA.out HVB.out HEQ.out (show a.nx ≤ b.nx by omega))
  clear hnx
  have K4 := K3.alloc #[.string a.nm, .slice none 0 0, .slice none 0 0, .slice none 0 0] 25
  go_wp2_with fail
  obtain ⟨g6, hg6⟩ : ∃ g, g = w4.heap.size := ⟨_, rfl⟩
  rw [← hg6] at K4 ⊢
  have HG6 := hid hg6
  clear hg6 hd F3 K3
  generalize World.alloc w4 _ = w5 at K4 ⊢
  have K6 := ((((((K4.add (show Ro _ _ (PrVals []) from fun _ _ _ r hr => nomatch hr)).add (ro_vals_nil _ _)).add (ro_vals_nil _ _)).nil 106 3).nil 89 2).nil 89 2)
  clear K4
  go_loopw [46] (fun iv wr => ∃ (j ni ci nu cu : Nat) (I U : Option Addr) (li : List Rw) (lu : List Pr), j ≤ bm ∧ iv = .int .i64 j ∧ ni ≤ j ∧ nu ≤ j ∧ Hid (RSt a b j 0 li [] lu) ∧ Hold M none w wr [.own 89 2 (.slice I ni ci) ni (rwCells li), .own 89 2 (.slice none 0 0) 0 (rwCells []), .own 106 3 (.slice U nu cu) nu (prCells lu), .ro (ValsIn li), .ro (ValsIn []), .ro (PrVals lu), .blk g6 25 #[.string a.nm, .slice I ni ci, .slice none 0 0, .slice U nu cu], .blk g4 25 #[.string ⟨#[]⟩, .slice none 0 0, .slice none 0 0, .slice none 0 0], .cst g3 34 #[.string b.nm, .slice bA bn bc, .int .i64 b.nx, .slice bB bm bd], .cst g2 34 #[.string a.nm, .slice aA an ac, .int .i64 a.nx, .slice aB am ad], .ro (ColsIn aA an a.cs), .ro (RwsIn aB am la), .ro (ColsIn bA bn b.cs), .ro (RwsIn bB bm lb)]) (fun iv _ => bm - (intOf iv).toNat)
  case atStart => exact ⟨0, 0, 0, 0, 0, none, none, [], [], by omega, rfl, by omega, by omega, HST, K6⟩
  case round =>
    clear K6 HST
    obtain ⟨j, ni, ci, nu, cu, I, U, li, lu, hj, rfl, hni, hnu, HBS, H⟩ := hrel
    by_cases hlt : j < bm
    · have hd : decide ((j : Int) < (bm : Int)) = true := by simp; omega
      have j0 : (0 : Int) ≤ (j : Int) := by omega
      have j1 : (j : Int) < (bm : Int) := by omega
      obtain ⟨r, hr⟩ := get_of HBL.out hlt
      obtain ⟨bb, bo, rfl, hbb, c0, c1, _⟩ := (H.ro 13 rfl).now.at_ hr
      have HRR := hid (show b.rs[j]? = some r.row by rw [← HBR.out, List.getElem?_map, hr]; rfl)
      have HRO := hid (HBO.out r (List.mem_of_getElem? hr))
      have hrn6 := HSB.out r (List.mem_of_getElem? hr)
      have hxr : Ro wr _ (VlsIn r.A r.n r.vs) := (H.ro 13 rfl).imp fun w2 h2 => h2.2 r (List.mem_of_getElem? hr)
      obtain ⟨rid, rA, rn, rc, rvs⟩ := r
      dsimp only at *
      clear hr
      have K1 := (H.add hxr).alloc_cst #[.int .i64 rid, .slice rA rn rc] 89
      clear H hxr
      obtain ⟨g8, hg8⟩ : ∃ g, g = wr.heap.size := ⟨_, rfl⟩
      rw [← hg8] at K1
      have F1 := K1.facts
      simp only [World.size_alloc, World.size_drew, factsL, cellsF, Nat.reduceAdd, List.toList_toArray, List.set_cons_zero, List.set_cons_succ, List.setIfInBounds_toArray, and_true, true_and] at F1
      go_wp2_with fail
      rw [← hg8]
      have HG8 := hid hg8
      clear hg8 c0 c1
      have hg := rtget_any _ _ K1.mutLt (.string a.nm) (.slice aA an ac) (.int .i64 a.nx) aB am ad la rid (K1.ro 13 rfl) (by omega) (fun r hr => by have := HSA.out r hr; omega)
      rw [HAR.out] at hg
      refine hg.mono ?_
      clear hg
      rintro e w6 ⟨Ag, ng, cg, rfl, hng, hgc1, hgc2, rg, bg⟩
      have K2 := K1.call bg
      clear K1 bg F1
      have F2 := K2.facts
      simp only [World.size_alloc, World.size_drew, factsL, cellsF, Nat.reduceAdd, List.toList_toArray, List.set_cons_zero, List.set_cons_succ, List.setIfInBounds_toArray, and_true, true_and] at F2
      cases hgt : getR a.rs rid with
      | none =>
        have HGG := hid hgt
        simp only [Option.isSome_none]
        clear rg hng hgc1 hgc2 hgt
        by_cases hrn : rid < a.nx
        · have hd3 : decide (rid < a.nx) = true := by simpa using hrn
          have HN := hid (HBS.out.bad HRR.out HGG.out hrn)
          clear hrn
          have KN := (((K2.store 9 rfl 0 (.string ⟨#[]⟩)).store 9 rfl 1 (.slice none 0 0)).store 9 rfl 2 (.slice none 0 0)).store 9 rfl 3 (.slice none 0 0)
          go_wp2_with fail
          exact bodyPost_ret (v := .tuple #[.agg #[.string ⟨#[]⟩, .slice none 0 0, .slice none 0 0, .slice none 0 0], .bool false]) (by simp [results, Tryz.results12, go_sem, F2]) rfl ⟨_, by rw [HN.out], by rw [HN.out]; exact dlAt_zero, KN.below⟩
        · have hd3 : decide (rid < a.nx) = false := by simpa using hrn
          have HRN := hid (show a.nx ≤ rid by omega)
          clear hrn
          obtain ⟨KL, hKL, KN⟩ := K2.name
          have HF : Hid (∀ wv, Hold M none w wv KL → (wv.cell? ⟨g6, 1, none⟩ = some (.slice I ni ci) ∧ g6 < wv.heap.size) ∧ wv.cell? ⟨g8, 0, none⟩ = some (.int .i64 rid) ∧ wv.cell? ⟨g8, 1, none⟩ = some (.slice rA rn rc) ∧ g8 < wv.heap.size) := hid fun wv HC => by
            rw [hKL] at HC
            have y1 := HC.blk_ 8 rfl
            have y2 := HC.cst_ 0 rfl
            exact ⟨⟨cell_of_row _ _ 1 _ _ _ y1, Blk.lt y1⟩, cell_of_row _ _ 0 _ _ _ y2, cell_of_row _ _ 1 _ _ _ y2, Blk.lt y2⟩
          have HRX : Hid (∀ wv, Hold M none w wv KL → Ro wv (Mut M KL) (VlsIn rA rn rvs)) := hid fun wv HC => by
            rw [hKL] at HC ⊢
            exact HC.ro 1 rfl
          have HKL := hid hKL
          clear hKL K2
          go_wp2_with fail
          refine wp_region_any (by kernel_rfl) ?_
          refine wpAny_hold 5 119 (KL) (spL [(72, RowSlot (Mut M KL) rid rvs), (73, RBoxSlot (Mut M KL) rid rvs)]) (by kernel_rfl) (by kernel_rfl) (by kernel_rfl) rfl ?_ (KN.drew) ?_
          · exact stays_cons rowSlot_mono (stays_cons rboxSlot_mono (stays_nil _))
          simp only [List.take_succ_cons, List.take_zero, List.drop_succ_cons, List.drop_zero, Act.put, List.getElem_toArray, List.getElem_cons_zero, List.getElem_cons_succ, List.setIfInBounds_toArray, List.set_cons_succ, List.set_cons_zero]
          refine dw_val rfl rfl rfl ?_; apply Exists.intro; refine ⟨fun wv HC => ?_, ?_⟩
          ·  go_simp <;> rfl
          simp only [Act.put, List.setIfInBounds_toArray, List.set_cons_succ, List.set_cons_zero]
          refine dw_val rfl rfl rfl ?_; apply Exists.intro; refine ⟨fun wv HC => ?_, ?_⟩
          · obtain ⟨⟨f0, f1⟩, f2, f3, f4⟩ := HF.out _ HC; go_simp <;> rfl
          simp only [Act.put, List.setIfInBounds_toArray, List.set_cons_succ, List.set_cons_zero]
          refine dw_val rfl rfl rfl ?_; apply Exists.intro; refine ⟨fun wv HC => ?_, ?_⟩
          · obtain ⟨⟨f0, f1⟩, f2, f3, f4⟩ := HF.out _ HC; go_simp <;> rfl
          simp only [Act.put, List.setIfInBounds_toArray, List.set_cons_succ, List.set_cons_zero]
          refine dw_callR 72 (RowSlot (Mut M KL) rid rvs) (f := 55) (args := #[.agg #[.int .i64 rid, .slice rA rn rc]]) rfl rfl rfl rfl (fun wv => ?_) (fun wv HC hrm hD => ?_) ?_
          · go_simp <;> rfl
          · refine (rcopyrow_any _ wv HC.mutLt rid rA rn rc rvs (HRX.out _ HC) (by omega)).mono ?_
            rintro e w5 ⟨A5, n5, c5, rfl, h50, h51, h52, h53, b5⟩
            exact ⟨_, rfl, ⟨A5, n5, c5, rfl, h50, h51, h52, h53⟩, HC.call b5, RM.below b5⟩
          rintro x_ wx HCx ⟨A5, n5, c5, rfl, -, -, -, -⟩
          clear HCx
          simp only [Act.put, List.setIfInBounds_toArray, List.set_cons_succ, List.set_cons_zero]
          refine dw_new #[.int .i64 rid, .slice A5 n5 c5] 89 73 (RBoxSlot (Mut M KL) rid rvs) (fun g => .slice (some ⟨g, 0, none⟩) 1 1) rfl rfl rfl rfl (fun wv => ?_) (fun wv HC _hrm hD hro => ?_) ?_
          · go_simp <;> rfl
          · have hsl : RowSlot (Mut M KL) rid rvs (.agg #[.int .i64 rid, .slice A5 n5 c5]) wv := deps_at hD 3 rfl (by kernel_rfl) rfl rfl
            obtain ⟨A6, n6, c6, e6, h1, h2, h3, h4⟩ := hsl
            obtain ⟨rfl, rfl, rfl⟩ : A5 = A6 ∧ n5 = n6 ∧ c5 = c6 := by
              injection e6 with e6
              simp at e6
              exact e6
            exact ⟨_, A5, n5, c5, rfl, h1, h2, h3, h4.step (by simp) (fun b hb _ => Below.heap_alloc wv _ b hb) (fun _ _ h => h), ro_block (hro _ HC.mutLt) rfl⟩
          rintro gn wg HCg hsl
          simp only [Act.put, List.setIfInBounds_toArray, List.set_cons_succ, List.set_cons_zero]
          clear hsl HCg
          refine rel_nil ?_
          rintro wx2 HX
          rintro _hrm HGW
          have hb2 : RBoxSlot (Mut M KL) rid rvs (.slice (some ⟨gn, 0, none⟩) 1 1) wx2 := (GW_on (d := 73) rfl).1 (HGW 4 _ rfl (by omega))
          clear HGW _hrm
          obtain ⟨gq, A6, n6, c6, e6, k0_, k1_, k2_, k3_, k4_⟩ := hb2
          obtain rfl : gn = gq := by injection e6 with e6; injection e6 with e6; injection e6
          clear e6
          rw [HKL.out] at HX k3_
          have k5 := hid k4_.now
          have HK0 := hid (And.intro k0_ (And.intro k1_ k2_))
          clear k4_ k0_ k1_ k2_ HF HRX KN
          have HRS := hid (show rwCells li ++ [.int .i64 rid, .slice A6 n6 c6] = rwCells (li ++ [⟨rid, A6, n6, c6, rvs⟩]) from rwCells_snoc1 _ _ _ _ _ _)
          have KA := HX.add k3_
          clear HX k3_
          have FKA := KA.facts
          simp only [World.size_alloc, World.size_drew, factsL, cellsF, Nat.reduceAdd, List.toList_toArray, List.set_cons_zero, List.set_cons_succ, List.setIfInBounds_toArray, and_true, true_and] at FKA
          go_wp2_with (at_builtin; go_must (refine wpList_appAllH KA 3 rfl Tryz.elRw k5.out rfl (.tmp 70) (.tmp 73) rfl rfl rfl (by intro z hz; simp at hz; rcases hz with rfl | rfl <;> rfl) (by omega) (by omega) ?_); intro C' cap' w6 hc6 hm6 KB; rw [HRS.out] at KB; simp only [List.set_cons_zero, List.set_cons_succ] at KB; (have F3 := KB.facts); simp only [World.size_alloc, World.size_drew, factsL, cellsF, Nat.reduceAdd, List.toList_toArray, List.set_cons_zero, List.set_cons_succ, List.setIfInBounds_toArray, and_true, true_and] at F3)
          have KD := KB.store 9 rfl 1 (.slice C' (ni + 1) cap')
          have KE := (KD.swapRo 6 rfl (vals_snoc (r := ⟨rid, A6, n6, c6, rvs⟩) (KD.ro 6 rfl) (KD.ro 0 rfl))).drop (List.sublist_cons_self _ _)
          clear KB KD FKA k5
          have HBN := hid (HBS.out.ins_ HRR.out HGG.out HRN.out (y := ⟨rid, A6, n6, c6, rvs⟩) rfl ⟨HRO.out.id, HK0.out.2.1, HK0.out.2.2, HRO.out.vs⟩)
          have KZ := KE.drop (List.Sublist.cons _ (List.sublist_cons_self _ _))
          go_roundw
          case rel => exact ⟨j + 1, ni + 1, cap', nu, cu, C', U, _, lu, by omega, by first | rfl | go_num, by omega, by omega, HBN, KZ⟩
          case measure => simp [intOf]; omega
      | some o =>
        rw [hgt] at rg hng
        simp only [Option.getD_some] at rg hng
        have HGG := hid hgt
        have HGC := hid (And.intro hng (And.intro hgc1 hgc2))
        have HGO := hid (show ∀ v ∈ o, v.ok from fun v hv => by
          have h1 := getR_out hgt
          rw [← HAR.out] at h1
          obtain ⟨z, hz, hzr⟩ := List.mem_map.1 h1
          have h2 : z.vs = o := congrArg Prod.snd hzr
          exact (HAO.out z hz).vs v (by rw [h2]; exact hv))
        simp only [Option.isSome_some]
        have hng6 : ng ≤ 9223372036854775807 := by omega
        clear hgt hng hgc1 hgc2
        have K3 := K2.add rg
        clear K2 rg F2
        have F3 := K3.facts
        simp only [World.size_alloc, World.size_drew, factsL, cellsF, Nat.reduceAdd, List.toList_toArray, List.set_cons_zero, List.set_cons_succ, List.setIfInBounds_toArray, and_true, true_and] at F3
        go_wp2_with fail
        refine (rcmprows_any _ _ K3.mutLt Ag ng cg o rA rn rc rvs (K3.ro 0 rfl) (K3.ro 2 rfl) (by omega) (by omega)).mono ?_
        rintro e w7 ⟨⟨r0, rfl, hr0⟩, b7⟩
        have K6 := K3.call b7
        clear K3 b7 F3
        have F6 := K6.facts
        simp only [World.size_alloc, World.size_drew, factsL, cellsF, Nat.reduceAdd, List.toList_toArray, List.set_cons_zero, List.set_cons_succ, List.setIfInBounds_toArray, and_true, true_and] at F6
        by_cases hov : o = rvs
        · obtain rfl : r0 = 0 := hr0.2 hov
          have HBN := hid (HBS.out.same HRR.out HGG.out hov)
          clear hr0 hov
          have KZ := K6.drop (List.Sublist.cons _ (List.Sublist.cons _ (List.sublist_cons_self _ _)))
          go_wp2_with fail
          go_roundw
          case rel => exact ⟨j + 1, ni, ci, nu, cu, I, U, li, lu, by omega, by first | rfl | go_num, by omega, by omega, HBN, KZ⟩
          case measure => simp [intOf]; omega
        · have hrz : (r0 != 0) = true := by simpa using fun h => hov (hr0.1 h)
          have HNE := hid hov
          clear hr0 hov
          obtain ⟨KL, hKL, KN⟩ := K6.name
          have HF : Hid (∀ wv, Hold M none w wv KL → (wv.cell? ⟨g6, 3, none⟩ = some (.slice U nu cu) ∧ g6 < wv.heap.size) ∧ wv.cell? ⟨g8, 0, none⟩ = some (.int .i64 rid) ∧ wv.cell? ⟨g8, 1, none⟩ = some (.slice rA rn rc) ∧ g8 < wv.heap.size) := hid fun wv HC => by
            rw [hKL] at HC
            have y1 := HC.blk_ 9 rfl
            have y2 := HC.cst_ 1 rfl
            exact ⟨⟨cell_of_row _ _ 3 _ _ _ y1, Blk.lt y1⟩, cell_of_row _ _ 0 _ _ _ y2, cell_of_row _ _ 1 _ _ _ y2, Blk.lt y2⟩
          have HRX : Hid (∀ wv, Hold M none w wv KL → Ro wv (Mut M KL) (VlsIn Ag ng o) ∧ Ro wv (Mut M KL) (VlsIn rA rn rvs)) := hid fun wv HC => by
            rw [hKL] at HC ⊢
            exact ⟨HC.ro 0 rfl, HC.ro 2 rfl⟩
          have HKL := hid hKL
          clear hKL K6
          go_wp2_with fail
          refine wp_region_any (by kernel_rfl) ?_
          refine wpAny_hold 10 119 (KL) (spL [(88, VlsSlot (Mut M KL) rvs), (89, PrSlot (Mut M KL) (rid, o, rvs)), (90, PrsSlot (Mut M KL) [(rid, o, rvs)])]) (by kernel_rfl) (by kernel_rfl) (by kernel_rfl) rfl ?_ (KN.drew) ?_
          · exact stays_cons vlsSlot_mono (stays_cons prSlot_mono (stays_cons prsSlot_mono (stays_nil _)))
          simp only [List.take_succ_cons, List.take_zero, List.drop_succ_cons, List.drop_zero, Act.put, List.getElem_toArray, List.getElem_cons_zero, List.getElem_cons_succ, List.setIfInBounds_toArray, List.set_cons_succ, List.set_cons_zero]
          refine dw_val rfl rfl rfl ?_; apply Exists.intro; refine ⟨fun wv HC => ?_, ?_⟩
          ·  go_simp <;> rfl
          simp only [Act.put, List.setIfInBounds_toArray, List.set_cons_succ, List.set_cons_zero]
          refine dw_val rfl rfl rfl ?_; apply Exists.intro; refine ⟨fun wv HC => ?_, ?_⟩
          · obtain ⟨⟨f0, f1⟩, f2, f3, f4⟩ := HF.out _ HC; go_simp <;> rfl
          simp only [Act.put, List.setIfInBounds_toArray, List.set_cons_succ, List.set_cons_zero]
          refine dw_val rfl rfl rfl ?_; apply Exists.intro; refine ⟨fun wv HC => ?_, ?_⟩
          ·  go_simp <;> rfl
          simp only [Act.put, List.setIfInBounds_toArray, List.set_cons_succ, List.set_cons_zero]
          refine dw_val rfl rfl rfl ?_; apply Exists.intro; refine ⟨fun wv HC => ?_, ?_⟩
          · obtain ⟨⟨f0, f1⟩, f2, f3, f4⟩ := HF.out _ HC; go_simp <;> rfl
          simp only [Act.put, List.setIfInBounds_toArray, List.set_cons_succ, List.set_cons_zero]
          refine dw_val rfl rfl rfl ?_; apply Exists.intro; refine ⟨fun wv HC => ?_, ?_⟩
          ·  go_simp <;> rfl
          simp only [Act.put, List.setIfInBounds_toArray, List.set_cons_succ, List.set_cons_zero]
          refine dw_val rfl rfl rfl ?_; apply Exists.intro; refine ⟨fun wv HC => ?_, ?_⟩
          ·  go_simp <;> rfl
          simp only [Act.put, List.setIfInBounds_toArray, List.set_cons_succ, List.set_cons_zero]
          refine dw_val rfl rfl rfl ?_; apply Exists.intro; refine ⟨fun wv HC => ?_, ?_⟩
          · obtain ⟨⟨f0, f1⟩, f2, f3, f4⟩ := HF.out _ HC; go_simp <;> rfl
          simp only [Act.put, List.setIfInBounds_toArray, List.set_cons_succ, List.set_cons_zero]
          refine dw_callR 88 (VlsSlot (Mut M KL) rvs) (f := 57) (args := #[.slice rA rn rc]) rfl rfl rfl rfl (fun wv => ?_) (fun wv HC hrm hD => ?_) ?_
          · go_simp <;> rfl
          · refine (copyVls_any _ wv HC.mutLt rA rn rc rvs (HRX.out _ HC).2 (by omega)).mono ?_
            rintro e w5 ⟨A5, n5, c5, rfl, h50, h51, h52, h53, b5⟩
            exact ⟨_, rfl, ⟨A5, n5, c5, rfl, h50, h51, h52, h53⟩, HC.call b5, RM.below b5⟩
          rintro x_ wx HCx ⟨A94, n94, c94, rfl, -, -, -, -⟩
          clear HCx
          simp only [Act.put, List.setIfInBounds_toArray, List.set_cons_succ, List.set_cons_zero]
          refine dw_valC 89 (PrSlot (Mut M KL) (rid, o, rvs)) rfl rfl rfl rfl (.agg #[.int .i64 rid, .slice Ag ng cg, .slice A94 n94 c94]) (fun wv HC => ?_) (fun wv HC hD => ?_) ?_
          · go_simp <;> rfl
          · have hb : VlsSlot (Mut M KL) rvs (.slice A94 n94 c94) wv := deps_at hD 7 rfl (by kernel_rfl) rfl rfl
            exact prSlot_of HRO.out.id HGO.out HRO.out.vs ⟨Ag, ng, cg, rfl, HGC.out.1, HGC.out.2.1, HGC.out.2.2, (HRX.out _ HC).1⟩ hb
          simp only [Act.put, List.setIfInBounds_toArray, List.set_cons_succ, List.set_cons_zero]
          refine dw_new #[.int .i64 rid, .slice Ag ng cg, .slice A94 n94 c94] 106 90 (PrsSlot (Mut M KL) [(rid, o, rvs)]) (fun g => .slice (some ⟨g, 0, none⟩) 1 1) rfl rfl rfl rfl (fun wv => ?_) (fun wv HC _hrm hD hro => ?_) ?_
          · go_simp <;> rfl
          · have hrr := RM.alloc (Mut M KL) wv (.cells #[.int .i64 rid, .slice Ag ng cg, .slice A94 n94 c94] 106)
            have h0 : PrSlot (Mut M KL) (rid, o, rvs) (.agg #[.int .i64 rid, .slice Ag ng cg, .slice A94 n94 c94]) wv := deps_at hD 8 rfl (by kernel_rfl) rfl rfl
            replace h0 := prSlot_mono _ _ _ hrr h0
            exact prsSlot_one (hro _ HC.mutLt) (fun i j k e1 => Value.agg.inj e1) h0
          rintro g96 wg HCg hsl
          simp only [Act.put, List.setIfInBounds_toArray, List.set_cons_succ, List.set_cons_zero]
          clear hsl HCg
          refine rel_nil ?_
          rintro wx5 HX5
          rintro _hrm HGW
          have hb2 : PrsSlot (Mut M KL) [(rid, o, rvs)] (.slice (some ⟨g96, 0, none⟩) 1 1) wx5 := (GW_on (d := 90) rfl).1 (HGW 9 _ rfl (by omega))
          clear HGW _hrm
          obtain ⟨Aq, nq, cq, pq, heq, -, -, hpm, hpok, hpr⟩ := hb2
          obtain ⟨rfl, rfl, rfl⟩ : some ⟨g96, 0, none⟩ = Aq ∧ 1 = nq ∧ 1 = cq := by injection heq with h1 h2 h3; exact ⟨h1, h2, h3⟩
          clear heq
          obtain ⟨pr, rfl, hpu⟩ : ∃ pr, pq = [pr] ∧ pr.upd = (rid, o, rvs) := by
            obtain ⟨pr, h1, h2⟩ := List.map_eq_singleton_iff.1 hpm
            exact ⟨pr, h1, h2⟩
          rw [HKL.out] at HX5 hpr
          have HPE := hid (show prCells lu ++ prCells [pr] = prCells (lu ++ [pr]) by simp [prCells])
          have KA := HX5.add (hpr.imp fun w h => (h.2 : PrVals [pr] w))
          have k5 := hid ((hpr.imp fun w h => h.1).now)
          have HBN := hid (HBS.out.turn HRR.out HGG.out HNE.out hpu (hpok pr (List.mem_singleton.2 rfl)))
          clear HX5 hpr hpm hpok hpu HF HRX KN
          have FKA := KA.facts
          simp only [World.size_alloc, World.size_drew, factsL, cellsF, Nat.reduceAdd, List.toList_toArray, List.set_cons_zero, List.set_cons_succ, List.setIfInBounds_toArray, and_true, true_and] at FKA
          go_wp2_with (at_builtin; go_must (refine wpList_appAllH KA 6 rfl Tryz.elPr k5.out rfl (.tmp 82) (.tmp 90) rfl rfl rfl (prCells_one _) (by omega) (by omega) ?_); intro C' cap' w6 hc6 hm6 KB; rw [HPE.out] at KB; simp only [List.set_cons_zero, List.set_cons_succ] at KB; (have FB := KB.facts); simp only [World.size_alloc, World.size_drew, factsL, cellsF, Nat.reduceAdd, List.toList_toArray, List.set_cons_zero, List.set_cons_succ, List.setIfInBounds_toArray, and_true, true_and] at FB)
          have KD := KB.store 10 rfl 3 (.slice C' (nu + 1) cap')
          have KZ := (KD.swapRo 9 rfl (prVals_app (KD.ro 9 rfl) (KD.ro 0 rfl))).drop (List.Sublist.cons _ (List.Sublist.cons _ (List.Sublist.cons _ (List.sublist_cons_self _ _))))
          clear KB KD FKA k5
          go_roundw
          case rel => exact ⟨j + 1, ni, ci, nu + 1, cap', I, C', li, _, by omega, by first | rfl | go_num, by omega, by omega, HBN, KZ⟩
          case measure => simp [intOf]; omega
    · obtain rfl : j = bm := by omega
      have hd : decide ((j : Int) < (j : Int)) = false := by simp
      have HBJ := hid (show b.rs.length ≤ j by rw [← HBR.out, List.length_map, HBL.out]; exact Nat.le_refl _)
      clear hlt
      have F1 := H.facts
      simp only [World.size_alloc, World.size_drew, factsL, cellsF, Nat.reduceAdd, List.toList_toArray, List.set_cons_zero, List.set_cons_succ, List.setIfInBounds_toArray, and_true, true_and] at F1
      go_wp2_with fail
      clear F1
      go_loopw [97] (fun iv wr => ∃ (k nd cd : Nat) (D : Option Addr) (ld : List Rw), k ≤ am ∧ iv = .int .i64 k ∧ nd ≤ k ∧ Hid (RSt a b j k li ld lu) ∧ Hold M none w wr [.own 89 2 (.slice I ni ci) ni (rwCells li), .own 89 2 (.slice D nd cd) nd (rwCells ld), .own 106 3 (.slice U nu cu) nu (prCells lu), .ro (ValsIn li), .ro (ValsIn ld), .ro (PrVals lu), .blk g6 25 #[.string a.nm, .slice I ni ci, .slice D nd cd, .slice U nu cu], .blk g4 25 #[.string ⟨#[]⟩, .slice none 0 0, .slice none 0 0, .slice none 0 0], .cst g3 34 #[.string b.nm, .slice bA bn bc, .int .i64 b.nx, .slice bB j bd], .cst g2 34 #[.string a.nm, .slice aA an ac, .int .i64 a.nx, .slice aB am ad], .ro (ColsIn aA an a.cs), .ro (RwsIn aB am la), .ro (ColsIn bA bn b.cs), .ro (RwsIn bB j lb)]) (fun iv _ => am - (intOf iv).toNat)
      case atStart => exact ⟨0, 0, 0, none, [], by omega, rfl, by omega, HBS, H⟩
      case round =>
        clear H HBS
        obtain ⟨k, nd, cd, D, ld, hk, rfl, hnd, HBS, H⟩ := hrel
        by_cases hlt : k < am
        · have hd5 : decide ((k : Int) < (am : Int)) = true := by simp; omega
          have k0 : (0 : Int) ≤ (k : Int) := by omega
          have k1 : (k : Int) < (am : Int) := by omega
          obtain ⟨x, hx⟩ := get_of HAL.out hlt
          have HXX := hid (show a.rs[k]? = some x.row by rw [← HAR.out, List.getElem?_map, hx]; rfl)
          have HXO := hid (HAO.out x (List.mem_of_getElem? hx))
          have hxn6 := HSA.out x (List.mem_of_getElem? hx)
          obtain ⟨bx, ox, rfl, hbx', x0, x1, _⟩ := (H.ro 11 rfl).now.at_ hx
          have hxx : Ro wr _ (VlsIn x.A x.n x.vs) := (H.ro 11 rfl).imp fun w2 h2 => h2.2 x (List.mem_of_getElem? hx)
          clear hx
          obtain ⟨xid, xA, xn, xc, xvs⟩ := x
          dsimp only at *
          have K1 := (H.add hxx).alloc_cst #[.int .i64 xid, .slice xA xn xc] 89
          clear H hxx
          obtain ⟨gx, hgx⟩ : ∃ g, g = wr.heap.size := ⟨_, rfl⟩
          rw [← hgx] at K1
          have F1 := K1.facts
          simp only [World.size_alloc, World.size_drew, factsL, cellsF, Nat.reduceAdd, List.toList_toArray, List.set_cons_zero, List.set_cons_succ, List.setIfInBounds_toArray, and_true, true_and] at F1
          go_wp2_with fail
          rw [← hgx]
          have HGX2 := hid hgx
          clear hgx x0 x1
          have hg := rtget_any _ _ K1.mutLt (.string b.nm) (.slice bA bn bc) (.int .i64 b.nx) bB j bd lb xid (K1.ro 15 rfl) (by omega) (fun r hr => by have := HSB.out r hr; omega)
          rw [HBR.out] at hg
          refine hg.mono ?_
          clear hg
          rintro e w6 ⟨Ag, ng, cg, rfl, -, -, -, -, bg⟩
          have K2 := K1.call bg
          clear K1 bg F1
          have F2 := K2.facts
          simp only [World.size_alloc, World.size_drew, factsL, cellsF, Nat.reduceAdd, List.toList_toArray, List.set_cons_zero, List.set_cons_succ, List.setIfInBounds_toArray, and_true, true_and] at F2
          cases hgt : getR b.rs xid with
          | none =>
            have HGG := hid hgt
            simp only [Option.isSome_none]
            clear hgt
            obtain ⟨KL, hKL, KN⟩ := K2.name
            have HF : Hid (∀ wv, Hold M none w wv KL → (wv.cell? ⟨g6, 2, none⟩ = some (.slice D nd cd) ∧ g6 < wv.heap.size) ∧ wv.cell? ⟨gx, 0, none⟩ = some (.int .i64 xid) ∧ wv.cell? ⟨gx, 1, none⟩ = some (.slice xA xn xc) ∧ gx < wv.heap.size) := hid fun wv HC => by
              rw [hKL] at HC
              have y1 := HC.blk_ 8 rfl
              have y2 := HC.cst_ 0 rfl
              exact ⟨⟨cell_of_row _ _ 2 _ _ _ y1, Blk.lt y1⟩, cell_of_row _ _ 0 _ _ _ y2, cell_of_row _ _ 1 _ _ _ y2, Blk.lt y2⟩
            have HRX : Hid (∀ wv, Hold M none w wv KL → Ro wv (Mut M KL) (VlsIn xA xn xvs)) := hid fun wv HC => by
              rw [hKL] at HC ⊢
              exact HC.ro 1 rfl
            have HKL := hid hKL
            clear hKL K2
            go_wp2_with fail
            refine wp_region_any (by kernel_rfl) ?_
            refine wpAny_hold 5 119 (KL) (spL [(113, RowSlot (Mut M KL) xid xvs), (114, RBoxSlot (Mut M KL) xid xvs)]) (by kernel_rfl) (by kernel_rfl) (by kernel_rfl) rfl ?_ (KN.drew) ?_
            · exact stays_cons rowSlot_mono (stays_cons rboxSlot_mono (stays_nil _))
            simp only [List.take_succ_cons, List.take_zero, List.drop_succ_cons, List.drop_zero, Act.put, List.getElem_toArray, List.getElem_cons_zero, List.getElem_cons_succ, List.setIfInBounds_toArray, List.set_cons_succ, List.set_cons_zero]
            refine dw_val rfl rfl rfl ?_; apply Exists.intro; refine ⟨fun wv HC => ?_, ?_⟩
            ·  go_simp <;> rfl
            simp only [Act.put, List.setIfInBounds_toArray, List.set_cons_succ, List.set_cons_zero]
            refine dw_val rfl rfl rfl ?_; apply Exists.intro; refine ⟨fun wv HC => ?_, ?_⟩
            · obtain ⟨⟨f0, f1⟩, f2, f3, f4⟩ := HF.out _ HC; go_simp <;> rfl
            simp only [Act.put, List.setIfInBounds_toArray, List.set_cons_succ, List.set_cons_zero]
            refine dw_val rfl rfl rfl ?_; apply Exists.intro; refine ⟨fun wv HC => ?_, ?_⟩
            · obtain ⟨⟨f0, f1⟩, f2, f3, f4⟩ := HF.out _ HC; go_simp <;> rfl
            simp only [Act.put, List.setIfInBounds_toArray, List.set_cons_succ, List.set_cons_zero]
            refine dw_callR 113 (RowSlot (Mut M KL) xid xvs) (f := 55) (args := #[.agg #[.int .i64 xid, .slice xA xn xc]]) rfl rfl rfl rfl (fun wv => ?_) (fun wv HC hrm hD => ?_) ?_
            · go_simp <;> rfl
            · refine (rcopyrow_any _ wv HC.mutLt xid xA xn xc xvs (HRX.out _ HC) (by omega)).mono ?_
              rintro e w5 ⟨A5, n5, c5, rfl, h50, h51, h52, h53, b5⟩
              exact ⟨_, rfl, ⟨A5, n5, c5, rfl, h50, h51, h52, h53⟩, HC.call b5, RM.below b5⟩
            rintro x_ wx HCx ⟨A5, n5, c5, rfl, -, -, -, -⟩
            clear HCx
            simp only [Act.put, List.setIfInBounds_toArray, List.set_cons_succ, List.set_cons_zero]
            refine dw_new #[.int .i64 xid, .slice A5 n5 c5] 89 114 (RBoxSlot (Mut M KL) xid xvs) (fun g => .slice (some ⟨g, 0, none⟩) 1 1) rfl rfl rfl rfl (fun wv => ?_) (fun wv HC _hrm hD hro => ?_) ?_
            · go_simp <;> rfl
            · have hsl : RowSlot (Mut M KL) xid xvs (.agg #[.int .i64 xid, .slice A5 n5 c5]) wv := deps_at hD 3 rfl (by kernel_rfl) rfl rfl
              obtain ⟨A6, n6, c6, e6, h1, h2, h3, h4⟩ := hsl
              obtain ⟨rfl, rfl, rfl⟩ : A5 = A6 ∧ n5 = n6 ∧ c5 = c6 := by
                injection e6 with e6
                simp at e6
                exact e6
              exact ⟨_, A5, n5, c5, rfl, h1, h2, h3, h4.step (by simp) (fun b hb _ => Below.heap_alloc wv _ b hb) (fun _ _ h => h), ro_block (hro _ HC.mutLt) rfl⟩
            rintro gn wg HCg hsl
            simp only [Act.put, List.setIfInBounds_toArray, List.set_cons_succ, List.set_cons_zero]
            clear hsl HCg
            refine rel_nil ?_
            rintro wx2 HX
            rintro _hrm HGW
            have hb2 : RBoxSlot (Mut M KL) xid xvs (.slice (some ⟨gn, 0, none⟩) 1 1) wx2 := (GW_on (d := 114) rfl).1 (HGW 4 _ rfl (by omega))
            clear HGW _hrm
            obtain ⟨gq, A6, n6, c6, e6, k0_, k1_, k2_, k3_, k4_⟩ := hb2
            obtain rfl : gn = gq := by injection e6 with e6; injection e6 with e6; injection e6
            clear e6
            rw [HKL.out] at HX k3_
            have k5 := hid k4_.now
            have HK0 := hid (And.intro k0_ (And.intro k1_ k2_))
            clear k4_ k0_ k1_ k2_ HF HRX KN
            have HRS := hid (show rwCells ld ++ [.int .i64 xid, .slice A6 n6 c6] = rwCells (ld ++ [⟨xid, A6, n6, c6, xvs⟩]) from rwCells_snoc1 _ _ _ _ _ _)
            have KA := HX.add k3_
            clear HX k3_
            have FKA := KA.facts
            simp only [World.size_alloc, World.size_drew, factsL, cellsF, Nat.reduceAdd, List.toList_toArray, List.set_cons_zero, List.set_cons_succ, List.setIfInBounds_toArray, and_true, true_and] at FKA
            go_wp2_with (at_builtin; go_must (refine wpList_appAllH KA 4 rfl Tryz.elRw k5.out rfl (.tmp 111) (.tmp 114) rfl rfl rfl (by intro z hz; simp at hz; rcases hz with rfl | rfl <;> rfl) (by omega) (by omega) ?_); intro C' cap' w6 hc6 hm6 KB; rw [HRS.out] at KB; simp only [List.set_cons_zero, List.set_cons_succ] at KB; (have F3 := KB.facts); simp only [World.size_alloc, World.size_drew, factsL, cellsF, Nat.reduceAdd, List.toList_toArray, List.set_cons_zero, List.set_cons_succ, List.setIfInBounds_toArray, and_true, true_and] at F3)
            have KD := KB.store 9 rfl 2 (.slice C' (nd + 1) cap')
            have KE := (KD.swapRo 7 rfl (vals_snoc (r := ⟨xid, A6, n6, c6, xvs⟩) (KD.ro 7 rfl) (KD.ro 0 rfl))).drop (List.sublist_cons_self _ _)
            clear KB KD FKA k5
            have HBN := hid (HBS.out.left HXX.out HGG.out (y := ⟨xid, A6, n6, c6, xvs⟩) rfl ⟨HXO.out.id, HK0.out.2.1, HK0.out.2.2, HXO.out.vs⟩)
            have KZ := KE.drop (List.Sublist.cons _ (List.sublist_cons_self _ _))
            go_roundw
            case rel => exact ⟨k + 1, nd + 1, cap', C', _, by omega, by first | rfl | go_num, by omega, HBN, KZ⟩
            case measure => simp [intOf]; omega
          | some v =>
            have HBN := hid (HBS.out.keep HXX.out hgt)
            simp only [Option.isSome_some]
            clear hgt
            have KZ := K2.drop (List.Sublist.cons _ (List.sublist_cons_self _ _))
            go_wp2_with fail
            go_roundw
            case rel => exact ⟨k + 1, nd, cd, D, ld, by omega, by first | rfl | go_num, by omega, HBN, KZ⟩
            case measure => simp [intOf]; omega
        · obtain rfl : k = am := by omega
          have hd5 : decide ((k : Int) < (k : Int)) = false := by simp
          have HFIN := hid (HBS.out.fin HBJ.out (by rw [← HAR.out, List.length_map, HAL.out]; exact Nat.le_refl _))
          have F := H.facts
          simp only [World.size_alloc, World.size_drew, factsL, cellsF, Nat.reduceAdd, List.toList_toArray, List.set_cons_zero, List.set_cons_succ, List.setIfInBounds_toArray, and_true, true_and] at F
          obtain ⟨hi1, hi2, _⟩ := own_caps (H.get 0 rfl)
          obtain ⟨hd1, hd2, _⟩ := own_caps (H.get 1 rfl)
          obtain ⟨hu1, hu2, _⟩ := own_caps (H.get 2 rfl)
          have KS := H.sealRow 0 rfl
          simp only [List.set_cons_zero, List.set_cons_succ] at KS
          have KS2 := KS.sealRow 1 rfl
          simp only [List.set_cons_zero, List.set_cons_succ] at KS2
          have KS3 := KS2.sealRow 2 rfl
          simp only [List.set_cons_zero, List.set_cons_succ] at KS3
          have KN := (((KS3.store 7 rfl 0 (.string a.nm)).store 7 rfl 1 (.slice I ni ci)).store 7 rfl 2 (.slice D nd cd)).store 7 rfl 3 (.slice U nu cu)
          have r1 := (KN.roOut 0 rfl).and (KN.roOut 3 rfl)
          have r2 := (KN.roOut 1 rfl).and (KN.roOut 4 rfl)
          have r3 := (KN.roOut 2 rfl).and (KN.roOut 5 rfl)
          have NK := H.nes
          simp only [nesL, neF, and_true, true_and] at NK
          clear KS KS2 KS3 H
          go_wp2_with fail
          exact bodyPost_ret (v := .tuple #[.agg #[.string a.nm, .slice I ni ci, .slice D nd cd, .slice U nu cu], .bool true]) (by simp [results, Tryz.results12, go_sem, F, NK]) rfl ⟨_, by rw [HFIN.out], by rw [HFIN.out]; exact ⟨I, ni, ci, D, nd, cd, U, nu, cu, li, ld, lu, rfl, ⟨hi1, hi2⟩, ⟨hd1, hd2⟩, ⟨hu1, hu2⟩, r1, r2, r3, HBS.out.ok1, HBS.out.ok2, HBS.out.ok3, rfl, rfl, rfl⟩, KN.below⟩
end Go.Proofs.YtljmclbedpceoaaGreatDoor

namespace Go.Proofs.YtljmclbedpceoaaGreatDoor
open Go.RowKit
set_option linter.unusedVariables false
set_option linter.unusedSimpArgs false

set_option maxHeartbeats 8000000 in
set_option maxRecDepth 100000 in
theorem dbetw_any (M : Nat → Prop) (w : World) (hM : ∀ b, M b → b < w.heap.size) (va vb : Value) (a b : Tb) (hTa : TbAt w M va a) (hTb : TbAt w M vb b) (hsa : a.nm.size ≤ maxLen) (hca : ∀ x ∈ a.cs, x.name.size ≤ maxLen) (hra : a.rs.length ≤ 4398046511104) (hsb : b.nm.size ≤ maxLen) (hcb : ∀ x ∈ b.cs, x.name.size ≤ maxLen) (hrb : b.rs.length ≤ 4398046511104) :
    Calls Tryz.prog 48 #[va, vb] w fun e w' => BetRet w M (betweenC a b) e w' := by
  obtain ⟨aA, an, ac, aB, am, ad, la, rfl, a1, a2, a3, a4, a5, a6, a7, a8⟩ := hTa
  obtain ⟨bA, bn, bc, bB, bm, bd, lb, rfl, b1, b2, b3, b4, b5, b6, b7, b8⟩ := hTb
  have HAL := hid (show la.length = am from a6.now.len)
  have HBL := hid (show lb.length = bm from b6.now.len)
  have HAR := hid a8
  have HBR := hid b8
  have HAO := hid a7
  have HBO := hid b7
  have HAE := hid a6.now
  have HBE := hid b6.now
  have HAC := hid (show a.cs.length = an from cols_n a5.now)
  have ham : am ≤ 4398046511104 := by have := HAL.out; have h := congrArg List.length a8; rw [List.length_map] at h; omega
  have hbm : bm ≤ 4398046511104 := by have := HBL.out; have h := congrArg List.length b8; rw [List.length_map] at h; omega
  have K0 := (((((((Hold.start M w hM).add (b6.less (by simp [Mut]))).add (b5.less (by simp [Mut, Hp.foot]))).add (a6.less (by simp [Mut, Hp.foot]))).add (a5.less (by simp [Mut, Hp.foot]))).alloc_cst #[.string a.nm, .slice aA an ac, .int .i64 a.nx, .slice aB am ad] 34).alloc_cst #[.string b.nm, .slice bA bn bc, .int .i64 b.nx, .slice bB bm bd] 34).alloc #[.string ⟨#[]⟩, .slice none 0 0, .slice none 0 0, .slice none 0 0] 25
  simp only [World.size_alloc] at K0
  have F0 := K0.facts
  simp only [World.size_alloc, World.size_drew, factsL, cellsF, Nat.reduceAdd, List.toList_toArray, List.set_cons_zero, List.set_cons_succ, List.setIfInBounds_toArray, and_true, true_and] at F0
  clear a5 a6 a7 a8 b5 b6 b7 b8
  go_enter Tryz.func48, Tryz.ntmps48
  go_wp2
  go_step3
  go_wp2_with fail
  obtain ⟨g2, hg2⟩ : ∃ g, g = w.heap.size := ⟨_, rfl⟩
  obtain ⟨g3, hg3⟩ : ∃ g, g = g2 + 1 := ⟨_, rfl⟩
  obtain ⟨g4, hg4⟩ : ∃ g, g = g3 + 1 := ⟨_, rfl⟩
  rw [← hg2, ← hg3, ← hg4] at K0 ⊢
  clear F0
  generalize ((w.alloc _).alloc _).alloc _ = w1 at K0 ⊢
  have HGX := hid hg2
  clear hg2 hg3 hg4
  have hv := tvalid_any _ _ K0.mutLt a.nm aA an ac a.cs a.nx aB am ad la (K0.ro 3 rfl) (K0.ro 4 rfl) (by omega) (by omega) HAO.out hsa hca
  rw [HAR.out] at hv
  refine hv.mono ?_
  clear hv
  rintro e w2 ⟨rfl, b1_⟩
  have K1 := K0.call b1_
  clear K0 b1_
  have F1 := K1.facts
  simp only [World.size_alloc, World.size_drew, factsL, cellsF, Nat.reduceAdd, List.toList_toArray, List.set_cons_zero, List.set_cons_succ, List.setIfInBounds_toArray, and_true, true_and] at F1
  cases hva : tabB a.nm a.cs a.nx a.rs
  · have HN := hid (betC_a (b := b) hva)
    clear hva
    have KN := (((K1.store 0 rfl 0 (.string ⟨#[]⟩)).store 0 rfl 1 (.slice none 0 0)).store 0 rfl 2 (.slice none 0 0)).store 0 rfl 3 (.slice none 0 0)
    go_wp2_with fail
    exact bodyPost_ret (v := .tuple #[.agg #[.string ⟨#[]⟩, .slice none 0 0, .slice none 0 0, .slice none 0 0], .bool false]) (by simp [results, Tryz.results48, go_sem, F1]) rfl ⟨_, by rw [HN.out], by rw [HN.out]; exact dlAt_zero, KN.below⟩
  have HVA := hid hva
  clear hva
  go_wp2_with fail
  have hv := tvalid_any _ _ K1.mutLt b.nm bA bn bc b.cs b.nx bB bm bd lb (K1.ro 5 rfl) (K1.ro 6 rfl) (by omega) (by omega) HBO.out hsb hcb
  rw [HBR.out] at hv
  refine hv.mono ?_
  clear hv
  rintro e w3 ⟨rfl, b1_⟩
  have K2 := K1.call b1_
  clear K1 b1_ F1
  have F2 := K2.facts
  simp only [World.size_alloc, World.size_drew, factsL, cellsF, Nat.reduceAdd, List.toList_toArray, List.set_cons_zero, List.set_cons_succ, List.setIfInBounds_toArray, and_true, true_and] at F2
  cases hvb : tabB b.nm b.cs b.nx b.rs
  · have HN := hid (betC_b (a := a) hvb)
    clear hvb
    have KN := (((K2.store 0 rfl 0 (.string ⟨#[]⟩)).store 0 rfl 1 (.slice none 0 0)).store 0 rfl 2 (.slice none 0 0)).store 0 rfl 3 (.slice none 0 0)
    go_wp2_with fail
    exact bodyPost_ret (v := .tuple #[.agg #[.string ⟨#[]⟩, .slice none 0 0, .slice none 0 0, .slice none 0 0], .bool false]) (by simp [results, Tryz.results48, go_sem, F2]) rfl ⟨_, by rw [HN.out], by rw [HN.out]; exact dlAt_zero, KN.below⟩
  have HVB := hid hvb
  clear hvb hsa hca hsb hcb
  have han6 : an ≤ 6 := by have := tabB_cols HVA.out; have := HAC.out; omega
  have ham1 : am ≤ 100 := by have := (tabB_rows HVA.out).1; have h := congrArg List.length HAR.out; rw [List.length_map] at h; have := HAL.out; omega
  have hbm1 : bm ≤ 100 := by have := (tabB_rows HVB.out).1; have h := congrArg List.length HBR.out; rw [List.length_map] at h; have := HBL.out; omega
  have HSA := hid (rw_short HAE.out (by rw [HAR.out]; exact HVA.out))
  have HSB := hid (rw_short HBE.out (by rw [HBR.out]; exact HVB.out))
  clear ham hbm hra hrb
  go_wp2_with fail
  refine (dsameschema_any _ a.nm aA an ac a.cs b.nm bA bn bc b.cs (K2.ro 3 rfl).now (K2.ro 5 rfl).now (by omega)).mono ?_
  rintro e w4 ⟨rfl, b1_⟩
  have K3 := K2.call b1_
  clear K2 b1_ F2
  have F3 := K3.facts
  simp only [World.size_alloc, World.size_drew, factsL, cellsF, Nat.reduceAdd, List.toList_toArray, List.set_cons_zero, List.set_cons_succ, List.setIfInBounds_toArray, and_true, true_and] at F3
  cases hss : decide (a.nm = b.nm ∧ a.cs = b.cs)
  · have HN := hid (betC_s hss)
    clear hss
    have KN := (((K3.store 0 rfl 0 (.string ⟨#[]⟩)).store 0 rfl 1 (.slice none 0 0)).store 0 rfl 2 (.slice none 0 0)).store 0 rfl 3 (.slice none 0 0)
    go_wp2_with fail
    exact bodyPost_ret (v := .tuple #[.agg #[.string ⟨#[]⟩, .slice none 0 0, .slice none 0 0, .slice none 0 0], .bool false]) (by simp [results, Tryz.results48, go_sem, F3]) rfl ⟨_, by rw [HN.out], by rw [HN.out]; exact dlAt_zero, KN.below⟩
  have HEQ := hid (of_decide_eq_true hss)
  clear hss
  by_cases hnx : b.nx < a.nx
  · have hd : decide (b.nx < a.nx) = true := by simpa using hnx
    have HN := hid (betC_n hnx)
    clear hnx
    have KN := (((K3.store 0 rfl 0 (.string ⟨#[]⟩)).store 0 rfl 1 (.slice none 0 0)).store 0 rfl 2 (.slice none 0 0)).store 0 rfl 3 (.slice none 0 0)
    go_wp2_with fail
    exact bodyPost_ret (v := .tuple #[.agg #[.string ⟨#[]⟩, .slice none 0 0, .slice none 0 0, .slice none 0 0], .bool false]) (by simp [results, Tryz.results48, go_sem, F3]) rfl ⟨_, by rw [HN.out], by rw [HN.out]; exact dlAt_zero, KN.below⟩
  have hd : decide (b.nx < a.nx) = false := by simpa using hnx
  have HST := hid (BSt.zero HVA.out HVB.out HEQ.out (show a.nx ≤ b.nx by omega))
  clear hnx
  have K4 := K3.alloc #[.string a.nm, .slice none 0 0, .slice none 0 0, .slice none 0 0] 25
  go_wp2
  go_step3
  go_wp2
  obtain ⟨g6, hg6⟩ : ∃ g, g = w4.heap.size := ⟨_, rfl⟩
  rw [← hg6] at K4 ⊢
  have HG6 := hid hg6
  clear hg6 hd F3 K3
  generalize World.alloc w4 _ = w5 at K4 ⊢
  have K5 := ((((((K4.add (show Ro _ _ (PrVals []) from fun _ _ _ r hr => nomatch hr)).add (ro_vals_nil _ _)).add (ro_vals_nil _ _)).nil 106 3).nil 89 2).nil 89 2)
  have K6 := K5.add (show Ro _ _ (RwsIn aB am (la.drop 0)) from K5.ro 11 rfl)
  clear K4 K5
  go_loopg [7, 46] bm (fun gh bv iv wr => ∃ (j p np cp ni ci nd cd nu cu : Nat) (Ap I D U : Option Addr) (li ld : List Rw) (lu : List Pr), j + gh = bm ∧ iv = .int .i64 j ∧ bv = .slice Ap np cp ∧ np + p = am ∧ p ≤ am ∧ ni ≤ j ∧ nd ≤ p ∧ nu ≤ j ∧ np ≤ cp ∧ cp ≤ 9223372036854775807 ∧ Hid (BSt a b j p li ld lu) ∧ Hold M none w wr [.ro (RwsIn Ap np (la.drop p)), .own 89 2 (.slice I ni ci) ni (rwCells li), .own 89 2 (.slice D nd cd) nd (rwCells ld), .own 106 3 (.slice U nu cu) nu (prCells lu), .ro (ValsIn li), .ro (ValsIn ld), .ro (PrVals lu), .blk g6 25 #[.string a.nm, .slice I ni ci, .slice D nd cd, .slice U nu cu], .blk g4 25 #[.string ⟨#[]⟩, .slice none 0 0, .slice none 0 0, .slice none 0 0], .cst g3 34 #[.string b.nm, .slice bA bn bc, .int .i64 b.nx, .slice bB bm bd], .cst g2 34 #[.string a.nm, .slice aA an ac, .int .i64 a.nx, .slice aB am ad], .ro (ColsIn aA an a.cs), .ro (RwsIn aB am la), .ro (ColsIn bA bn b.cs), .ro (RwsIn bB bm lb)])
  case atStart => exact ⟨0, 0, am, ad, 0, 0, 0, 0, 0, 0, aB, none, none, none, [], [], [], by omega, rfl, rfl, by omega, by omega, by omega, by omega, by omega, a3, a4, HST, K6⟩
  case round =>
    clear K6
    obtain ⟨j, p, np, cp, ni, ci, nd, cd, nu, cu, Ap, I, D, U, li, ld, lu, hj, rfl, rfl, hnp, hpm, hni, hnd, hnu, hncp, hcp, HBS, H⟩ := hrel
    obtain ⟨wo, rfl⟩ : ∃ wo : World, wo = wr := ⟨_, rfl⟩
    cases gk with
    | succ go =>
      have hlt : j < bm := by omega
      have hd : decide ((j : Int) < (bm : Int)) = true := by simp; omega
      have j0 : (0 : Int) ≤ (j : Int) := by omega
      have j1 : (j : Int) < (bm : Int) := by omega
      obtain ⟨r, hr⟩ := get_of HBL.out hlt
      obtain ⟨bb, bo, rfl, hbb, c0, c1, _⟩ := (H.ro 14 rfl).now.at_ hr
      have HRR := hid (show b.rs[j]? = some r.row by rw [← HBR.out, List.getElem?_map, hr]; rfl)
      have HRO := hid (HBO.out r (List.mem_of_getElem? hr))
      have hrn6 := HSB.out r (List.mem_of_getElem? hr)
      have hxr : Ro wo _ (VlsIn r.A r.n r.vs) := (H.ro 14 rfl).imp fun w2 h2 => h2.2 r (List.mem_of_getElem? hr)
      obtain ⟨rid, rA, rn, rc, rvs⟩ := r
      dsimp only at *
      clear hr
      have K1 := (H.add hxr).alloc_cst #[.int .i64 rid, .slice rA rn rc] 89
      clear H hxr
      obtain ⟨g9, hg9⟩ : ∃ g, g = wo.heap.size := ⟨_, rfl⟩
      rw [← hg9] at K1
      go_wp2_with fail
      rw [← hg9]
      have HG9 := hid hg9
      clear hg9 c0 c1
      generalize World.alloc wo _ = wo2 at K1 ⊢
      go_loopg [7] np (fun gh bv wq => ∃ (p np cp nd cd : Nat) (Ap D : Option Addr) (ld : List Rw), gh = np ∧ bv = .slice Ap np cp ∧ np + p = am ∧ p ≤ am ∧ nd ≤ p ∧ np ≤ cp ∧ cp ≤ 9223372036854775807 ∧ Hid (BSt a b j p li ld lu) ∧ Hold M none w wq [.cst g9 89 #[.int .i64 rid, .slice rA rn rc], .ro (VlsIn rA rn rvs), .ro (RwsIn Ap np (la.drop p)), .own 89 2 (.slice I ni ci) ni (rwCells li), .own 89 2 (.slice D nd cd) nd (rwCells ld), .own 106 3 (.slice U nu cu) nu (prCells lu), .ro (ValsIn li), .ro (ValsIn ld), .ro (PrVals lu), .blk g6 25 #[.string a.nm, .slice I ni ci, .slice D nd cd, .slice U nu cu], .blk g4 25 #[.string ⟨#[]⟩, .slice none 0 0, .slice none 0 0, .slice none 0 0], .cst g3 34 #[.string b.nm, .slice bA bn bc, .int .i64 b.nx, .slice (some ⟨bb, bo, none⟩) bm bd], .cst g2 34 #[.string a.nm, .slice aA an ac, .int .i64 a.nx, .slice aB am ad], .ro (ColsIn aA an a.cs), .ro (RwsIn aB am la), .ro (ColsIn bA bn b.cs), .ro (RwsIn (some ⟨bb, bo, none⟩) bm lb)])
      case atStart => exact ⟨p, np, cp, nd, cd, Ap, D, ld, rfl, rfl, hnp, hpm, hnd, hncp, hcp, HBS, K1⟩
      case round =>
        clear K1 HBS hnp hpm hnd hncp hcp
        clear p np cp nd cd Ap D ld
        obtain ⟨p, np, cp, nd, cd, Ap, D, ld, hgh, rfl, hnp, hpm, hnd, hncp, hcp, HBS, H2⟩ := hrel
        cases gk with
        | succ gi =>
          have hnp0 : 0 < np := by omega
          have hq1 : decide ((np : Int) > 0) = true := by rw [decide_eq_true_iff]; omega
          have hq2 : ((0 : Int) < (np : Int)) := by omega
          obtain ⟨x, hx⟩ := get_of HAL.out (show p < am by omega)
          have HXX := hid (show a.rs[p]? = some x.row by rw [← HAR.out, List.getElem?_map, hx]; rfl)
          have HXO := hid (HAO.out x (List.mem_of_getElem? hx))
          have hxn6 := HSA.out x (List.mem_of_getElem? hx)
          have hdr := drop_cons hx
          have hbf := H2.ro 2 rfl
          rw [hdr] at hbf
          obtain ⟨bx, ox, rfl, _⟩ := hbf.tailRws
          have HDR := hid hdr
          obtain ⟨b', o', e', hbx', x0, x1, _⟩ := hbf.now.at_ (k := 0) rfl
          obtain ⟨rfl, rfl⟩ : bx = b' ∧ ox = o' := by injection e' with e'; injection e' with e1 e2; exact ⟨e1, e2⟩
          simp only [Nat.zero_mul, Nat.add_zero] at x0 x1
          clear hx hdr hbf e'
          obtain ⟨xid, xA, xn, xc, xvs⟩ := x
          dsimp only at *
          have F2 := H2.facts
          simp only [World.size_alloc, World.size_drew, factsL, cellsF, Nat.reduceAdd, List.toList_toArray, List.set_cons_zero, List.set_cons_succ, List.setIfInBounds_toArray, and_true, true_and] at F2
          by_cases hle : xid ≤ rid
          · have hd2 : decide (xid ≤ rid) = true := by simpa using hle
            go_wp2_with fail
            go_quiet (fail)
            have H3 := H2.drewN nq
            clear H2 F2 x0 x1
            obtain ⟨w3, hw3⟩ : ∃ w3, w3 = wr.drewN nq := ⟨_, rfl⟩
            rw [← hw3] at H3 ⊢
            clear hw3
            have hbf : Ro w3 _ (RwsIn (some ⟨bx, ox, none⟩) np (⟨xid, xA, xn, xc, xvs⟩ :: la.drop (p + 1))) := (H3.ro 2 rfl).imp fun w2 h2 => by rw [← HDR.out]; exact h2
            obtain ⟨bx', ox', e', hnxt⟩ := hbf.tailRws
            obtain ⟨rfl, rfl⟩ : bx = bx' ∧ ox = ox' := by injection e' with e'; injection e' with e1 e2; exact ⟨e1, e2⟩
            obtain ⟨b', o', e2', hbx', x0, x1, _⟩ := hbf.now.at_ (k := 0) rfl
            obtain ⟨rfl, rfl⟩ : bx = b' ∧ ox = o' := by injection e2' with e2'; injection e2' with e1 e2; exact ⟨e1, e2⟩
            simp only [Nat.zero_mul, Nat.add_zero] at x0 x1
            have hxx : Ro w3 _ (VlsIn xA xn xvs) := hbf.imp fun w2 h2 => h2.2 _ (List.mem_cons_self ..)
            have K2 := (H3.add hxx).alloc_cst #[.int .i64 xid, .slice xA xn xc] 89
            clear e' e2' hbf hxx
            have hnp1 : 1 ≤ np := by omega
            by_cases hc1 : cp = 1
            · have HZ := hid (show la.drop (p + 1) = [] from List.drop_of_length_le (by rw [HAL.out]; omega))
              have KX := K2.swapRo 4 rfl (Ro.nilRws (A := some ⟨bx, ox, none⟩) (n := np - 1) (l := la.drop (p + 1)) (by omega) HZ.out)
              simp only [List.set_cons_zero, List.set_cons_succ] at KX
              clear K2 H3 hnxt
              have FK := KX.facts
              simp only [World.size_alloc, World.size_drew, factsL, cellsF, Nat.reduceAdd, List.toList_toArray, List.set_cons_zero, List.set_cons_succ, List.setIfInBounds_toArray, and_true, true_and] at FK
              by_cases hlt3 : xid < rid
              · have hd4 : decide (xid < rid) = true := by simpa using hlt3
                obtain ⟨KL, hKL, KN⟩ := KX.name
                have HF : Hid (∀ wv, Hold M none w wv KL → (wv.cell? ⟨g6, 2, none⟩ = some (.slice D nd cd) ∧ g6 < wv.heap.size) ∧ wv.cell? ⟨w3.heap.size, 0, none⟩ = some (.int .i64 xid) ∧ wv.cell? ⟨w3.heap.size, 1, none⟩ = some (.slice xA xn xc) ∧ w3.heap.size < wv.heap.size) := hid fun wv HC => by
                  rw [hKL] at HC
                  have y1 := HC.blk_ 11 rfl
                  have y2 := HC.cst_ 0 rfl
                  exact ⟨⟨cell_of_row _ _ 2 _ _ _ y1, Blk.lt y1⟩, cell_of_row _ _ 0 _ _ _ y2, cell_of_row _ _ 1 _ _ _ y2, Blk.lt y2⟩
                have HRX : Hid (∀ wv, Hold M none w wv KL → Ro wv (Mut M KL) (VlsIn xA xn xvs)) := hid fun wv HC => by
                  rw [hKL] at HC ⊢
                  exact HC.ro 1 rfl
                have HKL := hid hKL
                clear hKL KX
                go_wp2_with fail
                refine wp_region_any (by kernel_rfl) ?_
                refine wpAny_hold 5 128 (KL) (spL [(75, RowSlot (Mut M KL) xid xvs), (76, RBoxSlot (Mut M KL) xid xvs)]) (by kernel_rfl) (by kernel_rfl) (by kernel_rfl) rfl ?_ (KN.drew) ?_
                · exact stays_cons rowSlot_mono (stays_cons rboxSlot_mono (stays_nil _))
                simp only [List.take_succ_cons, List.take_zero, List.drop_succ_cons, List.drop_zero, Act.put, List.getElem_toArray, List.getElem_cons_zero, List.getElem_cons_succ, List.setIfInBounds_toArray, List.set_cons_succ, List.set_cons_zero]
                refine dw_val rfl rfl rfl ?_; apply Exists.intro; refine ⟨fun wv HC => ?_, ?_⟩
                ·  go_simp <;> rfl
                simp only [Act.put, List.setIfInBounds_toArray, List.set_cons_succ, List.set_cons_zero]
                refine dw_val rfl rfl rfl ?_; apply Exists.intro; refine ⟨fun wv HC => ?_, ?_⟩
                · obtain ⟨⟨f0, f1⟩, f2, f3, f4⟩ := HF.out _ HC; go_simp <;> rfl
                simp only [Act.put, List.setIfInBounds_toArray, List.set_cons_succ, List.set_cons_zero]
                refine dw_val rfl rfl rfl ?_; apply Exists.intro; refine ⟨fun wv HC => ?_, ?_⟩
                · obtain ⟨⟨f0, f1⟩, f2, f3, f4⟩ := HF.out _ HC; go_simp <;> rfl
                simp only [Act.put, List.setIfInBounds_toArray, List.set_cons_succ, List.set_cons_zero]
                refine dw_callR 75 (RowSlot (Mut M KL) xid xvs) (f := 94) (args := #[.agg #[.int .i64 xid, .slice xA xn xc]]) rfl rfl rfl rfl (fun wv => ?_) (fun wv HC hrm hD => ?_) ?_
                · go_simp <;> rfl
                · refine (dcopied_any _ wv HC.mutLt xid xA xn xc xvs (HRX.out _ HC) (by omega)).mono ?_
                  rintro e w5 ⟨A5, n5, c5, rfl, h50, h51, h52, h53, b5⟩
                  exact ⟨_, rfl, ⟨A5, n5, c5, rfl, h50, h51, h52, h53⟩, HC.call b5, RM.below b5⟩
                rintro x_ wx HCx ⟨A5, n5, c5, rfl, -, -, -, -⟩
                clear HCx
                simp only [Act.put, List.setIfInBounds_toArray, List.set_cons_succ, List.set_cons_zero]
                refine dw_new #[.int .i64 xid, .slice A5 n5 c5] 89 76 (RBoxSlot (Mut M KL) xid xvs) (fun g => .slice (some ⟨g, 0, none⟩) 1 1) rfl rfl rfl rfl (fun wv => ?_) (fun wv HC _hrm hD hro => ?_) ?_
                · go_simp <;> rfl
                · have hsl : RowSlot (Mut M KL) xid xvs (.agg #[.int .i64 xid, .slice A5 n5 c5]) wv := deps_at hD 3 rfl (by kernel_rfl) rfl rfl
                  obtain ⟨A6, n6, c6, e6, h1, h2, h3, h4⟩ := hsl
                  obtain ⟨rfl, rfl, rfl⟩ : A5 = A6 ∧ n5 = n6 ∧ c5 = c6 := by
                    injection e6 with e6
                    simp at e6
                    exact e6
                  exact ⟨_, A5, n5, c5, rfl, h1, h2, h3, h4.step (by simp) (fun b hb _ => Below.heap_alloc wv _ b hb) (fun _ _ h => h), ro_block (hro _ HC.mutLt) rfl⟩
                rintro gn wg HCg hsl
                simp only [Act.put, List.setIfInBounds_toArray, List.set_cons_succ, List.set_cons_zero]
                clear hsl HCg
                refine rel_nil ?_
                rintro wx2 HX
                rintro _hrm HGW
                have hb2 : RBoxSlot (Mut M KL) xid xvs (.slice (some ⟨gn, 0, none⟩) 1 1) wx2 := (GW_on (d := 76) rfl).1 (HGW 4 _ rfl (by omega))
                clear HGW _hrm
                obtain ⟨gq, A6, n6, c6, e6, k0_, k1_, k2_, k3_, k4_⟩ := hb2
                obtain rfl : gn = gq := by injection e6 with e6; injection e6 with e6; injection e6
                clear e6
                rw [HKL.out] at HX k3_
                have k5 := hid k4_.now
                have HK0 := hid (And.intro k0_ (And.intro k1_ k2_))
                clear k4_ k0_ k1_ k2_ HF HRX KN
                have HRS := hid (show rwCells ld ++ [.int .i64 xid, .slice A6 n6 c6] = rwCells (ld ++ [⟨xid, A6, n6, c6, xvs⟩]) from rwCells_snoc1 _ _ _ _ _ _)
                have KA := HX.add k3_
                clear HX k3_
                have FKA := KA.facts
                simp only [World.size_alloc, World.size_drew, factsL, cellsF, Nat.reduceAdd, List.toList_toArray, List.set_cons_zero, List.set_cons_succ, List.setIfInBounds_toArray, and_true, true_and] at FKA
                go_wp2_with (at_builtin; go_must (refine wpList_appAllH KA 7 rfl Tryz.elRw k5.out rfl (.tmp 73) (.tmp 76) rfl rfl rfl (by intro z hz; simp at hz; rcases hz with rfl | rfl <;> rfl) (by omega) (by omega) ?_); intro C' cap' w6 hc6 hm6 KB; rw [HRS.out] at KB; simp only [List.set_cons_zero, List.set_cons_succ] at KB; (have F3 := KB.facts); simp only [World.size_alloc, World.size_drew, factsL, cellsF, Nat.reduceAdd, List.toList_toArray, List.set_cons_zero, List.set_cons_succ, List.setIfInBounds_toArray, and_true, true_and] at F3)
                have KD := KB.store 12 rfl 2 (.slice C' (nd + 1) cap')
                have KE := (KD.swapRo 10 rfl (vals_snoc (r := ⟨xid, A6, n6, c6, xvs⟩) (KD.ro 10 rfl) (KD.ro 0 rfl))).drop (List.sublist_cons_self _ _)
                clear KB KD FKA k5
                have HBN := hid (HBS.out.left HXX.out HRR.out hlt3 (y := ⟨xid, A6, n6, c6, xvs⟩) rfl ⟨HXO.out.id, HK0.out.2.1, HK0.out.2.2, HXO.out.vs⟩)
                have KZ := KE.drop (List.Sublist.cons _ (List.sublist_cons_self _ _))
                go_roundg gi
                case measure => omega
                case rel => exact ⟨p + 1, np - 1, 0, nd + 1, cap', (some ⟨bx, ox, none⟩), C', _, by omega, by first | rfl | (simp <;> omega), by omega, by omega, by omega, by omega, by omega, HBN, KZ⟩
              · obtain rfl : xid = rid := by omega
                have hd4 : decide (xid < xid) = false := by simp
                clear hlt3
                go_wp2_with fail
                refine (eqVls_any _ xA xn xc xvs rA rn rc rvs (KX.ro 1 rfl).now (KX.ro 3 rfl).now (by omega)).mono ?_
                rintro e w7 ⟨rfl, q7, rfl⟩
                have KY := KX.drewN q7
                clear KX FK
                have FK := KY.facts
                simp only [World.size_alloc, World.size_drew, factsL, cellsF, Nat.reduceAdd, List.toList_toArray, List.set_cons_zero, List.set_cons_succ, List.setIfInBounds_toArray, and_true, true_and] at FK
                by_cases hvv : xvs = rvs
                · rw [decide_eq_true hvv]
                  have HBN := hid (HBS.out.same HXX.out HRR.out rfl hvv)
                  clear hvv
                  have KZ := KY.drop (List.Sublist.cons _ (List.Sublist.cons _ (List.Sublist.cons _ (List.sublist_cons_self _ _))))
                  go_wp2_with fail
                  go_roundg go
                  case measure => omega
                  case rel => exact ⟨j + 1, p + 1, np - 1, 0, ni, ci, nd, cd, nu, cu, (some ⟨bx, ox, none⟩), I, D, U, li, ld, lu, by omega, by first | rfl | go_num, by first | rfl | (simp <;> omega), by omega, by omega, by omega, by omega, by omega, by omega, by omega, HBN, KZ⟩
                · rw [decide_eq_false hvv]
                  have HNE := hid hvv
                  clear hvv
                  obtain ⟨KL, hKL, KN⟩ := KY.name
                  have HF : Hid (∀ wv, Hold M none w wv KL → (wv.cell? ⟨g6, 3, none⟩ = some (.slice U nu cu) ∧ g6 < wv.heap.size) ∧ wv.cell? ⟨g9, 0, none⟩ = some (.int .i64 xid) ∧ wv.cell? ⟨g9, 1, none⟩ = some (.slice rA rn rc) ∧ g9 < wv.heap.size ∧ wv.cell? ⟨w3.heap.size, 0, none⟩ = some (.int .i64 xid) ∧ wv.cell? ⟨w3.heap.size, 1, none⟩ = some (.slice xA xn xc) ∧ w3.heap.size < wv.heap.size) := hid fun wv HC => by
                    rw [hKL] at HC
                    have y1 := HC.blk_ 11 rfl
                    have y2 := HC.cst_ 2 rfl
                    have y3 := HC.cst_ 0 rfl
                    exact ⟨⟨cell_of_row _ _ 3 _ _ _ y1, Blk.lt y1⟩, cell_of_row _ _ 0 _ _ _ y2, cell_of_row _ _ 1 _ _ _ y2, Blk.lt y2, cell_of_row _ _ 0 _ _ _ y3, cell_of_row _ _ 1 _ _ _ y3, Blk.lt y3⟩
                  have HRX : Hid (∀ wv, Hold M none w wv KL → Ro wv (Mut M KL) (VlsIn xA xn xvs) ∧ Ro wv (Mut M KL) (VlsIn rA rn rvs)) := hid fun wv HC => by
                    rw [hKL] at HC ⊢
                    exact ⟨HC.ro 1 rfl, HC.ro 3 rfl⟩
                  have HKL := hid hKL
                  clear hKL KY
                  go_wp2_with fail
                  refine wp_region_any (by kernel_rfl) ?_
                  refine wpAny_hold 12 128 (KL) (spL [(91, VlsSlot (Mut M KL) xvs), (94, VlsSlot (Mut M KL) rvs), (95, PrSlot (Mut M KL) (xid, xvs, rvs)), (96, PrsSlot (Mut M KL) [(xid, xvs, rvs)])]) (by kernel_rfl) (by kernel_rfl) (by kernel_rfl) rfl ?_ (KN.drew) ?_
                  · exact stays_cons vlsSlot_mono (stays_cons vlsSlot_mono (stays_cons prSlot_mono (stays_cons prsSlot_mono (stays_nil _))))
                  simp only [List.take_succ_cons, List.take_zero, List.drop_succ_cons, List.drop_zero, Act.put, List.getElem_toArray, List.getElem_cons_zero, List.getElem_cons_succ, List.setIfInBounds_toArray, List.set_cons_succ, List.set_cons_zero]
                  refine dw_val rfl rfl rfl ?_; apply Exists.intro; refine ⟨fun wv HC => ?_, ?_⟩
                  ·  go_simp <;> rfl
                  simp only [Act.put, List.setIfInBounds_toArray, List.set_cons_succ, List.set_cons_zero]
                  refine dw_val rfl rfl rfl ?_; apply Exists.intro; refine ⟨fun wv HC => ?_, ?_⟩
                  · obtain ⟨⟨f0, f1⟩, f2, f3, f4, f5, f6, f7⟩ := HF.out _ HC; go_simp <;> rfl
                  simp only [Act.put, List.setIfInBounds_toArray, List.set_cons_succ, List.set_cons_zero]
                  refine dw_val rfl rfl rfl ?_; apply Exists.intro; refine ⟨fun wv HC => ?_, ?_⟩
                  ·  go_simp <;> rfl
                  simp only [Act.put, List.setIfInBounds_toArray, List.set_cons_succ, List.set_cons_zero]
                  refine dw_val rfl rfl rfl ?_; apply Exists.intro; refine ⟨fun wv HC => ?_, ?_⟩
                  · obtain ⟨⟨f0, f1⟩, f2, f3, f4, f5, f6, f7⟩ := HF.out _ HC; go_simp <;> rfl
                  simp only [Act.put, List.setIfInBounds_toArray, List.set_cons_succ, List.set_cons_zero]
                  refine dw_val rfl rfl rfl ?_; apply Exists.intro; refine ⟨fun wv HC => ?_, ?_⟩
                  ·  go_simp <;> rfl
                  simp only [Act.put, List.setIfInBounds_toArray, List.set_cons_succ, List.set_cons_zero]
                  refine dw_val rfl rfl rfl ?_; apply Exists.intro; refine ⟨fun wv HC => ?_, ?_⟩
                  · obtain ⟨⟨f0, f1⟩, f2, f3, f4, f5, f6, f7⟩ := HF.out _ HC; go_simp <;> rfl
                  simp only [Act.put, List.setIfInBounds_toArray, List.set_cons_succ, List.set_cons_zero]
                  refine dw_callR 91 (VlsSlot (Mut M KL) xvs) (f := 96) (args := #[.slice xA xn xc]) rfl rfl rfl rfl (fun wv => ?_) (fun wv HC hrm hD => ?_) ?_
                  · go_simp <;> rfl
                  · refine (cloneVls_any _ wv HC.mutLt xA xn xc xvs (HRX.out _ HC).1 (by omega)).mono ?_
                    rintro e w5 ⟨A5, n5, c5, rfl, h50, h51, h52, h53, b5⟩
                    exact ⟨_, rfl, ⟨A5, n5, c5, rfl, h50, h51, h52, h53⟩, HC.call b5, RM.below b5⟩
                  rintro x_ wx HCx ⟨A91, n91, c91, rfl, -, -, -, -⟩
                  clear HCx
                  simp only [Act.put, List.setIfInBounds_toArray, List.set_cons_succ, List.set_cons_zero]
                  refine dw_val rfl rfl rfl ?_; apply Exists.intro; refine ⟨fun wv HC => ?_, ?_⟩
                  ·  go_simp <;> rfl
                  simp only [Act.put, List.setIfInBounds_toArray, List.set_cons_succ, List.set_cons_zero]
                  refine dw_val rfl rfl rfl ?_; apply Exists.intro; refine ⟨fun wv HC => ?_, ?_⟩
                  · obtain ⟨⟨f0, f1⟩, f2, f3, f4, f5, f6, f7⟩ := HF.out _ HC; go_simp <;> rfl
                  simp only [Act.put, List.setIfInBounds_toArray, List.set_cons_succ, List.set_cons_zero]
                  refine dw_callR 94 (VlsSlot (Mut M KL) rvs) (f := 96) (args := #[.slice rA rn rc]) rfl rfl rfl rfl (fun wv => ?_) (fun wv HC hrm hD => ?_) ?_
                  · go_simp <;> rfl
                  · refine (cloneVls_any _ wv HC.mutLt rA rn rc rvs (HRX.out _ HC).2 (by omega)).mono ?_
                    rintro e w5 ⟨A5, n5, c5, rfl, h50, h51, h52, h53, b5⟩
                    exact ⟨_, rfl, ⟨A5, n5, c5, rfl, h50, h51, h52, h53⟩, HC.call b5, RM.below b5⟩
                  rintro x_ wx HCx ⟨A94, n94, c94, rfl, -, -, -, -⟩
                  clear HCx
                  simp only [Act.put, List.setIfInBounds_toArray, List.set_cons_succ, List.set_cons_zero]
                  refine dw_valC 95 (PrSlot (Mut M KL) (xid, xvs, rvs)) rfl rfl rfl rfl (.agg #[.int .i64 xid, .slice A91 n91 c91, .slice A94 n94 c94]) (fun wv HC => ?_) (fun wv HC hD => ?_) ?_
                  · go_simp <;> rfl
                  · have ha : VlsSlot (Mut M KL) xvs (.slice A91 n91 c91) wv := deps_at hD 6 rfl (by kernel_rfl) rfl rfl
                    have hb : VlsSlot (Mut M KL) rvs (.slice A94 n94 c94) wv := deps_at hD 9 rfl (by kernel_rfl) rfl rfl
                    exact prSlot_of HXO.out.id HXO.out.vs HRO.out.vs ha hb
                  simp only [Act.put, List.setIfInBounds_toArray, List.set_cons_succ, List.set_cons_zero]
                  refine dw_new #[.int .i64 xid, .slice A91 n91 c91, .slice A94 n94 c94] 106 96 (PrsSlot (Mut M KL) [(xid, xvs, rvs)]) (fun g => .slice (some ⟨g, 0, none⟩) 1 1) rfl rfl rfl rfl (fun wv => ?_) (fun wv HC _hrm hD hro => ?_) ?_
                  · go_simp <;> rfl
                  · have hrr := RM.alloc (Mut M KL) wv (.cells #[.int .i64 xid, .slice A91 n91 c91, .slice A94 n94 c94] 106)
                    have h0 : PrSlot (Mut M KL) (xid, xvs, rvs) (.agg #[.int .i64 xid, .slice A91 n91 c91, .slice A94 n94 c94]) wv := deps_at hD 10 rfl (by kernel_rfl) rfl rfl
                    replace h0 := prSlot_mono _ _ _ hrr h0
                    exact prsSlot_one (hro _ HC.mutLt) (fun i j k e1 => Value.agg.inj e1) h0
                  rintro g96 wg HCg hsl
                  simp only [Act.put, List.setIfInBounds_toArray, List.set_cons_succ, List.set_cons_zero]
                  clear hsl HCg
                  refine rel_nil ?_
                  rintro wx5 HX5
                  rintro _hrm HGW
                  have hb2 : PrsSlot (Mut M KL) [(xid, xvs, rvs)] (.slice (some ⟨g96, 0, none⟩) 1 1) wx5 := (GW_on (d := 96) rfl).1 (HGW 11 _ rfl (by omega))
                  clear HGW _hrm
                  obtain ⟨Aq, nq, cq, pq, heq, -, -, hpm, hpok, hpr⟩ := hb2
                  obtain ⟨rfl, rfl, rfl⟩ : some ⟨g96, 0, none⟩ = Aq ∧ 1 = nq ∧ 1 = cq := by injection heq with h1 h2 h3; exact ⟨h1, h2, h3⟩
                  clear heq
                  obtain ⟨pr, rfl, hpu⟩ : ∃ pr, pq = [pr] ∧ pr.upd = (xid, xvs, rvs) := by
                    obtain ⟨pr, h1, h2⟩ := List.map_eq_singleton_iff.1 hpm
                    exact ⟨pr, h1, h2⟩
                  rw [HKL.out] at HX5 hpr
                  have HPE := hid (show prCells lu ++ prCells [pr] = prCells (lu ++ [pr]) by simp [prCells])
                  have KA := HX5.add (hpr.imp fun w h => (h.2 : PrVals [pr] w))
                  have k5 := hid ((hpr.imp fun w h => h.1).now)
                  have HBN := hid (HBS.out.turn HXX.out HRR.out rfl HNE.out hpu (hpok pr (List.mem_singleton.2 rfl)))
                  clear HX5 hpr hpm hpok hpu HF HRX KN
                  have FKA := KA.facts
                  simp only [World.size_alloc, World.size_drew, factsL, cellsF, Nat.reduceAdd, List.toList_toArray, List.set_cons_zero, List.set_cons_succ, List.setIfInBounds_toArray, and_true, true_and] at FKA
                  go_wp2_with (at_builtin; go_must (refine wpList_appAllH KA 8 rfl Tryz.elPr k5.out rfl (.tmp 86) (.tmp 96) rfl rfl rfl (prCells_one _) (by omega) (by omega) ?_); intro C' cap' w6 hc6 hm6 KB; rw [HPE.out] at KB; simp only [List.set_cons_zero, List.set_cons_succ] at KB; (have FB := KB.facts); simp only [World.size_alloc, World.size_drew, factsL, cellsF, Nat.reduceAdd, List.toList_toArray, List.set_cons_zero, List.set_cons_succ, List.setIfInBounds_toArray, and_true, true_and] at FB)
                  have KD := KB.store 12 rfl 3 (.slice C' (nu + 1) cap')
                  have KZ := (KD.swapRo 11 rfl (prVals_app (KD.ro 11 rfl) (KD.ro 0 rfl))).drop (List.Sublist.cons _ (List.Sublist.cons _ (List.Sublist.cons _ (List.Sublist.cons _ (List.sublist_cons_self _ _)))))
                  clear KB KD FKA k5
                  go_roundg go
                  case measure => omega
                  case rel => exact ⟨j + 1, p + 1, np - 1, 0, ni, ci, nd, cd, nu + 1, cap', (some ⟨bx, ox, none⟩), I, D, C', li, ld, _, by omega, by first | rfl | go_num, by first | rfl | (simp <;> omega), by omega, by omega, by omega, by omega, by omega, by omega, by omega, HBN, KZ⟩
            · have KX := K2.swapRo 4 rfl (hnxt.step (by simp) (fun b hb _ => Below.heap_alloc w3 _ b hb) (fun b hb h => (mut_none rfl b ((mut_none rfl b h)))))
              simp only [List.set_cons_zero, List.set_cons_succ] at KX
              clear K2 H3 hnxt
              have FK := KX.facts
              simp only [World.size_alloc, World.size_drew, factsL, cellsF, Nat.reduceAdd, List.toList_toArray, List.set_cons_zero, List.set_cons_succ, List.setIfInBounds_toArray, and_true, true_and] at FK
              by_cases hlt3 : xid < rid
              · have hd4 : decide (xid < rid) = true := by simpa using hlt3
                obtain ⟨KL, hKL, KN⟩ := KX.name
                have HF : Hid (∀ wv, Hold M none w wv KL → (wv.cell? ⟨g6, 2, none⟩ = some (.slice D nd cd) ∧ g6 < wv.heap.size) ∧ wv.cell? ⟨w3.heap.size, 0, none⟩ = some (.int .i64 xid) ∧ wv.cell? ⟨w3.heap.size, 1, none⟩ = some (.slice xA xn xc) ∧ w3.heap.size < wv.heap.size) := hid fun wv HC => by
                  rw [hKL] at HC
                  have y1 := HC.blk_ 11 rfl
                  have y2 := HC.cst_ 0 rfl
                  exact ⟨⟨cell_of_row _ _ 2 _ _ _ y1, Blk.lt y1⟩, cell_of_row _ _ 0 _ _ _ y2, cell_of_row _ _ 1 _ _ _ y2, Blk.lt y2⟩
                have HRX : Hid (∀ wv, Hold M none w wv KL → Ro wv (Mut M KL) (VlsIn xA xn xvs)) := hid fun wv HC => by
                  rw [hKL] at HC ⊢
                  exact HC.ro 1 rfl
                have HKL := hid hKL
                clear hKL KX
                go_wp2_with fail
                refine wp_region_any (by kernel_rfl) ?_
                refine wpAny_hold 5 128 (KL) (spL [(75, RowSlot (Mut M KL) xid xvs), (76, RBoxSlot (Mut M KL) xid xvs)]) (by kernel_rfl) (by kernel_rfl) (by kernel_rfl) rfl ?_ (KN.drew) ?_
                · exact stays_cons rowSlot_mono (stays_cons rboxSlot_mono (stays_nil _))
                simp only [List.take_succ_cons, List.take_zero, List.drop_succ_cons, List.drop_zero, Act.put, List.getElem_toArray, List.getElem_cons_zero, List.getElem_cons_succ, List.setIfInBounds_toArray, List.set_cons_succ, List.set_cons_zero]
                refine dw_val rfl rfl rfl ?_; apply Exists.intro; refine ⟨fun wv HC => ?_, ?_⟩
                ·  go_simp <;> rfl
                simp only [Act.put, List.setIfInBounds_toArray, List.set_cons_succ, List.set_cons_zero]
                refine dw_val rfl rfl rfl ?_; apply Exists.intro; refine ⟨fun wv HC => ?_, ?_⟩
                · obtain ⟨⟨f0, f1⟩, f2, f3, f4⟩ := HF.out _ HC; go_simp <;> rfl
                simp only [Act.put, List.setIfInBounds_toArray, List.set_cons_succ, List.set_cons_zero]
                refine dw_val rfl rfl rfl ?_; apply Exists.intro; refine ⟨fun wv HC => ?_, ?_⟩
                · obtain ⟨⟨f0, f1⟩, f2, f3, f4⟩ := HF.out _ HC; go_simp <;> rfl
                simp only [Act.put, List.setIfInBounds_toArray, List.set_cons_succ, List.set_cons_zero]
                refine dw_callR 75 (RowSlot (Mut M KL) xid xvs) (f := 94) (args := #[.agg #[.int .i64 xid, .slice xA xn xc]]) rfl rfl rfl rfl (fun wv => ?_) (fun wv HC hrm hD => ?_) ?_
                · go_simp <;> rfl
                · refine (dcopied_any _ wv HC.mutLt xid xA xn xc xvs (HRX.out _ HC) (by omega)).mono ?_
                  rintro e w5 ⟨A5, n5, c5, rfl, h50, h51, h52, h53, b5⟩
                  exact ⟨_, rfl, ⟨A5, n5, c5, rfl, h50, h51, h52, h53⟩, HC.call b5, RM.below b5⟩
                rintro x_ wx HCx ⟨A5, n5, c5, rfl, -, -, -, -⟩
                clear HCx
                simp only [Act.put, List.setIfInBounds_toArray, List.set_cons_succ, List.set_cons_zero]
                refine dw_new #[.int .i64 xid, .slice A5 n5 c5] 89 76 (RBoxSlot (Mut M KL) xid xvs) (fun g => .slice (some ⟨g, 0, none⟩) 1 1) rfl rfl rfl rfl (fun wv => ?_) (fun wv HC _hrm hD hro => ?_) ?_
                · go_simp <;> rfl
                · have hsl : RowSlot (Mut M KL) xid xvs (.agg #[.int .i64 xid, .slice A5 n5 c5]) wv := deps_at hD 3 rfl (by kernel_rfl) rfl rfl
                  obtain ⟨A6, n6, c6, e6, h1, h2, h3, h4⟩ := hsl
                  obtain ⟨rfl, rfl, rfl⟩ : A5 = A6 ∧ n5 = n6 ∧ c5 = c6 := by
                    injection e6 with e6
                    simp at e6
                    exact e6
                  exact ⟨_, A5, n5, c5, rfl, h1, h2, h3, h4.step (by simp) (fun b hb _ => Below.heap_alloc wv _ b hb) (fun _ _ h => h), ro_block (hro _ HC.mutLt) rfl⟩
                rintro gn wg HCg hsl
                simp only [Act.put, List.setIfInBounds_toArray, List.set_cons_succ, List.set_cons_zero]
                clear hsl HCg
                refine rel_nil ?_
                rintro wx2 HX
                rintro _hrm HGW
                have hb2 : RBoxSlot (Mut M KL) xid xvs (.slice (some ⟨gn, 0, none⟩) 1 1) wx2 := (GW_on (d := 76) rfl).1 (HGW 4 _ rfl (by omega))
                clear HGW _hrm
                obtain ⟨gq, A6, n6, c6, e6, k0_, k1_, k2_, k3_, k4_⟩ := hb2
                obtain rfl : gn = gq := by injection e6 with e6; injection e6 with e6; injection e6
                clear e6
                rw [HKL.out] at HX k3_
                have k5 := hid k4_.now
                have HK0 := hid (And.intro k0_ (And.intro k1_ k2_))
                clear k4_ k0_ k1_ k2_ HF HRX KN
                have HRS := hid (show rwCells ld ++ [.int .i64 xid, .slice A6 n6 c6] = rwCells (ld ++ [⟨xid, A6, n6, c6, xvs⟩]) from rwCells_snoc1 _ _ _ _ _ _)
                have KA := HX.add k3_
                clear HX k3_
                have FKA := KA.facts
                simp only [World.size_alloc, World.size_drew, factsL, cellsF, Nat.reduceAdd, List.toList_toArray, List.set_cons_zero, List.set_cons_succ, List.setIfInBounds_toArray, and_true, true_and] at FKA
                go_wp2_with (at_builtin; go_must (refine wpList_appAllH KA 7 rfl Tryz.elRw k5.out rfl (.tmp 73) (.tmp 76) rfl rfl rfl (by intro z hz; simp at hz; rcases hz with rfl | rfl <;> rfl) (by omega) (by omega) ?_); intro C' cap' w6 hc6 hm6 KB; rw [HRS.out] at KB; simp only [List.set_cons_zero, List.set_cons_succ] at KB; (have F3 := KB.facts); simp only [World.size_alloc, World.size_drew, factsL, cellsF, Nat.reduceAdd, List.toList_toArray, List.set_cons_zero, List.set_cons_succ, List.setIfInBounds_toArray, and_true, true_and] at F3)
                have KD := KB.store 12 rfl 2 (.slice C' (nd + 1) cap')
                have KE := (KD.swapRo 10 rfl (vals_snoc (r := ⟨xid, A6, n6, c6, xvs⟩) (KD.ro 10 rfl) (KD.ro 0 rfl))).drop (List.sublist_cons_self _ _)
                clear KB KD FKA k5
                have HBN := hid (HBS.out.left HXX.out HRR.out hlt3 (y := ⟨xid, A6, n6, c6, xvs⟩) rfl ⟨HXO.out.id, HK0.out.2.1, HK0.out.2.2, HXO.out.vs⟩)
                have KZ := KE.drop (List.Sublist.cons _ (List.sublist_cons_self _ _))
                go_roundg gi
                case measure => omega
                case rel => exact ⟨p + 1, np - 1, (cp - 1), nd + 1, cap', (some ⟨bx, ox + 2, none⟩), C', _, by omega, by first | rfl | (simp <;> omega), by omega, by omega, by omega, by omega, by omega, HBN, KZ⟩
              · obtain rfl : xid = rid := by omega
                have hd4 : decide (xid < xid) = false := by simp
                clear hlt3
                go_wp2_with fail
                refine (eqVls_any _ xA xn xc xvs rA rn rc rvs (KX.ro 1 rfl).now (KX.ro 3 rfl).now (by omega)).mono ?_
                rintro e w7 ⟨rfl, q7, rfl⟩
                have KY := KX.drewN q7
                clear KX FK
                have FK := KY.facts
                simp only [World.size_alloc, World.size_drew, factsL, cellsF, Nat.reduceAdd, List.toList_toArray, List.set_cons_zero, List.set_cons_succ, List.setIfInBounds_toArray, and_true, true_and] at FK
                by_cases hvv : xvs = rvs
                · rw [decide_eq_true hvv]
                  have HBN := hid (HBS.out.same HXX.out HRR.out rfl hvv)
                  clear hvv
                  have KZ := KY.drop (List.Sublist.cons _ (List.Sublist.cons _ (List.Sublist.cons _ (List.sublist_cons_self _ _))))
                  go_wp2_with fail
                  go_roundg go
                  case measure => omega
                  case rel => exact ⟨j + 1, p + 1, np - 1, (cp - 1), ni, ci, nd, cd, nu, cu, (some ⟨bx, ox + 2, none⟩), I, D, U, li, ld, lu, by omega, by first | rfl | go_num, by first | rfl | (simp <;> omega), by omega, by omega, by omega, by omega, by omega, by omega, by omega, HBN, KZ⟩
                · rw [decide_eq_false hvv]
                  have HNE := hid hvv
                  clear hvv
                  obtain ⟨KL, hKL, KN⟩ := KY.name
                  have HF : Hid (∀ wv, Hold M none w wv KL → (wv.cell? ⟨g6, 3, none⟩ = some (.slice U nu cu) ∧ g6 < wv.heap.size) ∧ wv.cell? ⟨g9, 0, none⟩ = some (.int .i64 xid) ∧ wv.cell? ⟨g9, 1, none⟩ = some (.slice rA rn rc) ∧ g9 < wv.heap.size ∧ wv.cell? ⟨w3.heap.size, 0, none⟩ = some (.int .i64 xid) ∧ wv.cell? ⟨w3.heap.size, 1, none⟩ = some (.slice xA xn xc) ∧ w3.heap.size < wv.heap.size) := hid fun wv HC => by
                    rw [hKL] at HC
                    have y1 := HC.blk_ 11 rfl
                    have y2 := HC.cst_ 2 rfl
                    have y3 := HC.cst_ 0 rfl
                    exact ⟨⟨cell_of_row _ _ 3 _ _ _ y1, Blk.lt y1⟩, cell_of_row _ _ 0 _ _ _ y2, cell_of_row _ _ 1 _ _ _ y2, Blk.lt y2, cell_of_row _ _ 0 _ _ _ y3, cell_of_row _ _ 1 _ _ _ y3, Blk.lt y3⟩
                  have HRX : Hid (∀ wv, Hold M none w wv KL → Ro wv (Mut M KL) (VlsIn xA xn xvs) ∧ Ro wv (Mut M KL) (VlsIn rA rn rvs)) := hid fun wv HC => by
                    rw [hKL] at HC ⊢
                    exact ⟨HC.ro 1 rfl, HC.ro 3 rfl⟩
                  have HKL := hid hKL
                  clear hKL KY
                  go_wp2_with fail
                  refine wp_region_any (by kernel_rfl) ?_
                  refine wpAny_hold 12 128 (KL) (spL [(91, VlsSlot (Mut M KL) xvs), (94, VlsSlot (Mut M KL) rvs), (95, PrSlot (Mut M KL) (xid, xvs, rvs)), (96, PrsSlot (Mut M KL) [(xid, xvs, rvs)])]) (by kernel_rfl) (by kernel_rfl) (by kernel_rfl) rfl ?_ (KN.drew) ?_
                  · exact stays_cons vlsSlot_mono (stays_cons vlsSlot_mono (stays_cons prSlot_mono (stays_cons prsSlot_mono (stays_nil _))))
                  simp only [List.take_succ_cons, List.take_zero, List.drop_succ_cons, List.drop_zero, Act.put, List.getElem_toArray, List.getElem_cons_zero, List.getElem_cons_succ, List.setIfInBounds_toArray, List.set_cons_succ, List.set_cons_zero]
                  refine dw_val rfl rfl rfl ?_; apply Exists.intro; refine ⟨fun wv HC => ?_, ?_⟩
                  ·  go_simp <;> rfl
                  simp only [Act.put, List.setIfInBounds_toArray, List.set_cons_succ, List.set_cons_zero]
                  refine dw_val rfl rfl rfl ?_; apply Exists.intro; refine ⟨fun wv HC => ?_, ?_⟩
                  · obtain ⟨⟨f0, f1⟩, f2, f3, f4, f5, f6, f7⟩ := HF.out _ HC; go_simp <;> rfl
                  simp only [Act.put, List.setIfInBounds_toArray, List.set_cons_succ, List.set_cons_zero]
                  refine dw_val rfl rfl rfl ?_; apply Exists.intro; refine ⟨fun wv HC => ?_, ?_⟩
                  ·  go_simp <;> rfl
                  simp only [Act.put, List.setIfInBounds_toArray, List.set_cons_succ, List.set_cons_zero]
                  refine dw_val rfl rfl rfl ?_; apply Exists.intro; refine ⟨fun wv HC => ?_, ?_⟩
                  · obtain ⟨⟨f0, f1⟩, f2, f3, f4, f5, f6, f7⟩ := HF.out _ HC; go_simp <;> rfl
                  simp only [Act.put, List.setIfInBounds_toArray, List.set_cons_succ, List.set_cons_zero]
                  refine dw_val rfl rfl rfl ?_; apply Exists.intro; refine ⟨fun wv HC => ?_, ?_⟩
                  ·  go_simp <;> rfl
                  simp only [Act.put, List.setIfInBounds_toArray, List.set_cons_succ, List.set_cons_zero]
                  refine dw_val rfl rfl rfl ?_; apply Exists.intro; refine ⟨fun wv HC => ?_, ?_⟩
                  · obtain ⟨⟨f0, f1⟩, f2, f3, f4, f5, f6, f7⟩ := HF.out _ HC; go_simp <;> rfl
                  simp only [Act.put, List.setIfInBounds_toArray, List.set_cons_succ, List.set_cons_zero]
                  refine dw_callR 91 (VlsSlot (Mut M KL) xvs) (f := 96) (args := #[.slice xA xn xc]) rfl rfl rfl rfl (fun wv => ?_) (fun wv HC hrm hD => ?_) ?_
                  · go_simp <;> rfl
                  · refine (cloneVls_any _ wv HC.mutLt xA xn xc xvs (HRX.out _ HC).1 (by omega)).mono ?_
                    rintro e w5 ⟨A5, n5, c5, rfl, h50, h51, h52, h53, b5⟩
                    exact ⟨_, rfl, ⟨A5, n5, c5, rfl, h50, h51, h52, h53⟩, HC.call b5, RM.below b5⟩
                  rintro x_ wx HCx ⟨A91, n91, c91, rfl, -, -, -, -⟩
                  clear HCx
                  simp only [Act.put, List.setIfInBounds_toArray, List.set_cons_succ, List.set_cons_zero]
                  refine dw_val rfl rfl rfl ?_; apply Exists.intro; refine ⟨fun wv HC => ?_, ?_⟩
                  ·  go_simp <;> rfl
                  simp only [Act.put, List.setIfInBounds_toArray, List.set_cons_succ, List.set_cons_zero]
                  refine dw_val rfl rfl rfl ?_; apply Exists.intro; refine ⟨fun wv HC => ?_, ?_⟩
                  · obtain ⟨⟨f0, f1⟩, f2, f3, f4, f5, f6, f7⟩ := HF.out _ HC; go_simp <;> rfl
                  simp only [Act.put, List.setIfInBounds_toArray, List.set_cons_succ, List.set_cons_zero]
                  refine dw_callR 94 (VlsSlot (Mut M KL) rvs) (f := 96) (args := #[.slice rA rn rc]) rfl rfl rfl rfl (fun wv => ?_) (fun wv HC hrm hD => ?_) ?_
                  · go_simp <;> rfl
                  · refine (cloneVls_any _ wv HC.mutLt rA rn rc rvs (HRX.out _ HC).2 (by omega)).mono ?_
                    rintro e w5 ⟨A5, n5, c5, rfl, h50, h51, h52, h53, b5⟩
                    exact ⟨_, rfl, ⟨A5, n5, c5, rfl, h50, h51, h52, h53⟩, HC.call b5, RM.below b5⟩
                  rintro x_ wx HCx ⟨A94, n94, c94, rfl, -, -, -, -⟩
                  clear HCx
                  simp only [Act.put, List.setIfInBounds_toArray, List.set_cons_succ, List.set_cons_zero]
                  refine dw_valC 95 (PrSlot (Mut M KL) (xid, xvs, rvs)) rfl rfl rfl rfl (.agg #[.int .i64 xid, .slice A91 n91 c91, .slice A94 n94 c94]) (fun wv HC => ?_) (fun wv HC hD => ?_) ?_
                  · go_simp <;> rfl
                  · have ha : VlsSlot (Mut M KL) xvs (.slice A91 n91 c91) wv := deps_at hD 6 rfl (by kernel_rfl) rfl rfl
                    have hb : VlsSlot (Mut M KL) rvs (.slice A94 n94 c94) wv := deps_at hD 9 rfl (by kernel_rfl) rfl rfl
                    exact prSlot_of HXO.out.id HXO.out.vs HRO.out.vs ha hb
                  simp only [Act.put, List.setIfInBounds_toArray, List.set_cons_succ, List.set_cons_zero]
                  refine dw_new #[.int .i64 xid, .slice A91 n91 c91, .slice A94 n94 c94] 106 96 (PrsSlot (Mut M KL) [(xid, xvs, rvs)]) (fun g => .slice (some ⟨g, 0, none⟩) 1 1) rfl rfl rfl rfl (fun wv => ?_) (fun wv HC _hrm hD hro => ?_) ?_
                  · go_simp <;> rfl
                  · have hrr := RM.alloc (Mut M KL) wv (.cells #[.int .i64 xid, .slice A91 n91 c91, .slice A94 n94 c94] 106)
                    have h0 : PrSlot (Mut M KL) (xid, xvs, rvs) (.agg #[.int .i64 xid, .slice A91 n91 c91, .slice A94 n94 c94]) wv := deps_at hD 10 rfl (by kernel_rfl) rfl rfl
                    replace h0 := prSlot_mono _ _ _ hrr h0
                    exact prsSlot_one (hro _ HC.mutLt) (fun i j k e1 => Value.agg.inj e1) h0
                  rintro g96 wg HCg hsl
                  simp only [Act.put, List.setIfInBounds_toArray, List.set_cons_succ, List.set_cons_zero]
                  clear hsl HCg
                  refine rel_nil ?_
                  rintro wx5 HX5
                  rintro _hrm HGW
                  have hb2 : PrsSlot (Mut M KL) [(xid, xvs, rvs)] (.slice (some ⟨g96, 0, none⟩) 1 1) wx5 := (GW_on (d := 96) rfl).1 (HGW 11 _ rfl (by omega))
                  clear HGW _hrm
                  obtain ⟨Aq, nq, cq, pq, heq, -, -, hpm, hpok, hpr⟩ := hb2
                  obtain ⟨rfl, rfl, rfl⟩ : some ⟨g96, 0, none⟩ = Aq ∧ 1 = nq ∧ 1 = cq := by injection heq with h1 h2 h3; exact ⟨h1, h2, h3⟩
                  clear heq
                  obtain ⟨pr, rfl, hpu⟩ : ∃ pr, pq = [pr] ∧ pr.upd = (xid, xvs, rvs) := by
                    obtain ⟨pr, h1, h2⟩ := List.map_eq_singleton_iff.1 hpm
                    exact ⟨pr, h1, h2⟩
                  rw [HKL.out] at HX5 hpr
                  have HPE := hid (show prCells lu ++ prCells [pr] = prCells (lu ++ [pr]) by simp [prCells])
                  have KA := HX5.add (hpr.imp fun w h => (h.2 : PrVals [pr] w))
                  have k5 := hid ((hpr.imp fun w h => h.1).now)
                  have HBN := hid (HBS.out.turn HXX.out HRR.out rfl HNE.out hpu (hpok pr (List.mem_singleton.2 rfl)))
                  clear HX5 hpr hpm hpok hpu HF HRX KN
                  have FKA := KA.facts
                  simp only [World.size_alloc, World.size_drew, factsL, cellsF, Nat.reduceAdd, List.toList_toArray, List.set_cons_zero, List.set_cons_succ, List.setIfInBounds_toArray, and_true, true_and] at FKA
                  go_wp2_with (at_builtin; go_must (refine wpList_appAllH KA 8 rfl Tryz.elPr k5.out rfl (.tmp 86) (.tmp 96) rfl rfl rfl (prCells_one _) (by omega) (by omega) ?_); intro C' cap' w6 hc6 hm6 KB; rw [HPE.out] at KB; simp only [List.set_cons_zero, List.set_cons_succ] at KB; (have FB := KB.facts); simp only [World.size_alloc, World.size_drew, factsL, cellsF, Nat.reduceAdd, List.toList_toArray, List.set_cons_zero, List.set_cons_succ, List.setIfInBounds_toArray, and_true, true_and] at FB)
                  have KD := KB.store 12 rfl 3 (.slice C' (nu + 1) cap')
                  have KZ := (KD.swapRo 11 rfl (prVals_app (KD.ro 11 rfl) (KD.ro 0 rfl))).drop (List.Sublist.cons _ (List.Sublist.cons _ (List.Sublist.cons _ (List.Sublist.cons _ (List.sublist_cons_self _ _)))))
                  clear KB KD FKA k5
                  go_roundg go
                  case measure => omega
                  case rel => exact ⟨j + 1, p + 1, np - 1, (cp - 1), ni, ci, nd, cd, nu + 1, cap', (some ⟨bx, ox + 2, none⟩), I, D, C', li, ld, _, by omega, by first | rfl | go_num, by first | rfl | (simp <;> omega), by omega, by omega, by omega, by omega, by omega, by omega, by omega, HBN, KZ⟩
          · have hd2 : decide (xid ≤ rid) = false := by simpa using hle
            have HRGT := hid (show ∀ x, a.rs[p]? = some x → rid < x.1 from fun x hx => by rw [HXX.out] at hx; injection hx with hx; subst hx; show rid < xid; omega)
            go_wp2_with fail
            go_quiet (fail)
            have H3 := H2.drewN nq
            clear H2 F2 x0 x1
            generalize wr.drewN nq = w3 at H3 ⊢
            by_cases hrn : rid < a.nx
            · have hd3 : decide (rid < a.nx) = true := by simpa using hrn
              have HN := hid (HBS.out.bad HRR.out HRGT.out hrn)
              clear hrn
              have FK := H3.facts
              simp only [World.size_alloc, World.size_drew, factsL, cellsF, Nat.reduceAdd, List.toList_toArray, List.set_cons_zero, List.set_cons_succ, List.setIfInBounds_toArray, and_true, true_and] at FK
              have KN := (((H3.store 10 rfl 0 (.string ⟨#[]⟩)).store 10 rfl 1 (.slice none 0 0)).store 10 rfl 2 (.slice none 0 0)).store 10 rfl 3 (.slice none 0 0)
              go_wp2_with fail
              (try rw [Exit.noGoto_ret])
              exact bodyPost_ret (v := .tuple #[.agg #[.string ⟨#[]⟩, .slice none 0 0, .slice none 0 0, .slice none 0 0], .bool false]) (by simp [results, Tryz.results48, go_sem, FK]) rfl ⟨_, by rw [HN.out], by rw [HN.out]; exact dlAt_zero, KN.below⟩
            · have hd3 : decide (rid < a.nx) = false := by simpa using hrn
              have HRN := hid (show a.nx ≤ rid by omega)
              clear hrn
              have FK := H3.facts
              simp only [World.size_alloc, World.size_drew, factsL, cellsF, Nat.reduceAdd, List.toList_toArray, List.set_cons_zero, List.set_cons_succ, List.setIfInBounds_toArray, and_true, true_and] at FK
              obtain ⟨KL, hKL, KN⟩ := H3.name
              have HF : Hid (∀ wv, Hold M none w wv KL → (wv.cell? ⟨g6, 1, none⟩ = some (.slice I ni ci) ∧ g6 < wv.heap.size) ∧ wv.cell? ⟨g9, 0, none⟩ = some (.int .i64 rid) ∧ wv.cell? ⟨g9, 1, none⟩ = some (.slice rA rn rc) ∧ g9 < wv.heap.size) := hid fun wv HC => by
                rw [hKL] at HC
                have y1 := HC.blk_ 9 rfl
                have y2 := HC.cst_ 0 rfl
                exact ⟨⟨cell_of_row _ _ 1 _ _ _ y1, Blk.lt y1⟩, cell_of_row _ _ 0 _ _ _ y2, cell_of_row _ _ 1 _ _ _ y2, Blk.lt y2⟩
              have HRX : Hid (∀ wv, Hold M none w wv KL → Ro wv (Mut M KL) (VlsIn rA rn rvs)) := hid fun wv HC => by
                rw [hKL] at HC ⊢
                exact HC.ro 1 rfl
              have HKL := hid hKL
              clear hKL H3
              go_wp2_with fail
              refine wp_region_any (by kernel_rfl) ?_
              refine wpAny_hold 5 128 (KL) (spL [(108, RowSlot (Mut M KL) rid rvs), (109, RBoxSlot (Mut M KL) rid rvs)]) (by kernel_rfl) (by kernel_rfl) (by kernel_rfl) rfl ?_ (KN.drew) ?_
              · exact stays_cons rowSlot_mono (stays_cons rboxSlot_mono (stays_nil _))
              simp only [List.take_succ_cons, List.take_zero, List.drop_succ_cons, List.drop_zero, Act.put, List.getElem_toArray, List.getElem_cons_zero, List.getElem_cons_succ, List.setIfInBounds_toArray, List.set_cons_succ, List.set_cons_zero]
              refine dw_val rfl rfl rfl ?_; apply Exists.intro; refine ⟨fun wv HC => ?_, ?_⟩
              ·  go_simp <;> rfl
              simp only [Act.put, List.setIfInBounds_toArray, List.set_cons_succ, List.set_cons_zero]
              refine dw_val rfl rfl rfl ?_; apply Exists.intro; refine ⟨fun wv HC => ?_, ?_⟩
              · obtain ⟨⟨f0, f1⟩, f2, f3, f4⟩ := HF.out _ HC; go_simp <;> rfl
              simp only [Act.put, List.setIfInBounds_toArray, List.set_cons_succ, List.set_cons_zero]
              refine dw_val rfl rfl rfl ?_; apply Exists.intro; refine ⟨fun wv HC => ?_, ?_⟩
              · obtain ⟨⟨f0, f1⟩, f2, f3, f4⟩ := HF.out _ HC; go_simp <;> rfl
              simp only [Act.put, List.setIfInBounds_toArray, List.set_cons_succ, List.set_cons_zero]
              refine dw_callR 108 (RowSlot (Mut M KL) rid rvs) (f := 94) (args := #[.agg #[.int .i64 rid, .slice rA rn rc]]) rfl rfl rfl rfl (fun wv => ?_) (fun wv HC hrm hD => ?_) ?_
              · go_simp <;> rfl
              · refine (dcopied_any _ wv HC.mutLt rid rA rn rc rvs (HRX.out _ HC) (by omega)).mono ?_
                rintro e w5 ⟨A5, n5, c5, rfl, h50, h51, h52, h53, b5⟩
                exact ⟨_, rfl, ⟨A5, n5, c5, rfl, h50, h51, h52, h53⟩, HC.call b5, RM.below b5⟩
              rintro x_ wx HCx ⟨A5, n5, c5, rfl, -, -, -, -⟩
              clear HCx
              simp only [Act.put, List.setIfInBounds_toArray, List.set_cons_succ, List.set_cons_zero]
              refine dw_new #[.int .i64 rid, .slice A5 n5 c5] 89 109 (RBoxSlot (Mut M KL) rid rvs) (fun g => .slice (some ⟨g, 0, none⟩) 1 1) rfl rfl rfl rfl (fun wv => ?_) (fun wv HC _hrm hD hro => ?_) ?_
              · go_simp <;> rfl
              · have hsl : RowSlot (Mut M KL) rid rvs (.agg #[.int .i64 rid, .slice A5 n5 c5]) wv := deps_at hD 3 rfl (by kernel_rfl) rfl rfl
                obtain ⟨A6, n6, c6, e6, h1, h2, h3, h4⟩ := hsl
                obtain ⟨rfl, rfl, rfl⟩ : A5 = A6 ∧ n5 = n6 ∧ c5 = c6 := by
                  injection e6 with e6
                  simp at e6
                  exact e6
                exact ⟨_, A5, n5, c5, rfl, h1, h2, h3, h4.step (by simp) (fun b hb _ => Below.heap_alloc wv _ b hb) (fun _ _ h => h), ro_block (hro _ HC.mutLt) rfl⟩
              rintro gn wg HCg hsl
              simp only [Act.put, List.setIfInBounds_toArray, List.set_cons_succ, List.set_cons_zero]
              clear hsl HCg
              refine rel_nil ?_
              rintro wx2 HX
              rintro _hrm HGW
              have hb2 : RBoxSlot (Mut M KL) rid rvs (.slice (some ⟨gn, 0, none⟩) 1 1) wx2 := (GW_on (d := 109) rfl).1 (HGW 4 _ rfl (by omega))
              clear HGW _hrm
              obtain ⟨gq, A6, n6, c6, e6, k0_, k1_, k2_, k3_, k4_⟩ := hb2
              obtain rfl : gn = gq := by injection e6 with e6; injection e6 with e6; injection e6
              clear e6
              rw [HKL.out] at HX k3_
              have k5 := hid k4_.now
              have HK0 := hid (And.intro k0_ (And.intro k1_ k2_))
              clear k4_ k0_ k1_ k2_ HF HRX KN
              have HRS := hid (show rwCells li ++ [.int .i64 rid, .slice A6 n6 c6] = rwCells (li ++ [⟨rid, A6, n6, c6, rvs⟩]) from rwCells_snoc1 _ _ _ _ _ _)
              have KA := HX.add k3_
              clear HX k3_
              have FKA := KA.facts
              simp only [World.size_alloc, World.size_drew, factsL, cellsF, Nat.reduceAdd, List.toList_toArray, List.set_cons_zero, List.set_cons_succ, List.setIfInBounds_toArray, and_true, true_and] at FKA
              go_wp2_with (at_builtin; go_must (refine wpList_appAllH KA 4 rfl Tryz.elRw k5.out rfl (.tmp 106) (.tmp 109) rfl rfl rfl (by intro z hz; simp at hz; rcases hz with rfl | rfl <;> rfl) (by omega) (by omega) ?_); intro C' cap' w6 hc6 hm6 KB; rw [HRS.out] at KB; simp only [List.set_cons_zero, List.set_cons_succ] at KB; (have F3 := KB.facts); simp only [World.size_alloc, World.size_drew, factsL, cellsF, Nat.reduceAdd, List.toList_toArray, List.set_cons_zero, List.set_cons_succ, List.setIfInBounds_toArray, and_true, true_and] at F3)
              have KD := KB.store 10 rfl 1 (.slice C' (ni + 1) cap')
              have KE := (KD.swapRo 7 rfl (vals_snoc (r := ⟨rid, A6, n6, c6, rvs⟩) (KD.ro 7 rfl) (KD.ro 0 rfl))).drop (List.sublist_cons_self _ _)
              clear KB KD FKA k5
              have HBN := hid (HBS.out.right HRR.out HRGT.out HRN.out (y := ⟨rid, A6, n6, c6, rvs⟩) rfl ⟨HRO.out.id, HK0.out.2.1, HK0.out.2.2, HRO.out.vs⟩)
              have KZ := KE.drop (List.Sublist.cons _ (List.sublist_cons_self _ _))
              go_roundg go
              case measure => omega
              case rel => exact ⟨j + 1, p, _, cp, ni + 1, cap', nd, cd, nu, cu, _, C', D, U, _, ld, lu, by omega, by first | rfl | go_num, rfl, by omega, by omega, by omega, by omega, by omega, by omega, by omega, HBN, KZ⟩
        | zero =>
          obtain rfl : np = 0 := by omega
          have HRGT := hid (show ∀ x, a.rs[p]? = some x → rid < x.1 from fun x hx => by
            have h1 := (List.getElem?_eq_some_iff.1 hx).1
            have h2 := congrArg List.length HAR.out
            rw [List.length_map, HAL.out] at h2
            omega)
          have F2 := H2.facts
          simp only [World.size_alloc, World.size_drew, factsL, cellsF, Nat.reduceAdd, List.toList_toArray, List.set_cons_zero, List.set_cons_succ, List.setIfInBounds_toArray, and_true, true_and] at F2
          go_wp2_with fail
          go_quiet (fail)
          have H3 := H2.drewN nq
          clear H2 F2
          generalize wr.drewN nq = w3 at H3 ⊢
          by_cases hrn : rid < a.nx
          · have hd3 : decide (rid < a.nx) = true := by simpa using hrn
            have HN := hid (HBS.out.bad HRR.out HRGT.out hrn)
            clear hrn
            have FK := H3.facts
            simp only [World.size_alloc, World.size_drew, factsL, cellsF, Nat.reduceAdd, List.toList_toArray, List.set_cons_zero, List.set_cons_succ, List.setIfInBounds_toArray, and_true, true_and] at FK
            have KN := (((H3.store 10 rfl 0 (.string ⟨#[]⟩)).store 10 rfl 1 (.slice none 0 0)).store 10 rfl 2 (.slice none 0 0)).store 10 rfl 3 (.slice none 0 0)
            go_wp2_with fail
            (try rw [Exit.noGoto_ret])
            exact bodyPost_ret (v := .tuple #[.agg #[.string ⟨#[]⟩, .slice none 0 0, .slice none 0 0, .slice none 0 0], .bool false]) (by simp [results, Tryz.results48, go_sem, FK]) rfl ⟨_, by rw [HN.out], by rw [HN.out]; exact dlAt_zero, KN.below⟩
          · have hd3 : decide (rid < a.nx) = false := by simpa using hrn
            have HRN := hid (show a.nx ≤ rid by omega)
            clear hrn
            have FK := H3.facts
            simp only [World.size_alloc, World.size_drew, factsL, cellsF, Nat.reduceAdd, List.toList_toArray, List.set_cons_zero, List.set_cons_succ, List.setIfInBounds_toArray, and_true, true_and] at FK
            obtain ⟨KL, hKL, KN⟩ := H3.name
            have HF : Hid (∀ wv, Hold M none w wv KL → (wv.cell? ⟨g6, 1, none⟩ = some (.slice I ni ci) ∧ g6 < wv.heap.size) ∧ wv.cell? ⟨g9, 0, none⟩ = some (.int .i64 rid) ∧ wv.cell? ⟨g9, 1, none⟩ = some (.slice rA rn rc) ∧ g9 < wv.heap.size) := hid fun wv HC => by
              rw [hKL] at HC
              have y1 := HC.blk_ 9 rfl
              have y2 := HC.cst_ 0 rfl
              exact ⟨⟨cell_of_row _ _ 1 _ _ _ y1, Blk.lt y1⟩, cell_of_row _ _ 0 _ _ _ y2, cell_of_row _ _ 1 _ _ _ y2, Blk.lt y2⟩
            have HRX : Hid (∀ wv, Hold M none w wv KL → Ro wv (Mut M KL) (VlsIn rA rn rvs)) := hid fun wv HC => by
              rw [hKL] at HC ⊢
              exact HC.ro 1 rfl
            have HKL := hid hKL
            clear hKL H3
            go_wp2_with fail
            refine wp_region_any (by kernel_rfl) ?_
            refine wpAny_hold 5 128 (KL) (spL [(108, RowSlot (Mut M KL) rid rvs), (109, RBoxSlot (Mut M KL) rid rvs)]) (by kernel_rfl) (by kernel_rfl) (by kernel_rfl) rfl ?_ (KN.drew) ?_
            · exact stays_cons rowSlot_mono (stays_cons rboxSlot_mono (stays_nil _))
            simp only [List.take_succ_cons, List.take_zero, List.drop_succ_cons, List.drop_zero, Act.put, List.getElem_toArray, List.getElem_cons_zero, List.getElem_cons_succ, List.setIfInBounds_toArray, List.set_cons_succ, List.set_cons_zero]
            refine dw_val rfl rfl rfl ?_; apply Exists.intro; refine ⟨fun wv HC => ?_, ?_⟩
            ·  go_simp <;> rfl
            simp only [Act.put, List.setIfInBounds_toArray, List.set_cons_succ, List.set_cons_zero]
            refine dw_val rfl rfl rfl ?_; apply Exists.intro; refine ⟨fun wv HC => ?_, ?_⟩
            · obtain ⟨⟨f0, f1⟩, f2, f3, f4⟩ := HF.out _ HC; go_simp <;> rfl
            simp only [Act.put, List.setIfInBounds_toArray, List.set_cons_succ, List.set_cons_zero]
            refine dw_val rfl rfl rfl ?_; apply Exists.intro; refine ⟨fun wv HC => ?_, ?_⟩
            · obtain ⟨⟨f0, f1⟩, f2, f3, f4⟩ := HF.out _ HC; go_simp <;> rfl
            simp only [Act.put, List.setIfInBounds_toArray, List.set_cons_succ, List.set_cons_zero]
            refine dw_callR 108 (RowSlot (Mut M KL) rid rvs) (f := 94) (args := #[.agg #[.int .i64 rid, .slice rA rn rc]]) rfl rfl rfl rfl (fun wv => ?_) (fun wv HC hrm hD => ?_) ?_
            · go_simp <;> rfl
            · refine (dcopied_any _ wv HC.mutLt rid rA rn rc rvs (HRX.out _ HC) (by omega)).mono ?_
              rintro e w5 ⟨A5, n5, c5, rfl, h50, h51, h52, h53, b5⟩
              exact ⟨_, rfl, ⟨A5, n5, c5, rfl, h50, h51, h52, h53⟩, HC.call b5, RM.below b5⟩
            rintro x_ wx HCx ⟨A5, n5, c5, rfl, -, -, -, -⟩
            clear HCx
            simp only [Act.put, List.setIfInBounds_toArray, List.set_cons_succ, List.set_cons_zero]
            refine dw_new #[.int .i64 rid, .slice A5 n5 c5] 89 109 (RBoxSlot (Mut M KL) rid rvs) (fun g => .slice (some ⟨g, 0, none⟩) 1 1) rfl rfl rfl rfl (fun wv => ?_) (fun wv HC _hrm hD hro => ?_) ?_
            · go_simp <;> rfl
            · have hsl : RowSlot (Mut M KL) rid rvs (.agg #[.int .i64 rid, .slice A5 n5 c5]) wv := deps_at hD 3 rfl (by kernel_rfl) rfl rfl
              obtain ⟨A6, n6, c6, e6, h1, h2, h3, h4⟩ := hsl
              obtain ⟨rfl, rfl, rfl⟩ : A5 = A6 ∧ n5 = n6 ∧ c5 = c6 := by
                injection e6 with e6
                simp at e6
                exact e6
              exact ⟨_, A5, n5, c5, rfl, h1, h2, h3, h4.step (by simp) (fun b hb _ => Below.heap_alloc wv _ b hb) (fun _ _ h => h), ro_block (hro _ HC.mutLt) rfl⟩
            rintro gn wg HCg hsl
            simp only [Act.put, List.setIfInBounds_toArray, List.set_cons_succ, List.set_cons_zero]
            clear hsl HCg
            refine rel_nil ?_
            rintro wx2 HX
            rintro _hrm HGW
            have hb2 : RBoxSlot (Mut M KL) rid rvs (.slice (some ⟨gn, 0, none⟩) 1 1) wx2 := (GW_on (d := 109) rfl).1 (HGW 4 _ rfl (by omega))
            clear HGW _hrm
            obtain ⟨gq, A6, n6, c6, e6, k0_, k1_, k2_, k3_, k4_⟩ := hb2
            obtain rfl : gn = gq := by injection e6 with e6; injection e6 with e6; injection e6
            clear e6
            rw [HKL.out] at HX k3_
            have k5 := hid k4_.now
            have HK0 := hid (And.intro k0_ (And.intro k1_ k2_))
            clear k4_ k0_ k1_ k2_ HF HRX KN
            have HRS := hid (show rwCells li ++ [.int .i64 rid, .slice A6 n6 c6] = rwCells (li ++ [⟨rid, A6, n6, c6, rvs⟩]) from rwCells_snoc1 _ _ _ _ _ _)
            have KA := HX.add k3_
            clear HX k3_
            have FKA := KA.facts
            simp only [World.size_alloc, World.size_drew, factsL, cellsF, Nat.reduceAdd, List.toList_toArray, List.set_cons_zero, List.set_cons_succ, List.setIfInBounds_toArray, and_true, true_and] at FKA
            go_wp2_with (at_builtin; go_must (refine wpList_appAllH KA 4 rfl Tryz.elRw k5.out rfl (.tmp 106) (.tmp 109) rfl rfl rfl (by intro z hz; simp at hz; rcases hz with rfl | rfl <;> rfl) (by omega) (by omega) ?_); intro C' cap' w6 hc6 hm6 KB; rw [HRS.out] at KB; simp only [List.set_cons_zero, List.set_cons_succ] at KB; (have F3 := KB.facts); simp only [World.size_alloc, World.size_drew, factsL, cellsF, Nat.reduceAdd, List.toList_toArray, List.set_cons_zero, List.set_cons_succ, List.setIfInBounds_toArray, and_true, true_and] at F3)
            have KD := KB.store 10 rfl 1 (.slice C' (ni + 1) cap')
            have KE := (KD.swapRo 7 rfl (vals_snoc (r := ⟨rid, A6, n6, c6, rvs⟩) (KD.ro 7 rfl) (KD.ro 0 rfl))).drop (List.sublist_cons_self _ _)
            clear KB KD FKA k5
            have HBN := hid (HBS.out.right HRR.out HRGT.out HRN.out (y := ⟨rid, A6, n6, c6, rvs⟩) rfl ⟨HRO.out.id, HK0.out.2.1, HK0.out.2.2, HRO.out.vs⟩)
            have KZ := KE.drop (List.Sublist.cons _ (List.sublist_cons_self _ _))
            go_roundg go
            case measure => omega
            case rel => exact ⟨j + 1, p, _, cp, ni + 1, cap', nd, cd, nu, cu, _, C', D, U, _, ld, lu, by omega, by first | rfl | go_num, rfl, by omega, by omega, by omega, by omega, by omega, by omega, by omega, HBN, KZ⟩
    | zero =>
      obtain rfl : j = bm := by omega
      have hd : decide ((j : Int) < (j : Int)) = false := by simp
      have HBJ := hid (show b.rs.length ≤ j by rw [← HBR.out, List.length_map, HBL.out]; exact Nat.le_refl _)
      go_wp2_with fail
      (try rw [Exit.noGoto_ret])
      go_loopw [115] (fun iv wr => ∃ (k nd cd : Nat) (D : Option Addr) (ld : List Rw), k ≤ np ∧ iv = .int .i64 k ∧ nd ≤ p + k ∧ Hid (BSt a b j (p + k) li ld lu) ∧ Hold M none w wr [.ro (RwsIn Ap np (la.drop p)), .own 89 2 (.slice I ni ci) ni (rwCells li), .own 89 2 (.slice D nd cd) nd (rwCells ld), .own 106 3 (.slice U nu cu) nu (prCells lu), .ro (ValsIn li), .ro (ValsIn ld), .ro (PrVals lu), .blk g6 25 #[.string a.nm, .slice I ni ci, .slice D nd cd, .slice U nu cu], .blk g4 25 #[.string ⟨#[]⟩, .slice none 0 0, .slice none 0 0, .slice none 0 0], .cst g3 34 #[.string b.nm, .slice bA bn bc, .int .i64 b.nx, .slice bB j bd], .cst g2 34 #[.string a.nm, .slice aA an ac, .int .i64 a.nx, .slice aB am ad], .ro (ColsIn aA an a.cs), .ro (RwsIn aB am la), .ro (ColsIn bA bn b.cs), .ro (RwsIn bB j lb)]) (fun iv _ => np - (intOf iv).toNat)
      case atStart => exact ⟨0, nd, cd, D, ld, by omega, rfl, by omega, HBS, H⟩
      case round =>
        clear H HBS hnd
        clear nd cd D ld
        obtain ⟨k, nd, cd, D, ld, hk, rfl, hnd, HBS, H⟩ := hrel
        by_cases hlt : k < np
        · have hd5 : decide ((k : Int) < (np : Int)) = true := by simp; omega
          have k0 : (0 : Int) ≤ (k : Int) := by omega
          have k1 : (k : Int) < (np : Int) := by omega
          obtain ⟨x, hx⟩ := get_of HAL.out (show p + k < am by omega)
          have HXX := hid (show a.rs[p + k]? = some x.row by rw [← HAR.out, List.getElem?_map, hx]; rfl)
          have HXO := hid (HAO.out x (List.mem_of_getElem? hx))
          have hxn6 := HSA.out x (List.mem_of_getElem? hx)
          have hx2 : (la.drop p)[k]? = some x := by rw [List.getElem?_drop]; exact hx
          obtain ⟨bx, ox, rfl, hbx', x0, x1, _⟩ := (H.ro 0 rfl).now.at_ hx2
          have hxx : Ro wr _ (VlsIn x.A x.n x.vs) := (H.ro 0 rfl).imp fun w2 h2 => h2.2 x (List.mem_of_getElem? hx2)
          clear hx hx2
          obtain ⟨xid, xA, xn, xc, xvs⟩ := x
          dsimp only at *
          have KX := (H.add hxx).alloc_cst #[.int .i64 xid, .slice xA xn xc] 89
          clear H hxx
          obtain ⟨KL, hKL, KN⟩ := KX.name
          have HF : Hid (∀ wv, Hold M none w wv KL → (wv.cell? ⟨g6, 2, none⟩ = some (.slice D nd cd) ∧ g6 < wv.heap.size) ∧ wv.cell? ⟨wr.heap.size, 0, none⟩ = some (.int .i64 xid) ∧ wv.cell? ⟨wr.heap.size, 1, none⟩ = some (.slice xA xn xc) ∧ wr.heap.size < wv.heap.size) := hid fun wv HC => by
            rw [hKL] at HC
            have y1 := HC.blk_ 9 rfl
            have y2 := HC.cst_ 0 rfl
            exact ⟨⟨cell_of_row _ _ 2 _ _ _ y1, Blk.lt y1⟩, cell_of_row _ _ 0 _ _ _ y2, cell_of_row _ _ 1 _ _ _ y2, Blk.lt y2⟩
          have HRX : Hid (∀ wv, Hold M none w wv KL → Ro wv (Mut M KL) (VlsIn xA xn xvs)) := hid fun wv HC => by
            rw [hKL] at HC ⊢
            exact HC.ro 1 rfl
          have HKL := hid hKL
          clear hKL KX
          go_wp2_with fail
          refine wp_region_any (by kernel_rfl) ?_
          refine wpAny_hold 5 128 (KL) (spL [(122, RowSlot (Mut M KL) xid xvs), (123, RBoxSlot (Mut M KL) xid xvs)]) (by kernel_rfl) (by kernel_rfl) (by kernel_rfl) rfl ?_ (KN.drew) ?_
          · exact stays_cons rowSlot_mono (stays_cons rboxSlot_mono (stays_nil _))
          simp only [List.take_succ_cons, List.take_zero, List.drop_succ_cons, List.drop_zero, Act.put, List.getElem_toArray, List.getElem_cons_zero, List.getElem_cons_succ, List.setIfInBounds_toArray, List.set_cons_succ, List.set_cons_zero]
          refine dw_val rfl rfl rfl ?_; apply Exists.intro; refine ⟨fun wv HC => ?_, ?_⟩
          ·  go_simp <;> rfl
          simp only [Act.put, List.setIfInBounds_toArray, List.set_cons_succ, List.set_cons_zero]
          refine dw_val rfl rfl rfl ?_; apply Exists.intro; refine ⟨fun wv HC => ?_, ?_⟩
          · obtain ⟨⟨f0, f1⟩, f2, f3, f4⟩ := HF.out _ HC; go_simp <;> rfl
          simp only [Act.put, List.setIfInBounds_toArray, List.set_cons_succ, List.set_cons_zero]
          refine dw_val rfl rfl rfl ?_; apply Exists.intro; refine ⟨fun wv HC => ?_, ?_⟩
          · obtain ⟨⟨f0, f1⟩, f2, f3, f4⟩ := HF.out _ HC; go_simp <;> rfl
          simp only [Act.put, List.setIfInBounds_toArray, List.set_cons_succ, List.set_cons_zero]
          refine dw_callR 122 (RowSlot (Mut M KL) xid xvs) (f := 94) (args := #[.agg #[.int .i64 xid, .slice xA xn xc]]) rfl rfl rfl rfl (fun wv => ?_) (fun wv HC hrm hD => ?_) ?_
          · go_simp <;> rfl
          · refine (dcopied_any _ wv HC.mutLt xid xA xn xc xvs (HRX.out _ HC) (by omega)).mono ?_
            rintro e w5 ⟨A5, n5, c5, rfl, h50, h51, h52, h53, b5⟩
            exact ⟨_, rfl, ⟨A5, n5, c5, rfl, h50, h51, h52, h53⟩, HC.call b5, RM.below b5⟩
          rintro x_ wx HCx ⟨A5, n5, c5, rfl, -, -, -, -⟩
          clear HCx
          simp only [Act.put, List.setIfInBounds_toArray, List.set_cons_succ, List.set_cons_zero]
          refine dw_new #[.int .i64 xid, .slice A5 n5 c5] 89 123 (RBoxSlot (Mut M KL) xid xvs) (fun g => .slice (some ⟨g, 0, none⟩) 1 1) rfl rfl rfl rfl (fun wv => ?_) (fun wv HC _hrm hD hro => ?_) ?_
          · go_simp <;> rfl
          · have hsl : RowSlot (Mut M KL) xid xvs (.agg #[.int .i64 xid, .slice A5 n5 c5]) wv := deps_at hD 3 rfl (by kernel_rfl) rfl rfl
            obtain ⟨A6, n6, c6, e6, h1, h2, h3, h4⟩ := hsl
            obtain ⟨rfl, rfl, rfl⟩ : A5 = A6 ∧ n5 = n6 ∧ c5 = c6 := by
              injection e6 with e6
              simp at e6
              exact e6
            exact ⟨_, A5, n5, c5, rfl, h1, h2, h3, h4.step (by simp) (fun b hb _ => Below.heap_alloc wv _ b hb) (fun _ _ h => h), ro_block (hro _ HC.mutLt) rfl⟩
          rintro gn wg HCg hsl
          simp only [Act.put, List.setIfInBounds_toArray, List.set_cons_succ, List.set_cons_zero]
          clear hsl HCg
          refine rel_nil ?_
          rintro wx2 HX
          rintro _hrm HGW
          have hb2 : RBoxSlot (Mut M KL) xid xvs (.slice (some ⟨gn, 0, none⟩) 1 1) wx2 := (GW_on (d := 123) rfl).1 (HGW 4 _ rfl (by omega))
          clear HGW _hrm
          obtain ⟨gq, A6, n6, c6, e6, k0_, k1_, k2_, k3_, k4_⟩ := hb2
          obtain rfl : gn = gq := by injection e6 with e6; injection e6 with e6; injection e6
          clear e6
          rw [HKL.out] at HX k3_
          have k5 := hid k4_.now
          have HK0 := hid (And.intro k0_ (And.intro k1_ k2_))
          clear k4_ k0_ k1_ k2_ HF HRX KN
          have HRS := hid (show rwCells ld ++ [.int .i64 xid, .slice A6 n6 c6] = rwCells (ld ++ [⟨xid, A6, n6, c6, xvs⟩]) from rwCells_snoc1 _ _ _ _ _ _)
          have KA := HX.add k3_
          clear HX k3_
          have FKA := KA.facts
          simp only [World.size_alloc, World.size_drew, factsL, cellsF, Nat.reduceAdd, List.toList_toArray, List.set_cons_zero, List.set_cons_succ, List.setIfInBounds_toArray, and_true, true_and] at FKA
          go_wp2_with (at_builtin; go_must (refine wpList_appAllH KA 5 rfl Tryz.elRw k5.out rfl (.tmp 120) (.tmp 123) rfl rfl rfl (by intro z hz; simp at hz; rcases hz with rfl | rfl <;> rfl) (by omega) (by omega) ?_); intro C' cap' w6 hc6 hm6 KB; rw [HRS.out] at KB; simp only [List.set_cons_zero, List.set_cons_succ] at KB; (have F3 := KB.facts); simp only [World.size_alloc, World.size_drew, factsL, cellsF, Nat.reduceAdd, List.toList_toArray, List.set_cons_zero, List.set_cons_succ, List.setIfInBounds_toArray, and_true, true_and] at F3)
          have KD := KB.store 10 rfl 2 (.slice C' (nd + 1) cap')
          have KE := (KD.swapRo 8 rfl (vals_snoc (r := ⟨xid, A6, n6, c6, xvs⟩) (KD.ro 8 rfl) (KD.ro 0 rfl))).drop (List.sublist_cons_self _ _)
          clear KB KD FKA k5
          have HBN := hid (HBS.out.tail HBJ.out HXX.out (y := ⟨xid, A6, n6, c6, xvs⟩) rfl ⟨HXO.out.id, HK0.out.2.1, HK0.out.2.2, HXO.out.vs⟩)
          have KZ := KE.drop (List.Sublist.cons _ (List.sublist_cons_self _ _))
          go_roundw
          case rel => exact ⟨k + 1, nd + 1, cap', C', _, by omega, by first | rfl | go_num, by omega, HBN, KZ⟩
          case measure => simp [intOf]; omega
        · obtain rfl : np = k := by omega
          have hd5 : decide ((np : Int) < (np : Int)) = false := by simp
          have HFIN := hid (HBS.out.fin HBJ.out (by rw [← HAR.out, List.length_map, HAL.out]; omega))
          have F := H.facts
          simp only [World.size_alloc, World.size_drew, factsL, cellsF, Nat.reduceAdd, List.toList_toArray, List.set_cons_zero, List.set_cons_succ, List.setIfInBounds_toArray, and_true, true_and] at F
          obtain ⟨hi1, hi2, _⟩ := own_caps (H.get 1 rfl)
          obtain ⟨hd1, hd2, _⟩ := own_caps (H.get 2 rfl)
          obtain ⟨hu1, hu2, _⟩ := own_caps (H.get 3 rfl)
          have KS := H.sealRow 1 rfl
          simp only [List.set_cons_zero, List.set_cons_succ] at KS
          have KS2 := KS.sealRow 2 rfl
          simp only [List.set_cons_zero, List.set_cons_succ] at KS2
          have KS3 := KS2.sealRow 3 rfl
          simp only [List.set_cons_zero, List.set_cons_succ] at KS3
          have KN := (((KS3.store 8 rfl 0 (.string a.nm)).store 8 rfl 1 (.slice I ni ci)).store 8 rfl 2 (.slice D nd cd)).store 8 rfl 3 (.slice U nu cu)
          have r1 := (KN.roOut 1 rfl).and (KN.roOut 4 rfl)
          have r2 := (KN.roOut 2 rfl).and (KN.roOut 5 rfl)
          have r3 := (KN.roOut 3 rfl).and (KN.roOut 6 rfl)
          have NK := H.nes
          simp only [nesL, neF, and_true, true_and] at NK
          clear KS KS2 KS3 H
          go_wp2_with fail
          (try rw [Exit.noGoto_ret])
          exact bodyPost_ret (v := .tuple #[.agg #[.string a.nm, .slice I ni ci, .slice D nd cd, .slice U nu cu], .bool true]) (by simp [results, Tryz.results48, go_sem, F, NK]) rfl ⟨_, by rw [HFIN.out], by rw [HFIN.out]; exact ⟨I, ni, ci, D, nd, cd, U, nu, cu, li, ld, lu, rfl, ⟨hi1, hi2⟩, ⟨hd1, hd2⟩, ⟨hu1, hu2⟩, r1, r2, r3, HBS.out.ok1, HBS.out.ok2, HBS.out.ok3, rfl, rfl, rfl⟩, KN.below⟩
end Go.Proofs.YtljmclbedpceoaaGreatDoor

namespace Go.Proofs.YtljmclbedpceoaaGreatDoor
open Go.RowKit
set_option linter.unusedVariables false
set_option linter.unusedSimpArgs false

/-- a difference whose rows are short -/
structure DlShort (d : Dl) : Prop where
  fi : d.ins.length ≤ 4398046511104
  fd : d.del.length ≤ 4398046511104
  fu : d.upd.length ≤ 4398046511104
  ri : ∀ r ∈ d.ins, r.2.length ≤ 4398046511104
  rd : ∀ r ∈ d.del, r.2.length ≤ 4398046511104
  ru : ∀ u ∈ d.upd, u.2.1.length ≤ 4398046511104 ∧ u.2.2.length ≤ 4398046511104

end Go.Proofs.YtljmclbedpceoaaGreatDoor

namespace Go.Proofs.YtljmclbedpceoaaGreatDoor
open Go.RowKit
set_option linter.unusedVariables false
set_option linter.unusedSimpArgs false

end Go.Proofs.YtljmclbedpceoaaGreatDoor

namespace Go.Proofs
open Go.Shelf
def Tryz.sortRows_ren : Go.Shelf.Ren := ⟨fun | 6 => 101 | 15 => 138 | 14 => 137 | 28 => 164 | 29 => 165 | 20 => 156 | 21 => 157 | 22 => 158 | 23 => 159 | 24 => 160 | 25 => 161 | 26 => 162 | 27 => 163 | 46 => 178 | 47 => 179 | 48 => 180 | 49 => 181 | 50 => 182 | 57 => 187 | n => n, fun | 22 => 43 | 24 => 87 | 25 => 103 | 3 => 3 | 39 => 162 | 0 => 0 | 53 => 188 | 55 => 190 | 4 => 4 | 46 => 182 | 45 => 181 | 50 => 133 | 5 => 5 | 9 => 9 | 66 => 200 | 70 => 204 | 76 => 207 | 77 => 208 | n => n, fun | n => n⟩
theorem Tryz.sortRows : Go.Proofs.SlLaysF.n6 Tryz.prog Tryz.sortRows_ren := {
  mixed := by kernel_rfl
  f6 := ⟨Tryz.f101.name, by decide, Tryz.func101.trans (congrArg some (by kernel_rfl))⟩
  f14 := ⟨Tryz.f137.name, by decide, Tryz.func137.trans (congrArg some (by kernel_rfl))⟩
  f15 := Tryz.func138.trans (congrArg some (by kernel_rfl))
  f20 := ⟨Tryz.f156.name, by decide, Tryz.func156.trans (congrArg some (by kernel_rfl))⟩
  f21 := ⟨Tryz.f157.name, by decide, Tryz.func157.trans (congrArg some (by kernel_rfl))⟩
  f22 := ⟨Tryz.f158.name, by decide, Tryz.func158.trans (congrArg some (by kernel_rfl))⟩
  f23 := ⟨Tryz.f159.name, by decide, Tryz.func159.trans (congrArg some (by kernel_rfl))⟩
  f24 := ⟨Tryz.f160.name, by decide, Tryz.func160.trans (congrArg some (by kernel_rfl))⟩
  f25 := ⟨Tryz.f161.name, by decide, Tryz.func161.trans (congrArg some (by kernel_rfl))⟩
  f26 := ⟨Tryz.f162.name, by decide, Tryz.func162.trans (congrArg some (by kernel_rfl))⟩
  f27 := ⟨Tryz.f163.name, by decide, Tryz.func163.trans (congrArg some (by kernel_rfl))⟩
  f28 := Tryz.func164.trans (congrArg some (by kernel_rfl))
  f29 := Tryz.func165.trans (congrArg some (by kernel_rfl))
  f46 := ⟨Tryz.f178.name, by decide, Tryz.func178.trans (congrArg some (by kernel_rfl))⟩
  f47 := Tryz.func179.trans (congrArg some (by kernel_rfl))
  f48 := Tryz.func180.trans (congrArg some (by kernel_rfl))
  f49 := ⟨Tryz.f181.name, by decide, Tryz.func181.trans (congrArg some (by kernel_rfl))⟩
  f50 := ⟨Tryz.f182.name, by decide, Tryz.func182.trans (congrArg some (by kernel_rfl))⟩
  f57 := ⟨Tryz.f187.name, by decide, Tryz.func187.trans (congrArg some (by kernel_rfl))⟩
  t0 := Tryz.underlying0
  a0 := Tryz.isAgg0
  z0 := Tryz.sizeOf0
  v0 := Tryz.zeroValue0
  t3 := Tryz.underlying3
  a3 := Tryz.isAgg3
  z3 := Tryz.sizeOf3
  v3 := Tryz.zeroValue3
  t4 := Tryz.underlying4
  a4 := Tryz.isAgg4
  z4 := Tryz.sizeOf4
  v4 := Tryz.zeroValue4
  t5 := Tryz.underlying5
  a5 := Tryz.isAgg5
  z5 := Tryz.sizeOf5
  v5 := Tryz.zeroValue5
  t9 := Tryz.underlying9
  a9 := Tryz.isAgg9
  z9 := Tryz.sizeOf9
  v9 := Tryz.zeroValue9
  t22 := Tryz.underlying43
  a22 := Tryz.isAgg43
  z22 := Tryz.sizeOf43
  v22 := Tryz.zeroValue43
  a24 := Tryz.isAgg87
  z24 := Tryz.sizeOf87
  t25 := Tryz.underlying103
  a25 := Tryz.isAgg103
  z25 := Tryz.sizeOf103
  v25 := Tryz.zeroValue103
  t39 := Tryz.underlying162
  a39 := Tryz.isAgg162
  z39 := Tryz.sizeOf162
  v39 := Tryz.zeroValue162
  t45 := Tryz.underlying181
  a45 := Tryz.isAgg181
  z45 := Tryz.sizeOf181
  v45 := Tryz.zeroValue181
  t46 := Tryz.underlying182
  a46 := Tryz.isAgg182
  z46 := Tryz.sizeOf182
  v46 := Tryz.zeroValue182
  t50 := Tryz.underlying133
  a50 := Tryz.isAgg133
  z50 := Tryz.sizeOf133
  v50 := Tryz.zeroValue133
  t53 := Tryz.underlying188
  a53 := Tryz.isAgg188
  z53 := Tryz.sizeOf188
  v53 := Tryz.zeroValue188
  t55 := Tryz.underlying190
  a55 := Tryz.isAgg190
  z55 := Tryz.sizeOf190
  v55 := Tryz.zeroValue190
  t66 := Tryz.underlying200
  a66 := Tryz.isAgg200
  z66 := Tryz.sizeOf200
  v66 := Tryz.zeroValue200
  t70 := Tryz.underlying204
  a70 := Tryz.isAgg204
  z70 := Tryz.sizeOf204
  v70 := Tryz.zeroValue204
  t76 := Tryz.underlying207
  a76 := Tryz.isAgg207
  z76 := Tryz.sizeOf207
  v76 := Tryz.zeroValue207
  t77 := Tryz.underlying208
  a77 := Tryz.isAgg208
  z77 := Tryz.sizeOf208
  v77 := Tryz.zeroValue208 }
end Go.Proofs

namespace Go.Proofs.YtljmclbedpceoaaGreatDoor
open Go.RowKit
set_option linter.unusedVariables false

def cmpI (a b : Int) : Int := if a < b then -1 else if b < a then 1 else 0
def cmpS (a b : ByteArray) : Int := if Op.bytesLess a.toList b.toList then -1 else if a.toList == b.toList then 0 else 1

theorem cmp_int (a b : Int) (w : World) :
    Calls Tryz.prog 115 #[.int .i64 a, .int .i64 b] w fun e w' => e = .returned (.int .i64 (cmpI a b)) ∧ w = w' := by
  by_cases h1 : a < b
  · go_enter Tryz.func115, Tryz.ntmps115
    go_wp2
    go_ret
    exact ⟨by simp [cmpI, h1], rfl⟩
  · by_cases h2 : b < a
    · go_enter Tryz.func115, Tryz.ntmps115
      go_wp2
      go_ret
      exact ⟨by simp [cmpI, h1, h2], rfl⟩
    · go_enter Tryz.func115, Tryz.ntmps115
      go_wp2
      go_ret
      exact ⟨by rw [show cmpI a b = 0 from by unfold cmpI; rw [if_neg (by omega), if_neg (by omega)]]; rfl, rfl⟩

theorem cmp_int64 (a b : Int) (w : World) :
    Calls Tryz.prog 167 #[.int .i64 a, .int .i64 b] w fun e w' => e = .returned (.int .i64 (cmpI a b)) ∧ w = w' := by
  by_cases h1 : a < b
  · go_enter Tryz.func167, Tryz.ntmps167
    go_wp2
    go_ret
    exact ⟨by simp [cmpI, h1], rfl⟩
  · by_cases h2 : b < a
    · go_enter Tryz.func167, Tryz.ntmps167
      go_wp2
      go_ret
      exact ⟨by simp [cmpI, h1, h2], rfl⟩
    · go_enter Tryz.func167, Tryz.ntmps167
      go_wp2
      go_ret
      exact ⟨by rw [show cmpI a b = 0 from by unfold cmpI; rw [if_neg (by omega), if_neg (by omega)]]; rfl, rfl⟩

theorem cmp_string (a b : ByteArray) (w : World) :
    Calls Tryz.prog 168 #[.string a, .string b] w fun e w' => e = .returned (.int .i64 (cmpS a b)) ∧ w = w' := by
  cases h1 : Op.bytesLess a.toList b.toList
  · cases h2 : (a.toList == b.toList)
    · go_enter Tryz.func168, Tryz.ntmps168
      go_wp2
      go_ret
      exact ⟨by simp [cmpS, h1, h2], rfl⟩
    · go_enter Tryz.func168, Tryz.ntmps168
      go_wp2
      go_ret
      exact ⟨by simp [cmpS, h1, h2], rfl⟩
  · go_enter Tryz.func168, Tryz.ntmps168
    go_wp2
    go_ret
    exact ⟨by simp [cmpS, h1], rfl⟩

/-- The first number that is not 0, or 0. -/
def firstNZ : List Int → Int
  | [] => 0
  | x :: r => if x = 0 then firstNZ r else x

theorem firstNZ_skip (l : List Int) (k : Nat) (h : ∀ j, j < k → l.getD j 0 = 0) : firstNZ l = firstNZ (l.drop k) := by
  induction k generalizing l with
  | zero => simp
  | succ k ih =>
    cases l with
    | nil => simp
    | cons x r =>
      have h0 : x = 0 := by simpa using h 0 (by omega)
      simp only [firstNZ, h0, if_true, List.drop_succ_cons]
      exact ih r (fun j hj => by simpa using h (j + 1) (by omega))

set_option maxHeartbeats 1000000 in
theorem or_int (A : Option Addr) (n c : Nat) (zs : List Int) (w : World) (B : Nat) (hr : Rd w B 1 A n (zs.map (Value.int .i64))) (hn : n ≤ 9223372036854775807) :
    Calls Tryz.prog 166 #[.slice A n c] w fun e w' => e = .returned (.int .i64 (firstNZ zs)) ∧ w = w' := by
  have hl : zs.length = n := by simpa using hr.1
  have HL := hid hl; clear hl
  go_enter Tryz.func166, Tryz.ntmps166
  go_wp2_with fail
  go_loop [8] (fun i => ∃ k : Nat, k ≤ n ∧ i = .int .i64 k ∧ ∀ j, j < k → zs.getD j 0 = 0) (fun i => n - (intOf i).toNat)
  case atStart => exact ⟨0, by omega, rfl, fun j hj => absurd hj (by omega)⟩
  case round =>
    obtain ⟨k, hk, rfl, hz⟩ := hrel
    have HZ := hid hz; clear hz
    by_cases hlt : k < n
    · obtain ⟨b, o, rfl, hb, hc⟩ := hr.at1 hlt
      rw [ints_get _ _ _ (by rw [HL.out]; omega)] at hc
      obtain ⟨x, hx⟩ : ∃ x, x = zs.getD k 0 := ⟨_, rfl⟩
      rw [← hx] at hc
      have HX := hid hx; clear hx
      by_cases h0 : x = 0
      · have k0 : (x != 0) = false := by simpa using h0
        have H0 := hid h0; clear h0
        go_wp2_with fail
        go_round
        case rel =>
          refine ⟨k + 1, by omega, by go_num, fun j hj => ?_⟩
          by_cases e : j = k
          · subst e; rw [← HX.out]; exact H0.out
          · exact HZ.out j (by omega)
        case measure => simp [intOf]; omega
      · have k0 : (x != 0) = true := by simpa using h0
        have HF : Hid (firstNZ zs = x) := by
          unfold Hid
          rw [firstNZ_skip zs k HZ.out, List.drop_eq_getElem_cons (by rw [HL.out]; omega)]
          have : zs[k]'(by rw [HL.out]; omega) = x := by rw [HX.out]; simp [List.getD, show k < zs.length by rw [HL.out]; omega]
          rw [this, firstNZ, if_neg h0]
        clear h0
        go_wp2_with fail
        go_ret
        exact ⟨by rw [HF.out]; rfl, rfl⟩
    · obtain rfl : k = n := by omega
      have HF : Hid (firstNZ zs = 0) := by
        unfold Hid
        rw [firstNZ_skip zs k HZ.out, List.drop_of_length_le (by rw [HL.out]; omega)]; rfl
      go_wp2
      go_ret
      exact ⟨by rw [HF.out]; rfl, rfl⟩

theorem six {w : World} {g g' : Nat} {t : TypeId} {x y z x' y' z' : Value} (h : Blk w g t #[x, y, z]) (h' : Blk w g' t #[x', y', z']) :
    w.cell? ⟨g, 0, none⟩ = some x ∧ w.cell? ⟨g, 1, none⟩ = some y ∧ w.cell? ⟨g, 2, none⟩ = some z ∧ w.cell? ⟨g', 0, none⟩ = some x' ∧ w.cell? ⟨g', 1, none⟩ = some y' ∧ w.cell? ⟨g', 2, none⟩ = some z' := ⟨h.cell 0, h.cell 1, h.cell 2, h'.cell 0, h'.cell 1, h'.cell 2⟩

/-- The comparison of two values. -/
def cmpV (k1 i1 : Int) (s1 : ByteArray) (k2 i2 : Int) (s2 : ByteArray) : Int := firstNZ [cmpI k1 k2, cmpI i1 i2, cmpS s1 s2]

end Go.Proofs.YtljmclbedpceoaaGreatDoor

namespace Go.Proofs.YtljmclbedpceoaaGreatDoor
open Go.RowKit Go.Sort
set_option linter.unusedVariables false

/-- from w to w' nothing but draws and new blocks -/
def Gr (w w' : World) : Prop := ∃ (q : Nat) (os : Array Obj), w' = grow (w.drewN q) os
theorem Gr.refl (w : World) : Gr w w := ⟨0, #[], by rw [grow_empty]; rfl⟩
theorem Gr.trans {a b c : World} (h : Gr a b) (k : Gr b c) : Gr a c := by
  obtain ⟨q, os, rfl⟩ := h
  obtain ⟨q2, os2, rfl⟩ := k
  exact ⟨q + q2, os ++ os2, by show grow (grow ((a.drewN q).drewN q2) os) os2 = _; rw [grow_grow, World.drewN_drewN]⟩
theorem Gr.alloc (w : World) (o : Obj) : Gr w (w.alloc o) := ⟨0, #[o], by rw [alloc_eq_grow]; rfl⟩
theorem Gr.drew (w : World) : Gr w w.drew := ⟨1, #[], by rw [grow_empty]; rfl⟩
theorem Gr.drewN (w : World) (n : Nat) : Gr w (w.drewN n) := ⟨n, #[], by rw [grow_empty]⟩
theorem Gr.size {w w' : World} (h : Gr w w') : w.heap.size ≤ w'.heap.size := by
  obtain ⟨q, os, rfl⟩ := h
  rw [size_grow]
  exact Nat.le_add_right _ _
theorem Gr.block {w w' : World} (h : Gr w w') {k : Nat} (hk : k < w.heap.size) : w'.heap[k]? = w.heap[k]? := by
  obtain ⟨q, os, rfl⟩ := h
  exact heap_grow_old (w.drewN q) os hk
theorem Gr.below {w w' : World} (h : Gr w w') : Below w.heap.size w w' := by
  have h1 := h.size
  have h2 := fun k (hk : k < w.heap.size) => h.block hk
  obtain ⟨q, os, rfl⟩ := h
  exact ⟨rfl, rfl, rfl, h1, h2⟩
theorem Gr.ro {w w' : World} {M : Nat → Prop} {S : World → Prop} (h : Gr w w') (hs : Ro w M S) : Ro w' M S := hs.below h.below
end Go.Proofs.YtljmclbedpceoaaGreatDoor

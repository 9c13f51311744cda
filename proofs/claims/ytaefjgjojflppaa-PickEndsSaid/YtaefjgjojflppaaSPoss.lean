/- SPoss: the contract of the searcher's possible, with what it defers. -/
import Derived.Test.YtaefjgjojflppaaSExt
import Derived.Defers
import Derived.Deep.LoopGhost
namespace Go.Proofs.Ytaefjgjojflppaa
open Go.RowKit
set_option linter.unusedVariables false
set_option linter.unusedSimpArgs false

/-- not all are used, and none that is left is free -/
def Stuck (f : Nat → Nat → Bool) (n : Nat) (us : List Bool) : Prop := us.length = n ∧ (∃ i, i < n ∧ us.getD i false = false) ∧ ∀ i, i < n → freeU f us n i = false
theorem Try.elBool : ElemT Try.prog 66 4 1 1 (.bool false) := ⟨Try.underlying66, by kernel_rfl, rfl, by omega⟩
theorem made_false (n : Nat) : (madeCells (Value.bool false).cells (n * 1)).toList = bCells (List.replicate n false) := by
  rw [upB_zero]; simp [upB]
theorem count_set {us : List Bool} {k : Nat} (hk : k < us.length) (h : us.getD k false = false) : (us.set k true).countP id = us.countP id + 1 := by
  induction us generalizing k with
  | nil => simp at hk
  | cons x l ih =>
    cases k with
    | zero =>
      simp [List.getD] at h
      subst h
      simp [List.countP_cons]
    | succ k =>
      simp only [List.set_cons_succ, List.countP_cons]
      rw [ih (by simpa using hk) (by simpa [List.getD] using h)]
      omega
theorem unused_of {us : List Bool} {n : Nat} (hl : us.length = n) (h : us.countP id < n) : ∃ i, i < n ∧ us.getD i false = false := by
  refine Classical.byContradiction fun hn => ?_
  have : us.countP id = us.length := List.countP_eq_length.2 fun x hx => by
    obtain ⟨i, hi⟩ := List.getElem?_of_mem hx
    have hil := (List.getElem?_eq_some_iff.1 hi).1
    cases x with
    | true => rfl
    | false => exact absurd ⟨i, by omega, by simp [List.getD, hi]⟩ hn
  omega

theorem below_succ {p : Nat → Prop} {k : Nat} (h : ∀ i, i < k → p i) (hk : p k) : ∀ i, i < k + 1 → p i := fun i hi => by
  rcases Nat.lt_succ_iff_lt_or_eq.1 hi with h' | rfl
  · exact h i h'
  · exact hk
/-- the new list of marks, in its slot -/
def MarkSlot (M : Nat → Prop) (H n : Nat) (u : Value) (w : World) : Prop := ∃ g2 : Nat, u = .slice (some ⟨g2, 0, none⟩) n n ∧ H ≤ g2 ∧ Ro w M (fun w => w.heap[g2]? = some (.cells (madeCells (Value.bool false).cells (n * 1)) 4 (0, 0)))
theorem markSlot_mono {M : Nat → Prop} {H n : Nat} (u : Value) (w w' : World) (hr : RM M w w') (h : MarkSlot M H n u w) : MarkSlot M H n u w' := by
  obtain ⟨g2, h1, h2, h3⟩ := h
  exact ⟨g2, h1, h2, hr.ro h3⟩

set_option maxHeartbeats 4000000 in
set_option maxRecDepth 100000 in
theorem unmark_any (M : Nat → Prop) (w0 w : World) (b0 g u n : Nat) (most : Int) (Bv : Option Addr) (bc : Nat) (f : Nat → Nat → Bool) (us : List Bool) (Nw : Option Addr) (q nc : Nat) (nw : List Int) (O : Option Addr) (m oc : Nat) (ovs : List Value) (outs : List (List Int)) (um : FrameMode)
    (K : Hold M none w0 w (.cst b0 65 #[.pointer (some ⟨g, 0, none⟩)] :: SL g u n most Bv bc f us Nw q nc nw O m oc ovs outs)) (hn : n ≤ 1000) :
    CallsD Try.prog 54 #[.pointer (some ⟨b0, 0, none⟩)] um w fun e u' w' => u' = um ∧ e = .returned (.tuple #[]) ∧ ∃ u2, Hold M none w0 w' (SL g u2 n most Bv bc f (List.replicate n false) Nw q nc nw O m oc ovs outs) := by
  have hmk := fun W => run_make_n (P := Try.prog) Try.elBool n (by omega) (by omega) W
  go_enter_d Try.func54, Try.ntmps54
  go_wp2_with fail
  refine wp_region_any (by kernel_rfl) ?_
  refine wpAny_hold 7 10 (.cst b0 65 #[.pointer (some ⟨g, 0, none⟩)] :: SL g u n most Bv bc f us Nw q nc nw O m oc ovs outs) (spL [(7, MarkSlot (Mut M (.cst b0 65 #[.pointer (some ⟨g, 0, none⟩)] :: SL g u n most Bv bc f us Nw q nc nw O m oc ovs outs)) w.heap.size n)]) (by kernel_rfl) (by kernel_rfl) (by kernel_rfl) rfl ?_ (K.drew) ?_
  · exact stays_cons markSlot_mono (stays_nil _)
  simp only [List.take_succ_cons, List.take_zero, List.drop_succ_cons, List.drop_zero, Act.put, List.getElem_toArray, List.getElem_cons_zero, List.getElem_cons_succ, List.setIfInBounds_toArray, List.set_cons_succ, List.set_cons_zero]
  refine dw_val rfl rfl rfl ?_; apply Exists.intro; refine ⟨fun wv HC => ?_, ?_⟩
  · have FC := HC.facts; simp only [SL, factsL, cellsF, Nat.reduceAdd, List.toList_toArray, and_true, true_and] at FC; go_simp <;> rfl
  simp only [Act.put, List.setIfInBounds_toArray, List.set_cons_succ, List.set_cons_zero]
  refine dw_val rfl rfl rfl ?_; apply Exists.intro; refine ⟨fun wv HC => ?_, ?_⟩
  · have FC := HC.facts; simp only [SL, factsL, cellsF, Nat.reduceAdd, List.toList_toArray, and_true, true_and] at FC; go_simp <;> rfl
  simp only [Act.put, List.setIfInBounds_toArray, List.set_cons_succ, List.set_cons_zero]
  refine dw_val rfl rfl rfl ?_; apply Exists.intro; refine ⟨fun wv HC => ?_, ?_⟩
  ·  go_simp <;> rfl
  simp only [Act.put, List.setIfInBounds_toArray, List.set_cons_succ, List.set_cons_zero]
  refine dw_val rfl rfl rfl ?_; apply Exists.intro; refine ⟨fun wv HC => ?_, ?_⟩
  ·  go_simp <;> rfl
  simp only [Act.put, List.setIfInBounds_toArray, List.set_cons_succ, List.set_cons_zero]
  refine dw_val rfl rfl rfl ?_; apply Exists.intro; refine ⟨fun wv HC => ?_, ?_⟩
  · have FC := HC.facts; simp only [SL, factsL, cellsF, Nat.reduceAdd, List.toList_toArray, and_true, true_and] at FC; go_simp <;> rfl
  simp only [Act.put, List.setIfInBounds_toArray, List.set_cons_succ, List.set_cons_zero]
  refine dw_val rfl rfl rfl ?_; apply Exists.intro; refine ⟨fun wv HC => ?_, ?_⟩
  ·  go_simp <;> rfl
  simp only [Act.put, List.setIfInBounds_toArray, List.set_cons_succ, List.set_cons_zero]
  refine dw_new (madeCells (Value.bool false).cells (n * 1)) 4 7 (MarkSlot (Mut M (.cst b0 65 #[.pointer (some ⟨g, 0, none⟩)] :: SL g u n most Bv bc f us Nw q nc nw O m oc ovs outs)) w.heap.size n) (fun g => .slice (some ⟨g, 0, none⟩) n n) rfl rfl rfl rfl (fun wv => ?_) (fun wv HC hrm hD hro => ⟨_, rfl, hrm.1, hro _ HC.mutLt⟩) ?_
  · go_simp <;> rfl
  rintro g2 wg HCg hsl
  simp only [Act.put, List.setIfInBounds_toArray, List.set_cons_succ, List.set_cons_zero]
  clear hsl HCg
  refine rel_nil ?_
  rintro wx HX
  rintro hrm HG
  have hb2 : MarkSlot (Mut M (.cst b0 65 #[.pointer (some ⟨g, 0, none⟩)] :: SL g u n most Bv bc f us Nw q nc nw O m oc ovs outs)) w.heap.size n (.slice (some ⟨g2, 0, none⟩) n n) wx := (GW_on (d := 7) rfl).1 (HG 6 _ rfl (by omega))
  clear HG
  obtain ⟨g3, e6, k1, k2⟩ := hb2
  obtain rfl : g2 = g3 := by injection e6 with e6; injection e6 with e6; injection e6
  clear e6
  have K2 := Hold.addFresh K.drew HX hrm (n := n) 1 k1 k2.now (by unfold maxLen; omega) (by simp [madeCells])
  rw [made_false] at K2
  have F2 := HX.facts
  simp only [SL, factsL, cellsF, Nat.reduceAdd, List.toList_toArray, and_true, true_and] at F2
  have K3 := K2.store 2 rfl 2 (.slice (some ⟨g2, 0, none⟩) n n)
  clear K2 k2 hmk hrm
  go_wp2_with fail
  have K4 := (K3.sinkN 3).drop (List.Sublist.cons _ (List.Sublist.cons_cons _ (List.sublist_cons_self _ _)))
  go_end0
  exact ⟨rfl, g2, K4⟩

def PossRet (M : Nat → Prop) (w0 : World) (g n : Nat) (most : Int) (Bv : Option Addr) (bc : Nat) (f : Nat → Nat → Bool) (Nw : Option Addr) (q nc : Nat) (nw : List Int) (O : Option Addr) (m oc : Nat) (ovs : List Value) (outs : List (List Int)) (e : Ending) (w' : World) : Prop :=
  ∃ (b : Bool) (u2 : Nat), e = .returned (.bool b) ∧ Hold M none w0 w' (SL g u2 n most Bv bc f (List.replicate n false) Nw q nc nw O m oc ovs outs) ∧ (b = false → ∃ us, Stuck f n us)
set_option maxHeartbeats 8000000 in
set_option maxRecDepth 100000 in
theorem possible_any (M : Nat → Prop) (w0 w : World) (g u n : Nat) (most : Int) (Bv : Option Addr) (bc : Nat) (f : Nat → Nat → Bool) (Nw : Option Addr) (q nc : Nat) (nw : List Int) (O : Option Addr) (m oc : Nat) (ovs : List Value) (outs : List (List Int))
    (K : Hold M none w0 w (SL g u n most Bv bc f (List.replicate n false) Nw q nc nw O m oc ovs outs)) (hn : n ≤ 1000) :
    Calls Try.prog 36 #[.pointer (some ⟨g, 0, none⟩)] w fun e w' => PossRet M w0 g n most Bv bc f Nw q nc nw O m oc ovs outs e w' := by
  have hmf : ∀ (fn : Fn) (first cap : Array Value) (w : World), (Instr.makeFunc fn first cap).run Try.prog w = .ok (.func fn first cap) w := fun _ _ _ _ => rfl
  have K0 := K.alloc_cst #[.pointer (some ⟨g, 0, none⟩)] 65
  obtain ⟨b0, hb0⟩ : ∃ b0, w.heap.size = b0 := ⟨_, rfl⟩
  rw [hb0] at K0
  have F := K0.facts
  simp only [SL, factsL, cellsF, Nat.reduceAdd, List.toList_toArray, and_true, true_and] at F
  clear K
  go_enter_defers Try.func36, Try.ntmps36
  go_wp2
  go_step3
  go_wp2
  go_step3
  go_wp2
  have HB0 := hid hb0
  clear hb0 F hmf
  go_loopg [10] n (fun gh i wr => ∃ (k : Nat) (us : List Bool), k + gh = n ∧ i = .int .i64 k ∧ Hid (us.countP id = k) ∧ Hold M none w0 wr (.cst b0 65 #[.pointer (some ⟨g, 0, none⟩)] :: SL g u n most Bv bc f us Nw q nc nw O m oc ovs outs))
  case atStart => exact ⟨0, List.replicate n false, by omega, rfl, hid (by rw [List.countP_eq_zero]; intro x hx; rw [List.eq_of_mem_replicate hx]; simp), K0⟩
  case round =>
    clear K0
    obtain ⟨k, us, hk, rfl, HC, H⟩ := hrel
    have F := H.facts
    simp only [SL, factsL, cellsF, Nat.reduceAdd, List.toList_toArray, and_true, true_and] at F
    have HLU := hid (show us.length = n by have := (H.get 2 rfl).1; simpa [bCells] using this)
    cases gk with
    | succ go =>
      have hlt : k < n := by omega
      have hd : decide ((k : Int) < (n : Int)) = true := by simp; omega
      go_wp2_with fail
      clear F
      go_loopg [17] n (fun gh j wq => ∃ p : Nat, p + gh = n ∧ j = .int .i64 p ∧ Hid (∀ i, i < p → freeU f us n i = false) ∧ Hold M none w0 wq (.cst b0 65 #[.pointer (some ⟨g, 0, none⟩)] :: SL g u n most Bv bc f us Nw q nc nw O m oc ovs outs))
      case atStart => exact ⟨0, by omega, rfl, hid (fun i hi => absurd hi (by omega)), H⟩
      case round =>
        clear H
        obtain ⟨p, hp, rfl, HNF, H⟩ := hrel
        have F := H.facts
        simp only [SL, factsL, cellsF, Nat.reduceAdd, List.toList_toArray, and_true, true_and] at F
        cases gk with
        | succ gi =>
          have hlt2 : p < n := by omega
          have hd2 : decide ((p : Int) < (n : Int)) = true := by simp; omega
          have i0 : (0 : Int) ≤ (p : Int) := by omega
          have i1 : (p : Int) < (n : Int) := by omega
          cases hfr : freeU f us n p
          · have HFR := hid hfr; clear hfr
            go_wp2_with (go_at_call 55; refine (sfree_any M w0 wr g u n most Bv bc f us Nw q nc nw O m oc ovs outs (H.drop (List.sublist_cons_self _ _)) p hlt2 (by omega)).mono ?_; rintro e w3 ⟨rfl, rfl⟩; rw [HFR.out])
            go_roundg gi
            case measure => omega
            case rel => exact ⟨p + 1, by omega, by go_num, hid (below_succ HNF.out HFR.out), H⟩
          · have HFR := hid hfr; clear hfr
            have hgu : ¬ g = u := H.apart_ 1 2 rfl rfl (by omega) rfl rfl
            have hug : ¬ u = g := fun e => hgu e.symm
            obtain ⟨x, hcx⟩ : ∃ x, wr.cell? ⟨u, p, none⟩ = some x := by
              have := (H.get 2 rfl).cellAt p (by omega)
              exact ⟨_, this.trans (List.getElem?_eq_getElem (by rw [bCells_len, HLU.out]; omega))⟩
            have hfx := (H.get 2 rfl).frozenAt p
            have H1 := H.put_ 2 rfl p (.bool true)
            rw [bCells_set] at H1
            go_wp2_with (go_at_call 55; refine (sfree_any M w0 wr g u n most Bv bc f us Nw q nc nw O m oc ovs outs (H.drop (List.sublist_cons_self _ _)) p hlt2 (by omega)).mono ?_; rintro e w3 ⟨rfl, rfl⟩; rw [HFR.out])
            go_roundg go
            case measure => omega
            case rel =>
              have huk : us.getD p false = false := by
                have := HFR.out
                unfold freeU at this
                simp only [Bool.and_eq_true, Bool.not_eq_true'] at this
                exact this.1
              exact ⟨k + 1, us.set p true, by omega, by go_num, hid (by rw [count_set (by rw [HLU.out]; exact hlt2) huk, HC.out]), H1⟩
        | zero =>
          obtain rfl : n = p := by omega
          have HST := hid (show Stuck f n us from ⟨HLU.out, unused_of HLU.out (by rw [HC.out]; exact hlt), HNF.out⟩)
          go_wp2_with fail
          rw [Exit.noGoto_ret]
          go_wp2_with fail
          refine leaves_cons (f := 54) (args := #[.pointer (some ⟨b0, 0, none⟩)]) (by simp) (by simp [go_sem]) ?_
          refine (unmark_any M w0 wr b0 g u n most Bv bc f us Nw q nc nw O m oc ovs outs .returning H hn).mono ?_
          rintro e u' w'' ⟨rfl, rfl, u2, H2⟩
          exact ⟨_, results_tmp rfl _ _ _, false, u2, rfl, H2, fun _ => ⟨us, HST.out⟩⟩
    | zero =>
      obtain rfl : n = k := by omega
      go_wp2_with fail
      (try rw [Exit.noGoto_ret])
      (try go_wp2_with fail)
      refine leaves_cons (f := 54) (args := #[.pointer (some ⟨b0, 0, none⟩)]) (by simp) (by simp [go_sem]) ?_
      refine (unmark_any M w0 wr b0 g u n most Bv bc f us Nw q nc nw O m oc ovs outs .returning H hn).mono ?_
      rintro e u' w'' ⟨rfl, rfl, u2, H2⟩
      exact ⟨_, results_tmp rfl _ _ _, true, u2, rfl, H2, fun h => (by cases h)⟩
end Go.Proofs.Ytaefjgjojflppaa

/- SExt: the contract of the searcher's extend. -/
import Derived.Test.YtaefjgjojflppaaSFree
import Derived.Test.YtaefjgjojflppaaDraws2
import Derived.StillTailTactics
import Derived.IntWalk
namespace Go.Proofs.Ytaefjgjojflppaa
open Go.RowKit
set_option linter.unusedVariables false
set_option linter.unusedSimpArgs false

/-- all sequences that begin with the present one -/
def extS (f : Nat → Nat → Bool) (n : Nat) : Nat → List Bool → List Int → List (List Int)
  | 0, _, _ => []
  | fuel + 1, us, nw => if nw.length = n then [nw] else (List.range n).flatMap fun i => if freeU f us n i then extS f n fuel (us.set i true) (nw ++ [(i : Int)]) else []
def extB (f : Nat → Nat → Bool) (n fuel : Nat) (us : List Bool) (nw : List Int) (i : Nat) : List (List Int) := if freeU f us n i then extS f n fuel (us.set i true) (nw ++ [(i : Int)]) else []
def extP (f : Nat → Nat → Bool) (n fuel : Nat) (us : List Bool) (nw : List Int) (k : Nat) : List (List Int) := (List.range k).flatMap (extB f n fuel us nw)
theorem extP_succ (f : Nat → Nat → Bool) (n fuel : Nat) (us : List Bool) (nw : List Int) (k : Nat) : extP f n fuel us nw (k + 1) = extP f n fuel us nw k ++ extB f n fuel us nw k := by
  simp [extP, List.range_succ]
theorem extS_full {f : Nat → Nat → Bool} {n fuel : Nat} {us : List Bool} {nw : List Int} (h : nw.length = n) : extS f n (fuel + 1) us nw = [nw] := by simp [extS, h]
theorem extS_part {f : Nat → Nat → Bool} {n fuel : Nat} {us : List Bool} {nw : List Int} (h : nw.length ≠ n) : extS f n (fuel + 1) us nw = extP f n fuel us nw n := by
  unfold extS; rw [if_neg h]; rfl
theorem extP_split (f : Nat → Nat → Bool) (n fuel : Nat) (us : List Bool) (nw : List Int) : ∀ k d, ∃ r, extP f n fuel us nw (k + d) = extP f n fuel us nw k ++ r
  | k, 0 => ⟨[], by simp⟩
  | k, d + 1 => by
    obtain ⟨r, hr⟩ := extP_split f n fuel us nw k d
    exact ⟨r ++ extB f n fuel us nw (k + d), by rw [← Nat.add_assoc, extP_succ, hr, List.append_assoc]⟩
/-- what has been found: as many as are wanted -/
def outP (mo : Nat) (outs l : List (List Int)) : List (List Int) := outs ++ l.take (mo - outs.length)
theorem outP_nil (mo : Nat) (outs : List (List Int)) : outP mo outs [] = outs := by simp [outP]
theorem outP_one {mo : Nat} {outs : List (List Int)} (h : outs.length < mo) (x : List Int) : outP mo outs [x] = outs ++ [x] := by
  unfold outP; rw [List.take_of_length_le (by simp; omega)]
theorem outP_app {mo : Nat} {outs l r : List (List Int)} (h : (outP mo outs l).length < mo) : outP mo (outP mo outs l) r = outP mo outs (l ++ r) := by
  unfold outP at *
  simp only [List.length_append, List.length_take] at h
  have hl : l.length < mo - outs.length := by omega
  rw [List.take_of_length_le (l := l) (by omega), List.take_append, List.take_of_length_le (l := l) (by omega), List.append_assoc, List.length_append]
  congr 3
  omega
theorem outP_stop {mo : Nat} {outs l r : List (List Int)} (h : ¬ (outP mo outs l).length < mo) (h0 : outs.length < mo) : outP mo outs (l ++ r) = outP mo outs l := by
  unfold outP at *
  simp only [List.length_append, List.length_take] at h
  rw [List.take_append_of_le_length (by omega)]
theorem Try.elInt : ElemT Try.prog 33 3 1 8 (.int .i64 0) := ⟨Try.underlying33, by kernel_rfl, rfl, by omega⟩
theorem Try.elInts : ElemT Try.prog 31 33 1 24 (.slice none 0 0) := ⟨Try.underlying31, by kernel_rfl, rfl, by omega⟩

/-- a list handed back by Clone, in its slot -/
def ListSlot (M : Nat → Prop) (xs : List Int) (u : Value) (w : World) : Prop := ∃ (A : Option Addr) (n c : Nat), u = .slice A n c ∧ n ≤ c ∧ c ≤ 9223372036854775807 ∧ Ro w M (IsIn A n xs)
def BoxSlot (M : Nat → Prop) (xs : List Int) (u : Value) (w : World) : Prop := ∃ (g : Nat) (A : Option Addr) (n c : Nat), u = .slice (some ⟨g, 0, none⟩) 1 1 ∧ n ≤ c ∧ c ≤ 9223372036854775807 ∧ Ro w M (IsIn A n xs) ∧ Ro w M (SlR 1 (some ⟨g, 0, none⟩) 1 [.slice A n c])
theorem listSlot_mono {M : Nat → Prop} {xs : List Int} (u : Value) (w w' : World) (hr : RM M w w') (h : ListSlot M xs u w) : ListSlot M xs u w' := by
  obtain ⟨A, n, c, h1, h2, h3, h4⟩ := h
  exact ⟨A, n, c, h1, h2, h3, hr.ro h4⟩
theorem boxSlot_mono {M : Nat → Prop} {xs : List Int} (u : Value) (w w' : World) (hr : RM M w w') (h : BoxSlot M xs u w) : BoxSlot M xs u w' := by
  obtain ⟨g, A, n, c, h1, h2, h3, h4, h5⟩ := h
  exact ⟨g, A, n, c, h1, h2, h3, hr.ro h4, hr.ro h5⟩

theorem outs_snoc {w : World} {ovs : List Value} {outs : List (List Int)} {A : Option Addr} {n c : Nat} {xs : List Int} (h : OutsIn ovs outs w) (k : IsIn A n xs w) (hn : n ≤ c) (hc : c ≤ 9223372036854775807) : OutsIn (ovs ++ [.slice A n c]) (outs ++ [xs]) w := by
  refine ⟨by simp [h.1], fun i v ys hv hy => ?_⟩
  have hl := h.1
  rcases Nat.lt_or_ge i ovs.length with hlt | hge
  · rw [List.getElem?_append_left hlt] at hv
    rw [List.getElem?_append_left (by omega)] at hy
    exact h.2 i v ys hv hy
  · rw [List.getElem?_append_right hge] at hv
    rw [List.getElem?_append_right (by omega)] at hy
    have hi : i - ovs.length = 0 := by
      have := (List.getElem?_eq_some_iff.1 hv).1
      simpa using this
    rw [hi] at hv
    rw [← hl, hi] at hy
    simp at hv hy
    subst hv hy
    exact ⟨A, n, c, rfl, hn, hc, k⟩
/-- What extend leaves. -/
def ExtRet (M : Nat → Prop) (w0 : World) (g u n mo : Nat) (Bv : Option Addr) (bc : Nat) (f : Nat → Nat → Bool) (us : List Bool) (nw : List Int) (outs : List (List Int)) (e : Ending) (w' : World) : Prop :=
  ∃ (Nw : Option Addr) (q nc : Nat) (O : Option Addr) (m oc : Nat) (ovs : List Value), e = .returned (.tuple #[]) ∧ Hold M none w0 w' (SL g u n mo Bv bc f us Nw q nc nw O m oc ovs outs)

set_option maxHeartbeats 8000000 in
set_option maxRecDepth 100000 in
theorem extend_any (M : Nat → Prop) (w0 : World) (g u n mo : Nat) (Bv : Option Addr) (bc : Nat) (f : Nat → Nat → Bool) (hn : n ≤ 1000) (hmo : mo ≤ 1000000) : ∀ (fuel : Nat) (w : World) (us : List Bool) (Nw : Option Addr) (q nc : Nat) (nw : List Int) (O : Option Addr) (m oc : Nat) (ovs : List Value) (outs : List (List Int))
    (K : Hold M none w0 w (SL g u n mo Bv bc f us Nw q nc nw O m oc ovs outs)) (hf : nw.length + fuel = n) (ho : outs.length < mo),
    Calls Try.prog 37 #[.pointer (some ⟨g, 0, none⟩)] w fun e w' => ExtRet M w0 g u n mo Bv bc f us nw (outP mo outs (extS f n (fuel + 1) us nw)) e w' := by
  intro fuel
  induction fuel with
  | zero =>
    intro w us Nw q nc nw O m oc ovs outs K hf ho
    have hq : q = n := by have := (K.get 2 rfl).1; simp [iCells] at this; omega
    have hm : m = outs.length := by have h1 := (K.get 3 rfl).1; have h2 := (K.ro 5 rfl).now.1; omega
    have hmm : m < mo := by omega
    have HMM := hid hm; clear hm
    have HN := hid (show nw.length = n by omega)
    subst hq
    have F := K.facts
    simp only [SL, factsL, cellsF, Nat.reduceAdd, List.toList_toArray, and_true, true_and] at F
    have hbeq : ((q : Int) == (q : Int)) = true := by simp
    have hcq := own_caps (K.get 2 rfl)
    have HX0 := hid (extS_full (f := f) (fuel := 0) (us := us) HN.out)
    go_enter Try.func37, Try.ntmps37
    go_wp2_with fail
    go_quiet (fail)
    have K' := K.drewN nq
    clear K
    generalize w.drewN nq = w1 at *
    go_wp2_with fail
    refine wp_region_any (by kernel_rfl) ?_
    refine wpAny_take (i := 0) (v := .pointer (some ⟨g, 0, none⟩)) rfl (by kernel_rfl) (by kernel_rfl) (by kernel_rfl) (fun _ _ _ h => h) (Or.inl ⟨by rfl, fun w => ?_⟩) ?_
    · go_simp
    refine wpAny_hold 11 89 (SL g u q mo Bv bc f us Nw q nc nw O m oc ovs outs) (spL [(23, ListSlot (Mut M (SL g u q mo Bv bc f us Nw q nc nw O m oc ovs outs)) nw), (24, BoxSlot (Mut M (SL g u q mo Bv bc f us Nw q nc nw O m oc ovs outs)) nw)]) (by kernel_rfl) (by kernel_rfl) (by kernel_rfl) rfl ?_ (K'.drew) ?_
    · exact stays_cons listSlot_mono (stays_cons boxSlot_mono (stays_nil _))
    simp only [List.take_succ_cons, List.take_zero, List.drop_succ_cons, List.drop_zero, Act.put, List.getElem_toArray, List.getElem_cons_zero, List.getElem_cons_succ, List.setIfInBounds_toArray, List.set_cons_succ, List.set_cons_zero]
    refine rel_done rfl ?_
    refine dw_val rfl rfl rfl ?_; apply Exists.intro; refine ⟨fun wv HC => ?_, ?_⟩
    ·  go_simp <;> rfl
    simp only [Act.put, List.setIfInBounds_toArray, List.set_cons_succ, List.set_cons_zero]
    refine dw_val rfl rfl rfl ?_; apply Exists.intro; refine ⟨fun wv HC => ?_, ?_⟩
    ·  go_simp <;> rfl
    simp only [Act.put, List.setIfInBounds_toArray, List.set_cons_succ, List.set_cons_zero]
    refine dw_val rfl rfl rfl ?_; apply Exists.intro; refine ⟨fun wv HC => ?_, ?_⟩
    ·  go_simp <;> rfl
    simp only [Act.put, List.setIfInBounds_toArray, List.set_cons_succ, List.set_cons_zero]
    refine dw_val rfl rfl rfl ?_; apply Exists.intro; refine ⟨fun wv HC => ?_, ?_⟩
    · have FC := HC.facts; simp only [SL, factsL, cellsF, Nat.reduceAdd, List.toList_toArray, and_true, true_and] at FC; go_simp <;> rfl
    simp only [Act.put, List.setIfInBounds_toArray, List.set_cons_succ, List.set_cons_zero]
    refine dw_val rfl rfl rfl ?_; apply Exists.intro; refine ⟨fun wv HC => ?_, ?_⟩
    ·  go_simp <;> rfl
    simp only [Act.put, List.setIfInBounds_toArray, List.set_cons_succ, List.set_cons_zero]
    refine dw_val rfl rfl rfl ?_; apply Exists.intro; refine ⟨fun wv HC => ?_, ?_⟩
    ·  go_simp <;> rfl
    simp only [Act.put, List.setIfInBounds_toArray, List.set_cons_succ, List.set_cons_zero]
    refine dw_val rfl rfl rfl ?_; apply Exists.intro; refine ⟨fun wv HC => ?_, ?_⟩
    ·  go_simp <;> rfl
    simp only [Act.put, List.setIfInBounds_toArray, List.set_cons_succ, List.set_cons_zero]
    refine dw_val rfl rfl rfl ?_; apply Exists.intro; refine ⟨fun wv HC => ?_, ?_⟩
    · have FC := HC.facts; simp only [SL, factsL, cellsF, Nat.reduceAdd, List.toList_toArray, and_true, true_and] at FC; go_simp <;> rfl
    simp only [Act.put, List.setIfInBounds_toArray, List.set_cons_succ, List.set_cons_zero]
    refine dw_call 23 (ListSlot (Mut M (SL g u q mo Bv bc f us Nw q nc nw O m oc ovs outs)) nw) (f := 20) (args := #[.slice Nw q nc]) rfl rfl rfl rfl (fun wv => ?_) (fun wv HC hD => ?_) ?_
    · go_simp <;> rfl
    · have hIn : IsIn Nw q nw wv := Rd.of_own (HC.get 2 rfl)
      refine (cloneInts_any wv Nw q nc nw hIn (by omega)).mono ?_
      rintro e w5 ⟨A5, n5, c5, rfl, h51, h52, b5⟩
      obtain ⟨h53, h54, h55, h56, h57⟩ := OwnInts.chosen HC.mutLt h51 h52 b5
      exact ⟨_, rfl, ⟨A5, n5, c5, rfl, h54, h55, h56⟩, HC.call b5, RM.below b5⟩
    rintro x wx HCx ⟨A5, n5, c5, rfl, h54, h55, h56⟩
    simp only [Act.put, List.setIfInBounds_toArray, List.set_cons_succ, List.set_cons_zero]
    clear HCx h56
    refine dw_new #[.slice A5 n5 c5] 33 24 (BoxSlot (Mut M (SL g u q mo Bv bc f us Nw q nc nw O m oc ovs outs)) nw) (fun g => .slice (some ⟨g, 0, none⟩) 1 1) rfl rfl rfl rfl (fun wv => ?_) (fun wv HC _hrm hD hro => ?_) ?_
    · go_simp <;> rfl
    · have hsl : ListSlot _ nw (.slice A5 n5 c5) wv := deps_at hD 9 rfl (by kernel_rfl) rfl rfl
      obtain ⟨A6, n6, c6, e6, h1, h2, h3⟩ := hsl
      obtain ⟨rfl, rfl, rfl⟩ := Value.slice.inj e6
      exact ⟨_, A5, n5, c5, rfl, h1, h2, h3.step (by simp) (fun b hb _ => Below.heap_alloc wv _ b hb) (fun _ _ h => h), ro_block (hro _ HC.mutLt) rfl⟩
    rintro g2 wg HCg hsl
    simp only [Act.put, List.setIfInBounds_toArray, List.set_cons_succ, List.set_cons_zero]
    clear hsl HCg
    refine rel_nil ?_
    rintro wx2 HX
    rintro _hrm HG
    have hb2 : BoxSlot (Mut M (SL g u q mo Bv bc f us Nw q nc nw O m oc ovs outs)) nw (.slice (some ⟨g2, 0, none⟩) 1 1) wx2 := (GW_on (d := 24) rfl).1 (HG 10 _ rfl (by omega))
    clear HG
    obtain ⟨g3, A6, n6, c6, e6, k1, k2, k3, k4⟩ := hb2
    obtain rfl : g2 = g3 := by injection e6 with e6; injection e6 with e6; injection e6
    clear e6
    have K1 := HX.add k3
    have k5 := hid k4.now
    clear k4
    go_wp2_with (at_builtin; go_must (refine wpList_appAllH K1 4 rfl Try.elInts k5.out rfl (.tmp 18) (.tmp 24) rfl rfl rfl (by intro y hy; simp at hy; subst hy; rfl) (by omega) (by omega) ?_); intro C' cap' w6 hc6 hm6 K2; (have F2 := K2.facts); simp only [World.size_alloc, World.size_drew, factsL, cellsF, Nat.reduceAdd, List.toList_toArray, List.set_cons_zero, List.set_cons_succ, and_true, true_and] at F2)
    have K3 := K2.store 1 rfl 4 (.slice C' (m + 1) cap')
    refine bodyPost_ret (results_none rfl _ _ _) rfl ?_
    have K4 := (K3.swapRo 6 rfl (((K3.ro 6 rfl).and (K3.ro 0 rfl)).imp fun w ⟨a1, a2⟩ => outs_snoc a1 a2 k1 k2)).drop (List.sublist_cons_self _ _)
    refine ⟨Nw, q, nc, C', m + 1, cap', ovs ++ [.slice A6 n6 c6], rfl, ?_⟩
    rw [HX0.out, outP_one ho]
    exact K4
  | succ fuel ih =>
    have IH := hid ih; clear ih
    intro w us Nw q nc nw O m oc ovs outs K hf ho
    have hq : q < n := by have := (K.get 2 rfl).1; simp [iCells] at this; omega
    have hm : m = outs.length := by have h1 := (K.get 3 rfl).1; have h2 := (K.ro 5 rfl).now.1; omega
    have hmm : m < mo := by omega
    have HMM := hid hm; clear hm
    have HN := hid (show nw.length = q by have := (K.get 2 rfl).1; simp [iCells] at this; omega)
    have HLU := hid (show us.length = n by have := (K.get 1 rfl).1; simpa [bCells] using this)
    have HX0 := hid (extS_part (f := f) (n := n) (fuel := fuel + 1) (us := us) (nw := nw) (by rw [HN.out]; omega))
    have HF := hid hf; clear hf
    have F := K.facts
    simp only [SL, factsL, cellsF, Nat.reduceAdd, List.toList_toArray, and_true, true_and] at F
    have hbeq : ((q : Int) == (n : Int)) = false := by simp; omega
    have hcq := own_caps (K.get 2 rfl)
    go_enter Try.func37, Try.ntmps37
    go_wp2_with fail
    go_quiet (fail)
    have K' := K.drewN nq
    clear K
    generalize w.drewN nq = w1 at *
    clear F
    have F := K'.facts
    simp only [SL, factsL, cellsF, Nat.reduceAdd, List.toList_toArray, and_true, true_and] at F
    go_wp2_with fail
    go_loopw [33] (fun i wr => ∃ (k : Nat) (Nw : Option Addr) (nc : Nat) (O : Option Addr) (m oc : Nat) (ovs : List Value), k ≤ n ∧ i = .int .i64 k ∧ Hold M none w0 wr (SL g u n mo Bv bc f us Nw q nc nw O m oc ovs (outP mo outs (extP f n (fuel + 1) us nw k)))) (fun i _ => n - (intOf i).toNat)
    case atStart => exact ⟨0, Nw, nc, O, m, oc, ovs, by omega, rfl, by rw [show extP f n (fuel + 1) us nw 0 = [] from rfl, outP_nil]; exact K'⟩
    case round =>
      clear F K' hcq hmm HMM
      obtain ⟨k, Nw, nc, O, m, oc, ovs, hk, rfl, H⟩ := hrel
      have hm : m = (outP mo outs (extP f n (fuel + 1) us nw k)).length := by have h1 := (H.get 3 rfl).1; have h2 := (H.ro 5 rfl).now.1; omega
      have HMM := hid hm; clear hm
      have F := H.facts
      simp only [SL, factsL, cellsF, Nat.reduceAdd, List.toList_toArray, and_true, true_and] at F
      have hcq := own_caps (H.get 2 rfl)
      by_cases hlt : k < n
      · have hd : decide ((k : Int) < (n : Int)) = true := by simp; omega
        have i0 : (0 : Int) ≤ (k : Int) := by omega
        have i1 : (k : Int) < (n : Int) := by omega
        obtain ⟨d, hd⟩ : ∃ d, n = k + d := ⟨n - k, by omega⟩
        have HSP := hid (extP_split f n (fuel + 1) us nw k d)
        rw [← hd] at HSP
        clear hd
        by_cases hmo2 : m < mo
        · have hg : decide ((mo : Int) ≤ (m : Int)) = false := by simp; omega
          cases hfr : freeU f us n k
          · have HFR := hid hfr; clear hfr
            go_wp2_with fail
            go_quiet (fail)
            have H' := H.drewN nq
            clear H F
            generalize wr.drewN nq = w2 at *
            go_wp2_with fail
            refine (sfree_any M w0 w2 g u n mo Bv bc f us Nw q nc nw O m oc ovs _ H' k hlt (by omega)).mono ?_
            rintro e w3 ⟨rfl, rfl⟩
            rw [HFR.out]
            go_wp2_with fail
            go_roundw
            case rel => exact ⟨k + 1, Nw, nc, O, m, oc, ovs, by omega, by go_num, by rw [extP_succ]; unfold extB; rw [HFR.out]; simpa using H'⟩
            case measure => simp [intOf]; omega
          · have HFR := hid hfr; clear hfr
            go_wp2_with fail
            go_quiet (fail)
            have H' := H.drewN nq
            clear H F
            generalize wr.drewN nq = w2 at *
            have F := H'.facts
            simp only [SL, factsL, cellsF, Nat.reduceAdd, List.toList_toArray, and_true, true_and] at F
            go_wp2_with fail
            refine (sfree_any M w0 w2 g u n mo Bv bc f us Nw q nc nw O m oc ovs _ H' k hlt (by omega)).mono ?_
            rintro e w3 ⟨rfl, rfl⟩
            rw [HFR.out]
            have hgu : ¬ g = u := H'.apart_ 0 1 rfl rfl (by omega) rfl rfl
            have hug : ¬ u = g := fun e => hgu e.symm
            have hcell : ∃ x, w2.cell? ⟨u, k, none⟩ = some x := by
              have := (H'.get 1 rfl).cellAt k (by omega)
              exact ⟨_, this.trans (List.getElem?_eq_getElem (by rw [bCells_len, HLU.out]; omega))⟩
            obtain ⟨x, hcx⟩ := hcell
            have hfx := (H'.get 1 rfl).frozenAt k
            have H1 := H'.put_ 1 rfl k (.bool true)
            rw [bCells_set] at H1
            go_wp2_with (at_builtin; go_must (refine wpList_appH H1 2 rfl Try.elInt #[.int .i64 k] rfl (.tmp 60) (.tmp 62) rfl rfl w2.heap.size (by simp) rfl rfl (by intro y hy; simp at hy; subst hy; rfl) (by omega) (by omega) ?_); intro nb cap3 w3 hc3 hm3 H2; (have F2 := H2.facts); simp only [World.size_alloc, World.size_drew, factsL, cellsF, Nat.reduceAdd, List.toList_toArray, List.set_cons_zero, List.set_cons_succ, and_true, true_and] at F2)
            have e1 : iCells nw ++ (#[Value.int .i64 (k : Int)]).toList = iCells (nw ++ [(k : Int)]) := by simp [iCells]
            rw [e1] at H2
            clear e1
            have H3 := H2.store 0 rfl 3 (.slice (some ⟨nb, 0, none⟩) (q + 1) cap3)
            simp only [SL, List.set_cons_zero, List.set_cons_succ] at H3
            go_wp2_with fail
            refine (IH.out _ (us.set k true) (some ⟨nb, 0, none⟩) (q + 1) cap3 (nw ++ [(k : Int)]) O m oc ovs _ H3 (by have := HF.out; simp; omega) (by rw [← HMM.out]; exact hmo2)).mono ?_
            rintro e w4 ⟨Nw4, q4, nc4, O4, m4, oc4, ovs4, rfl, H4⟩
            clear H1 H2 H3 F2 hcx hfx F
            have hq4 : q4 = q + 1 := by have := (H4.get 2 rfl).1; simp [iCells] at this; have := HN.out; omega
            subst hq4
            have hc4 := own_caps (H4.get 2 rfl)
            obtain ⟨nb4, rfl⟩ : ∃ nb4, Nw4 = some ⟨nb4, 0, none⟩ := by
              rcases own_addr (H4.get 2 rfl) with ⟨_, h, _⟩ | ⟨x, h, _⟩
              · omega
              · exact ⟨x, h⟩
            have F4 := H4.facts
            simp only [SL, factsL, cellsF, Nat.reduceAdd, List.toList_toArray, and_true, true_and] at F4
            have s1 : IntKind.i64.wrap (q : Int) = (q : Int) := IntWalk.i64_in _ (by omega)
            have s2 : (0 : Int) ≤ (q : Int) := by omega
            have s3 : (q : Int) ≤ (nc4 : Int) := by omega
            obtain ⟨x, hcx⟩ : ∃ x, w4.cell? ⟨u, k, none⟩ = some x := by
              have := (H4.get 1 rfl).cellAt k (by omega)
              exact ⟨_, this.trans (List.getElem?_eq_getElem (by rw [bCells_len, List.length_set, HLU.out]; omega))⟩
            have hfx := (H4.get 1 rfl).frozenAt k
            have H5 := (H4.drew.cutRow 2 (n := q) rfl (by omega)).store 0 rfl 3 (.slice (some ⟨nb4, 0, none⟩) q nc4)
            have H6 := H5.put_ 1 rfl k (.bool false)
            rw [bCells_set] at H6
            go_wp2_with fail
            go_still_tail 12, (by kernel_rfl)
            change wpList _ _ _ _ _ (World.drew _)
            go_wp2_with fail
            go_roundw
            case rel =>
              refine ⟨k + 1, some ⟨nb4, 0, none⟩, nc4, O4, m4, oc4, ovs4, by omega, by go_num, ?_⟩
              have huk : us.getD k false = false := by
                have := HFR.out
                unfold freeU at this
                simp only [Bool.and_eq_true, Bool.not_eq_true'] at this
                exact this.1
              have e2 : (us.set k true).set k false = us := by
                rw [List.set_set]
                apply List.ext_getElem?
                intro j
                rw [List.getElem?_set]
                split
                · rename_i hkj; subst hkj
                  have hl : k < us.length := by rw [HLU.out]; exact hlt
                  rw [if_pos hl, List.getElem?_eq_getElem hl]
                  simp only [List.getD, List.getElem?_eq_getElem hl, Option.getD_some] at huk
                  rw [huk]
                · rfl
              have e3 : (iCells (nw ++ [(k : Int)])).take (q * 1) = iCells nw := by
                have hl : (iCells nw).length = q := by rw [iCells_len, HN.out]
                rw [Nat.mul_one, show iCells (nw ++ [(k : Int)]) = iCells nw ++ [Value.int .i64 k] by simp [iCells], List.take_append_of_le_length (by omega), List.take_of_length_le (by omega)]
              have e4 : outP mo (outP mo outs (extP f n (fuel + 1) us nw k)) (extS f n (fuel + 1) (us.set k true) (nw ++ [(k : Int)])) = outP mo outs (extP f n (fuel + 1) us nw (k + 1)) := by
                rw [outP_app (by rw [← HMM.out]; exact hmo2), extP_succ]
                unfold extB
                rw [HFR.out]
                rfl
              rw [← e4]
              rw [e2] at H6
              simp only [List.set_cons_zero, List.set_cons_succ] at H6
              rw [e3] at H6
              exact H6
            case measure => simp [intOf]; omega
        · have hg : decide ((mo : Int) ≤ (m : Int)) = true := by simp; omega
          go_wp2_with fail
          go_quiet (fail)
          have H' := H.drewN nq
          clear H F
          generalize wr.drewN nq = w2 at *
          go_wp2_with fail
          refine bodyPost_ret (results_none rfl _ _ _) rfl ?_
          obtain ⟨r, hr⟩ := HSP.out
          refine ⟨Nw, q, nc, O, m, oc, ovs, rfl, ?_⟩
          rw [HX0.out, hr, outP_stop (by rw [← HMM.out]; exact hmo2) ho]
          exact H'
      · obtain rfl : n = k := by omega
        go_wp2_with fail
        refine bodyPost_ret (results_none rfl _ _ _) rfl ?_
        refine ⟨Nw, q, nc, O, m, oc, ovs, rfl, ?_⟩
        rw [HX0.out]
        exact H
end Go.Proofs.Ytaefjgjojflppaa

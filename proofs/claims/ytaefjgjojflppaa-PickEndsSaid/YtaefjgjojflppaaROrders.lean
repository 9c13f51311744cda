/- ROrders: the contracts of extend and Orders, of pick's reference. -/
import Derived.Test.YtaefjgjojflppaaPOrders
namespace Go.Proofs.Ytaefjgjojflppaa
open Go.RowKit
set_option linter.unusedVariables false
set_option linter.unusedSimpArgs false

/-- what is used, of what is left -/
def usOf (lf : List Bool) : List Bool := lf.map (!·)
theorem usOf_get (lf : List Bool) (k : Nat) (h : k < lf.length) : (usOf lf).getD k false = !lf.getD k false := by simp [usOf, List.getD, h]
theorem usOf_set (lf : List Bool) (k : Nat) : usOf (lf.set k false) = (usOf lf).set k true := by simp [usOf, List.map_set]
theorem lef_blk (its : List It) (lf : List Bool) (l : List Lk) (i : Nat) : ∀ m, m ≤ lf.length → lefB its lf l i m = blkU (ordF its l) (usOf lf) i m
  | 0, _ => rfl
  | m + 1, h => by
    rw [lefB_succ, blkU_succ, lef_blk its lf l i m (by omega), usOf_get lf m (by omega), Bool.not_not, Bool.and_assoc]
    rfl
theorem free_eq {its : List It} {lf : List Bool} {l : List Lk} {i : Nat} (h : lf.length = its.length) (hi : i < its.length) : freeB its lf l i = freeU (ordF its l) (usOf lf) its.length i := by
  unfold freeB freeU
  rw [lef_blk _ _ _ _ _ (by omega), usOf_get lf i (by omega), Bool.not_not]
theorem take_step {P E : List (List Int)} {mo : Nat} : P.take mo ++ E.take (mo - (P.take mo).length) = (P ++ E).take mo := by
  rw [List.take_append]
  congr 2
  rw [List.length_take]
  omega
theorem outs_app {w : World} {ovs ovs' : List Value} {outs outs' : List (List Int)} (h : OutsIn ovs outs w) (k : OutsIn ovs' outs' w) : OutsIn (ovs ++ ovs') (outs ++ outs') w := by
  refine ⟨by simp [h.1, k.1], fun i v ys hv hy => ?_⟩
  have hl := h.1
  rcases Nat.lt_or_ge i ovs.length with hlt | hge
  · rw [List.getElem?_append_left hlt] at hv
    rw [List.getElem?_append_left (by omega)] at hy
    exact h.2 i v ys hv hy
  · rw [List.getElem?_append_right hge] at hv
    rw [List.getElem?_append_right (by omega)] at hy
    rw [← hl] at hy
    exact k.2 _ v ys hv hy
/-- the answer: as many as are wanted -/
def extT (f : Nat → Nat → Bool) (n fuel : Nat) (us : List Bool) (nw : List Int) (most : Int) : List (List Int) := if most < 1 then [] else (extS f n fuel us nw).take most.toNat
theorem extT_nat {f : Nat → Nat → Bool} {n fuel : Nat} {us : List Bool} {nw : List Int} {mo m2 : Nat} (h : m2 ≤ mo) : extT f n fuel us nw ((mo : Int) - (m2 : Int)) = (extS f n fuel us nw).take (mo - m2) := by
  unfold extT
  split
  · rw [show mo - m2 = 0 by omega, List.take_zero]
  · rw [show ((mo : Int) - (m2 : Int)).toNat = mo - m2 by omega]
theorem extT_len (f : Nat → Nat → Bool) (n fuel : Nat) (us : List Bool) (nw : List Int) (most : Int) : (extT f n fuel us nw most).length ≤ most.toNat := by
  unfold extT
  split
  · simp
  · rw [List.length_take]; omega
theorem outs_one {ovs : List Value} {outs : List (List Int)} {w : World} (h : OutsIn ovs outs w) : ∀ u ∈ ovs, u.oneCell' = true := fun u hu => by
  obtain ⟨k, hk⟩ := List.getElem?_of_mem hu
  have hkl := (List.getElem?_eq_some_iff.1 hk).1
  obtain ⟨A, n, c, rfl, _⟩ := h.2 k u (outs[k]'(by rw [← h.1]; exact hkl)) hk (List.getElem?_eq_getElem (by rw [← h.1]; exact hkl))
  rfl
abbrev RL (u n : Nat) (lf : List Bool) (A : Option Addr) (its : List It) (B : Option Addr) (m : Nat) (l : List Lk) (Q : Option Addr) (q : Nat) (nw : List Int) (F : List Hp) : List Hp :=
  .own 4 1 (.slice (some ⟨u, 0, none⟩) n n) n (bCells lf) :: .ro (ItsIn A n its) :: .ro (LksIn B m l) :: .ro (IsIn Q q nw) :: F
/-- What extend of the reference leaves. -/
def RExtRet (M : Nat → Prop) (w0 : World) (L : List Hp) (outs : List (List Int)) (e : Ending) (w' : World) : Prop :=
  ∃ (O : Option Addr) (m oc : Nat) (ovs : List Value), e = .returned (.slice O m oc) ∧ m = outs.length ∧ m ≤ oc ∧ oc ≤ 9223372036854775807 ∧ Hold M none w0 w' (.ro (SlR 1 O m ovs) :: .ro (OutsIn ovs outs) :: L)

set_option maxHeartbeats 8000000 in
set_option maxRecDepth 100000 in
theorem rextend_any (M : Nat → Prop) (w0 : World) (u n : Nat) (A : Option Addr) (c : Nat) (its : List It) (B : Option Addr) (m d : Nat) (l : List Lk) (hn : n ≤ 1000) (hm : m ≤ 9223372036854775807) : ∀ (fuel : Nat) (w : World) (lf : List Bool) (Q : Option Addr) (q qc : Nat) (nw : List Int) (most : Int) (F : List Hp)
    (K : Hold M none w0 w (RL u n lf A its B m l Q q nw F)) (hf : nw.length + fuel = n) (hmo : most ≤ 1000000) (hI : I64 most),
    Calls Try.prog 41 #[.slice A n c, .slice B m d, .int .i64 most, .slice (some ⟨u, 0, none⟩) n n, .slice Q q qc] w fun e w' => RExtRet M w0 (RL u n lf A its B m l Q q nw F) (extT (ordF its l) n (fuel + 1) (usOf lf) nw most) e w' := by
  intro fuel
  induction fuel with
  | zero =>
    intro w lf Q q qc nw most F K hf hmo hI
    have hq : q = n := by have := (K.ro 3 rfl).now.len; omega
    subst hq
    have hbeq : ((q : Int) == (q : Int)) = true := by simp
    by_cases hlo : most < 1
    · have hd : decide (most < 1) = true := by simpa using hlo
      have HZ := hid (show extT (ordF its l) q (0 + 1) (usOf lf) nw most = [] by simp [extT, hlo])
      go_enter Try.func41, Try.ntmps41
      go_wp2_with fail
      go_ret
      rw [HZ.out]
      exact ⟨none, 0, 0, [], rfl, rfl, by omega, by omega, (K.add (S := OutsIn [] []) (fun _ _ _ => ⟨rfl, fun k v xs hv _ => by simp at hv⟩)).add ro_nil⟩
    · have hd : decide (most < 1) = false := by simpa using hlo
      have HZ := hid (show extT (ordF its l) q (0 + 1) (usOf lf) nw most = [nw] by
        unfold extT; rw [if_neg hlo, extS_full (by omega), List.take_of_length_le (by simp; omega)])
      have K1 := K.nil 3 1
      have r1 := hid (K.ro 3 rfl).now
      go_enter Try.func41, Try.ntmps41
      go_wp2_with (at_builtin; go_must (refine wpList_appAllH K1 0 rfl Try.elInt r1.out rfl (.const (.slice none 0 0)) (.tmp 20) rfl rfl rfl (iCells_one _) (by omega) (by omega) ?_); intro C' cap' w2 hc1 hm1 K2)
      have K3 := (K2.sealRow 0 rfl).alloc_cst #[.slice C' (0 + q) cap'] 33
      simp only [Nat.zero_add, List.nil_append, List.set_cons_zero] at K3 hc1
      have k4 := ro_block (n := 1) (size := 1) (K3.get 0 rfl) rfl
      have k5 : Ro _ _ (OutsIn [.slice C' q cap'] [nw]) := (K3.ro 1 rfl).imp fun w hw => by
        have := outs_snoc (ovs := []) (outs := []) ⟨rfl, fun k v xs hv _ => by simp at hv⟩ (show IsIn C' q nw w from hw) hc1 hm1
        simpa using this
      have K6 := (K3.add k5).add (k4.less (mut_none rfl))
      have K7 := K6.drop (List.Sublist.cons_cons _ (List.Sublist.cons_cons _ (List.Sublist.cons _ (List.sublist_cons_self _ _))))
      go_ret
      rw [HZ.out]
      exact ⟨_, 1, 1, _, by first | rfl | simp, rfl, by omega, by omega, K7⟩
  | succ fuel ih =>
    have IH := hid ih; clear ih
    intro w lf Q q qc nw most F K hf hmo hI
    have hq : q < n := by have := (K.ro 3 rfl).now.len; omega
    have hbeq : ((q : Int) == (n : Int)) = false := by simp; omega
    have HQ := hid (show nw.length = q from (K.ro 3 rfl).now.len)
    have HLI := hid (show its.length = n from (K.ro 1 rfl).now.len)
    have HLF := hid (show lf.length = n by have := (K.get 0 rfl).1; simpa [bCells] using this)
    have HF := hid hf; clear hf
    by_cases hlo : most < 1
    · have hd : decide (most < 1) = true := by simpa using hlo
      have HZ := hid (show extT (ordF its l) n (fuel + 1 + 1) (usOf lf) nw most = [] by simp [extT, hlo])
      go_enter Try.func41, Try.ntmps41
      go_wp2_with fail
      go_ret
      rw [HZ.out]
      exact ⟨none, 0, 0, [], rfl, rfl, by omega, by omega, (K.add (S := OutsIn [] []) (fun _ _ _ => ⟨rfl, fun k v xs hv _ => by simp at hv⟩)).add ro_nil⟩
    · have hd : decide (most < 1) = false := by simpa using hlo
      obtain ⟨mo, rfl⟩ := Int.eq_ofNat_of_zero_le (show 0 ≤ most by omega)
      have HZ := hid (show extT (ordF its l) n (fuel + 1 + 1) (usOf lf) nw mo = (extP (ordF its l) n (fuel + 1) (usOf lf) nw n).take mo by
        unfold extT; rw [if_neg hlo, extS_part (by rw [HQ.out]; omega)]; rfl)
      have K1 := (K.add (S := OutsIn [] []) (fun _ _ _ => ⟨rfl, fun k v xs hv _ => by simp at hv⟩)).nil 33 1
      go_enter Try.func41, Try.ntmps41
      go_wp2_with fail
      go_loopw [11, 25] (fun v i wr => ∃ (k : Nat) (O : Option Addr) (m2 oc : Nat) (ovs : List Value), k ≤ n ∧ i = .int .i64 k ∧ v = .slice O m2 oc ∧ Hold M none w0 wr (.own 33 1 (.slice O m2 oc) m2 ovs :: .ro (OutsIn ovs ((extP (ordF its l) n (fuel + 1) (usOf lf) nw k).take mo))   :: RL u n lf A its B m l Q q nw F)) (fun _ i _ => n - (intOf i).toNat)
      case atStart => exact ⟨0, none, 0, 0, [], by omega, rfl, rfl, by rw [show extP (ordF its l) n (fuel + 1) (usOf lf) nw 0 = [] from rfl, List.take_nil]; exact K1⟩
      case round =>
        clear K1 K
        obtain ⟨k, O, m2, oc, ovs, hk, rfl, rfl, H⟩ := hrel
        have HM2 := hid (show m2 = ((extP (ordF its l) n (fuel + 1) (usOf lf) nw k).take mo).length by have h1 := (H.get 0 rfl).1; have h2 := (H.ro 1 rfl).now.1; omega)
        have hm2 : m2 ≤ mo := by have := HM2.out; rw [List.length_take] at this; omega
        have hcO := own_caps (H.get 0 rfl)
        by_cases hlt : k < n
        · have hd : decide ((k : Int) < (n : Int)) = true := by simp; omega
          have i0 : (0 : Int) ≤ (k : Int) := by omega
          have i1 : (k : Int) < (n : Int) := by omega
          have HFE := hid (free_eq (l := l) (show lf.length = its.length by rw [HLF.out, HLI.out]) (show k < its.length by rw [HLI.out]; exact hlt))
          rw [HLI.out] at HFE
          have hRl : Ro wr None_ (BsIn (some ⟨u, 0, none⟩) n lf) := (Rd.of_own (H.get 2 rfl)).ro (Nat.le_refl _) (fun _ _ h => h)
          cases hfr : freeU (ordF its l) (usOf lf) n k
          · have HFR := hid hfr; clear hfr
            go_wp2_with fail
            refine (rfree_any None_ wr (fun _ h => h.elim) A n c its (some ⟨u, 0, none⟩) n lf B m d l k hlt ((H.ro 3 rfl).less (fun _ h => h.elim)) hRl ((H.ro 4 rfl).less (fun _ h => h.elim)) (by omega) hm).mono ?_
            rintro e w4 ⟨rfl, b4⟩
            rw [HFE.out, HFR.out]
            have K4 := H.call b4
            clear b4 H hRl
            go_wp2_with fail
            go_roundw
            case rel => exact ⟨k + 1, O, m2, oc, ovs, by omega, by go_num, rfl, by rw [extP_succ]; unfold extB; rw [HFR.out]; simpa using K4⟩
            case measure => simp [intOf]; omega
          · have HFR := hid hfr; clear hfr
            go_wp2_with fail
            refine (rfree_any None_ wr (fun _ h => h.elim) A n c its (some ⟨u, 0, none⟩) n lf B m d l k hlt ((H.ro 3 rfl).less (fun _ h => h.elim)) hRl ((H.ro 4 rfl).less (fun _ h => h.elim)) (by omega) hm).mono ?_
            rintro e w4 ⟨rfl, b4⟩
            rw [HFE.out, HFR.out]
            have K4 := H.call b4
            clear b4 H hRl
            obtain ⟨x, hcx⟩ : ∃ x, w4.cell? ⟨u, k, none⟩ = some x := by
              have := (K4.get 2 rfl).cellAt k (by omega)
              exact ⟨_, this.trans (List.getElem?_eq_getElem (by rw [bCells_len, HLF.out]; omega))⟩
            have hfx := (K4.get 2 rfl).frozenAt k
            have K5 := K4.put_ 2 rfl k (.bool false)
            rw [bCells_set] at K5
            have K6 := K5.nil 3 1
            have r1 := hid (K6.ro 6 rfl).now
            have s1 : IntKind.i64.wrap ((mo : Int) - (m2 : Int)) = (mo : Int) - (m2 : Int) := IntWalk.i64_in _ (by omega)
            go_wp2_with (first
              | (at_builtin; refine wpList_appAllH K6 0 rfl Try.elInt r1.out rfl (.const (.slice none 0 0)) (.tmp 45) rfl rfl rfl (iCells_one _) (by omega) (by omega) ?_; intro C' cap' w5 hc1 hm1 K7; simp only [Nat.zero_add, List.nil_append, List.set_cons_zero] at K7 hc1)
              | (at_builtin; refine wpList_appH K7 0 rfl Try.elInt #[.int .i64 k] rfl (.tmp 46) (.tmp 48) rfl rfl w5.heap.size rfl rfl rfl (by intro z hz; simp at hz; subst hz; rfl) (by omega) (by omega) ?_; intro g8 cap8 w8 hc8 hm8 K8)
              | fail)
            have e1 : iCells nw ++ (#[Value.int .i64 (k : Int)]).toList = iCells (nw ++ [(k : Int)]) := by simp [iCells]
            rw [e1] at K8
            clear e1
            simp only [List.set_cons_zero, List.set_cons_succ] at K8
            have K9 := K8.sealRow 0 rfl
            simp only [List.set_cons_zero, List.set_cons_succ] at K9
            have K10 : Hold M none w0 w8 (RL u n (lf.set k false) A its B m l (some ⟨g8, 0, none⟩) (q + 1) (nw ++ [(k : Int)]) (.own 33 1 (.slice O m2 oc) m2 ovs :: .ro (OutsIn ovs ((extP (ordF its l) n (fuel + 1) (usOf lf) nw k).take mo)) :: .ro (IsIn Q q nw) :: F)) := ((K9.sinkN 5).sinkN 5).sinkN 5
            clear K4 K5 K6 K7 K8 K9 hcx hfx
            refine (IH.out _ (lf.set k false) _ (q + 1) cap8 (nw ++ [(k : Int)]) ((mo : Int) - (m2 : Int)) _ K10 (by have := HF.out; simp; omega) (by omega) (by have h1 := hI; unfold I64 at h1 ⊢; omega)).mono ?_
            rintro e w11 ⟨O', m', oc', ovs', rfl, hm', hoc', hoc2, K11⟩
            have hm3 : m' ≤ 1000000 := by have := extT_len (ordF its l) n (fuel + 1) (usOf (lf.set k false)) (nw ++ [(k : Int)]) ((mo : Int) - (m2 : Int)); omega
            have HM' := hid hm'; clear hm'
            clear K10
            have r11 := hid (K11.ro 0 rfl).now
            have o11 := hid (outs_one (K11.ro 1 rfl).now)
            go_wp2_with (first
              | (at_builtin; refine wpList_appAllH K11 6 rfl Try.elInts r11.out rfl (.tmp 37) (.tmp 50) rfl rfl rfl o11.out (by omega) (by omega) ?_; intro C' cap' w13 hc13 hm13 K13; obtain ⟨x, hcx⟩ : ∃ x, w13.cell? ⟨u, k, none⟩ = some x := ⟨_, ((K13.get 2 rfl).cellAt k (by omega)).trans (List.getElem?_eq_getElem (by rw [bCells_len, List.length_set, HLF.out]; omega))⟩; have hfx := (K13.get 2 rfl).frozenAt k)
              | fail)
            have K14 := K13.put_ 2 rfl k (.bool true)
            rw [bCells_set] at K14
            have K15 := K14.swapRo 7 rfl (((K14.ro 7 rfl).and (K14.ro 1 rfl)).imp fun w ⟨a1, a2⟩ => outs_app a1 a2)
            simp only [RL, List.set_cons_zero, List.set_cons_succ] at K15
            have K16 := K15.drop (List.Sublist.cons _ (List.Sublist.cons _ (List.Sublist.cons_cons _ (List.Sublist.cons_cons _ (List.Sublist.cons_cons _ (List.sublist_cons_self _ _))))))
            have K17 := ((K16.sinkN 4).sinkN 4).sinkN 4
            have htk : lf.getD k false = true := by
              have := HFR.out
              unfold freeU at this
              simp only [Bool.and_eq_true, Bool.not_eq_true'] at this
              have h2 := usOf_get lf k (by rw [HLF.out]; exact hlt)
              rw [this.1] at h2
              simpa using h2.symm
            have e2 : (lf.set k false).set k true = lf := by
              rw [List.set_set]
              apply List.ext_getElem?
              intro j
              rw [List.getElem?_set]
              split
              · rename_i hkj; subst hkj
                have hl : k < lf.length := by rw [HLF.out]; exact hlt
                rw [if_pos hl, List.getElem?_eq_getElem hl]
                simp only [List.getD, List.getElem?_eq_getElem hl, Option.getD_some] at htk
                rw [htk]
              · rfl
            have e4 : (extP (ordF its l) n (fuel + 1) (usOf lf) nw k).take mo ++ extT (ordF its l) n (fuel + 1) (usOf (lf.set k false)) (nw ++ [(k : Int)]) ((mo : Int) - (m2 : Int)) = (extP (ordF its l) n (fuel + 1) (usOf lf) nw (k + 1)).take mo := by
              rw [extT_nat hm2, HM2.out, take_step, extP_succ, usOf_set]
              unfold extB
              rw [HFR.out]
              rfl
            rw [e2, e4] at K17
            clear K11 K13 K14 K15 K16 HFR HFE HM' hcx hfx r11 o11
            refine ⟨⟨k + 1, C', m2 + m', cap', _, by omega, by go_num, rfl, K17⟩, ?_⟩
            simp [intOf]; omega
        · obtain rfl : n = k := by omega
          go_wp2_with fail
          go_ret
          have K5 := H.sealRow 0 rfl
          rw [HZ.out]
          exact ⟨_, _, _, _, by first | rfl | simp, HM2.out, hcO.1, hcO.2.1, K5⟩

set_option maxHeartbeats 4000000 in
theorem rorders_any (M : Nat → Prop) (w : World) (hM : ∀ b, M b → b < w.heap.size) (A : Option Addr) (n c : Nat) (its : List It) (B : Option Addr) (m d : Nat) (l : List Lk) (most : Int) (hD : Ro w M (ItsIn A n its)) (hE : Ro w M (LksIn B m l)) (hn : n ≤ 1000) (hm : m ≤ 9223372036854775807) (hmo : most ≤ 1000000) (hI : I64 most) :
    Calls Try.prog 23 #[.slice A n c, .slice B m d, .int .i64 most] w fun e w' => ListsRet w M (ordL (ordF its l) n most) e w' := by
  have HL := hid hD.now.len
  have K0 := ((((Hold.start M w hM).add (S := IsIn none 0 []) (fun _ _ _ => Rd.none_)).add (hE.less (by simp [Mut, Hp.foot]))).add (hD.less (by simp [Mut, Hp.foot])))
  go_enter Try.func23, Try.ntmps23
  go_wp2_with fail
  refine (rfull_any _ n (by omega)).mono ?_
  rintro e w1 ⟨rfl, ho, hg⟩
  obtain ⟨u, hu⟩ : ∃ u, u = w.heap.size := ⟨_, rfl⟩
  have K1 := K0.callOwn (w' := w1) ⟨hg.os, hg.tape, hg.output, hg.size, fun k hk => hg.block k hk (by simp)⟩ ho
  rw [← hu] at K1 ⊢
  have HU := hid hu
  clear hu ho hg
  go_wp2_with fail
  refine (rextend_any M w u n A c its B m d l hn hm n w1 (List.replicate n true) none 0 0 [] most [] K1 (by simp) hmo hI).mono ?_
  rintro e w2 ⟨O, m2, oc, ovs, rfl, hm2, hoc, hoc2, K2⟩
  have HM2 := hid hm2; clear hm2
  go_wp2_with fail
  go_ret
  have e1 : extT (ordF its l) n (n + 1) (usOf (List.replicate n true)) [] most = ordL (ordF its l) n most := by
    unfold extT ordL usOf
    simp
  rw [e1] at K2 HM2
  exact ⟨O, m2, oc, ovs, rfl, HM2.out, hoc, hoc2, K2.roOut 0 rfl, K2.roOut 1 rfl, K2.below⟩
end Go.Proofs.Ytaefjgjojflppaa

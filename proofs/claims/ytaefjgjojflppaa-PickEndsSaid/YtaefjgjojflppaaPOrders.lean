/- POrders: the contract of pick.Orders. -/
import Derived.Test.YtaefjgjojflppaaOrdPlain
namespace Go.Proofs.Ytaefjgjojflppaa
open Go.RowKit
set_option linter.unusedVariables false
set_option linter.unusedSimpArgs false

theorem Try.elBools : ElemT Try.prog 67 66 1 24 (.slice none 0 0) := ⟨Try.underlying67, by kernel_rfl, rfl, by omega⟩
/-- the first k rows of a square -/
def RowsIn (rows : List Value) (f : Nat → Nat → Bool) (n k : Nat) (w : World) : Prop :=
  rows.length = k ∧ ∀ j, j < k → ∃ (A : Option Addr) (c : Nat), rows[j]? = some (.slice A n c) ∧ n ≤ c ∧ SlR 1 A n (bCells ((List.range n).map (f j))) w
theorem rows_snoc {rows : List Value} {f : Nat → Nat → Bool} {n k : Nat} {w : World} {A : Option Addr} {c : Nat} (h : RowsIn rows f n k w) (hc : n ≤ c) (hr : SlR 1 A n (bCells ((List.range n).map (f k))) w) : RowsIn (rows ++ [.slice A n c]) f n (k + 1) w := by
  refine ⟨by simp [h.1], fun j hj => ?_⟩
  rcases Nat.lt_succ_iff_lt_or_eq.1 hj with hj | rfl
  · obtain ⟨A', c', h1, h2, h3⟩ := h.2 j hj
    exact ⟨A', c', by rw [List.getElem?_append_left (by rw [h.1]; exact hj)]; exact h1, h2, h3⟩
  · exact ⟨A, c, by rw [List.getElem?_append_right (by rw [h.1]; exact Nat.le_refl _), h.1]; simp, hc, hr⟩
theorem mat_of {rows : List Value} {f : Nat → Nat → Bool} {n : Nat} {w : World} {B : Option Addr} (h : SlR 1 B n rows w) (hr : RowsIn rows f n n w) : MatIn B n f w := fun k hk => by
  obtain ⟨A, c, h1, h2, h3⟩ := hr.2 k hk
  obtain ⟨b, o, rfl, hb, hc⟩ := (show Rd w w.heap.size 1 B n rows from h).2 (by omega)
  obtain ⟨rb, ro, rfl, hrb, hrc⟩ := (show Rd w w.heap.size 1 A n _ from h3).2 (by omega)
  refine ⟨b, o, rb, ro, c, rfl, hb, hc k _ h1, hrb, h2, fun i hi => hrc i _ ?_⟩
  rw [bCells_get, List.getElem?_map, List.getElem?_range hi]
  rfl
/-- Lists of numbers handed back, in memory that nobody writes. -/
def ListsRet (w : World) (M : Nat → Prop) (outs : List (List Int)) (e : Ending) (w' : World) : Prop :=
  ∃ (O : Option Addr) (m oc : Nat) (ovs : List Value), e = .returned (.slice O m oc) ∧ m = outs.length ∧ m ≤ oc ∧ oc ≤ 9223372036854775807 ∧ Ro w' M (SlR 1 O m ovs) ∧ Ro w' M (OutsIn ovs outs) ∧ Below w.heap.size w w'
theorem listsRet_nil {w w' : World} {M : Nat → Prop} (hb : Below w.heap.size w w') : ListsRet w M [] (.returned (.slice none 0 0)) w' :=
  ⟨none, 0, 0, [], rfl, rfl, by omega, by omega, ro_nil, fun _ _ _ => ⟨rfl, fun k v xs hv _ => by simp at hv⟩, hb⟩
/-- which item comes before which -/
def ordF (its : List It) (l : List Lk) (k i : Nat) : Bool := precB l (trAt its k) (trAt its i)

set_option maxHeartbeats 8000000 in
set_option maxRecDepth 100000 in
theorem porders_any (M : Nat → Prop) (w : World) (hM : ∀ b, M b → b < w.heap.size) (A : Option Addr) (n c : Nat) (its : List It) (B : Option Addr) (m d : Nat) (l : List Lk) (most : Int) (hD : Ro w M (ItsIn A n its)) (hE : Ro w M (LksIn B m l)) (hn : n ≤ 1000) (hm : m ≤ 9223372036854775807) (hmo : most ≤ 1000000) (hI : I64 most) :
    Calls Try.prog 11 #[.slice A n c, .slice B m d, .int .i64 most] w fun e w' => ListsRet w M (ordL (ordF its l) n most) e w' := by
  have HL := hid hD.now.len
  have K0 := (((Hold.start M w hM).add (hE.less (by simp [Mut]))).add (hD.less (by simp [Mut, Hp.foot]))).add (S := RowsIn [] (ordF its l) n 0) (fun _ _ _ => ⟨rfl, fun j hj => absurd hj (by omega)⟩)
  go_enter Try.func11, Try.ntmps11
  go_wp2_with (at_make; go_must (refine wpList_makeH K0 Try.elBool rfl (.tmp 15) (.tmp 15) rfl n rfl rfl (by omega) (by unfold maxLen; omega) ?_); intro u w1 hu K1; (have HU := hid hu); clear hu)
  rw [made_false] at K1
  have K2 := (K1.nil 66 1).alloc #[.slice none 0 0, .int .i64 most, .slice (some ⟨u, 0, none⟩) n n, .slice none 0 0, .slice none 0 0] 69
  obtain ⟨g, hg⟩ : ∃ g, g = w1.heap.size := ⟨_, rfl⟩
  rw [← hg] at K2 ⊢
  have HG := hid hg
  clear hg K0 K1
  go_loopw [21] (fun i wr => ∃ (k bc : Nat) (Bv : Option Addr) (rows : List Value), k ≤ n ∧ i = .int .i64 k ∧ Hold M none w wr [.blk g 69 #[.slice Bv k bc, .int .i64 most, .slice (some ⟨u, 0, none⟩) n n, .slice none 0 0, .slice none 0 0], .own 66 1 (.slice Bv k bc) k rows, .own 4 1 (.slice (some ⟨u, 0, none⟩) n n) n (bCells (List.replicate n false)), .ro (RowsIn rows (ordF its l) n k), .ro (ItsIn A n its), .ro (LksIn B m l)]) (fun i _ => n - (intOf i).toNat)
  case atStart => exact ⟨0, 0, none, [], by omega, rfl, K2⟩
  case round =>
    clear K2
    obtain ⟨k, bc, Bv, rows, hk, rfl, H⟩ := hrel
    by_cases hlt : k < n
    · have hd : decide ((k : Int) < (n : Int)) = true := by simp; omega
      obtain ⟨x, hx⟩ := get_of HL.out hlt
      obtain ⟨ga, oa, rfl, hb, x0, x1, x2, x3⟩ := (H.ro 4 rfl).now.at_ hx
      have HX := hid (trAt_of hx); clear hx
      obtain ⟨wo, rfl⟩ : ∃ wo : World, wo = wr := ⟨_, rfl⟩
      have KA := (H.alloc_cst #[.string x.tr, .int .i64 x.row, .slice x.oa x.on x.oc, .slice x.na x.nn x.nc] 27).nil 4 1
      go_wp2_with fail
      go_loopw [10, 27] (fun v j wq => ∃ (p rc : Nat) (RA : Option Addr), p ≤ n ∧ v = .slice RA p rc ∧ j = .int .i64 p ∧ Hold M none w wq [.own 4 1 (.slice RA p rc) p (bCells ((List.range p).map (ordF its l k))), .cst wo.heap.size 27 #[.string x.tr, .int .i64 x.row, .slice x.oa x.on x.oc, .slice x.na x.nn x.nc], .blk g 69 #[.slice Bv k bc, .int .i64 most, .slice (some ⟨u, 0, none⟩) n n, .slice none 0 0, .slice none 0 0], .own 66 1 (.slice Bv k bc) k rows, .own 4 1 (.slice (some ⟨u, 0, none⟩) n n) n (bCells (List.replicate n false)), .ro (RowsIn rows (ordF its l) n k), .ro (ItsIn (some ⟨ga, oa, none⟩) n its), .ro (LksIn B m l)]) (fun _ j _ => n - (intOf j).toNat)
      case atStart => exact ⟨0, 0, none, by omega, rfl, rfl, KA⟩
      case round =>
        clear KA
        obtain ⟨p, rc, RA, hp, rfl, rfl, H2⟩ := hrel
        have F2 := H2.facts
        simp only [World.size_alloc, World.size_drew, factsL, cellsF, Nat.reduceAdd, List.toList_toArray, and_true, true_and] at F2
        by_cases hlt2 : p < n
        · have hd2 : decide ((p : Int) < (n : Int)) = true := by simp; omega
          obtain ⟨y, hy⟩ := get_of HL.out hlt2
          obtain ⟨g', o', ho', hb', e0, e1, e2, e3⟩ := (H2.ro 6 rfl).now.at_ hy
          obtain ⟨rfl, rfl⟩ : ga = g' ∧ oa = o' := by injection ho' with ho'; injection ho' with a1 a2; exact ⟨a1, a2⟩
          clear ho'
          have HY := hid (trAt_of hy); clear hy
          have KB := H2.alloc_cst #[.string y.tr, .int .i64 y.row, .slice y.oa y.on y.oc, .slice y.na y.nn y.nc] 27
          go_wp2_with fail
          refine (prec_any (Mut M _) _ KB.mutLt B m d l x.tr y.tr (KB.ro 8 rfl) hm).mono ?_
          rintro e w5 ⟨rfl, b5⟩
          have K5 := KB.call b5
          have HP := hid (show precB l x.tr y.tr = ordF its l k p by unfold ordF; rw [HX.out, HY.out])
          rw [HP.out]
          clear b5 KB F2
          go_wp2_with (at_builtin; go_must (refine wpList_appH K5 1 rfl Try.elBool #[.bool (ordF its l k p)] rfl (.tmp 31) (.tmp 38) rfl rfl w5.heap.size rfl rfl rfl (by intro z hz; simp at hz; subst hz; rfl) (by omega) (by omega) ?_); intro g2 cap2 w6 hc2 hm2 K6)
          go_roundw
          case rel =>
            have e : bCells ((List.range p).map (ordF its l k)) ++ (#[Value.bool (ordF its l k p)]).toList = bCells ((List.range (p + 1)).map (ordF its l k)) := by simp [bCells, List.range_succ]
            rw [e] at K6
            exact ⟨p + 1, cap2, _, by omega, rfl, by go_num, K6.drop (List.sublist_cons_self _ _)⟩
          case measure => simp [intOf]; omega
        · obtain rfl : n = p := by omega
          have hcr := own_caps (H2.get 0 rfl)
          have KS := H2.sealRow 0 rfl
          simp only [List.set_cons_zero] at KS
          go_wp2_with (at_builtin; go_must (refine wpList_appH KS 3 rfl Try.elBools #[.slice RA n rc] rfl (.tmp 45) (.tmp 47) rfl rfl wr.heap.size rfl rfl rfl (by intro z hz; simp at hz; subst hz; rfl) (by omega) (by omega) ?_); intro g2 cap2 w6 hc2 hm2 K6; (have F6 := K6.facts); simp only [World.size_alloc, World.size_drew, factsL, cellsF, Nat.reduceAdd, List.toList_toArray, List.set_cons_zero, List.set_cons_succ, and_true, true_and] at F6)
          have K7 := K6.store 2 rfl 0 (.slice (some ⟨g2, 0, none⟩) (k + 1) cap2)
          have K8 := K7.swapRo 5 rfl (((K7.ro 5 rfl).and (K7.ro 0 rfl)).imp fun w ⟨a1, a2⟩ => rows_snoc a1 hcr.1 a2)
          simp only [List.set_cons_zero, List.set_cons_succ] at K8
          go_wp2_with fail
          go_roundw
          case rel => exact ⟨k + 1, cap2, _, _, by omega, by go_num, K8.drop (List.Sublist.cons _ (List.sublist_cons_self _ _))⟩
          case measure => simp [intOf]; omega
    · obtain rfl : n = k := by omega
      have K1 := H.sealRow 1 rfl
      have K2 := K1.swapRo 1 (S' := MatIn Bv n (ordF its l)) rfl (((K1.ro 1 rfl).and (K1.ro 3 rfl)).imp fun w ⟨a1, a2⟩ => mat_of a1 a2)
      simp only [List.set_cons_zero, List.set_cons_succ] at K2
      have K3 := (K2.drop (L' := [.blk g 69 #[.slice Bv n bc, .int .i64 most, .slice (some ⟨u, 0, none⟩) n n, .slice none 0 0, .slice none 0 0], .ro (MatIn Bv n (ordF its l)), .own 4 1 (.slice (some ⟨u, 0, none⟩) n n) n (bCells (List.replicate n false))]) (List.Sublist.cons_cons _ (List.Sublist.cons_cons _ (List.Sublist.cons_cons _ (List.nil_sublist _))))).perm (List.Perm.cons _ (List.Perm.swap _ _ _))
      have K4 := (((K3.add (S := OutsIn [] []) (fun _ _ _ => ⟨rfl, fun k v xs hv _ => by simp at hv⟩)).sinkN 3).nil 33 1).sinkN 2
      have K5 : Hold M none w wr (SL g u n most Bv bc (ordF its l) (List.replicate n false) none 0 0 [] none 0 0 [] []) := (K4.nil 3 1).sinkN 2
      clear K1 K2 K3 K4 H
      by_cases hlo : most < 1
      · have hd : decide (most < 1) = true := by simpa using hlo
        have HZ := hid (ordL_low (f := ordF its l) (n := n) hlo)
        go_wp2_with fail
        go_ret
        rw [HZ.out]
        exact listsRet_nil K5.below
      · have hd : decide (most < 1) = false := by simpa using hlo
        obtain ⟨mo, rfl⟩ := Int.eq_ofNat_of_zero_le (show 0 ≤ most by omega)
        go_wp2_with fail
        refine (possible_any M w wr g u n mo Bv bc _ none 0 0 [] none 0 0 [] [] K5 hn).mono ?_
        rintro e w2 ⟨b, u2, rfl, H2, hst⟩
        have HST := hid hst; clear hst
        cases b
        · have HZ := hid (ordL_stuck (most := (mo : Int)) (HST.out rfl))
          go_wp2_with fail
          go_ret
          rw [HZ.out]
          exact listsRet_nil H2.below
        · go_wp2_with fail
          refine (extend_any M w g u2 n mo Bv bc (ordF its l) hn (by omega) n w2 (List.replicate n false) none 0 0 [] none 0 0 [] [] H2 (by simp) (by simp; omega)).mono ?_
          rintro e w3 ⟨Nw3, q3, nc3, O3, m3, oc3, ovs3, rfl, H3⟩
          have F3 := H3.facts
          simp only [SL, factsL, cellsF, Nat.reduceAdd, List.toList_toArray, and_true, true_and] at F3
          have hoc := own_caps (H3.get 3 rfl)
          have HM3 := hid (show m3 = (outP mo [] (extS (ordF its l) n (n + 1) (List.replicate n false) [])).length by have h1 := (H3.get 3 rfl).1; have h2 := (H3.ro 5 rfl).now.1; omega)
          have KS := H3.sealRow 3 rfl
          have HO := hid (ordL_out (f := ordF its l) (n := n) (mo := mo) (by omega))
          go_wp2_with fail
          go_ret
          rw [← HO.out]
          exact ⟨O3, m3, oc3, ovs3, rfl, HM3.out, hoc.1, hoc.2.1, KS.roOut 3 rfl, KS.roOut 5 rfl, KS.below⟩
end Go.Proofs.Ytaefjgjojflppaa

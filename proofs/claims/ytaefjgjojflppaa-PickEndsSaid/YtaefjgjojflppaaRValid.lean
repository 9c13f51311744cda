/- RValid: the contract of Valid, of order's reference. -/
import Derived.Test.YtaefjgjojflppaaRLink
import Derived.StillTailTactics
import Derived.Deep.LoopGhost
import Derived.IntWalk
namespace Go.Proofs.Ytaefjgjojflppaa
open Go.RowKit
set_option linter.unusedVariables false
set_option linter.unusedSimpArgs false

def lkAt (l : List Lk) (i : Nat) : Lk := l.getD i ⟨⟨#[]⟩, ⟨#[]⟩⟩
theorem lkAt_of {l : List Lk} {i : Nat} {x : Lk} (h : l[i]? = some x) : lkAt l i = x := by simp [lkAt, List.getD, h]
/-- the link x follows on y, or the link that it asks is there -/
def trB (l : List Lk) (x y : Lk) : Bool := !(x.b.toList == y.a.toList) || precB l x.a y.b
def okAt (l : List Lk) (i : Nat) : Bool := !((lkAt l i).a.toList == (lkAt l i).b.toList) && (i == 0 || befB (lkAt l (i - 1)) (lkAt l i)) && l.all (trB l (lkAt l i))
def validB (l : List Lk) : Bool := (List.range l.length).all (okAt l)
theorem all_succ {p : Nat → Bool} {k : Nat} (h : (List.range k).all p = true) (hp : p k = true) : (List.range (k + 1)).all p = true := by
  rw [List.range_succ, List.all_append, h]; simpa using hp
theorem all_no {p : Nat → Bool} {k n : Nat} (hk : k < n) (hp : p k = false) : (List.range n).all p = false := by
  rw [List.all_eq_false]; exact ⟨k, by simpa using hk, by simp [hp]⟩
theorem take_all {α : Type} {p : α → Bool} {l : List α} {k : Nat} {x : α} (h : (l.take k).all p = true) (hx : l[k]? = some x) (hp : p x = true) : (l.take (k + 1)).all p = true := by
  obtain ⟨hk, rfl⟩ := List.getElem?_eq_some_iff.1 hx
  rw [List.take_succ_eq_append_getElem hk, List.all_append, h]; simpa using hp
theorem all_miss {α : Type} {p : α → Bool} {l : List α} {k : Nat} {x : α} (hx : l[k]? = some x) (hp : p x = false) : l.all p = false := by
  rw [List.all_eq_false]; exact ⟨x, List.mem_of_getElem? hx, by simp [hp]⟩

set_option maxHeartbeats 4000000 in
set_option maxRecDepth 100000 in
theorem rvalid_any (M : Nat → Prop) (w : World) (hM : ∀ b, M b → b < w.heap.size) (A : Option Addr) (n c : Nat) (l : List Lk) (hD : Ro w M (LksIn A n l)) (hn : n ≤ 1000000) :
    Calls Try.prog 56 #[.slice A n c] w fun e w' => e = .returned (.bool (validB l)) ∧ Below w.heap.size w w' := by
  have HL := hid hD.now.len
  have K0 := (Hold.start M w hM).add (hD.less (by simp [Mut]))
  go_enter Try.func56, Try.ntmps56
  go_wp2_with fail
  go_loopw [9] (fun i wr => ∃ (k : Nat), k ≤ n ∧ i = .int .i64 k ∧ Hid ((List.range k).all (okAt l) = true) ∧ Hold M none w wr [.ro (LksIn A n l)]) (fun i _ => n - (intOf i).toNat)
  case atStart => exact ⟨0, by omega, rfl, hid rfl, K0⟩
  case round =>
    obtain ⟨k, hk, rfl, HV, H⟩ := hrel
    obtain ⟨wo, rfl⟩ : ∃ wo : World, wo = wr := ⟨_, rfl⟩
    by_cases hlt : k < n
    · have hd : decide ((k : Int) < (n : Int)) = true := by simp; omega
      obtain ⟨x, hx⟩ := get_of HL.out hlt
      obtain ⟨g, o, rfl, hb, c0, c1⟩ := (H.ro 0 rfl).now.at_ hx
      have HX := hid (lkAt_of hx); clear hx
      have K1 := H.alloc_cst #[.string x.a, .string x.b] 30
      have F1 := K1.facts
      simp only [World.size_alloc, World.size_drew, factsL, cellsF, Nat.reduceAdd, List.toList_toArray, and_true, true_and] at F1
      have HB0 := hid (And.intro c0 c1)
      cases hs : (x.a.toList == x.b.toList)
      · by_cases hk0 : k = 0
        · have hkd : decide (0 < k) = false := by simp; omega
          have HK0 := hid hk0
          have HSF := hid hs
          clear hk0
          go_wp2_with fail
          go_quiet (fail)
          go_wp2_with fail
          go_loopw [35] (fun j wq => ∃ p : Nat, p ≤ n ∧ j = .int .i64 p ∧ Hid ((l.take p).all (trB l x) = true) ∧ Hold M none w wq [.cst wo.heap.size 30 #[.string x.a, .string x.b], .ro (LksIn (some ⟨g, o, none⟩) n l)]) (fun j _ => n - (intOf j).toNat)
          case atStart => exact ⟨0, by omega, rfl, hid rfl, K1.drewN _⟩
          case round =>
            obtain ⟨p, hp, rfl, HP, H2⟩ := hrel
            by_cases hlt2 : p < n
            · have hd2 : decide ((p : Int) < (n : Int)) = true := by simp; omega
              obtain ⟨y, hy⟩ := get_of HL.out hlt2
              obtain ⟨g', o', ho', hb', e0, e1⟩ := (H2.ro 1 rfl).now.at_ hy
              obtain ⟨rfl, rfl⟩ : g = g' ∧ o = o' := by injection ho' with ho'; injection ho' with a1 a2; exact ⟨a1, a2⟩
              clear ho'
              have HY := hid hy; clear hy
              have K2 := H2.alloc_cst #[.string y.a, .string y.b] 30
              have F2 := H2.facts
              simp only [World.size_alloc, World.size_drew, factsL, cellsF, Nat.reduceAdd, List.toList_toArray, and_true, true_and] at F2
              cases h4 : (x.b.toList == y.a.toList)
              · have HT := hid (show trB l x y = true by simp only [trB, h4]; rfl)
                go_wp2_with fail
                go_roundw
                case rel => exact ⟨p + 1, by omega, by go_num, hid (take_all HP.out HY.out HT.out), K2.drop (List.sublist_cons_self _ _)⟩
                case measure => simp [intOf]; omega
              · cases hpr : precB l x.a y.b
                · have HT := hid (show trB l x y = false by simp only [trB, h4, hpr]; rfl)
                  go_wp2_with (go_at_call 21; refine (rprec_any (Mut M _) _ K2.mutLt _ n c l x.a y.b (K2.ro 2 rfl) (by omega)).mono ?_; rintro e w5 ⟨rfl, b5⟩; have K5 := K2.call b5; rw [hpr])
                  go_ret
                  exact ⟨by rw [show validB l = false from all_no (k := k) (by rw [HL.out]; exact hlt) (by unfold okAt; rw [HX.out, all_miss HY.out HT.out]; simp)] <;> rfl, K5.below⟩
                · have HT := hid (show trB l x y = true by simp only [trB, h4, hpr]; rfl)
                  go_wp2_with (go_at_call 21; refine (rprec_any (Mut M _) _ K2.mutLt _ n c l x.a y.b (K2.ro 2 rfl) (by omega)).mono ?_; rintro e w5 ⟨rfl, b5⟩; have K5 := K2.call b5; rw [hpr])
                  go_roundw
                  case rel => exact ⟨p + 1, by omega, by go_num, hid (take_all HP.out HY.out HT.out), K5.drop (List.sublist_cons_self _ _)⟩
                  case measure => simp [intOf]; omega
            · obtain rfl : n = p := by omega
              have HPA := HP.out
              rw [List.take_of_length_le (by rw [HL.out]; omega)] at HPA
              have HPB := hid HPA; clear HPA
              go_wp2_with fail
              go_roundw
              case rel => exact ⟨k + 1, by omega, by go_num, hid (all_succ HV.out (by unfold okAt; rw [HX.out, HPB.out, HSF.out]; simp [HK0.out])), H2.drop (List.sublist_cons_self _ _)⟩
              case measure => simp [intOf]; omega
        · obtain ⟨k, rfl⟩ : ∃ m, k = m + 1 := ⟨k - 1, by omega⟩
          have HSF := hid hs
          have hw : IntKind.i64.wrap (k : Int) = (k : Int) := IntWalk.i64_in _ (by omega)
          have i0 : (0 : Int) ≤ (k : Int) := by omega
          have i1 : (k : Int) < (n : Int) := by omega
          have hkd : decide ((0 : Int) < (k : Int) + 1) = true := by simp
          clear hk0
          obtain ⟨z, hz⟩ := get_of HL.out (show k < n by omega)
          obtain ⟨g', o', ho', hb', e0, e1⟩ := (K1.ro 1 rfl).now.at_ hz
          obtain ⟨rfl, rfl⟩ : g = g' ∧ o = o' := by injection ho' with ho'; injection ho' with a1 a2; exact ⟨a1, a2⟩
          clear ho'
          have HZ := hid (lkAt_of hz); clear hz
          cases hbf : befB z x
          · have HBF := hid hbf
            go_wp2_with fail
            generalize wo.alloc (.cells #[.string x.a, .string x.b] 30) = w1 at *
            go_still_tail 15, (by kernel_rfl)
            change wpList _ _ _ _ _ (World.drew _)
            go_wp2_with (go_at_call 63; refine (before_any z x _).mono ?_; rintro e w5 ⟨rfl, b5⟩; have K5 := K1.drew.call b5; rw [HBF.out])
            go_wp2_with fail
            go_ret
            exact ⟨by rw [show validB l = false from all_no (k := (k + 1)) (by rw [HL.out]; exact hlt) (by unfold okAt; rw [HX.out]; simp only [HBF.out, lkAt_of, Nat.add_sub_cancel, HZ.out]; simp)] <;> rfl, by first | exact (K5).below | exact (K5).drew.below | exact ((K5).drewN _).below⟩
          · have HBF := hid hbf
            go_wp2_with fail
            generalize wo.alloc (.cells #[.string x.a, .string x.b] 30) = w1 at *
            go_still_tail 15, (by kernel_rfl)
            change wpList _ _ _ _ _ (World.drew _)
            go_wp2_with (go_at_call 63; refine (before_any z x _).mono ?_; rintro e w5 ⟨rfl, b5⟩; have K5 := K1.drew.call b5; rw [HBF.out])
            go_loopw [35] (fun j wq => ∃ p : Nat, p ≤ n ∧ j = .int .i64 p ∧ Hid ((l.take p).all (trB l x) = true) ∧ Hold M none w wq [.cst wo.heap.size 30 #[.string x.a, .string x.b], .ro (LksIn (some ⟨g, o, none⟩) n l)]) (fun j _ => n - (intOf j).toNat)
            case atStart => exact ⟨0, by omega, rfl, hid rfl, K5⟩
            case round =>
              obtain ⟨p, hp, rfl, HP, H2⟩ := hrel
              by_cases hlt2 : p < n
              · have hd2 : decide ((p : Int) < (n : Int)) = true := by simp; omega
                obtain ⟨y, hy⟩ := get_of HL.out hlt2
                obtain ⟨g', o', ho', hb', e0, e1⟩ := (H2.ro 1 rfl).now.at_ hy
                obtain ⟨rfl, rfl⟩ : g = g' ∧ o = o' := by injection ho' with ho'; injection ho' with a1 a2; exact ⟨a1, a2⟩
                clear ho'
                have HY := hid hy; clear hy
                have K2 := H2.alloc_cst #[.string y.a, .string y.b] 30
                have F2 := H2.facts
                simp only [World.size_alloc, World.size_drew, factsL, cellsF, Nat.reduceAdd, List.toList_toArray, and_true, true_and] at F2
                cases h4 : (x.b.toList == y.a.toList)
                · have HT := hid (show trB l x y = true by simp only [trB, h4]; rfl)
                  go_wp2_with fail
                  go_roundw
                  case rel => exact ⟨p + 1, by omega, by go_num, hid (take_all HP.out HY.out HT.out), K2.drop (List.sublist_cons_self _ _)⟩
                  case measure => simp [intOf]; omega
                · cases hpr : precB l x.a y.b
                  · have HT := hid (show trB l x y = false by simp only [trB, h4, hpr]; rfl)
                    go_wp2_with (go_at_call 21; refine (rprec_any (Mut M _) _ K2.mutLt _ n c l x.a y.b (K2.ro 2 rfl) (by omega)).mono ?_; rintro e w5 ⟨rfl, b5⟩; have K5 := K2.call b5; rw [hpr])
                    go_ret
                    exact ⟨by rw [show validB l = false from all_no (k := (k + 1)) (by rw [HL.out]; exact hlt) (by unfold okAt; rw [HX.out, all_miss HY.out HT.out]; simp)] <;> rfl, K5.below⟩
                  · have HT := hid (show trB l x y = true by simp only [trB, h4, hpr]; rfl)
                    go_wp2_with (go_at_call 21; refine (rprec_any (Mut M _) _ K2.mutLt _ n c l x.a y.b (K2.ro 2 rfl) (by omega)).mono ?_; rintro e w5 ⟨rfl, b5⟩; have K5 := K2.call b5; rw [hpr])
                    go_roundw
                    case rel => exact ⟨p + 1, by omega, by go_num, hid (take_all HP.out HY.out HT.out), K5.drop (List.sublist_cons_self _ _)⟩
                    case measure => simp [intOf]; omega
              · obtain rfl : n = p := by omega
                have HPA := HP.out
                rw [List.take_of_length_le (by rw [HL.out]; omega)] at HPA
                have HPB := hid HPA; clear HPA
                go_wp2_with fail
                go_roundw
                case rel => exact ⟨(k + 1) + 1, by omega, by go_num, hid (all_succ HV.out (by unfold okAt; rw [HX.out, HPB.out, HSF.out]; simp [HZ.out, HBF.out])), H2.drop (List.sublist_cons_self _ _)⟩
                case measure => simp [intOf]; omega
      · have HS := hid hs
        go_wp2_with fail
        go_quiet (fail)
        go_wp2_with fail
        go_ret
        exact ⟨by rw [show validB l = false from all_no (k := k) (by rw [HL.out]; exact hlt) (by unfold okAt; rw [HX.out]; simp only [HS.out]; simp)] <;> rfl, by first | exact (K1).below | exact (K1).drew.below | exact ((K1).drewN _).below⟩
    · obtain rfl : k = n := by omega
      go_wp2_with fail
      go_ret
      exact ⟨by rw [show validB l = true from by unfold validB; rw [HL.out]; exact HV.out] <;> rfl, H.below⟩
end Go.Proofs.Ytaefjgjojflppaa

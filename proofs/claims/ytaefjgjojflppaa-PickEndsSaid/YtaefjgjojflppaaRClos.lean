/- RClos: the contract of the closure, of order's reference. -/
import Derived.Test.YtaefjgjojflppaaLinkPlain
namespace Go.Proofs.Ytaefjgjojflppaa
open Go.RowKit
set_option linter.unusedVariables false
set_option linter.unusedSimpArgs false

def ClosRet (w : World) (M : Nat → Prop) (l : List Lk) (e : Ending) (w' : World) : Prop := ∃ r, ClosOf l r ∧ LksRet w M r e w'

set_option maxHeartbeats 4000000 in
set_option maxRecDepth 100000 in
theorem closure_any (M : Nat → Prop) (w : World) (hM : ∀ b, M b → b < w.heap.size) (A : Option Addr) (n c : Nat) (l0 : List Lk) (ns : List ByteArray) (hD : Ro w M (LksIn A n l0)) (hs : LkSorted l0) (hns : NamesIn ns l0) (hB : ns.length * ns.length ≤ 1000000) (hc : n ≤ c) (hcm : c ≤ 9223372036854775807) :
    Calls Try.prog 58 #[.slice A n c] w fun e w' => ClosRet w M l0 e w' := by
  have HB := hid hB
  obtain ⟨B, hBB⟩ : ∃ B, ns.length * ns.length = B := ⟨_, rfl⟩
  rw [hBB] at hB
  have HBB := hid hBB
  have K0 := (Hold.start M w hM).add (hD.less (by simp [Mut]))
  have HM0 := hid (Mid.self hs)
  have HNS := hid hns
  have HS0 := hid hs
  clear hBB hns hs
  go_enter Try.func58, Try.ntmps58
  go_wp2_with fail
  go_loopg [0] B (fun gh v wr => ∃ (A : Option Addr) (n c : Nat) (l : List Lk), v = .slice A n c ∧ B ≤ n + gh ∧ n ≤ c ∧ c ≤ 9223372036854775807 ∧ Hid (Mid l0 l) ∧ Hold M none w wr [.ro (LksIn A n l)])
  case atStart => exact ⟨A, n, c, l0, rfl, by omega, hc, hcm, HM0, K0⟩
  case round =>
    clear K0 hD hc hcm
    clear A n c
    obtain ⟨A, n, c, l, rfl, hgh, hc, hcm, HMl, H⟩ := hrel
    have hnl := (H.ro 0 rfl).now.len
    have hnB : n ≤ B := by rw [← hnl, ← HBB.out]; exact NamesIn.len (Mid.names HMl.out HNS.out) HMl.out.1
    have HL := hid hnl; clear hnl
    have KS := H.add (H.ro 0 rfl)
    go_wp2_with fail
    go_loopw [3, 11] (fun v i wq => ∃ (A' : Option Addr) (n' c' k : Nat) (o : List Lk), v = .slice A' n' c' ∧ k ≤ n ∧ i = .int .i64 k ∧ n' ≤ c' ∧ c' ≤ 9223372036854775807 ∧ Hid (Mid l o) ∧ Hid (DoneN l o k) ∧ Hold M none w wq [.ro (LksIn A' n' o), .ro (LksIn A n l)]) (fun _ i _ => n - (intOf i).toNat)
    case atStart => exact ⟨A, n, c, 0, l, rfl, by omega, rfl, hc, hcm, hid (Mid.self HMl.out.1), hid (fun x hx => by simp at hx), KS⟩
    case round =>
      clear KS H
      obtain ⟨A', n', c', k, o, rfl, hk, rfl, hc', hcm', HMo, HDN, H⟩ := hrel
      have hn'l := (H.ro 0 rfl).now.len
      have hn'B : n' ≤ B := by rw [← hn'l, ← HBB.out]; exact NamesIn.len (Mid.names (HMl.out.trans HMo.out) HNS.out) HMo.out.1
      have HL' := hid hn'l; clear hn'l
      have hnn : n ≤ n' := by have := HMo.out.len HMl.out.1; rw [HL.out, HL'.out] at this; exact this
      obtain ⟨wo, rfl⟩ : ∃ wo : World, wo = wr := ⟨_, rfl⟩
      by_cases hlt : k < n
      · have hd : decide ((k : Int) < (n : Int)) = true := by simp; omega
        obtain ⟨x, hx⟩ := get_of HL.out hlt
        obtain ⟨g, oo, rfl, hb, c0, c1⟩ := (H.ro 1 rfl).now.at_ hx
        have HX := hid hx; clear hx
        have K1 := H.alloc_cst #[.string x.a, .string x.b] 30
        have K2 := (K1.add (K1.ro 1 rfl)).drop (L' := [.ro (LksIn A' n' o), .cst wo.heap.size 30 #[.string x.a, .string x.b], .ro (LksIn (some ⟨g, oo, none⟩) n l)]) (List.Sublist.cons_cons _ (List.Sublist.cons_cons _ (List.sublist_cons_self _ _)))
        clear K1
        go_wp2_with fail
        go_loopw [3, 17] (fun v j wq => ∃ (A' : Option Addr) (n' c' p : Nat) (o : List Lk), v = .slice A' n' c' ∧ p ≤ n ∧ j = .int .i64 p ∧ n' ≤ c' ∧ c' ≤ 9223372036854775807 ∧ Hid (Mid l o) ∧ Hid (DoneN l o k) ∧ Hid (Done1 l o x p) ∧ Hold M none w wq [.ro (LksIn A' n' o), .cst wo.heap.size 30 #[.string x.a, .string x.b], .ro (LksIn (some ⟨g, oo, none⟩) n l)]) (fun _ j _ => n - (intOf j).toNat)
        case atStart => exact ⟨A', n', c', 0, o, rfl, by omega, rfl, hc', hcm', HMo, HDN, hid (fun y hy => by simp at hy), K2⟩
        case round =>
          clear K2 H HL' HMo HDN hc' hcm' hn'B hnn
          obtain ⟨A', n', c', p, o, rfl, hp, rfl, hc', hcm', HMo, HDN, HD1, H⟩ := hrel
          have hn'l := (H.ro 0 rfl).now.len
          have hn'B : n' ≤ B := by rw [← hn'l, ← HBB.out]; exact NamesIn.len (Mid.names (HMl.out.trans HMo.out) HNS.out) HMo.out.1
          have HL' := hid hn'l; clear hn'l
          by_cases hlt2 : p < n
          · have hd2 : decide ((p : Int) < (n : Int)) = true := by simp; omega
            obtain ⟨y, hy⟩ := get_of HL.out hlt2
            obtain ⟨g', o', ho', hb', e0, e1⟩ := (H.ro 2 rfl).now.at_ hy
            obtain ⟨rfl, rfl⟩ : g = g' ∧ oo = o' := by injection ho' with ho'; injection ho' with a1 a2; exact ⟨a1, a2⟩
            clear ho'
            have HY := hid hy; clear hy
            have K3 := H.alloc_cst #[.string y.a, .string y.b] 30
            have F := K3.facts
            simp only [World.size_alloc, World.size_drew, factsL, cellsF, Nat.reduceAdd, List.toList_toArray, and_true, true_and] at F
            have F0 := H.facts
            simp only [World.size_alloc, World.size_drew, factsL, cellsF, Nat.reduceAdd, List.toList_toArray, and_true, true_and] at F0
            cases h4 : (x.b.toList == y.a.toList)
            · have HE := hid (show x.b ≠ y.a from fun e => by rw [e] at h4; simp at h4)
              go_wp2_with fail
              go_roundw
              case rel => exact ⟨A', n', c', p + 1, o, rfl, by omega, by go_num, hc', hcm', HMo, HDN, hid (HD1.out.succ HY.out fun e => absurd e HE.out), K3.drop (List.sublist_cons_self _ _)⟩
              case measure => simp [intOf]; omega
            · have HE := hid (show x.b = y.a from ba_beq.1 h4)
              go_wp2_with fail
              refine (insert_any (Mut M _) _ K3.mutLt A' n' c' o ⟨x.a, y.b⟩ (K3.ro 1 rfl) (by omega)).mono ?_
              rintro e w5 ⟨A5, n5, c5, rfl, h51, h52, h53, r5, b5⟩
              have H51 := hid h51; clear h51
              have K5 := ((K3.call b5).add r5).drop (L' := [.ro (LksIn A5 n5 (insL ⟨x.a, y.b⟩ o)), .cst wo.heap.size 30 #[.string x.a, .string x.b], .ro (LksIn (some ⟨g, oo, none⟩) n l)]) (List.Sublist.cons_cons _ (List.Sublist.cons _ (List.sublist_cons_self _ _)))
              have HM5 := hid (HMo.out.ins (List.mem_of_getElem? HX.out) (List.mem_of_getElem? HY.out) HE.out)
              have HI5 := hid (fun z (hz : z ∈ o) => (insL_mem HMo.out.1).2 (Or.inr (b := z ∈ o) (a := z = ⟨x.a, y.b⟩) hz))
              clear r5 b5 F F0
              go_wp2_with fail
              go_roundw
              case rel => exact ⟨A5, n5, c5, p + 1, _, rfl, by omega, by go_num, h52, h53, HM5, hid (HDN.out.more HI5.out), hid ((HD1.out.more HI5.out).succ HY.out fun _ => (insL_mem HMo.out.1).2 (.inl rfl)), K5⟩
              case measure => simp [intOf]; omega
          · obtain rfl : p = n := by omega
            go_wp2_with fail
            go_roundw
            case rel => exact ⟨A', n', c', k + 1, o, rfl, by omega, by go_num, hc', hcm', HMo, hid (HDN.out.succ HX.out (by rw [HL.out]; exact HD1.out)), H.drop (List.Sublist.cons_cons _ (List.sublist_cons_self _ _))⟩
            case measure => simp [intOf]; omega
      · obtain rfl : k = n := by omega
        by_cases he : n' = k
        · have hq : ((n' : Int) == (k : Int)) = true := by rw [beq_iff_eq]; omega
          have HE := hid he; clear he
          go_wp2_with fail
          go_ret
          exact ⟨o, clos_end HMo.out (by rw [HL.out]; exact HDN.out) (by rw [HL.out, HL'.out, HE.out]) HMl.out.1 HMl.out.2.1 HMl.out.2.2, A', n', c', rfl, HL'.out.symm, hc', hcm', H.roOut 0 rfl, H.below⟩
        · have hq : ((n' : Int) == (k : Int)) = false := by rw [beq_eq_false_iff_ne]; omega
          cases gk with
          | succ go =>
            go_wp2_with fail
            go_roundg go
            case measure => omega
            case rel => exact ⟨A', n', c', o, rfl, by omega, hc', hcm', hid (HMl.out.trans HMo.out), H.drop (List.Sublist.cons_cons _ (List.nil_sublist _))⟩
          | zero => omega
end Go.Proofs.Ytaefjgjojflppaa

/- RElig: the contract of Eligible, of pick's reference. -/
import Derived.Test.YtaefjgjojflppaaFree
namespace Go.Proofs.Ytaefjgjojflppaa
open Go.RowKit
set_option linter.unusedVariables false
set_option linter.unusedSimpArgs false

theorem getD_rep {n k : Nat} (h : k < n) : (List.replicate n true).getD k false = true := by simp [List.getD, h]
theorem lefB_full (its : List It) (l : List Lk) (i n : Nat) : ∀ m, m ≤ n → lefB its (List.replicate n true) l i m = blkB its l i m
  | 0, _ => rfl
  | m + 1, h => by rw [lefB_succ, blkB_succ, lefB_full its l i n m (by omega), getD_rep (by omega), Bool.and_true]
theorem freeB_full (its : List It) (l : List Lk) (i : Nat) (h : i < its.length) : freeB its (List.replicate its.length true) l i = !blkB its l i its.length := by
  unfold freeB
  rw [getD_rep h, lefB_full _ _ _ _ _ (Nat.le_refl _), Bool.true_and]

set_option maxHeartbeats 4000000 in
theorem rElig_any (M : Nat → Prop) (w : World) (hM : ∀ b, M b → b < w.heap.size) (A : Option Addr) (n c : Nat) (its : List It) (B : Option Addr) (m d : Nat) (l : List Lk) (hD : Ro w M (ItsIn A n its)) (hE : Ro w M (LksIn B m l)) (hn : n ≤ 4398046511104) (hm : m ≤ 9223372036854775807) :
    Calls Try.prog 19 #[.slice A n c, .slice B m d] w fun e w' => IntsRet w M (eligL its l its.length) e w' := by
  have HL := hid hD.now.len
  have K0 := ((((Hold.start M w hM).add (hE.less (by simp [Mut]))).add (hD.less (by simp [Mut, Hp.foot]))).nil 4 1)
  go_enter Try.func19, Try.ntmps19
  go_wp2_with fail
  refine (rfull_any w n hn).mono ?_
  rintro e w1 ⟨rfl, ho1, hg1⟩
  have K1 := Hold.append K0 0 rfl ho1 hg1 (.inr (Nat.le_refl _)) (ho1.lt _ rfl).2
  simp only [List.set_cons_zero] at K1
  have K2 := K1.sealRow 0 rfl
  simp only [List.set_cons_zero] at K2
  have K3 : Hold M none w w1 [.own 3 1 (.slice none 0 0) 0 [], .ro (BsIn (some ⟨w.heap.size, 0, none⟩) n (List.replicate n true)), .ro (ItsIn A n its), .ro (LksIn B m l)] := K2.nil 3 1
  clear ho1 hg1 K1 K2
  obtain ⟨G, hG⟩ : ∃ G : Nat, G = w.heap.size := ⟨_, rfl⟩
  rw [← hG] at K3 ⊢
  have HG := hid hG; clear hG
  go_wp2_with fail
  go_loopw [5, 13] (fun out i wr => ∃ (k cap q : Nat) (C : Option Addr), k ≤ n ∧ i = .int .i64 k ∧ out = .slice C q cap ∧ Hid (q = (eligL its l k).length) ∧ q ≤ cap ∧ cap ≤ 9223372036854775807 ∧
    Hold M none w wr [.own 3 1 (.slice C q cap) q (eligL its l k), .ro (BsIn (some ⟨G, 0, none⟩) n (List.replicate n true)), .ro (ItsIn A n its), .ro (LksIn B m l)]) (fun _ i _ => n - (intOf i).toNat)
  case atStart => exact ⟨0, 0, 0, none, by omega, rfl, rfl, hid rfl, by omega, by omega, K3⟩
  case round =>
    obtain ⟨k, cap, q, C, hk, rfl, rfl, HQ, hqc, hcap, H⟩ := hrel
    have hqk : q ≤ k := by have := eligL_le its l k; have := HQ.out; omega
    by_cases hlt : k < n
    · have hd : decide ((k : Int) < (n : Int)) = true := by simp; omega
      have HFR := hid (freeB_full its l k (by rw [HL.out]; exact hlt))
      rw [HL.out] at HFR
      cases hbk : blkB its l k n
      · have HN : Hid (eligL its l (k + 1) = eligL its l k ++ [.int .i64 (k : Int)]) := hid (eligL_yes (by rw [HL.out]; exact hbk))
        rw [hbk] at HFR
        clear hbk
        go_wp2_with fail
        refine (rfree_any (Mut M _) wr H.mutLt A n c its (some ⟨G, 0, none⟩) n (List.replicate n true) B m d l k hlt (H.ro 2 rfl) (H.ro 1 rfl) (H.ro 3 rfl) hn hm).mono ?_
        rintro e w4 ⟨rfl, b4⟩
        rw [HFR.out]
        have K4 := H.call b4
        have HOWN := hid (K4.get 0 rfl)
        have HB := hid K4.grow.size
        clear b4 H
        go_wp2_with (at_builtin; go_must (refine wpList_app2 w4 #[.int .i64 (k : Int)] rfl (.tmp 21) (.tmp 23) 33 rfl w.heap.size 3 1 8 _ Try.underlying33 Try.infoInt rfl (by omega) (.slice C q cap) q (eligL its l k) rfl HOWN.out w4.heap.size (by simp) rfl rfl (by intro u hu; simp at hu; subst hu; rfl) (by omega) (by omega) HB.out ?_); intro g' cap' w' ho hg hdj hl'; have hcap' := hid ho.2; have KA := Hold.append (K4.alloc_cst #[.int .i64 (k : Int)] 3) 1 rfl ho hg hdj hl')
        go_roundw
        case rel =>
          have hcc : q + 1 ≤ cap' := by
            rcases hcap'.out with ⟨h, _⟩ | ⟨g2, c2, cur, hv, _, _, hle, _⟩
            · cases h
            · have h3 := (Value.slice.inj hv).2.2; omega
          have hcm : cap' ≤ 9223372036854775807 := by
            rcases hcap'.out with ⟨h, _⟩ | ⟨g2, c2, cur, hv, _, _, hle, hm2, _⟩
            · cases h
            · have h3 := (Value.slice.inj hv).2.2; unfold maxLen at hm2; omega
          exact ⟨k + 1, cap', q + 1, some ⟨g', 0, none⟩, by omega, by go_num, rfl, hid (by rw [HN.out, HQ.out]; simp), hcc, hcm, by rw [HN.out]; exact KA.drop (List.sublist_cons_self _ _)⟩
        case measure => simp [intOf]; omega
      · have HN : Hid (eligL its l (k + 1) = eligL its l k) := hid (eligL_no (by rw [HL.out]; exact hbk))
        rw [hbk] at HFR
        clear hbk
        go_wp2_with fail
        refine (rfree_any (Mut M _) wr H.mutLt A n c its (some ⟨G, 0, none⟩) n (List.replicate n true) B m d l k hlt (H.ro 2 rfl) (H.ro 1 rfl) (H.ro 3 rfl) hn hm).mono ?_
        rintro e w4 ⟨rfl, b4⟩
        rw [HFR.out]
        have K4 := H.call b4
        clear b4 H
        go_wp2_with fail
        go_roundw
        case rel => exact ⟨k + 1, cap, q, C, by omega, by go_num, rfl, hid (by rw [HN.out]; exact HQ.out), hqc, hcap, by rw [HN.out]; exact K4⟩
        case measure => simp [intOf]; omega
    · obtain rfl : k = n := by omega
      have KS := H.sealRow 0 rfl
      go_wp2_with fail
      go_ret
      have e : eligL its l its.length = eligL its l k := by rw [HL.out]
      exact ⟨C, q, cap, rfl, by rw [e]; exact HQ.out, hqc, hcap, by rw [e]; exact KS.roOut 0 rfl, KS.below⟩
end Go.Proofs.Ytaefjgjojflppaa

/- LogicForms: the walk of the statement's own function. -/
import Derived.Test.YtdgdllicmccnfaaDoorAlikeAny
import Derived.Test.YtdgdllicmccnfaaDoorOdd
namespace Go.Proofs.YtdgdllicmccnfaaDoor
open Go.RowKit
set_option linter.unusedVariables false
set_option linter.unusedSimpArgs false

set_option maxHeartbeats 400000 in
theorem rnumber_any (n : Int) : Gives 30 #[.int .i64 n] (.agg #[.int .i64 1, .int .i64 n, .string ⟨#[]⟩]) := by
  intro w
  go_enter Tryd.func30, Tryd.ntmps30
  go_wp2
  refine bodyPost_ret (v := .agg #[.int .i64 1, .int .i64 n, .string ⟨#[]⟩]) (by simp [results, Tryd.results30, go_sem]) rfl ⟨rfl, ?_⟩
  exact (Below.refl _ _).alloc (Nat.le_refl _) _

theorem six_ {w : World} {a b : Nat} {t : TypeId} {x0 x1 x2 y0 y1 y2 : Value} (ha : Blk w a t #[x0, x1, x2]) (hb : Blk w b t #[y0, y1, y2]) :
    w.cell? ⟨a, 0, none⟩ = some x0 ∧ w.cell? ⟨a, 1, none⟩ = some x1 ∧ w.cell? ⟨a, 2, none⟩ = some x2 ∧ w.cell? ⟨b, 0, none⟩ = some y0 ∧ w.cell? ⟨b, 1, none⟩ = some y1 ∧ w.cell? ⟨b, 2, none⟩ = some y2 :=
  ⟨ha.cell 0, ha.cell 1, ha.cell 2, hb.cell 0, hb.cell 1, hb.cell 2⟩
theorem Wds.ro {w : World} {M : Nat → Prop} (h : Wds w) (hM : ¬ M 1) : Ro w M Wds := fun w2 _ h2 => h.keep (h2 _ h.lt hM)

/-- n values lie in block g, one behind the other, each with a text that fits. -/
def ValsAt (g n : Nat) (w : World) : Prop := ∀ k, k < n → ∃ (x i : Int) (s : ByteArray), s.size ≤ maxLen ∧ w.cell? ⟨g, k * 3, none⟩ = some (.int .i64 x) ∧ w.cell? ⟨g, k * 3 + 1, none⟩ = some (.int .i64 i) ∧ w.cell? ⟨g, k * 3 + 2, none⟩ = some (.string s)
theorem valsAt_8 {w : World} {g : Nat} {t : TypeId} {x0 x1 x2 x3 x4 x5 x6 x7 i0 i1 i2 i3 i4 i5 i6 i7 : Int} {s0 s1 s2 s3 s4 s5 s6 s7 : ByteArray}
    (h0 : s0.size ≤ maxLen) (h1 : s1.size ≤ maxLen) (h2 : s2.size ≤ maxLen) (h3 : s3.size ≤ maxLen) (h4 : s4.size ≤ maxLen) (h5 : s5.size ≤ maxLen) (h6 : s6.size ≤ maxLen) (h7 : s7.size ≤ maxLen)
    (h : w.heap[g]? = some (.cells #[.int .i64 x0, .int .i64 i0, .string s0, .int .i64 x1, .int .i64 i1, .string s1, .int .i64 x2, .int .i64 i2, .string s2, .int .i64 x3, .int .i64 i3, .string s3, .int .i64 x4, .int .i64 i4, .string s4, .int .i64 x5, .int .i64 i5, .string s5, .int .i64 x6, .int .i64 i6, .string s6, .int .i64 x7, .int .i64 i7, .string s7] t (0, 0))) : ValsAt g 8 w := by
  have hb : Blk w g t _ := h
  intro k hk
  obtain rfl | rfl | rfl | rfl | rfl | rfl | rfl | rfl : k = 0 ∨ k = 1 ∨ k = 2 ∨ k = 3 ∨ k = 4 ∨ k = 5 ∨ k = 6 ∨ k = 7 := by omega
  · exact ⟨_, _, _, h0, hb.cell 0, hb.cell 1, hb.cell 2⟩
  · exact ⟨_, _, _, h1, hb.cell 3, hb.cell 4, hb.cell 5⟩
  · exact ⟨_, _, _, h2, hb.cell 6, hb.cell 7, hb.cell 8⟩
  · exact ⟨_, _, _, h3, hb.cell 9, hb.cell 10, hb.cell 11⟩
  · exact ⟨_, _, _, h4, hb.cell 12, hb.cell 13, hb.cell 14⟩
  · exact ⟨_, _, _, h5, hb.cell 15, hb.cell 16, hb.cell 17⟩
  · exact ⟨_, _, _, h6, hb.cell 18, hb.cell 19, hb.cell 20⟩
  · exact ⟨_, _, _, h7, hb.cell 21, hb.cell 22, hb.cell 23⟩

set_option maxHeartbeats 4000000 in
theorem forms_walk (ka ia kb ib : Int) (sa sb : ByteArray) (ha : sa.size ≤ maxLen) (hb : sb.size ≤ maxLen) (A : Option Addr) (n c : Nat) (zs : List Int) (w : World) (hr : Rd w w.heap.size 1 A n (zs.map (Value.int .i64))) (hz : Ints zs) (hn : n ≤ c) (hc : c ≤ 9223372036854775807) (hw : Wds w) :
    Calls Tryd.prog 6 #[.agg #[.int .i64 ka, .int .i64 ia, .string sa], .agg #[.int .i64 kb, .int .i64 ib, .string sb], .slice A n c] w fun e w' => e = .returned (.bool true) ∧ Below w.heap.size w w' := by
  have hwl := hw.lt
  have K0 := Hold.begin_ w
  go_enter Tryd.func6, Tryd.ntmps6
  go_wp2_with fail
  refine (new_any A n c zs _ (((hr.alloc (Nat.le_refl _) _).alloc (by simp) _).more (by simp; omega)) hz hn hc).mono ?_
  rintro e w1 ⟨T, rfl, hT, t1, b1⟩
  have K1 := Hold.newTape ((K0.alloc_cst _ _).alloc_cst _ _) b1 t1 hT (by simp [Mut, None_, Hp.foot])
  have wd0 : Wds w1 := (hw.below (ext2 w _ _) hwl).below b1 (by simp)
  have hT1 : 1 < T := by simp at hT; omega
  have K2 := K1.add (wd0.ro (by simp [Mut, None_, Hp.foot]; omega))
  clear K1 K0 wd0 t1 b1 hw hr
  simp only [World.size_alloc] at K2
  go_wp2_with fail
  go_region_held3 (fun w' => w'.cell? ⟨w.heap.size, 0, none⟩ = some (.int .i64 ka) ∧ w'.cell? ⟨w.heap.size, 1, none⟩ = some (.int .i64 ia) ∧ w'.cell? ⟨w.heap.size, 2, none⟩ = some (.string sa) ∧ w'.cell? ⟨w.heap.size + 1, 0, none⟩ = some (.int .i64 kb) ∧ w'.cell? ⟨w.heap.size + 1, 1, none⟩ = some (.int .i64 ib) ∧ w'.cell? ⟨w.heap.size + 1, 2, none⟩ = some (.string sb))
    (first | exact six_ (K2.cst_ 3 rfl) (K2.cst_ 2 rfl) | exact six_ (K3.cst_ 3 rfl) (K3.cst_ 2 rfl) | exact six_ (K4.cst_ 3 rfl) (K4.cst_ 2 rfl) | exact six_ (K5.cst_ 3 rfl) (K5.cst_ 2 rfl) | exact six_ (K6.cst_ 3 rfl) (K6.cst_ 2 rfl) | exact six_ (K7.cst_ 3 rfl) (K7.cst_ 2 rfl) | exact six_ (K8.cst_ 3 rfl) (K8.cst_ 2 rfl) | exact six_ ((K8.cst_ 3 rfl).alloc _) ((K8.cst_ 2 rfl).alloc _))
    (first
      | (go_at_call 29; ((with_reducible refine (rtr_t _).mono ?_); rintro e w3 ⟨rfl, b3⟩; have K3 := Hold.call K2.drew b3))
      | (go_at_call 29; ((with_reducible refine (rtr_f _).mono ?_); rintro e w4 ⟨rfl, b4⟩; have K4 := Hold.call K3 b4))
      | (go_at_call 20; refine (value_any T _ (K4.tp_ 1 rfl) (K4.ro 0 rfl).now hT1).mono ?_; rintro e w5 ⟨k5, i5, s5, rfl, v5, z5, y5, t5, d5, g5⟩; have K5 := Hold.callT K4 1 rfl g5 t5)
      | (go_at_call 21; refine (odd_any T _ (K5.tp_ 1 rfl) (K5.ro 0 rfl).now hT1).mono ?_; rintro e w6 ⟨k6, i6, s6, rfl, z6, t6, g6⟩; have K6 := Hold.callT K5 1 rfl g6 t6)
      | (go_at_call 31; refine (number_any T _ (K6.tp_ 1 rfl)).mono ?_; rintro e w7 ⟨x7, rfl, y7, t7, g7⟩; have K7 := Hold.callT K6 1 rfl g7 t7)
      | (go_at_call 30; refine (rnumber_any _ _).mono ?_; rintro e w8 ⟨rfl, b8⟩; have K8 := Hold.call K7 b8))
  have K9 := K8.alloc_cst #[.int .i64 ka, .int .i64 ia, .string sa, .int .i64 kb, .int .i64 ib, .string sb, .int .i64 0, .int .i64 0, .string ⟨#[]⟩, .int .i64 2, .int .i64 1, .string ⟨#[]⟩, .int .i64 2, .int .i64 0, .string ⟨#[]⟩, .int .i64 k5, .int .i64 i5, .string s5, .int .i64 k6, .int .i64 i6, .string s6, .int .i64 1, .int .i64 x7, .string ⟨#[]⟩] 39
  have hP := (show Ro _ _ (fun w => w.heap[w8.heap.size]? = some (.cells #[.int .i64 ka, .int .i64 ia, .string sa, .int .i64 kb, .int .i64 ib, .string sb, .int .i64 0, .int .i64 0, .string ⟨#[]⟩, .int .i64 2, .int .i64 1, .string ⟨#[]⟩, .int .i64 2, .int .i64 0, .string ⟨#[]⟩, .int .i64 k5, .int .i64 i5, .string s5, .int .i64 k6, .int .i64 i6, .string s6, .int .i64 1, .int .i64 x7, .string ⟨#[]⟩] 39 (0, 0))) from K9.get 0 rfl).imp (fun _ => valsAt_8 ha hb size0 size0 size0 (by unfold maxLen; omega) (by unfold maxLen; omega) size0)
  have KP := (K9.add hP).drop (L' := [.ro (ValsAt w8.heap.size 8)]) (List.singleton_sublist.2 (List.mem_cons_self ..))
  clear K9 K8 K7 K6 K5 K4 K3 K2 hP
  go_wp2_with fail
  go_loopw [30] (fun i wr => ∃ k : Nat, k ≤ 8 ∧ i = .int .i64 k ∧ Hold None_ none w wr [.ro (ValsAt w8.heap.size 8)]) (fun i _ => 8 - (intOf i).toNat)
  case atStart => exact ⟨0, by omega, rfl, KP⟩
  case round =>
    obtain ⟨k, hk, rfl, H⟩ := hrel
    by_cases hlt : k < 8
    · obtain ⟨x, i, s, hs, c0, c1, c2⟩ := (H.ro 0 rfl).now k hlt
      have hd : decide ((k : Int) < 8) = true := by simp; omega
      go_wp2_with fail
      have KA := H.alloc_cst #[.int .i64 x, .int .i64 i, .string s] 39
      go_loopw [6, 12, 36] (fun _ _ j wq => ∃ m : Nat, m ≤ 8 ∧ j = .int .i64 m ∧ Hold None_ none w wq [.cst wr.heap.size 39 #[.int .i64 x, .int .i64 i, .string s], .ro (ValsAt w8.heap.size 8)]) (fun _ _ j _ => 8 - (intOf j).toNat)
      case atStart => exact ⟨0, by omega, rfl, KA⟩
      case round =>
        obtain ⟨m, hm, rfl, H2⟩ := hrel
        by_cases hlt2 : m < 8
        · obtain ⟨y, i', s', hs', d0, d1, d2⟩ := (H2.ro 1 rfl).now m hlt2
          have KB := H2.alloc_cst #[.int .i64 y, .int .i64 i', .string s'] 39
          have F2 := H2.facts
          simp only [factsL, cellsF, List.toList_toArray, and_true, true_and] at F2
          go_wp2_with fail
          refine (alike_any x i y i' s s' hs hs' _).mono ?_
          rintro e w10 ⟨rfl, b10⟩
          have KC := (Hold.call KB b10).drop (L' := [.cst _ 39 #[.int .i64 x, .int .i64 i, .string s], .ro (ValsAt w8.heap.size 8)]) (List.sublist_cons_self _ _)
          clear KB b10 F2 H2
          go_wp2_with fail
          go_roundw
          case rel => exact ⟨m + 1, by omega, by go_num, KC⟩
          case measure => simp [intOf]; omega
        · go_wp2_with fail
          go_roundw
          case rel => exact ⟨k + 1, by omega, by go_num, H2.drop (List.sublist_cons_self _ _)⟩
          case measure => simp [intOf]; omega
    · go_wp2_with fail
      refine (known2 _).mono ?_
      rintro e w10 ⟨rfl, b10⟩
      go_wp2_with fail
      go_ret
      exact ⟨rfl, (H.call b10).below⟩
end Go.Proofs.YtdgdllicmccnfaaDoor

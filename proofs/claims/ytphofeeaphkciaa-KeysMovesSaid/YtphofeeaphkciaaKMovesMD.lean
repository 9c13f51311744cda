/- KeysMoves answers true for every pair of 64-bit numbers: a key can be given on by one change, and keys can be exchanged. No condition. -/
import Derived.Test.YtphofeeaphkciaaKMovesMA
import Derived.Test.YtphofeeaphkciaaKMovesMC
namespace Go.Proofs.Ytphofeeaphkciaa
open Go.ChangeShapes Go.WideShapes Go.ChangeAt Go.RowKit
set_option linter.unusedVariables false
set_option linter.unusedSimpArgs false

set_option maxHeartbeats 4000000 in
set_option maxRecDepth 100000 in
theorem keysMoves_walk (a b : Int) (w : World) (ha : I64 a) (hb : I64 b) :
    Calls Try.prog 4 #[.int .i64 a, .int .i64 b] w fun e w' => e = .returned (.bool true) ∧ Below w.heap.size w w' := by
  have K0 := Hold.begin_ w
  by_cases hab : a = b
  · subst hab
    go_enter Try.func4, Try.ntmps4
    go_wp2_with fail
    refine (known7 _).mono ?_
    rintro e w9 ⟨rfl, b9⟩
    have K9 := K0.call b9
    go_wp2_with fail
    go_ret
    exact ⟨by first | rfl | simp, K9.below⟩
  · have hd : (a == b) = false := by simpa using hab
    have HK1 := hid (mov_1 a b hab)
    have HK2 := hid (mov_2 a b hab)
    have HK3 := hid (mov_3 a b hab)
    have HK4 := hid (mov_4 a b hab)
    have HS := hid small_u
    clear hab
    go_enter Try.func4, Try.ntmps4
    go_wp2_with fail
    refine (schema_u _ _ K0.mutLt).mono ?_
    rintro e w1 ⟨A, n, c, rfl, h1, h2, r1, b1⟩
    have K1 := (K0.call b1).add r1
    clear K0 r1 b1
    generalize hU : nmU = nu at *
    have HU := hid hU
    clear hU
    go_wp2_with fail
    refine (keyed_any _ _ K1.mutLt a).mono ?_
    rintro e w2 ⟨v, rfl, ⟨A1, n1, c1, rfl, y1, y2, y3, y4⟩, b2⟩
    obtain rfl : n1 = 3 := y1
    have K2 := (K1.call b2).add y4
    clear K1 b2 y4
    go_wp2_with fail
    refine (keyed_any _ _ K2.mutLt b).mono ?_
    rintro e w3 ⟨v, rfl, ⟨A2, n2, c2, rfl, z1, z2, z3, z4⟩, b3⟩
    obtain rfl : n2 = 3 := z1
    have K3 := (K2.call b3).add z4
    clear K2 b3 z4
    obtain ⟨gr, hgr⟩ : ∃ gr, gr = w3.heap.size := ⟨_, rfl⟩
    obtain ⟨gt, hgt⟩ : ∃ gt, gt = gr + 1 := ⟨_, rfl⟩
    have K4 := (K3.alloc_cst #[.int .i64 1, .slice A1 3 c1, .int .i64 2, .slice A2 3 c2] 34).alloc_cst #[.string nu, .slice A n c, .int .i64 3, .slice (some ⟨w3.heap.size, 0, none⟩) 2 2] 29
    rw [World.size_alloc, ← hgr, ← hgt] at K4
    clear K3
    go_wp2_with fail
    rw [← hgr, ← hgt]
    generalize (w3.alloc _).alloc _ = w5 at K4 ⊢
    obtain ⟨l, hl⟩ : ∃ l : List Rw, l = [⟨1, A1, 3, c1, vKey a⟩, ⟨2, A2, 3, c2, vKey b⟩] := ⟨_, rfl⟩
    have HLK := hid (show ∀ r ∈ l, r.ok from fun r hr => by
      rw [hl] at hr
      simp only [List.mem_cons, List.not_mem_nil, or_false] at hr
      rcases hr with rfl | rfl
      · exact ⟨by show I64 1; unfold I64; omega, y2, y3, vKey_ok ha⟩
      · exact ⟨by show I64 2; unfold I64; omega, z2, z3, vKey_ok hb⟩)
    have HLR := hid (show l.map Rw.row = mRows a b by rw [hl]; rfl)
    have q3 : Ro _ _ (RwsIn (some ⟨gr, 0, none⟩) 2 l) := (show Ro _ _ (SlR 2 (some ⟨gr, 0, none⟩) 2 (rwCells l)) by
      rw [hl]
      exact ro_block (t := 34) (cs := #[.int .i64 1, .slice A1 3 c1, .int .i64 2, .slice A2 3 c2]) (n := 2) (size := 2) (K4.get 1 rfl) rfl).and fun w2 k1 k2 r hr => by
      rw [hl] at hr
      simp only [List.mem_cons, List.not_mem_nil, or_false] at hr
      rcases hr with rfl | rfl
      · exact K4.ro 3 rfl w2 k1 k2
      · exact K4.ro 2 rfl w2 k1 k2
    have K5 := K4.view [.cst gt 29 #[.string nu, .slice A n c, .int .i64 3, .slice (some ⟨gr, 0, none⟩) 2 2], .ro (ColsIn A n uCols), .ro (RwsIn (some ⟨gr, 0, none⟩) 2 l)] (by intro k hk; simp only [List.mem_cons, List.not_mem_nil, or_false] at hk; rcases hk with rfl | rfl | rfl <;> rfl) (by
      intro k hk
      simp only [List.mem_cons, List.not_mem_nil, or_false] at hk
      rcases hk with rfl | rfl | rfl
      · exact K4.get 0 rfl
      · exact (K4.ro 4 rfl).imp fun w h => h
      · exact q3)
    clear hl q3 K4 hgr hgt
    obtain ⟨Ha, hHa⟩ : ∃ H, H = w5.drew.heap.size := ⟨_, rfl⟩
    have HHa := hid hHa
    clear hHa
    refine wp_region_any (by kernel_rfl) ?_
    refine wpAny_holdE [9] 11 115 ([.cst gt 29 #[.string nu, .slice A n c, .int .i64 3, .slice (some ⟨gr, 0, none⟩) 2 2], .ro (ColsIn A n uCols), .ro (RwsIn (some ⟨gr, 0, none⟩) 2 l)]) (spL [(29, (IsSlot (Mut None_ [.cst gt 29 #[.string nu, .slice A n c, .int .i64 3, .slice (some ⟨gr, 0, none⟩) 2 2], .ro (ColsIn A n uCols), .ro (RwsIn (some ⟨gr, 0, none⟩) 2 l)]) [1])), (31, (VlsSlot (Mut None_ [.cst gt 29 #[.string nu, .slice A n c, .int .i64 3, .slice (some ⟨gr, 0, none⟩) 2 2], .ro (ColsIn A n uCols), .ro (RwsIn (some ⟨gr, 0, none⟩) 2 l)]) (vKey a))), (32, (SlsSlot (Mut None_ [.cst gt 29 #[.string nu, .slice A n c, .int .i64 3, .slice (some ⟨gr, 0, none⟩) 2 2], .ro (ColsIn A n uCols), .ro (RwsIn (some ⟨gr, 0, none⟩) 2 l)]) [vKey a])), (33, (ChgSlot (Mut None_ [.cst gt 29 #[.string nu, .slice A n c, .int .i64 3, .slice (some ⟨gr, 0, none⟩) 2 2], .ro (ColsIn A n uCols), .ro (RwsIn (some ⟨gr, 0, none⟩) 2 l)]) [vKey a] [1] [])), (34, (ApSlot (Mut None_ [.cst gt 29 #[.string nu, .slice A n c, .int .i64 3, .slice (some ⟨gr, 0, none⟩) 2 2], .ro (ColsIn A n uCols), .ro (RwsIn (some ⟨gr, 0, none⟩) 2 l)]) (0, (⟨nu, uCols, 4, [(2, vKey b), (3, vKey a)]⟩ : Tb)))), (27, (ApSlot (Mut None_ [.cst gt 29 #[.string nu, .slice A n c, .int .i64 3, .slice (some ⟨gr, 0, none⟩) 2 2], .ro (ColsIn A n uCols), .ro (RwsIn (some ⟨gr, 0, none⟩) 2 l)]) (0, (⟨nu, uCols, 4, [(2, vKey b), (3, vKey a)]⟩ : Tb)))), (6, (NewSlot (Mut None_ [.cst gt 29 #[.string nu, .slice A n c, .int .i64 3, .slice (some ⟨gr, 0, none⟩) 2 2], .ro (ColsIn A n uCols), .ro (RwsIn (some ⟨gr, 0, none⟩) 2 l)]) Ha 29 #[.string ⟨#[]⟩, .slice none 0 0, .int .i64 0, .slice none 0 0]))]) (by kernel_rfl) (fun _ d _ _ _ h => by cases d <;> exact h) (by kernel_rfl) (by kernel_rfl) rfl ?_ (K5.drew) ?_
    · exact stays_cons isSlot_mono (stays_cons vlsSlot_mono (stays_cons slsSlot_mono (stays_cons chgSlot_mono (stays_cons apSlot_mono (stays_cons apSlot_mono (stays_cons newSlot_mono (stays_nil _)))))))
    simp only [List.take_succ_cons, List.take_zero, List.drop_succ_cons, List.drop_zero, Act.put, List.getElem_toArray, List.getElem_cons_zero, List.getElem_cons_succ, List.setIfInBounds_toArray, List.set_cons_succ, List.set_cons_zero]
    refine dw_val rfl rfl rfl ?_; apply Exists.intro; refine ⟨fun wv HC => ?_, ?_⟩
    · have FC := HC.facts; simp only [factsL, cellsF, Nat.reduceAdd, List.toList_toArray, and_true, true_and] at FC; go_simp <;> rfl
    simp only [Act.put, List.setIfInBounds_toArray, List.set_cons_succ, List.set_cons_zero]
    refine dw_new #[.int .i64 1] 3 29 (IsSlot (Mut None_ [.cst gt 29 #[.string nu, .slice A n c, .int .i64 3, .slice (some ⟨gr, 0, none⟩) 2 2], .ro (ColsIn A n uCols), .ro (RwsIn (some ⟨gr, 0, none⟩) 2 l)]) [1]) (fun g => .slice (some ⟨g, 0, none⟩) 1 1) rfl rfl rfl rfl (fun wv => ?_) (fun wv HC _hrm hD hro => ?_) ?_
    · go_simp <;> rfl
    · exact isSlot_one (hro _ HC.mutLt)
    rintro g29 wg HCg hsl
    simp only [Act.put, List.setIfInBounds_toArray, List.set_cons_succ, List.set_cons_zero]
    clear hsl HCg
    refine dw_val rfl rfl rfl ?_; apply Exists.intro; refine ⟨fun wv HC => ?_, ?_⟩
    ·  go_simp <;> rfl
    simp only [Act.put, List.setIfInBounds_toArray, List.set_cons_succ, List.set_cons_zero]
    refine dw_callR 31 (VlsSlot (Mut None_ [.cst gt 29 #[.string nu, .slice A n c, .int .i64 3, .slice (some ⟨gr, 0, none⟩) 2 2], .ro (ColsIn A n uCols), .ro (RwsIn (some ⟨gr, 0, none⟩) 2 l)]) (vKey a)) (f := 11) (args := #[.int .i64 a]) rfl rfl rfl rfl (fun wv => ?_) (fun wv HC hrm hD => ?_) ?_
    · go_simp <;> rfl
    · refine (keyed_any _ wv HC.mutLt a).mono ?_
      rintro e w6 ⟨v, rfl, hv, b6⟩
      exact ⟨_, rfl, hv, HC.call b6, RM.below b6⟩
    rintro u wx HCx ⟨A31, n31, c31, rfl, -, -, -, -⟩
    clear HCx
    simp only [Act.put, List.setIfInBounds_toArray, List.set_cons_succ, List.set_cons_zero]
    refine dw_new #[.slice A31 n31 c31] 32 32 (SlsSlot (Mut None_ [.cst gt 29 #[.string nu, .slice A n c, .int .i64 3, .slice (some ⟨gr, 0, none⟩) 2 2], .ro (ColsIn A n uCols), .ro (RwsIn (some ⟨gr, 0, none⟩) 2 l)]) [vKey a]) (fun g => .slice (some ⟨g, 0, none⟩) 1 1) rfl rfl rfl rfl (fun wv => ?_) (fun wv HC _hrm hD hro => ?_) ?_
    · go_simp <;> rfl
    · have h0 : VlsSlot (Mut None_ [.cst gt 29 #[.string nu, .slice A n c, .int .i64 3, .slice (some ⟨gr, 0, none⟩) 2 2], .ro (ColsIn A n uCols), .ro (RwsIn (some ⟨gr, 0, none⟩) 2 l)]) (vKey a) (.slice A31 n31 c31) wv := deps_at hD 3 rfl (by kernel_rfl) rfl rfl
      exact slsSlot_one (hro _ HC.mutLt) (vKey_ok (by first | assumption | (unfold I64; omega))) (vlsSlot_mono _ _ _ (RM.alloc (Mut None_ [.cst gt 29 #[.string nu, .slice A n c, .int .i64 3, .slice (some ⟨gr, 0, none⟩) 2 2], .ro (ColsIn A n uCols), .ro (RwsIn (some ⟨gr, 0, none⟩) 2 l)]) wv _) h0)
    rintro g32 wg HCg hsl
    simp only [Act.put, List.setIfInBounds_toArray, List.set_cons_succ, List.set_cons_zero]
    clear hsl HCg
    refine dw_valC 33 (ChgSlot (Mut None_ [.cst gt 29 #[.string nu, .slice A n c, .int .i64 3, .slice (some ⟨gr, 0, none⟩) 2 2], .ro (ColsIn A n uCols), .ro (RwsIn (some ⟨gr, 0, none⟩) 2 l)]) [vKey a] [1] []) rfl rfl rfl rfl (.agg #[.slice (some ⟨g32, 0, none⟩) 1 1, .slice (some ⟨g29, 0, none⟩) 1 1, .slice none 0 0]) (fun wv HC => ?_) (fun wv HC hD => ?_) ?_
    · go_simp <;> rfl
    · have h0 : SlsSlot (Mut None_ [.cst gt 29 #[.string nu, .slice A n c, .int .i64 3, .slice (some ⟨gr, 0, none⟩) 2 2], .ro (ColsIn A n uCols), .ro (RwsIn (some ⟨gr, 0, none⟩) 2 l)]) [vKey a] (.slice (some ⟨g32, 0, none⟩) 1 1) wv := deps_at hD 4 rfl (by kernel_rfl) rfl rfl
      have h1 : IsSlot (Mut None_ [.cst gt 29 #[.string nu, .slice A n c, .int .i64 3, .slice (some ⟨gr, 0, none⟩) 2 2], .ro (ColsIn A n uCols), .ro (RwsIn (some ⟨gr, 0, none⟩) 2 l)]) [1] (.slice (some ⟨g29, 0, none⟩) 1 1) wv := deps_at hD 1 rfl (by kernel_rfl) rfl rfl
      have h2 : PrsSlot (Mut None_ [.cst gt 29 #[.string nu, .slice A n c, .int .i64 3, .slice (some ⟨gr, 0, none⟩) 2 2], .ro (ColsIn A n uCols), .ro (RwsIn (some ⟨gr, 0, none⟩) 2 l)]) [] (.slice none 0 0) wv := prsSlot_nil _
      exact chgSlot_of h0 h1 h2
    simp only [Act.put, List.setIfInBounds_toArray, List.set_cons_succ, List.set_cons_zero]
    refine dw_callR 34 (ApSlot (Mut None_ [.cst gt 29 #[.string nu, .slice A n c, .int .i64 3, .slice (some ⟨gr, 0, none⟩) 2 2], .ro (ColsIn A n uCols), .ro (RwsIn (some ⟨gr, 0, none⟩) 2 l)]) (0, (⟨nu, uCols, 4, [(2, vKey b), (3, vKey a)]⟩ : Tb))) (f := 12) (args := #[.agg #[.string nu, .slice A n c, .int .i64 3, .slice (some ⟨gr, 0, none⟩) 2 2], .agg #[.slice (some ⟨g32, 0, none⟩) 1 1, .slice (some ⟨g29, 0, none⟩) 1 1, .slice none 0 0]]) rfl rfl rfl rfl (fun wv => ?_) (fun wv HC hrm hD => ?_) ?_
    · go_simp <;> rfl
    · have hc : ChgSlot (Mut None_ [.cst gt 29 #[.string nu, .slice A n c, .int .i64 3, .slice (some ⟨gr, 0, none⟩) 2 2], .ro (ColsIn A n uCols), .ro (RwsIn (some ⟨gr, 0, none⟩) 2 l)]) [vKey a] [1] [] (.agg #[.slice (some ⟨g32, 0, none⟩) 1 1, .slice (some ⟨g29, 0, none⟩) 1 1, .slice none 0 0]) wv := deps_at hD 5 rfl (by kernel_rfl) rfl rfl
      have hk := kapply_slot _ wv HC.mutLt _ _ ⟨nu, uCols, 3, mRows a b⟩ [vKey a] [1] [] ⟨A, n, c, some ⟨gr, 0, none⟩, 2, 2, l, rfl, h1, by omega, by omega, by omega, HC.ro 1 rfl, HC.ro 2 rfl, HLK.out, HLR.out⟩ hc HS.out.1 HS.out.2.1 (by simp [mRows]) (by simp) (by simp) (by simp)
      rw [show applyC _ _ _ _ _ _ _ = _ from HK1.out] at hk
      refine hk.mono ?_
      rintro e w6 ⟨v, rfl, hv, b6⟩
      exact ⟨_, rfl, hv, HC.call b6, RM.below b6⟩
    rintro u wx HCx ⟨v, rfl, Aa, na, ca, Ba, ma, da, la, hv, -, -, -, -, -, -, -, -⟩
    obtain ⟨sa, xa, rfl⟩ : ∃ s x, v = .agg #[.string s, .slice Aa na ca, .int .i64 x, .slice Ba ma da] := ⟨_, _, hv⟩
    clear HCx hv
    simp only [Act.put, List.setIfInBounds_toArray, List.set_cons_succ, List.set_cons_zero]
    refine dw_valC 27 (ApSlot (Mut None_ [.cst gt 29 #[.string nu, .slice A n c, .int .i64 3, .slice (some ⟨gr, 0, none⟩) 2 2], .ro (ColsIn A n uCols), .ro (RwsIn (some ⟨gr, 0, none⟩) 2 l)]) (0, (⟨nu, uCols, 4, [(2, vKey b), (3, vKey a)]⟩ : Tb))) rfl rfl rfl rfl (.tuple #[.agg #[.string sa, .slice Aa na ca, .int .i64 xa, .slice Ba ma da], .int .i64 0]) (fun wv HC => ?_) (fun wv HC hD => ?_) ?_
    · go_simp <;> rfl
    · exact deps_at hD 6 rfl (by kernel_rfl) rfl rfl
    simp only [Act.put, List.setIfInBounds_toArray, List.set_cons_succ, List.set_cons_zero]
    refine dw_val rfl rfl rfl ?_; apply Exists.intro; refine ⟨fun wv HC => ?_, ?_⟩
    ·  go_simp <;> rfl
    simp only [Act.put, List.setIfInBounds_toArray, List.set_cons_succ, List.set_cons_zero]
    refine dw_val rfl rfl rfl ?_; apply Exists.intro; refine ⟨fun wv HC => ?_, ?_⟩
    ·  go_simp <;> rfl
    simp only [Act.put, List.setIfInBounds_toArray, List.set_cons_succ, List.set_cons_zero]
    refine dw_new #[.string ⟨#[]⟩, .slice none 0 0, .int .i64 0, .slice none 0 0] 29 6 (NewSlot (Mut None_ [.cst gt 29 #[.string nu, .slice A n c, .int .i64 3, .slice (some ⟨gr, 0, none⟩) 2 2], .ro (ColsIn A n uCols), .ro (RwsIn (some ⟨gr, 0, none⟩) 2 l)]) Ha 29 #[.string ⟨#[]⟩, .slice none 0 0, .int .i64 0, .slice none 0 0]) (fun g => .pointer (some ⟨g, 0, none⟩)) rfl rfl rfl rfl (fun wv => ?_) (fun wv HC hrm hD hro => ?_) ?_
    · go_simp <;> rfl
    · exact ⟨_, rfl, by have := hrm.1; rw [HHa.out]; exact this, hro _ HC.mutLt⟩
    rintro ga wg HCg hsl
    simp only [Act.put, List.setIfInBounds_toArray, List.set_cons_succ, List.set_cons_zero]
    clear hsl HCg
    refine rel_nil ?_
    rintro wxa HX
    rintro _hrm HGW
    have hap : ApSlot (Mut None_ [.cst gt 29 #[.string nu, .slice A n c, .int .i64 3, .slice (some ⟨gr, 0, none⟩) 2 2], .ro (ColsIn A n uCols), .ro (RwsIn (some ⟨gr, 0, none⟩) 2 l)]) (0, (⟨nu, uCols, 4, [(2, vKey b), (3, vKey a)]⟩ : Tb)) (.tuple #[.agg #[.string sa, .slice Aa na ca, .int .i64 xa, .slice Ba ma da], .int .i64 0]) wxa := (GW_on (d := 27) rfl).1 (HGW 7 _ rfl (by omega))
    have hns : NewSlot (Mut None_ [.cst gt 29 #[.string nu, .slice A n c, .int .i64 3, .slice (some ⟨gr, 0, none⟩) 2 2], .ro (ColsIn A n uCols), .ro (RwsIn (some ⟨gr, 0, none⟩) 2 l)]) Ha 29 #[.string ⟨#[]⟩, .slice none 0 0, .int .i64 0, .slice none 0 0] (.pointer (some ⟨ga, 0, none⟩)) wxa := (GW_on (d := 6) rfl).1 (HGW 10 _ rfl (by omega))
    clear HGW
    obtain ⟨g7, hg7, hgH, hgB⟩ := hns
    obtain rfl : ga = g7 := by injection hg7 with hg7; injection hg7 with hg7; injection hg7
    clear hg7
    rw [HHa.out] at hgH
    have HB := Hold.addFreshBlk K5.drew HX _hrm hgH hgB.now
    have hgn := hgB.now
    clear hgB hgH
    obtain ⟨v, hv, TT⟩ := hap
    obtain rfl : _ = v := by injection hv with hv; simpa using hv
    clear hv
    clear K5
    obtain ⟨Aax, nax, cax, Bax, max, dax, lax, ev, -, -, -, -, -, q6, -, q8⟩ := TT
    have ev2 := ev.symm
    injection ev2 with ev2
    simp only [Array.mk.injEq, List.cons.injEq, Value.string.injEq, Value.slice.injEq, Value.int.injEq, and_true, true_and] at ev2
    obtain ⟨rfl, ⟨rfl, rfl, rfl⟩, rfl, rfl, rfl, rfl⟩ := ev2
    clear ev hgn
    obtain rfl : 2 = max := by have h8 := congrArg List.length q8; have h9 := q6.now.len; simp at h8; omega
    clear q6 q8
    have KK := (((HB.store 0 rfl 0 (.string nu)).store 0 rfl 1 (.slice Aax nax cax)).store 0 rfl 2 (.int .i64 4)).store 0 rfl 3 (.slice Bax 2 dax)
    have FB := HB.facts
    simp only [factsL, cellsF, Nat.reduceAdd, List.toList_toArray, and_true, true_and] at FB
    go_wp2_with fail
    generalize (((wxa.setCell _ _).setCell _ _).setCell _ _).setCell _ _ = w6 at KK ⊢
    have K6 := KK.fix_ 0 rfl
    try simp only [List.set_cons_zero, List.set_cons_succ, List.setIfInBounds_toArray] at K6
    clear KK FB HB HX _hrm HHa
    obtain ⟨Hb, hHb⟩ : ∃ H, H = w6.drew.heap.size := ⟨_, rfl⟩
    have HHb := hid hHb
    clear hHb
    refine wp_region_any (by kernel_rfl) ?_
    refine wpAny_holdE [16] 18 115 ([.cst ga 29 #[.string nu, .slice Aax nax cax, .int .i64 4, .slice Bax 2 dax], .cst gt 29 #[.string nu, .slice A n c, .int .i64 3, .slice (some ⟨gr, 0, none⟩) 2 2], .ro (ColsIn A n uCols), .ro (RwsIn (some ⟨gr, 0, none⟩) 2 l)]) (spL [(40, (VlsSlot (Mut None_ [.cst ga 29 #[.string nu, .slice Aax nax cax, .int .i64 4, .slice Bax 2 dax], .cst gt 29 #[.string nu, .slice A n c, .int .i64 3, .slice (some ⟨gr, 0, none⟩) 2 2], .ro (ColsIn A n uCols), .ro (RwsIn (some ⟨gr, 0, none⟩) 2 l)]) (vKey a))), (42, (VlsSlot (Mut None_ [.cst ga 29 #[.string nu, .slice Aax nax cax, .int .i64 4, .slice Bax 2 dax], .cst gt 29 #[.string nu, .slice A n c, .int .i64 3, .slice (some ⟨gr, 0, none⟩) 2 2], .ro (ColsIn A n uCols), .ro (RwsIn (some ⟨gr, 0, none⟩) 2 l)]) (vKey b))), (43, (PrSlot (Mut None_ [.cst ga 29 #[.string nu, .slice Aax nax cax, .int .i64 4, .slice Bax 2 dax], .cst gt 29 #[.string nu, .slice A n c, .int .i64 3, .slice (some ⟨gr, 0, none⟩) 2 2], .ro (ColsIn A n uCols), .ro (RwsIn (some ⟨gr, 0, none⟩) 2 l)]) (1, vKey a, vKey b))), (45, (VlsSlot (Mut None_ [.cst ga 29 #[.string nu, .slice Aax nax cax, .int .i64 4, .slice Bax 2 dax], .cst gt 29 #[.string nu, .slice A n c, .int .i64 3, .slice (some ⟨gr, 0, none⟩) 2 2], .ro (ColsIn A n uCols), .ro (RwsIn (some ⟨gr, 0, none⟩) 2 l)]) (vKey b))), (47, (VlsSlot (Mut None_ [.cst ga 29 #[.string nu, .slice Aax nax cax, .int .i64 4, .slice Bax 2 dax], .cst gt 29 #[.string nu, .slice A n c, .int .i64 3, .slice (some ⟨gr, 0, none⟩) 2 2], .ro (ColsIn A n uCols), .ro (RwsIn (some ⟨gr, 0, none⟩) 2 l)]) (vKey a))), (48, (PrSlot (Mut None_ [.cst ga 29 #[.string nu, .slice Aax nax cax, .int .i64 4, .slice Bax 2 dax], .cst gt 29 #[.string nu, .slice A n c, .int .i64 3, .slice (some ⟨gr, 0, none⟩) 2 2], .ro (ColsIn A n uCols), .ro (RwsIn (some ⟨gr, 0, none⟩) 2 l)]) (2, vKey b, vKey a))), (49, (PrsSlot (Mut None_ [.cst ga 29 #[.string nu, .slice Aax nax cax, .int .i64 4, .slice Bax 2 dax], .cst gt 29 #[.string nu, .slice A n c, .int .i64 3, .slice (some ⟨gr, 0, none⟩) 2 2], .ro (ColsIn A n uCols), .ro (RwsIn (some ⟨gr, 0, none⟩) 2 l)]) [(1, vKey a, vKey b), (2, vKey b, vKey a)])), (50, (ChgSlot (Mut None_ [.cst ga 29 #[.string nu, .slice Aax nax cax, .int .i64 4, .slice Bax 2 dax], .cst gt 29 #[.string nu, .slice A n c, .int .i64 3, .slice (some ⟨gr, 0, none⟩) 2 2], .ro (ColsIn A n uCols), .ro (RwsIn (some ⟨gr, 0, none⟩) 2 l)]) [] [] [(1, vKey a, vKey b), (2, vKey b, vKey a)])), (51, (ApSlot (Mut None_ [.cst ga 29 #[.string nu, .slice Aax nax cax, .int .i64 4, .slice Bax 2 dax], .cst gt 29 #[.string nu, .slice A n c, .int .i64 3, .slice (some ⟨gr, 0, none⟩) 2 2], .ro (ColsIn A n uCols), .ro (RwsIn (some ⟨gr, 0, none⟩) 2 l)]) (0, (⟨nu, uCols, 3, [(1, vKey b), (2, vKey a)]⟩ : Tb)))), (37, (ApSlot (Mut None_ [.cst ga 29 #[.string nu, .slice Aax nax cax, .int .i64 4, .slice Bax 2 dax], .cst gt 29 #[.string nu, .slice A n c, .int .i64 3, .slice (some ⟨gr, 0, none⟩) 2 2], .ro (ColsIn A n uCols), .ro (RwsIn (some ⟨gr, 0, none⟩) 2 l)]) (0, (⟨nu, uCols, 3, [(1, vKey b), (2, vKey a)]⟩ : Tb)))), (8, (NewSlot (Mut None_ [.cst ga 29 #[.string nu, .slice Aax nax cax, .int .i64 4, .slice Bax 2 dax], .cst gt 29 #[.string nu, .slice A n c, .int .i64 3, .slice (some ⟨gr, 0, none⟩) 2 2], .ro (ColsIn A n uCols), .ro (RwsIn (some ⟨gr, 0, none⟩) 2 l)]) Hb 29 #[.string ⟨#[]⟩, .slice none 0 0, .int .i64 0, .slice none 0 0]))]) (by kernel_rfl) (fun _ d _ _ _ h => by cases d <;> exact h) (by kernel_rfl) (by kernel_rfl) rfl ?_ (K6.drew) ?_
    · exact stays_cons vlsSlot_mono (stays_cons vlsSlot_mono (stays_cons prSlot_mono (stays_cons vlsSlot_mono (stays_cons vlsSlot_mono (stays_cons prSlot_mono (stays_cons prsSlot_mono (stays_cons chgSlot_mono (stays_cons apSlot_mono (stays_cons apSlot_mono (stays_cons newSlot_mono (stays_nil _)))))))))))
    simp only [List.take_succ_cons, List.take_zero, List.drop_succ_cons, List.drop_zero, Act.put, List.getElem_toArray, List.getElem_cons_zero, List.getElem_cons_succ, List.setIfInBounds_toArray, List.set_cons_succ, List.set_cons_zero]
    refine dw_val rfl rfl rfl ?_; apply Exists.intro; refine ⟨fun wv HC => ?_, ?_⟩
    · have FC := HC.facts; simp only [factsL, cellsF, Nat.reduceAdd, List.toList_toArray, and_true, true_and] at FC; go_simp <;> rfl
    simp only [Act.put, List.setIfInBounds_toArray, List.set_cons_succ, List.set_cons_zero]
    refine dw_val rfl rfl rfl ?_; apply Exists.intro; refine ⟨fun wv HC => ?_, ?_⟩
    ·  go_simp <;> rfl
    simp only [Act.put, List.setIfInBounds_toArray, List.set_cons_succ, List.set_cons_zero]
    refine dw_callR 40 (VlsSlot (Mut None_ [.cst ga 29 #[.string nu, .slice Aax nax cax, .int .i64 4, .slice Bax 2 dax], .cst gt 29 #[.string nu, .slice A n c, .int .i64 3, .slice (some ⟨gr, 0, none⟩) 2 2], .ro (ColsIn A n uCols), .ro (RwsIn (some ⟨gr, 0, none⟩) 2 l)]) (vKey a)) (f := 11) (args := #[.int .i64 a]) rfl rfl rfl rfl (fun wv => ?_) (fun wv HC hrm hD => ?_) ?_
    · go_simp <;> rfl
    · refine (keyed_any _ wv HC.mutLt a).mono ?_
      rintro e w6 ⟨v, rfl, hv, b6⟩
      exact ⟨_, rfl, hv, HC.call b6, RM.below b6⟩
    rintro u wx HCx ⟨A40, n40, c40, rfl, -, -, -, -⟩
    clear HCx
    simp only [Act.put, List.setIfInBounds_toArray, List.set_cons_succ, List.set_cons_zero]
    refine dw_val rfl rfl rfl ?_; apply Exists.intro; refine ⟨fun wv HC => ?_, ?_⟩
    ·  go_simp <;> rfl
    simp only [Act.put, List.setIfInBounds_toArray, List.set_cons_succ, List.set_cons_zero]
    refine dw_callR 42 (VlsSlot (Mut None_ [.cst ga 29 #[.string nu, .slice Aax nax cax, .int .i64 4, .slice Bax 2 dax], .cst gt 29 #[.string nu, .slice A n c, .int .i64 3, .slice (some ⟨gr, 0, none⟩) 2 2], .ro (ColsIn A n uCols), .ro (RwsIn (some ⟨gr, 0, none⟩) 2 l)]) (vKey b)) (f := 11) (args := #[.int .i64 b]) rfl rfl rfl rfl (fun wv => ?_) (fun wv HC hrm hD => ?_) ?_
    · go_simp <;> rfl
    · refine (keyed_any _ wv HC.mutLt b).mono ?_
      rintro e w6 ⟨v, rfl, hv, b6⟩
      exact ⟨_, rfl, hv, HC.call b6, RM.below b6⟩
    rintro u wx HCx ⟨A42, n42, c42, rfl, -, -, -, -⟩
    clear HCx
    simp only [Act.put, List.setIfInBounds_toArray, List.set_cons_succ, List.set_cons_zero]
    refine dw_valC 43 (PrSlot (Mut None_ [.cst ga 29 #[.string nu, .slice Aax nax cax, .int .i64 4, .slice Bax 2 dax], .cst gt 29 #[.string nu, .slice A n c, .int .i64 3, .slice (some ⟨gr, 0, none⟩) 2 2], .ro (ColsIn A n uCols), .ro (RwsIn (some ⟨gr, 0, none⟩) 2 l)]) (1, vKey a, vKey b)) rfl rfl rfl rfl (.agg #[.int .i64 1, .slice A40 n40 c40, .slice A42 n42 c42]) (fun wv HC => ?_) (fun wv HC hD => ?_) ?_
    · go_simp <;> rfl
    · have ha : VlsSlot (Mut None_ [.cst ga 29 #[.string nu, .slice Aax nax cax, .int .i64 4, .slice Bax 2 dax], .cst gt 29 #[.string nu, .slice A n c, .int .i64 3, .slice (some ⟨gr, 0, none⟩) 2 2], .ro (ColsIn A n uCols), .ro (RwsIn (some ⟨gr, 0, none⟩) 2 l)]) (vKey a) (.slice A40 n40 c40) wv := deps_at hD 2 rfl (by kernel_rfl) rfl rfl
      have hb : VlsSlot (Mut None_ [.cst ga 29 #[.string nu, .slice Aax nax cax, .int .i64 4, .slice Bax 2 dax], .cst gt 29 #[.string nu, .slice A n c, .int .i64 3, .slice (some ⟨gr, 0, none⟩) 2 2], .ro (ColsIn A n uCols), .ro (RwsIn (some ⟨gr, 0, none⟩) 2 l)]) (vKey b) (.slice A42 n42 c42) wv := deps_at hD 4 rfl (by kernel_rfl) rfl rfl
      exact prSlot_of (by unfold I64; omega) (vKey_ok (by first | assumption | (unfold I64; omega))) (vKey_ok (by first | assumption | (unfold I64; omega))) ha hb
    simp only [Act.put, List.setIfInBounds_toArray, List.set_cons_succ, List.set_cons_zero]
    refine dw_val rfl rfl rfl ?_; apply Exists.intro; refine ⟨fun wv HC => ?_, ?_⟩
    ·  go_simp <;> rfl
    simp only [Act.put, List.setIfInBounds_toArray, List.set_cons_succ, List.set_cons_zero]
    refine dw_callR 45 (VlsSlot (Mut None_ [.cst ga 29 #[.string nu, .slice Aax nax cax, .int .i64 4, .slice Bax 2 dax], .cst gt 29 #[.string nu, .slice A n c, .int .i64 3, .slice (some ⟨gr, 0, none⟩) 2 2], .ro (ColsIn A n uCols), .ro (RwsIn (some ⟨gr, 0, none⟩) 2 l)]) (vKey b)) (f := 11) (args := #[.int .i64 b]) rfl rfl rfl rfl (fun wv => ?_) (fun wv HC hrm hD => ?_) ?_
    · go_simp <;> rfl
    · refine (keyed_any _ wv HC.mutLt b).mono ?_
      rintro e w6 ⟨v, rfl, hv, b6⟩
      exact ⟨_, rfl, hv, HC.call b6, RM.below b6⟩
    rintro u wx HCx ⟨A45, n45, c45, rfl, -, -, -, -⟩
    clear HCx
    simp only [Act.put, List.setIfInBounds_toArray, List.set_cons_succ, List.set_cons_zero]
    refine dw_val rfl rfl rfl ?_; apply Exists.intro; refine ⟨fun wv HC => ?_, ?_⟩
    ·  go_simp <;> rfl
    simp only [Act.put, List.setIfInBounds_toArray, List.set_cons_succ, List.set_cons_zero]
    refine dw_callR 47 (VlsSlot (Mut None_ [.cst ga 29 #[.string nu, .slice Aax nax cax, .int .i64 4, .slice Bax 2 dax], .cst gt 29 #[.string nu, .slice A n c, .int .i64 3, .slice (some ⟨gr, 0, none⟩) 2 2], .ro (ColsIn A n uCols), .ro (RwsIn (some ⟨gr, 0, none⟩) 2 l)]) (vKey a)) (f := 11) (args := #[.int .i64 a]) rfl rfl rfl rfl (fun wv => ?_) (fun wv HC hrm hD => ?_) ?_
    · go_simp <;> rfl
    · refine (keyed_any _ wv HC.mutLt a).mono ?_
      rintro e w6 ⟨v, rfl, hv, b6⟩
      exact ⟨_, rfl, hv, HC.call b6, RM.below b6⟩
    rintro u wx HCx ⟨A47, n47, c47, rfl, -, -, -, -⟩
    clear HCx
    simp only [Act.put, List.setIfInBounds_toArray, List.set_cons_succ, List.set_cons_zero]
    refine dw_valC 48 (PrSlot (Mut None_ [.cst ga 29 #[.string nu, .slice Aax nax cax, .int .i64 4, .slice Bax 2 dax], .cst gt 29 #[.string nu, .slice A n c, .int .i64 3, .slice (some ⟨gr, 0, none⟩) 2 2], .ro (ColsIn A n uCols), .ro (RwsIn (some ⟨gr, 0, none⟩) 2 l)]) (2, vKey b, vKey a)) rfl rfl rfl rfl (.agg #[.int .i64 2, .slice A45 n45 c45, .slice A47 n47 c47]) (fun wv HC => ?_) (fun wv HC hD => ?_) ?_
    · go_simp <;> rfl
    · have ha : VlsSlot (Mut None_ [.cst ga 29 #[.string nu, .slice Aax nax cax, .int .i64 4, .slice Bax 2 dax], .cst gt 29 #[.string nu, .slice A n c, .int .i64 3, .slice (some ⟨gr, 0, none⟩) 2 2], .ro (ColsIn A n uCols), .ro (RwsIn (some ⟨gr, 0, none⟩) 2 l)]) (vKey b) (.slice A45 n45 c45) wv := deps_at hD 7 rfl (by kernel_rfl) rfl rfl
      have hb : VlsSlot (Mut None_ [.cst ga 29 #[.string nu, .slice Aax nax cax, .int .i64 4, .slice Bax 2 dax], .cst gt 29 #[.string nu, .slice A n c, .int .i64 3, .slice (some ⟨gr, 0, none⟩) 2 2], .ro (ColsIn A n uCols), .ro (RwsIn (some ⟨gr, 0, none⟩) 2 l)]) (vKey a) (.slice A47 n47 c47) wv := deps_at hD 9 rfl (by kernel_rfl) rfl rfl
      exact prSlot_of (by unfold I64; omega) (vKey_ok (by first | assumption | (unfold I64; omega))) (vKey_ok (by first | assumption | (unfold I64; omega))) ha hb
    simp only [Act.put, List.setIfInBounds_toArray, List.set_cons_succ, List.set_cons_zero]
    refine dw_new #[.int .i64 1, .slice A40 n40 c40, .slice A42 n42 c42, .int .i64 2, .slice A45 n45 c45, .slice A47 n47 c47] 48 49 (PrsSlot (Mut None_ [.cst ga 29 #[.string nu, .slice Aax nax cax, .int .i64 4, .slice Bax 2 dax], .cst gt 29 #[.string nu, .slice A n c, .int .i64 3, .slice (some ⟨gr, 0, none⟩) 2 2], .ro (ColsIn A n uCols), .ro (RwsIn (some ⟨gr, 0, none⟩) 2 l)]) [(1, vKey a, vKey b), (2, vKey b, vKey a)]) (fun g => .slice (some ⟨g, 0, none⟩) 2 2) rfl rfl rfl rfl (fun wv => ?_) (fun wv HC _hrm hD hro => ?_) ?_
    · go_simp <;> rfl
    · have hrr := RM.alloc (Mut None_ [.cst ga 29 #[.string nu, .slice Aax nax cax, .int .i64 4, .slice Bax 2 dax], .cst gt 29 #[.string nu, .slice A n c, .int .i64 3, .slice (some ⟨gr, 0, none⟩) 2 2], .ro (ColsIn A n uCols), .ro (RwsIn (some ⟨gr, 0, none⟩) 2 l)]) wv (.cells #[.int .i64 1, .slice A40 n40 c40, .slice A42 n42 c42, .int .i64 2, .slice A45 n45 c45, .slice A47 n47 c47] 48)
      have h0 : PrSlot (Mut None_ [.cst ga 29 #[.string nu, .slice Aax nax cax, .int .i64 4, .slice Bax 2 dax], .cst gt 29 #[.string nu, .slice A n c, .int .i64 3, .slice (some ⟨gr, 0, none⟩) 2 2], .ro (ColsIn A n uCols), .ro (RwsIn (some ⟨gr, 0, none⟩) 2 l)]) (1, vKey a, vKey b) (.agg #[.int .i64 1, .slice A40 n40 c40, .slice A42 n42 c42]) wv := deps_at hD 5 rfl (by kernel_rfl) rfl rfl
      have h1 : PrSlot (Mut None_ [.cst ga 29 #[.string nu, .slice Aax nax cax, .int .i64 4, .slice Bax 2 dax], .cst gt 29 #[.string nu, .slice A n c, .int .i64 3, .slice (some ⟨gr, 0, none⟩) 2 2], .ro (ColsIn A n uCols), .ro (RwsIn (some ⟨gr, 0, none⟩) 2 l)]) (2, vKey b, vKey a) (.agg #[.int .i64 2, .slice A45 n45 c45, .slice A47 n47 c47]) wv := deps_at hD 10 rfl (by kernel_rfl) rfl rfl
      replace h0 := prSlot_mono _ _ _ hrr h0
      replace h1 := prSlot_mono _ _ _ hrr h1
      exact prsSlot_two (hro _ HC.mutLt) (fun i j k i2 j2 k2 e1 e2 => by injection e1 with e1; injection e2 with e2; simp at e1 e2; obtain ⟨rfl, rfl, rfl⟩ := e1; obtain ⟨rfl, rfl, rfl⟩ := e2; rfl) h0 h1
    rintro g49 wg HCg hsl
    simp only [Act.put, List.setIfInBounds_toArray, List.set_cons_succ, List.set_cons_zero]
    clear hsl HCg
    refine dw_valC 50 (ChgSlot (Mut None_ [.cst ga 29 #[.string nu, .slice Aax nax cax, .int .i64 4, .slice Bax 2 dax], .cst gt 29 #[.string nu, .slice A n c, .int .i64 3, .slice (some ⟨gr, 0, none⟩) 2 2], .ro (ColsIn A n uCols), .ro (RwsIn (some ⟨gr, 0, none⟩) 2 l)]) [] [] [(1, vKey a, vKey b), (2, vKey b, vKey a)]) rfl rfl rfl rfl (.agg #[.slice none 0 0, .slice none 0 0, .slice (some ⟨g49, 0, none⟩) 2 2]) (fun wv HC => ?_) (fun wv HC hD => ?_) ?_
    · go_simp <;> rfl
    · have h0 : SlsSlot (Mut None_ [.cst ga 29 #[.string nu, .slice Aax nax cax, .int .i64 4, .slice Bax 2 dax], .cst gt 29 #[.string nu, .slice A n c, .int .i64 3, .slice (some ⟨gr, 0, none⟩) 2 2], .ro (ColsIn A n uCols), .ro (RwsIn (some ⟨gr, 0, none⟩) 2 l)]) [] (.slice none 0 0) wv := slsSlot_nil _
      have h1 : IsSlot (Mut None_ [.cst ga 29 #[.string nu, .slice Aax nax cax, .int .i64 4, .slice Bax 2 dax], .cst gt 29 #[.string nu, .slice A n c, .int .i64 3, .slice (some ⟨gr, 0, none⟩) 2 2], .ro (ColsIn A n uCols), .ro (RwsIn (some ⟨gr, 0, none⟩) 2 l)]) [] (.slice none 0 0) wv := isSlot_nil _
      have h2 : PrsSlot (Mut None_ [.cst ga 29 #[.string nu, .slice Aax nax cax, .int .i64 4, .slice Bax 2 dax], .cst gt 29 #[.string nu, .slice A n c, .int .i64 3, .slice (some ⟨gr, 0, none⟩) 2 2], .ro (ColsIn A n uCols), .ro (RwsIn (some ⟨gr, 0, none⟩) 2 l)]) [(1, vKey a, vKey b), (2, vKey b, vKey a)] (.slice (some ⟨g49, 0, none⟩) 2 2) wv := deps_at hD 11 rfl (by kernel_rfl) rfl rfl
      exact chgSlot_of h0 h1 h2
    simp only [Act.put, List.setIfInBounds_toArray, List.set_cons_succ, List.set_cons_zero]
    refine dw_callR 51 (ApSlot (Mut None_ [.cst ga 29 #[.string nu, .slice Aax nax cax, .int .i64 4, .slice Bax 2 dax], .cst gt 29 #[.string nu, .slice A n c, .int .i64 3, .slice (some ⟨gr, 0, none⟩) 2 2], .ro (ColsIn A n uCols), .ro (RwsIn (some ⟨gr, 0, none⟩) 2 l)]) (0, (⟨nu, uCols, 3, [(1, vKey b), (2, vKey a)]⟩ : Tb))) (f := 12) (args := #[.agg #[.string nu, .slice A n c, .int .i64 3, .slice (some ⟨gr, 0, none⟩) 2 2], .agg #[.slice none 0 0, .slice none 0 0, .slice (some ⟨g49, 0, none⟩) 2 2]]) rfl rfl rfl rfl (fun wv => ?_) (fun wv HC hrm hD => ?_) ?_
    · go_simp <;> rfl
    · have hc : ChgSlot (Mut None_ [.cst ga 29 #[.string nu, .slice Aax nax cax, .int .i64 4, .slice Bax 2 dax], .cst gt 29 #[.string nu, .slice A n c, .int .i64 3, .slice (some ⟨gr, 0, none⟩) 2 2], .ro (ColsIn A n uCols), .ro (RwsIn (some ⟨gr, 0, none⟩) 2 l)]) [] [] [(1, vKey a, vKey b), (2, vKey b, vKey a)] (.agg #[.slice none 0 0, .slice none 0 0, .slice (some ⟨g49, 0, none⟩) 2 2]) wv := deps_at hD 12 rfl (by kernel_rfl) rfl rfl
      have hk := kapply_slot _ wv HC.mutLt _ _ ⟨nu, uCols, 3, mRows a b⟩ [] [] [(1, vKey a, vKey b), (2, vKey b, vKey a)] ⟨A, n, c, some ⟨gr, 0, none⟩, 2, 2, l, rfl, h1, by omega, by omega, by omega, HC.ro 2 rfl, HC.ro 3 rfl, HLK.out, HLR.out⟩ hc HS.out.1 HS.out.2.1 (by simp [mRows]) (by simp) (by simp) (by simp)
      rw [show applyC _ _ _ _ _ _ _ = _ from HK2.out] at hk
      refine hk.mono ?_
      rintro e w6 ⟨v, rfl, hv, b6⟩
      exact ⟨_, rfl, hv, HC.call b6, RM.below b6⟩
    rintro u wx HCx ⟨v, rfl, Ab, nb, cb, Bb, mb, db, lb, hv, -, -, -, -, -, -, -, -⟩
    obtain ⟨sb, xb, rfl⟩ : ∃ s x, v = .agg #[.string s, .slice Ab nb cb, .int .i64 x, .slice Bb mb db] := ⟨_, _, hv⟩
    clear HCx hv
    simp only [Act.put, List.setIfInBounds_toArray, List.set_cons_succ, List.set_cons_zero]
    refine dw_valC 37 (ApSlot (Mut None_ [.cst ga 29 #[.string nu, .slice Aax nax cax, .int .i64 4, .slice Bax 2 dax], .cst gt 29 #[.string nu, .slice A n c, .int .i64 3, .slice (some ⟨gr, 0, none⟩) 2 2], .ro (ColsIn A n uCols), .ro (RwsIn (some ⟨gr, 0, none⟩) 2 l)]) (0, (⟨nu, uCols, 3, [(1, vKey b), (2, vKey a)]⟩ : Tb))) rfl rfl rfl rfl (.tuple #[.agg #[.string sb, .slice Ab nb cb, .int .i64 xb, .slice Bb mb db], .int .i64 0]) (fun wv HC => ?_) (fun wv HC hD => ?_) ?_
    · go_simp <;> rfl
    · exact deps_at hD 13 rfl (by kernel_rfl) rfl rfl
    simp only [Act.put, List.setIfInBounds_toArray, List.set_cons_succ, List.set_cons_zero]
    refine dw_val rfl rfl rfl ?_; apply Exists.intro; refine ⟨fun wv HC => ?_, ?_⟩
    ·  go_simp <;> rfl
    simp only [Act.put, List.setIfInBounds_toArray, List.set_cons_succ, List.set_cons_zero]
    refine dw_val rfl rfl rfl ?_; apply Exists.intro; refine ⟨fun wv HC => ?_, ?_⟩
    ·  go_simp <;> rfl
    simp only [Act.put, List.setIfInBounds_toArray, List.set_cons_succ, List.set_cons_zero]
    refine dw_new #[.string ⟨#[]⟩, .slice none 0 0, .int .i64 0, .slice none 0 0] 29 8 (NewSlot (Mut None_ [.cst ga 29 #[.string nu, .slice Aax nax cax, .int .i64 4, .slice Bax 2 dax], .cst gt 29 #[.string nu, .slice A n c, .int .i64 3, .slice (some ⟨gr, 0, none⟩) 2 2], .ro (ColsIn A n uCols), .ro (RwsIn (some ⟨gr, 0, none⟩) 2 l)]) Hb 29 #[.string ⟨#[]⟩, .slice none 0 0, .int .i64 0, .slice none 0 0]) (fun g => .pointer (some ⟨g, 0, none⟩)) rfl rfl rfl rfl (fun wv => ?_) (fun wv HC hrm hD hro => ?_) ?_
    · go_simp <;> rfl
    · exact ⟨_, rfl, by have := hrm.1; rw [HHb.out]; exact this, hro _ HC.mutLt⟩
    rintro gb wg HCg hsl
    simp only [Act.put, List.setIfInBounds_toArray, List.set_cons_succ, List.set_cons_zero]
    clear hsl HCg
    refine rel_nil ?_
    rintro wxb HX
    rintro _hrm HGW
    have hap : ApSlot (Mut None_ [.cst ga 29 #[.string nu, .slice Aax nax cax, .int .i64 4, .slice Bax 2 dax], .cst gt 29 #[.string nu, .slice A n c, .int .i64 3, .slice (some ⟨gr, 0, none⟩) 2 2], .ro (ColsIn A n uCols), .ro (RwsIn (some ⟨gr, 0, none⟩) 2 l)]) (0, (⟨nu, uCols, 3, [(1, vKey b), (2, vKey a)]⟩ : Tb)) (.tuple #[.agg #[.string sb, .slice Ab nb cb, .int .i64 xb, .slice Bb mb db], .int .i64 0]) wxb := (GW_on (d := 37) rfl).1 (HGW 14 _ rfl (by omega))
    have hns : NewSlot (Mut None_ [.cst ga 29 #[.string nu, .slice Aax nax cax, .int .i64 4, .slice Bax 2 dax], .cst gt 29 #[.string nu, .slice A n c, .int .i64 3, .slice (some ⟨gr, 0, none⟩) 2 2], .ro (ColsIn A n uCols), .ro (RwsIn (some ⟨gr, 0, none⟩) 2 l)]) Hb 29 #[.string ⟨#[]⟩, .slice none 0 0, .int .i64 0, .slice none 0 0] (.pointer (some ⟨gb, 0, none⟩)) wxb := (GW_on (d := 8) rfl).1 (HGW 17 _ rfl (by omega))
    clear HGW
    obtain ⟨g7, hg7, hgH, hgB⟩ := hns
    obtain rfl : gb = g7 := by injection hg7 with hg7; injection hg7 with hg7; injection hg7
    clear hg7
    rw [HHb.out] at hgH
    have HB := Hold.addFreshBlk K6.drew HX _hrm hgH hgB.now
    have hgn := hgB.now
    clear hgB hgH
    obtain ⟨v, hv, TT⟩ := hap
    obtain rfl : _ = v := by injection hv with hv; simpa using hv
    clear hv
    clear K6
    obtain ⟨Abx, nbx, cbx, Bbx, mbx, dbx, lbx, ev, -, -, -, -, -, q6, -, q8⟩ := TT
    have ev2 := ev.symm
    injection ev2 with ev2
    simp only [Array.mk.injEq, List.cons.injEq, Value.string.injEq, Value.slice.injEq, Value.int.injEq, and_true, true_and] at ev2
    obtain ⟨rfl, ⟨rfl, rfl, rfl⟩, rfl, rfl, rfl, rfl⟩ := ev2
    clear ev hgn
    obtain rfl : 2 = mbx := by have h8 := congrArg List.length q8; have h9 := q6.now.len; simp at h8; omega
    clear q6 q8
    have KK := (((HB.store 0 rfl 0 (.string nu)).store 0 rfl 1 (.slice Abx nbx cbx)).store 0 rfl 2 (.int .i64 3)).store 0 rfl 3 (.slice Bbx 2 dbx)
    have FB := HB.facts
    simp only [factsL, cellsF, Nat.reduceAdd, List.toList_toArray, and_true, true_and] at FB
    go_wp2_with fail
    generalize (((wxb.setCell _ _).setCell _ _).setCell _ _).setCell _ _ = w7 at KK ⊢
    have K7 := KK.fix_ 0 rfl
    try simp only [List.set_cons_zero, List.set_cons_succ, List.setIfInBounds_toArray] at K7
    clear KK FB HB HX _hrm HHb
    obtain ⟨Hc, hHc⟩ : ∃ H, H = w7.drew.heap.size := ⟨_, rfl⟩
    have HHc := hid hHc
    clear hHc
    refine wp_region_any (by kernel_rfl) ?_
    refine wpAny_holdE [11] 13 115 ([.cst gb 29 #[.string nu, .slice Abx nbx cbx, .int .i64 3, .slice Bbx 2 dbx], .cst ga 29 #[.string nu, .slice Aax nax cax, .int .i64 4, .slice Bax 2 dax], .cst gt 29 #[.string nu, .slice A n c, .int .i64 3, .slice (some ⟨gr, 0, none⟩) 2 2], .ro (ColsIn A n uCols), .ro (RwsIn (some ⟨gr, 0, none⟩) 2 l)]) (spL [(57, (VlsSlot (Mut None_ [.cst gb 29 #[.string nu, .slice Abx nbx cbx, .int .i64 3, .slice Bbx 2 dbx], .cst ga 29 #[.string nu, .slice Aax nax cax, .int .i64 4, .slice Bax 2 dax], .cst gt 29 #[.string nu, .slice A n c, .int .i64 3, .slice (some ⟨gr, 0, none⟩) 2 2], .ro (ColsIn A n uCols), .ro (RwsIn (some ⟨gr, 0, none⟩) 2 l)]) (vKey a))), (59, (VlsSlot (Mut None_ [.cst gb 29 #[.string nu, .slice Abx nbx cbx, .int .i64 3, .slice Bbx 2 dbx], .cst ga 29 #[.string nu, .slice Aax nax cax, .int .i64 4, .slice Bax 2 dax], .cst gt 29 #[.string nu, .slice A n c, .int .i64 3, .slice (some ⟨gr, 0, none⟩) 2 2], .ro (ColsIn A n uCols), .ro (RwsIn (some ⟨gr, 0, none⟩) 2 l)]) (vKey b))), (60, (PrSlot (Mut None_ [.cst gb 29 #[.string nu, .slice Abx nbx cbx, .int .i64 3, .slice Bbx 2 dbx], .cst ga 29 #[.string nu, .slice Aax nax cax, .int .i64 4, .slice Bax 2 dax], .cst gt 29 #[.string nu, .slice A n c, .int .i64 3, .slice (some ⟨gr, 0, none⟩) 2 2], .ro (ColsIn A n uCols), .ro (RwsIn (some ⟨gr, 0, none⟩) 2 l)]) (1, vKey a, vKey b))), (61, (PrsSlot (Mut None_ [.cst gb 29 #[.string nu, .slice Abx nbx cbx, .int .i64 3, .slice Bbx 2 dbx], .cst ga 29 #[.string nu, .slice Aax nax cax, .int .i64 4, .slice Bax 2 dax], .cst gt 29 #[.string nu, .slice A n c, .int .i64 3, .slice (some ⟨gr, 0, none⟩) 2 2], .ro (ColsIn A n uCols), .ro (RwsIn (some ⟨gr, 0, none⟩) 2 l)]) [(1, vKey a, vKey b)])), (62, (ChgSlot (Mut None_ [.cst gb 29 #[.string nu, .slice Abx nbx cbx, .int .i64 3, .slice Bbx 2 dbx], .cst ga 29 #[.string nu, .slice Aax nax cax, .int .i64 4, .slice Bax 2 dax], .cst gt 29 #[.string nu, .slice A n c, .int .i64 3, .slice (some ⟨gr, 0, none⟩) 2 2], .ro (ColsIn A n uCols), .ro (RwsIn (some ⟨gr, 0, none⟩) 2 l)]) [] [] [(1, vKey a, vKey b)])), (63, (ApSlot (Mut None_ [.cst gb 29 #[.string nu, .slice Abx nbx cbx, .int .i64 3, .slice Bbx 2 dbx], .cst ga 29 #[.string nu, .slice Aax nax cax, .int .i64 4, .slice Bax 2 dax], .cst gt 29 #[.string nu, .slice A n c, .int .i64 3, .slice (some ⟨gr, 0, none⟩) 2 2], .ro (ColsIn A n uCols), .ro (RwsIn (some ⟨gr, 0, none⟩) 2 l)]) (9, zeroT))), (54, (ApSlot (Mut None_ [.cst gb 29 #[.string nu, .slice Abx nbx cbx, .int .i64 3, .slice Bbx 2 dbx], .cst ga 29 #[.string nu, .slice Aax nax cax, .int .i64 4, .slice Bax 2 dax], .cst gt 29 #[.string nu, .slice A n c, .int .i64 3, .slice (some ⟨gr, 0, none⟩) 2 2], .ro (ColsIn A n uCols), .ro (RwsIn (some ⟨gr, 0, none⟩) 2 l)]) (9, zeroT))), (10, (NewSlot (Mut None_ [.cst gb 29 #[.string nu, .slice Abx nbx cbx, .int .i64 3, .slice Bbx 2 dbx], .cst ga 29 #[.string nu, .slice Aax nax cax, .int .i64 4, .slice Bax 2 dax], .cst gt 29 #[.string nu, .slice A n c, .int .i64 3, .slice (some ⟨gr, 0, none⟩) 2 2], .ro (ColsIn A n uCols), .ro (RwsIn (some ⟨gr, 0, none⟩) 2 l)]) Hc 29 #[.string ⟨#[]⟩, .slice none 0 0, .int .i64 0, .slice none 0 0]))]) (by kernel_rfl) (fun _ d _ _ _ h => by cases d <;> exact h) (by kernel_rfl) (by kernel_rfl) rfl ?_ (K7.drew) ?_
    · exact stays_cons vlsSlot_mono (stays_cons vlsSlot_mono (stays_cons prSlot_mono (stays_cons prsSlot_mono (stays_cons chgSlot_mono (stays_cons apSlot_mono (stays_cons apSlot_mono (stays_cons newSlot_mono (stays_nil _))))))))
    simp only [List.take_succ_cons, List.take_zero, List.drop_succ_cons, List.drop_zero, Act.put, List.getElem_toArray, List.getElem_cons_zero, List.getElem_cons_succ, List.setIfInBounds_toArray, List.set_cons_succ, List.set_cons_zero]
    refine dw_val rfl rfl rfl ?_; apply Exists.intro; refine ⟨fun wv HC => ?_, ?_⟩
    · have FC := HC.facts; simp only [factsL, cellsF, Nat.reduceAdd, List.toList_toArray, and_true, true_and] at FC; go_simp <;> rfl
    simp only [Act.put, List.setIfInBounds_toArray, List.set_cons_succ, List.set_cons_zero]
    refine dw_val rfl rfl rfl ?_; apply Exists.intro; refine ⟨fun wv HC => ?_, ?_⟩
    ·  go_simp <;> rfl
    simp only [Act.put, List.setIfInBounds_toArray, List.set_cons_succ, List.set_cons_zero]
    refine dw_callR 57 (VlsSlot (Mut None_ [.cst gb 29 #[.string nu, .slice Abx nbx cbx, .int .i64 3, .slice Bbx 2 dbx], .cst ga 29 #[.string nu, .slice Aax nax cax, .int .i64 4, .slice Bax 2 dax], .cst gt 29 #[.string nu, .slice A n c, .int .i64 3, .slice (some ⟨gr, 0, none⟩) 2 2], .ro (ColsIn A n uCols), .ro (RwsIn (some ⟨gr, 0, none⟩) 2 l)]) (vKey a)) (f := 11) (args := #[.int .i64 a]) rfl rfl rfl rfl (fun wv => ?_) (fun wv HC hrm hD => ?_) ?_
    · go_simp <;> rfl
    · refine (keyed_any _ wv HC.mutLt a).mono ?_
      rintro e w6 ⟨v, rfl, hv, b6⟩
      exact ⟨_, rfl, hv, HC.call b6, RM.below b6⟩
    rintro u wx HCx ⟨A57, n57, c57, rfl, -, -, -, -⟩
    clear HCx
    simp only [Act.put, List.setIfInBounds_toArray, List.set_cons_succ, List.set_cons_zero]
    refine dw_val rfl rfl rfl ?_; apply Exists.intro; refine ⟨fun wv HC => ?_, ?_⟩
    ·  go_simp <;> rfl
    simp only [Act.put, List.setIfInBounds_toArray, List.set_cons_succ, List.set_cons_zero]
    refine dw_callR 59 (VlsSlot (Mut None_ [.cst gb 29 #[.string nu, .slice Abx nbx cbx, .int .i64 3, .slice Bbx 2 dbx], .cst ga 29 #[.string nu, .slice Aax nax cax, .int .i64 4, .slice Bax 2 dax], .cst gt 29 #[.string nu, .slice A n c, .int .i64 3, .slice (some ⟨gr, 0, none⟩) 2 2], .ro (ColsIn A n uCols), .ro (RwsIn (some ⟨gr, 0, none⟩) 2 l)]) (vKey b)) (f := 11) (args := #[.int .i64 b]) rfl rfl rfl rfl (fun wv => ?_) (fun wv HC hrm hD => ?_) ?_
    · go_simp <;> rfl
    · refine (keyed_any _ wv HC.mutLt b).mono ?_
      rintro e w6 ⟨v, rfl, hv, b6⟩
      exact ⟨_, rfl, hv, HC.call b6, RM.below b6⟩
    rintro u wx HCx ⟨A59, n59, c59, rfl, -, -, -, -⟩
    clear HCx
    simp only [Act.put, List.setIfInBounds_toArray, List.set_cons_succ, List.set_cons_zero]
    refine dw_valC 60 (PrSlot (Mut None_ [.cst gb 29 #[.string nu, .slice Abx nbx cbx, .int .i64 3, .slice Bbx 2 dbx], .cst ga 29 #[.string nu, .slice Aax nax cax, .int .i64 4, .slice Bax 2 dax], .cst gt 29 #[.string nu, .slice A n c, .int .i64 3, .slice (some ⟨gr, 0, none⟩) 2 2], .ro (ColsIn A n uCols), .ro (RwsIn (some ⟨gr, 0, none⟩) 2 l)]) (1, vKey a, vKey b)) rfl rfl rfl rfl (.agg #[.int .i64 1, .slice A57 n57 c57, .slice A59 n59 c59]) (fun wv HC => ?_) (fun wv HC hD => ?_) ?_
    · go_simp <;> rfl
    · have ha : VlsSlot (Mut None_ [.cst gb 29 #[.string nu, .slice Abx nbx cbx, .int .i64 3, .slice Bbx 2 dbx], .cst ga 29 #[.string nu, .slice Aax nax cax, .int .i64 4, .slice Bax 2 dax], .cst gt 29 #[.string nu, .slice A n c, .int .i64 3, .slice (some ⟨gr, 0, none⟩) 2 2], .ro (ColsIn A n uCols), .ro (RwsIn (some ⟨gr, 0, none⟩) 2 l)]) (vKey a) (.slice A57 n57 c57) wv := deps_at hD 2 rfl (by kernel_rfl) rfl rfl
      have hb : VlsSlot (Mut None_ [.cst gb 29 #[.string nu, .slice Abx nbx cbx, .int .i64 3, .slice Bbx 2 dbx], .cst ga 29 #[.string nu, .slice Aax nax cax, .int .i64 4, .slice Bax 2 dax], .cst gt 29 #[.string nu, .slice A n c, .int .i64 3, .slice (some ⟨gr, 0, none⟩) 2 2], .ro (ColsIn A n uCols), .ro (RwsIn (some ⟨gr, 0, none⟩) 2 l)]) (vKey b) (.slice A59 n59 c59) wv := deps_at hD 4 rfl (by kernel_rfl) rfl rfl
      exact prSlot_of (by unfold I64; omega) (vKey_ok (by first | assumption | (unfold I64; omega))) (vKey_ok (by first | assumption | (unfold I64; omega))) ha hb
    simp only [Act.put, List.setIfInBounds_toArray, List.set_cons_succ, List.set_cons_zero]
    refine dw_new #[.int .i64 1, .slice A57 n57 c57, .slice A59 n59 c59] 48 61 (PrsSlot (Mut None_ [.cst gb 29 #[.string nu, .slice Abx nbx cbx, .int .i64 3, .slice Bbx 2 dbx], .cst ga 29 #[.string nu, .slice Aax nax cax, .int .i64 4, .slice Bax 2 dax], .cst gt 29 #[.string nu, .slice A n c, .int .i64 3, .slice (some ⟨gr, 0, none⟩) 2 2], .ro (ColsIn A n uCols), .ro (RwsIn (some ⟨gr, 0, none⟩) 2 l)]) [(1, vKey a, vKey b)]) (fun g => .slice (some ⟨g, 0, none⟩) 1 1) rfl rfl rfl rfl (fun wv => ?_) (fun wv HC _hrm hD hro => ?_) ?_
    · go_simp <;> rfl
    · have hrr := RM.alloc (Mut None_ [.cst gb 29 #[.string nu, .slice Abx nbx cbx, .int .i64 3, .slice Bbx 2 dbx], .cst ga 29 #[.string nu, .slice Aax nax cax, .int .i64 4, .slice Bax 2 dax], .cst gt 29 #[.string nu, .slice A n c, .int .i64 3, .slice (some ⟨gr, 0, none⟩) 2 2], .ro (ColsIn A n uCols), .ro (RwsIn (some ⟨gr, 0, none⟩) 2 l)]) wv (.cells #[.int .i64 1, .slice A57 n57 c57, .slice A59 n59 c59] 48)
      have h0 : PrSlot (Mut None_ [.cst gb 29 #[.string nu, .slice Abx nbx cbx, .int .i64 3, .slice Bbx 2 dbx], .cst ga 29 #[.string nu, .slice Aax nax cax, .int .i64 4, .slice Bax 2 dax], .cst gt 29 #[.string nu, .slice A n c, .int .i64 3, .slice (some ⟨gr, 0, none⟩) 2 2], .ro (ColsIn A n uCols), .ro (RwsIn (some ⟨gr, 0, none⟩) 2 l)]) (1, vKey a, vKey b) (.agg #[.int .i64 1, .slice A57 n57 c57, .slice A59 n59 c59]) wv := deps_at hD 5 rfl (by kernel_rfl) rfl rfl
      replace h0 := prSlot_mono _ _ _ hrr h0
      exact prsSlot_one (hro _ HC.mutLt) (fun i j k e1 => Value.agg.inj e1) h0
    rintro g61 wg HCg hsl
    simp only [Act.put, List.setIfInBounds_toArray, List.set_cons_succ, List.set_cons_zero]
    clear hsl HCg
    refine dw_valC 62 (ChgSlot (Mut None_ [.cst gb 29 #[.string nu, .slice Abx nbx cbx, .int .i64 3, .slice Bbx 2 dbx], .cst ga 29 #[.string nu, .slice Aax nax cax, .int .i64 4, .slice Bax 2 dax], .cst gt 29 #[.string nu, .slice A n c, .int .i64 3, .slice (some ⟨gr, 0, none⟩) 2 2], .ro (ColsIn A n uCols), .ro (RwsIn (some ⟨gr, 0, none⟩) 2 l)]) [] [] [(1, vKey a, vKey b)]) rfl rfl rfl rfl (.agg #[.slice none 0 0, .slice none 0 0, .slice (some ⟨g61, 0, none⟩) 1 1]) (fun wv HC => ?_) (fun wv HC hD => ?_) ?_
    · go_simp <;> rfl
    · have h0 : SlsSlot (Mut None_ [.cst gb 29 #[.string nu, .slice Abx nbx cbx, .int .i64 3, .slice Bbx 2 dbx], .cst ga 29 #[.string nu, .slice Aax nax cax, .int .i64 4, .slice Bax 2 dax], .cst gt 29 #[.string nu, .slice A n c, .int .i64 3, .slice (some ⟨gr, 0, none⟩) 2 2], .ro (ColsIn A n uCols), .ro (RwsIn (some ⟨gr, 0, none⟩) 2 l)]) [] (.slice none 0 0) wv := slsSlot_nil _
      have h1 : IsSlot (Mut None_ [.cst gb 29 #[.string nu, .slice Abx nbx cbx, .int .i64 3, .slice Bbx 2 dbx], .cst ga 29 #[.string nu, .slice Aax nax cax, .int .i64 4, .slice Bax 2 dax], .cst gt 29 #[.string nu, .slice A n c, .int .i64 3, .slice (some ⟨gr, 0, none⟩) 2 2], .ro (ColsIn A n uCols), .ro (RwsIn (some ⟨gr, 0, none⟩) 2 l)]) [] (.slice none 0 0) wv := isSlot_nil _
      have h2 : PrsSlot (Mut None_ [.cst gb 29 #[.string nu, .slice Abx nbx cbx, .int .i64 3, .slice Bbx 2 dbx], .cst ga 29 #[.string nu, .slice Aax nax cax, .int .i64 4, .slice Bax 2 dax], .cst gt 29 #[.string nu, .slice A n c, .int .i64 3, .slice (some ⟨gr, 0, none⟩) 2 2], .ro (ColsIn A n uCols), .ro (RwsIn (some ⟨gr, 0, none⟩) 2 l)]) [(1, vKey a, vKey b)] (.slice (some ⟨g61, 0, none⟩) 1 1) wv := deps_at hD 6 rfl (by kernel_rfl) rfl rfl
      exact chgSlot_of h0 h1 h2
    simp only [Act.put, List.setIfInBounds_toArray, List.set_cons_succ, List.set_cons_zero]
    refine dw_callR 63 (ApSlot (Mut None_ [.cst gb 29 #[.string nu, .slice Abx nbx cbx, .int .i64 3, .slice Bbx 2 dbx], .cst ga 29 #[.string nu, .slice Aax nax cax, .int .i64 4, .slice Bax 2 dax], .cst gt 29 #[.string nu, .slice A n c, .int .i64 3, .slice (some ⟨gr, 0, none⟩) 2 2], .ro (ColsIn A n uCols), .ro (RwsIn (some ⟨gr, 0, none⟩) 2 l)]) (9, zeroT)) (f := 12) (args := #[.agg #[.string nu, .slice A n c, .int .i64 3, .slice (some ⟨gr, 0, none⟩) 2 2], .agg #[.slice none 0 0, .slice none 0 0, .slice (some ⟨g61, 0, none⟩) 1 1]]) rfl rfl rfl rfl (fun wv => ?_) (fun wv HC hrm hD => ?_) ?_
    · go_simp <;> rfl
    · have hc : ChgSlot (Mut None_ [.cst gb 29 #[.string nu, .slice Abx nbx cbx, .int .i64 3, .slice Bbx 2 dbx], .cst ga 29 #[.string nu, .slice Aax nax cax, .int .i64 4, .slice Bax 2 dax], .cst gt 29 #[.string nu, .slice A n c, .int .i64 3, .slice (some ⟨gr, 0, none⟩) 2 2], .ro (ColsIn A n uCols), .ro (RwsIn (some ⟨gr, 0, none⟩) 2 l)]) [] [] [(1, vKey a, vKey b)] (.agg #[.slice none 0 0, .slice none 0 0, .slice (some ⟨g61, 0, none⟩) 1 1]) wv := deps_at hD 7 rfl (by kernel_rfl) rfl rfl
      have hk := kapply_slot _ wv HC.mutLt _ _ ⟨nu, uCols, 3, mRows a b⟩ [] [] [(1, vKey a, vKey b)] ⟨A, n, c, some ⟨gr, 0, none⟩, 2, 2, l, rfl, h1, by omega, by omega, by omega, HC.ro 3 rfl, HC.ro 4 rfl, HLK.out, HLR.out⟩ hc HS.out.1 HS.out.2.1 (by simp [mRows]) (by simp) (by simp) (by simp)
      rw [show applyC _ _ _ _ _ _ _ = _ from HK3.out] at hk
      refine hk.mono ?_
      rintro e w6 ⟨v, rfl, hv, b6⟩
      exact ⟨_, rfl, hv, HC.call b6, RM.below b6⟩
    rintro u wx HCx ⟨v, rfl, Ac, nc, cc, Bc, mc, dc, lc, hv, -, -, -, -, -, -, -, -⟩
    obtain ⟨sc, xc, rfl⟩ : ∃ s x, v = .agg #[.string s, .slice Ac nc cc, .int .i64 x, .slice Bc mc dc] := ⟨_, _, hv⟩
    clear HCx hv
    simp only [Act.put, List.setIfInBounds_toArray, List.set_cons_succ, List.set_cons_zero]
    refine dw_valC 54 (ApSlot (Mut None_ [.cst gb 29 #[.string nu, .slice Abx nbx cbx, .int .i64 3, .slice Bbx 2 dbx], .cst ga 29 #[.string nu, .slice Aax nax cax, .int .i64 4, .slice Bax 2 dax], .cst gt 29 #[.string nu, .slice A n c, .int .i64 3, .slice (some ⟨gr, 0, none⟩) 2 2], .ro (ColsIn A n uCols), .ro (RwsIn (some ⟨gr, 0, none⟩) 2 l)]) (9, zeroT)) rfl rfl rfl rfl (.tuple #[.agg #[.string sc, .slice Ac nc cc, .int .i64 xc, .slice Bc mc dc], .int .i64 9]) (fun wv HC => ?_) (fun wv HC hD => ?_) ?_
    · go_simp <;> rfl
    · exact deps_at hD 8 rfl (by kernel_rfl) rfl rfl
    simp only [Act.put, List.setIfInBounds_toArray, List.set_cons_succ, List.set_cons_zero]
    refine dw_val rfl rfl rfl ?_; apply Exists.intro; refine ⟨fun wv HC => ?_, ?_⟩
    ·  go_simp <;> rfl
    simp only [Act.put, List.setIfInBounds_toArray, List.set_cons_succ, List.set_cons_zero]
    refine dw_val rfl rfl rfl ?_; apply Exists.intro; refine ⟨fun wv HC => ?_, ?_⟩
    ·  go_simp <;> rfl
    simp only [Act.put, List.setIfInBounds_toArray, List.set_cons_succ, List.set_cons_zero]
    refine dw_new #[.string ⟨#[]⟩, .slice none 0 0, .int .i64 0, .slice none 0 0] 29 10 (NewSlot (Mut None_ [.cst gb 29 #[.string nu, .slice Abx nbx cbx, .int .i64 3, .slice Bbx 2 dbx], .cst ga 29 #[.string nu, .slice Aax nax cax, .int .i64 4, .slice Bax 2 dax], .cst gt 29 #[.string nu, .slice A n c, .int .i64 3, .slice (some ⟨gr, 0, none⟩) 2 2], .ro (ColsIn A n uCols), .ro (RwsIn (some ⟨gr, 0, none⟩) 2 l)]) Hc 29 #[.string ⟨#[]⟩, .slice none 0 0, .int .i64 0, .slice none 0 0]) (fun g => .pointer (some ⟨g, 0, none⟩)) rfl rfl rfl rfl (fun wv => ?_) (fun wv HC hrm hD hro => ?_) ?_
    · go_simp <;> rfl
    · exact ⟨_, rfl, by have := hrm.1; rw [HHc.out]; exact this, hro _ HC.mutLt⟩
    rintro gc wg HCg hsl
    simp only [Act.put, List.setIfInBounds_toArray, List.set_cons_succ, List.set_cons_zero]
    clear hsl HCg
    refine rel_nil ?_
    rintro wxc HX
    rintro _hrm HGW
    have hap : ApSlot (Mut None_ [.cst gb 29 #[.string nu, .slice Abx nbx cbx, .int .i64 3, .slice Bbx 2 dbx], .cst ga 29 #[.string nu, .slice Aax nax cax, .int .i64 4, .slice Bax 2 dax], .cst gt 29 #[.string nu, .slice A n c, .int .i64 3, .slice (some ⟨gr, 0, none⟩) 2 2], .ro (ColsIn A n uCols), .ro (RwsIn (some ⟨gr, 0, none⟩) 2 l)]) (9, zeroT) (.tuple #[.agg #[.string sc, .slice Ac nc cc, .int .i64 xc, .slice Bc mc dc], .int .i64 9]) wxc := (GW_on (d := 54) rfl).1 (HGW 9 _ rfl (by omega))
    have hns : NewSlot (Mut None_ [.cst gb 29 #[.string nu, .slice Abx nbx cbx, .int .i64 3, .slice Bbx 2 dbx], .cst ga 29 #[.string nu, .slice Aax nax cax, .int .i64 4, .slice Bax 2 dax], .cst gt 29 #[.string nu, .slice A n c, .int .i64 3, .slice (some ⟨gr, 0, none⟩) 2 2], .ro (ColsIn A n uCols), .ro (RwsIn (some ⟨gr, 0, none⟩) 2 l)]) Hc 29 #[.string ⟨#[]⟩, .slice none 0 0, .int .i64 0, .slice none 0 0] (.pointer (some ⟨gc, 0, none⟩)) wxc := (GW_on (d := 10) rfl).1 (HGW 12 _ rfl (by omega))
    clear HGW
    obtain ⟨g7, hg7, hgH, hgB⟩ := hns
    obtain rfl : gc = g7 := by injection hg7 with hg7; injection hg7 with hg7; injection hg7
    clear hg7
    rw [HHc.out] at hgH
    have HB := Hold.addFreshBlk K7.drew HX _hrm hgH hgB.now
    have hgn := hgB.now
    clear hgB hgH
    obtain ⟨v, hv, TT⟩ := hap
    obtain rfl : _ = v := by injection hv with hv; simpa using hv
    clear hv
    clear K7
    obtain ⟨Acx, ncx, ccx, Bcx, mcx, dcx, lcx, ev, -, -, -, -, -, q6, -, q8⟩ := TT
    have ev2 := ev.symm
    simp only [zeroT] at ev2
    injection ev2 with ev2
    simp only [Array.mk.injEq, List.cons.injEq, Value.string.injEq, Value.slice.injEq, Value.int.injEq, and_true, true_and] at ev2
    obtain ⟨rfl, ⟨rfl, rfl, rfl⟩, rfl, rfl, rfl, rfl⟩ := ev2
    clear ev hgn
    clear q6 q8
    have KK := (((HB.store 0 rfl 0 (.string ⟨#[]⟩)).store 0 rfl 1 (.slice Acx ncx ccx)).store 0 rfl 2 (.int .i64 0)).store 0 rfl 3 (.slice Bcx mcx dcx)
    have FB := HB.facts
    simp only [factsL, cellsF, Nat.reduceAdd, List.toList_toArray, and_true, true_and] at FB
    go_wp2_with fail
    generalize (((wxc.setCell _ _).setCell _ _).setCell _ _).setCell _ _ = w8 at KK ⊢
    have K8 := KK.drop (List.sublist_cons_self _ _)
    try simp only [List.set_cons_zero, List.set_cons_succ, List.setIfInBounds_toArray] at K8
    clear KK FB HB HX _hrm HHc
    obtain ⟨Hd, hHd⟩ : ∃ H, H = w8.drew.heap.size := ⟨_, rfl⟩
    have HHd := hid hHd
    clear hHd
    refine wp_region_any (by kernel_rfl) ?_
    refine wpAny_holdE [9] 11 115 ([.cst gb 29 #[.string nu, .slice Abx nbx cbx, .int .i64 3, .slice Bbx 2 dbx], .cst ga 29 #[.string nu, .slice Aax nax cax, .int .i64 4, .slice Bax 2 dax], .cst gt 29 #[.string nu, .slice A n c, .int .i64 3, .slice (some ⟨gr, 0, none⟩) 2 2], .ro (ColsIn A n uCols), .ro (RwsIn (some ⟨gr, 0, none⟩) 2 l)]) (spL [(69, (VlsSlot (Mut None_ [.cst gb 29 #[.string nu, .slice Abx nbx cbx, .int .i64 3, .slice Bbx 2 dbx], .cst ga 29 #[.string nu, .slice Aax nax cax, .int .i64 4, .slice Bax 2 dax], .cst gt 29 #[.string nu, .slice A n c, .int .i64 3, .slice (some ⟨gr, 0, none⟩) 2 2], .ro (ColsIn A n uCols), .ro (RwsIn (some ⟨gr, 0, none⟩) 2 l)]) (vKey a))), (70, (SlsSlot (Mut None_ [.cst gb 29 #[.string nu, .slice Abx nbx cbx, .int .i64 3, .slice Bbx 2 dbx], .cst ga 29 #[.string nu, .slice Aax nax cax, .int .i64 4, .slice Bax 2 dax], .cst gt 29 #[.string nu, .slice A n c, .int .i64 3, .slice (some ⟨gr, 0, none⟩) 2 2], .ro (ColsIn A n uCols), .ro (RwsIn (some ⟨gr, 0, none⟩) 2 l)]) [vKey a])), (71, (IsSlot (Mut None_ [.cst gb 29 #[.string nu, .slice Abx nbx cbx, .int .i64 3, .slice Bbx 2 dbx], .cst ga 29 #[.string nu, .slice Aax nax cax, .int .i64 4, .slice Bax 2 dax], .cst gt 29 #[.string nu, .slice A n c, .int .i64 3, .slice (some ⟨gr, 0, none⟩) 2 2], .ro (ColsIn A n uCols), .ro (RwsIn (some ⟨gr, 0, none⟩) 2 l)]) [2])), (72, (ChgSlot (Mut None_ [.cst gb 29 #[.string nu, .slice Abx nbx cbx, .int .i64 3, .slice Bbx 2 dbx], .cst ga 29 #[.string nu, .slice Aax nax cax, .int .i64 4, .slice Bax 2 dax], .cst gt 29 #[.string nu, .slice A n c, .int .i64 3, .slice (some ⟨gr, 0, none⟩) 2 2], .ro (ColsIn A n uCols), .ro (RwsIn (some ⟨gr, 0, none⟩) 2 l)]) [vKey a] [2] [])), (73, (ApSlot (Mut None_ [.cst gb 29 #[.string nu, .slice Abx nbx cbx, .int .i64 3, .slice Bbx 2 dbx], .cst ga 29 #[.string nu, .slice Aax nax cax, .int .i64 4, .slice Bax 2 dax], .cst gt 29 #[.string nu, .slice A n c, .int .i64 3, .slice (some ⟨gr, 0, none⟩) 2 2], .ro (ColsIn A n uCols), .ro (RwsIn (some ⟨gr, 0, none⟩) 2 l)]) (9, zeroT))), (66, (ApSlot (Mut None_ [.cst gb 29 #[.string nu, .slice Abx nbx cbx, .int .i64 3, .slice Bbx 2 dbx], .cst ga 29 #[.string nu, .slice Aax nax cax, .int .i64 4, .slice Bax 2 dax], .cst gt 29 #[.string nu, .slice A n c, .int .i64 3, .slice (some ⟨gr, 0, none⟩) 2 2], .ro (ColsIn A n uCols), .ro (RwsIn (some ⟨gr, 0, none⟩) 2 l)]) (9, zeroT))), (12, (NewSlot (Mut None_ [.cst gb 29 #[.string nu, .slice Abx nbx cbx, .int .i64 3, .slice Bbx 2 dbx], .cst ga 29 #[.string nu, .slice Aax nax cax, .int .i64 4, .slice Bax 2 dax], .cst gt 29 #[.string nu, .slice A n c, .int .i64 3, .slice (some ⟨gr, 0, none⟩) 2 2], .ro (ColsIn A n uCols), .ro (RwsIn (some ⟨gr, 0, none⟩) 2 l)]) Hd 29 #[.string ⟨#[]⟩, .slice none 0 0, .int .i64 0, .slice none 0 0]))]) (by kernel_rfl) (fun _ d _ _ _ h => by cases d <;> exact h) (by kernel_rfl) (by kernel_rfl) rfl ?_ (K8.drew) ?_
    · exact stays_cons vlsSlot_mono (stays_cons slsSlot_mono (stays_cons isSlot_mono (stays_cons chgSlot_mono (stays_cons apSlot_mono (stays_cons apSlot_mono (stays_cons newSlot_mono (stays_nil _)))))))
    simp only [List.take_succ_cons, List.take_zero, List.drop_succ_cons, List.drop_zero, Act.put, List.getElem_toArray, List.getElem_cons_zero, List.getElem_cons_succ, List.setIfInBounds_toArray, List.set_cons_succ, List.set_cons_zero]
    refine dw_val rfl rfl rfl ?_; apply Exists.intro; refine ⟨fun wv HC => ?_, ?_⟩
    · have FC := HC.facts; simp only [factsL, cellsF, Nat.reduceAdd, List.toList_toArray, and_true, true_and] at FC; go_simp <;> rfl
    simp only [Act.put, List.setIfInBounds_toArray, List.set_cons_succ, List.set_cons_zero]
    refine dw_val rfl rfl rfl ?_; apply Exists.intro; refine ⟨fun wv HC => ?_, ?_⟩
    ·  go_simp <;> rfl
    simp only [Act.put, List.setIfInBounds_toArray, List.set_cons_succ, List.set_cons_zero]
    refine dw_callR 69 (VlsSlot (Mut None_ [.cst gb 29 #[.string nu, .slice Abx nbx cbx, .int .i64 3, .slice Bbx 2 dbx], .cst ga 29 #[.string nu, .slice Aax nax cax, .int .i64 4, .slice Bax 2 dax], .cst gt 29 #[.string nu, .slice A n c, .int .i64 3, .slice (some ⟨gr, 0, none⟩) 2 2], .ro (ColsIn A n uCols), .ro (RwsIn (some ⟨gr, 0, none⟩) 2 l)]) (vKey a)) (f := 11) (args := #[.int .i64 a]) rfl rfl rfl rfl (fun wv => ?_) (fun wv HC hrm hD => ?_) ?_
    · go_simp <;> rfl
    · refine (keyed_any _ wv HC.mutLt a).mono ?_
      rintro e w6 ⟨v, rfl, hv, b6⟩
      exact ⟨_, rfl, hv, HC.call b6, RM.below b6⟩
    rintro u wx HCx ⟨A69, n69, c69, rfl, -, -, -, -⟩
    clear HCx
    simp only [Act.put, List.setIfInBounds_toArray, List.set_cons_succ, List.set_cons_zero]
    refine dw_new #[.slice A69 n69 c69] 32 70 (SlsSlot (Mut None_ [.cst gb 29 #[.string nu, .slice Abx nbx cbx, .int .i64 3, .slice Bbx 2 dbx], .cst ga 29 #[.string nu, .slice Aax nax cax, .int .i64 4, .slice Bax 2 dax], .cst gt 29 #[.string nu, .slice A n c, .int .i64 3, .slice (some ⟨gr, 0, none⟩) 2 2], .ro (ColsIn A n uCols), .ro (RwsIn (some ⟨gr, 0, none⟩) 2 l)]) [vKey a]) (fun g => .slice (some ⟨g, 0, none⟩) 1 1) rfl rfl rfl rfl (fun wv => ?_) (fun wv HC _hrm hD hro => ?_) ?_
    · go_simp <;> rfl
    · have h0 : VlsSlot (Mut None_ [.cst gb 29 #[.string nu, .slice Abx nbx cbx, .int .i64 3, .slice Bbx 2 dbx], .cst ga 29 #[.string nu, .slice Aax nax cax, .int .i64 4, .slice Bax 2 dax], .cst gt 29 #[.string nu, .slice A n c, .int .i64 3, .slice (some ⟨gr, 0, none⟩) 2 2], .ro (ColsIn A n uCols), .ro (RwsIn (some ⟨gr, 0, none⟩) 2 l)]) (vKey a) (.slice A69 n69 c69) wv := deps_at hD 2 rfl (by kernel_rfl) rfl rfl
      exact slsSlot_one (hro _ HC.mutLt) (vKey_ok (by first | assumption | (unfold I64; omega))) (vlsSlot_mono _ _ _ (RM.alloc (Mut None_ [.cst gb 29 #[.string nu, .slice Abx nbx cbx, .int .i64 3, .slice Bbx 2 dbx], .cst ga 29 #[.string nu, .slice Aax nax cax, .int .i64 4, .slice Bax 2 dax], .cst gt 29 #[.string nu, .slice A n c, .int .i64 3, .slice (some ⟨gr, 0, none⟩) 2 2], .ro (ColsIn A n uCols), .ro (RwsIn (some ⟨gr, 0, none⟩) 2 l)]) wv _) h0)
    rintro g70 wg HCg hsl
    simp only [Act.put, List.setIfInBounds_toArray, List.set_cons_succ, List.set_cons_zero]
    clear hsl HCg
    refine dw_new #[.int .i64 2] 3 71 (IsSlot (Mut None_ [.cst gb 29 #[.string nu, .slice Abx nbx cbx, .int .i64 3, .slice Bbx 2 dbx], .cst ga 29 #[.string nu, .slice Aax nax cax, .int .i64 4, .slice Bax 2 dax], .cst gt 29 #[.string nu, .slice A n c, .int .i64 3, .slice (some ⟨gr, 0, none⟩) 2 2], .ro (ColsIn A n uCols), .ro (RwsIn (some ⟨gr, 0, none⟩) 2 l)]) [2]) (fun g => .slice (some ⟨g, 0, none⟩) 1 1) rfl rfl rfl rfl (fun wv => ?_) (fun wv HC _hrm hD hro => ?_) ?_
    · go_simp <;> rfl
    · exact isSlot_one (hro _ HC.mutLt)
    rintro g71 wg HCg hsl
    simp only [Act.put, List.setIfInBounds_toArray, List.set_cons_succ, List.set_cons_zero]
    clear hsl HCg
    refine dw_valC 72 (ChgSlot (Mut None_ [.cst gb 29 #[.string nu, .slice Abx nbx cbx, .int .i64 3, .slice Bbx 2 dbx], .cst ga 29 #[.string nu, .slice Aax nax cax, .int .i64 4, .slice Bax 2 dax], .cst gt 29 #[.string nu, .slice A n c, .int .i64 3, .slice (some ⟨gr, 0, none⟩) 2 2], .ro (ColsIn A n uCols), .ro (RwsIn (some ⟨gr, 0, none⟩) 2 l)]) [vKey a] [2] []) rfl rfl rfl rfl (.agg #[.slice (some ⟨g70, 0, none⟩) 1 1, .slice (some ⟨g71, 0, none⟩) 1 1, .slice none 0 0]) (fun wv HC => ?_) (fun wv HC hD => ?_) ?_
    · go_simp <;> rfl
    · have h0 : SlsSlot (Mut None_ [.cst gb 29 #[.string nu, .slice Abx nbx cbx, .int .i64 3, .slice Bbx 2 dbx], .cst ga 29 #[.string nu, .slice Aax nax cax, .int .i64 4, .slice Bax 2 dax], .cst gt 29 #[.string nu, .slice A n c, .int .i64 3, .slice (some ⟨gr, 0, none⟩) 2 2], .ro (ColsIn A n uCols), .ro (RwsIn (some ⟨gr, 0, none⟩) 2 l)]) [vKey a] (.slice (some ⟨g70, 0, none⟩) 1 1) wv := deps_at hD 3 rfl (by kernel_rfl) rfl rfl
      have h1 : IsSlot (Mut None_ [.cst gb 29 #[.string nu, .slice Abx nbx cbx, .int .i64 3, .slice Bbx 2 dbx], .cst ga 29 #[.string nu, .slice Aax nax cax, .int .i64 4, .slice Bax 2 dax], .cst gt 29 #[.string nu, .slice A n c, .int .i64 3, .slice (some ⟨gr, 0, none⟩) 2 2], .ro (ColsIn A n uCols), .ro (RwsIn (some ⟨gr, 0, none⟩) 2 l)]) [2] (.slice (some ⟨g71, 0, none⟩) 1 1) wv := deps_at hD 4 rfl (by kernel_rfl) rfl rfl
      have h2 : PrsSlot (Mut None_ [.cst gb 29 #[.string nu, .slice Abx nbx cbx, .int .i64 3, .slice Bbx 2 dbx], .cst ga 29 #[.string nu, .slice Aax nax cax, .int .i64 4, .slice Bax 2 dax], .cst gt 29 #[.string nu, .slice A n c, .int .i64 3, .slice (some ⟨gr, 0, none⟩) 2 2], .ro (ColsIn A n uCols), .ro (RwsIn (some ⟨gr, 0, none⟩) 2 l)]) [] (.slice none 0 0) wv := prsSlot_nil _
      exact chgSlot_of h0 h1 h2
    simp only [Act.put, List.setIfInBounds_toArray, List.set_cons_succ, List.set_cons_zero]
    refine dw_callR 73 (ApSlot (Mut None_ [.cst gb 29 #[.string nu, .slice Abx nbx cbx, .int .i64 3, .slice Bbx 2 dbx], .cst ga 29 #[.string nu, .slice Aax nax cax, .int .i64 4, .slice Bax 2 dax], .cst gt 29 #[.string nu, .slice A n c, .int .i64 3, .slice (some ⟨gr, 0, none⟩) 2 2], .ro (ColsIn A n uCols), .ro (RwsIn (some ⟨gr, 0, none⟩) 2 l)]) (9, zeroT)) (f := 12) (args := #[.agg #[.string nu, .slice A n c, .int .i64 3, .slice (some ⟨gr, 0, none⟩) 2 2], .agg #[.slice (some ⟨g70, 0, none⟩) 1 1, .slice (some ⟨g71, 0, none⟩) 1 1, .slice none 0 0]]) rfl rfl rfl rfl (fun wv => ?_) (fun wv HC hrm hD => ?_) ?_
    · go_simp <;> rfl
    · have hc : ChgSlot (Mut None_ [.cst gb 29 #[.string nu, .slice Abx nbx cbx, .int .i64 3, .slice Bbx 2 dbx], .cst ga 29 #[.string nu, .slice Aax nax cax, .int .i64 4, .slice Bax 2 dax], .cst gt 29 #[.string nu, .slice A n c, .int .i64 3, .slice (some ⟨gr, 0, none⟩) 2 2], .ro (ColsIn A n uCols), .ro (RwsIn (some ⟨gr, 0, none⟩) 2 l)]) [vKey a] [2] [] (.agg #[.slice (some ⟨g70, 0, none⟩) 1 1, .slice (some ⟨g71, 0, none⟩) 1 1, .slice none 0 0]) wv := deps_at hD 5 rfl (by kernel_rfl) rfl rfl
      have hk := kapply_slot _ wv HC.mutLt _ _ ⟨nu, uCols, 3, mRows a b⟩ [vKey a] [2] [] ⟨A, n, c, some ⟨gr, 0, none⟩, 2, 2, l, rfl, h1, by omega, by omega, by omega, HC.ro 3 rfl, HC.ro 4 rfl, HLK.out, HLR.out⟩ hc HS.out.1 HS.out.2.1 (by simp [mRows]) (by simp) (by simp) (by simp)
      rw [show applyC _ _ _ _ _ _ _ = _ from HK4.out] at hk
      refine hk.mono ?_
      rintro e w6 ⟨v, rfl, hv, b6⟩
      exact ⟨_, rfl, hv, HC.call b6, RM.below b6⟩
    rintro u wx HCx ⟨v, rfl, Ad, nd, cd, Bd, md, dd, ld, hv, -, -, -, -, -, -, -, -⟩
    obtain ⟨sd, xd, rfl⟩ : ∃ s x, v = .agg #[.string s, .slice Ad nd cd, .int .i64 x, .slice Bd md dd] := ⟨_, _, hv⟩
    clear HCx hv
    simp only [Act.put, List.setIfInBounds_toArray, List.set_cons_succ, List.set_cons_zero]
    refine dw_valC 66 (ApSlot (Mut None_ [.cst gb 29 #[.string nu, .slice Abx nbx cbx, .int .i64 3, .slice Bbx 2 dbx], .cst ga 29 #[.string nu, .slice Aax nax cax, .int .i64 4, .slice Bax 2 dax], .cst gt 29 #[.string nu, .slice A n c, .int .i64 3, .slice (some ⟨gr, 0, none⟩) 2 2], .ro (ColsIn A n uCols), .ro (RwsIn (some ⟨gr, 0, none⟩) 2 l)]) (9, zeroT)) rfl rfl rfl rfl (.tuple #[.agg #[.string sd, .slice Ad nd cd, .int .i64 xd, .slice Bd md dd], .int .i64 9]) (fun wv HC => ?_) (fun wv HC hD => ?_) ?_
    · go_simp <;> rfl
    · exact deps_at hD 6 rfl (by kernel_rfl) rfl rfl
    simp only [Act.put, List.setIfInBounds_toArray, List.set_cons_succ, List.set_cons_zero]
    refine dw_val rfl rfl rfl ?_; apply Exists.intro; refine ⟨fun wv HC => ?_, ?_⟩
    ·  go_simp <;> rfl
    simp only [Act.put, List.setIfInBounds_toArray, List.set_cons_succ, List.set_cons_zero]
    refine dw_val rfl rfl rfl ?_; apply Exists.intro; refine ⟨fun wv HC => ?_, ?_⟩
    ·  go_simp <;> rfl
    simp only [Act.put, List.setIfInBounds_toArray, List.set_cons_succ, List.set_cons_zero]
    refine dw_new #[.string ⟨#[]⟩, .slice none 0 0, .int .i64 0, .slice none 0 0] 29 12 (NewSlot (Mut None_ [.cst gb 29 #[.string nu, .slice Abx nbx cbx, .int .i64 3, .slice Bbx 2 dbx], .cst ga 29 #[.string nu, .slice Aax nax cax, .int .i64 4, .slice Bax 2 dax], .cst gt 29 #[.string nu, .slice A n c, .int .i64 3, .slice (some ⟨gr, 0, none⟩) 2 2], .ro (ColsIn A n uCols), .ro (RwsIn (some ⟨gr, 0, none⟩) 2 l)]) Hd 29 #[.string ⟨#[]⟩, .slice none 0 0, .int .i64 0, .slice none 0 0]) (fun g => .pointer (some ⟨g, 0, none⟩)) rfl rfl rfl rfl (fun wv => ?_) (fun wv HC hrm hD hro => ?_) ?_
    · go_simp <;> rfl
    · exact ⟨_, rfl, by have := hrm.1; rw [HHd.out]; exact this, hro _ HC.mutLt⟩
    rintro gd wg HCg hsl
    simp only [Act.put, List.setIfInBounds_toArray, List.set_cons_succ, List.set_cons_zero]
    clear hsl HCg
    refine rel_nil ?_
    rintro wxd HX
    rintro _hrm HGW
    have hap : ApSlot (Mut None_ [.cst gb 29 #[.string nu, .slice Abx nbx cbx, .int .i64 3, .slice Bbx 2 dbx], .cst ga 29 #[.string nu, .slice Aax nax cax, .int .i64 4, .slice Bax 2 dax], .cst gt 29 #[.string nu, .slice A n c, .int .i64 3, .slice (some ⟨gr, 0, none⟩) 2 2], .ro (ColsIn A n uCols), .ro (RwsIn (some ⟨gr, 0, none⟩) 2 l)]) (9, zeroT) (.tuple #[.agg #[.string sd, .slice Ad nd cd, .int .i64 xd, .slice Bd md dd], .int .i64 9]) wxd := (GW_on (d := 66) rfl).1 (HGW 7 _ rfl (by omega))
    have hns : NewSlot (Mut None_ [.cst gb 29 #[.string nu, .slice Abx nbx cbx, .int .i64 3, .slice Bbx 2 dbx], .cst ga 29 #[.string nu, .slice Aax nax cax, .int .i64 4, .slice Bax 2 dax], .cst gt 29 #[.string nu, .slice A n c, .int .i64 3, .slice (some ⟨gr, 0, none⟩) 2 2], .ro (ColsIn A n uCols), .ro (RwsIn (some ⟨gr, 0, none⟩) 2 l)]) Hd 29 #[.string ⟨#[]⟩, .slice none 0 0, .int .i64 0, .slice none 0 0] (.pointer (some ⟨gd, 0, none⟩)) wxd := (GW_on (d := 12) rfl).1 (HGW 10 _ rfl (by omega))
    clear HGW
    obtain ⟨g7, hg7, hgH, hgB⟩ := hns
    obtain rfl : gd = g7 := by injection hg7 with hg7; injection hg7 with hg7; injection hg7
    clear hg7
    rw [HHd.out] at hgH
    have HB := Hold.addFreshBlk K8.drew HX _hrm hgH hgB.now
    have hgn := hgB.now
    clear hgB hgH
    obtain ⟨v, hv, TT⟩ := hap
    obtain rfl : _ = v := by injection hv with hv; simpa using hv
    clear hv
    clear K8
    obtain ⟨Adx, ndx, cdx, Bdx, mdx, ddx, ldx, ev, -, -, -, -, -, q6, -, q8⟩ := TT
    have ev2 := ev.symm
    simp only [zeroT] at ev2
    injection ev2 with ev2
    simp only [Array.mk.injEq, List.cons.injEq, Value.string.injEq, Value.slice.injEq, Value.int.injEq, and_true, true_and] at ev2
    obtain ⟨rfl, ⟨rfl, rfl, rfl⟩, rfl, rfl, rfl, rfl⟩ := ev2
    clear ev hgn
    clear q6 q8
    have KK := (((HB.store 0 rfl 0 (.string ⟨#[]⟩)).store 0 rfl 1 (.slice Adx ndx cdx)).store 0 rfl 2 (.int .i64 0)).store 0 rfl 3 (.slice Bdx mdx ddx)
    have FB := HB.facts
    simp only [factsL, cellsF, Nat.reduceAdd, List.toList_toArray, and_true, true_and] at FB
    have K9 := KK.drop (List.sublist_cons_self _ _)
    have F9 := K9.facts
    simp only [factsL, cellsF, Nat.reduceAdd, List.toList_toArray, and_true, true_and] at F9
    clear KK HB HX _hrm HHd
    go_wp2_with fail
    refine (known7 _).mono ?_
    rintro e w10 ⟨rfl, b10⟩
    have K10 := K9.call b10
    go_wp2_with fail
    go_ret
    exact ⟨by first | rfl | simp, K10.below⟩
set_option maxRecDepth 100000 in
theorem keysMoves_lifted (os : Os) (started : os.Started) (H : Type) (enc : TypeId × Value → H) :
    ReturnsInHanded {} Try.checked os 4 .any (Rows.keysMovesSpec.pre6 enc Try.prog Try.f4 Rows.keysMovesRow.domain false) (Rows.keysMovesSpec.post enc Try.prog Try.f4 false true false false) := by
  refine returnsInHanded_of_change_sized (C := Try.checked) own started (by kernel_rfl) Try.func4
    (ChangeSpec.witness6 (enc := enc) (C := Try.checked) false ⟨#[], #[.int .i64 0, .int .i64 0], []⟩ 8 (by kernel_rfl) (by kernel_rfl) (by kernel_rfl) (by kernel_rfl)) ?_
  intro W base args ds gs before hval0 hW _ hsz0 _
  have hsz : (DataW.weightsEach Try.prog (Try.f4.params.toList ++ Rows.keysMovesSpec.plain.varTypes Try.prog) (ds ++ gs)).all (· ≤ reachBytes) = true := hsz0
  have hval : ∀ (j : Nat) t v, Try.f4.params[j]? = some t → args[j]? = some v → Value.okWide Try.prog W .any base t v := hval0
  have hW' := hW
  obtain ⟨p, q, hA0, hV, rfl, hfz, hnd⟩ := hW
  have hA : DataW.TrodAll enc Try.prog W 0 (fun _ => true) true Try.f4.params.toList args.toList ds p := hA0
  rw [Try.params4] at hA hval hsz
  obtain ⟨v0, vs0, d0, ds0, p0, q0, hargs, rfl, rfl, h0, r0⟩ := trodAll_cons hA
  obtain ⟨v1, vs1, d1, ds1, p1, q1, rfl, rfl, rfl, h1, r1⟩ := trodAll_cons r0
  obtain ⟨rfl, rfl, rfl⟩ := trodAll_nil r1
  obtain rfl : args = #[v0, v1] := by cases args; simp_all
  obtain ⟨rfl, rfl⟩ := trodVars_none hV
  obtain ⟨a0, rfl, rfl, rfl, w0⟩ := open_int Try.underlying2 (hval 0 2 v0 rfl rfl) h0
  obtain ⟨a1, rfl, rfl, rfl, w1⟩ := open_int Try.underlying2 (hval 1 2 v1 rfl rfl) h1
  refine (keysMoves_walk _ _ W (i64_of_wf w0) (i64_of_wf w1)).mono fun e W' ⟨he, hb⟩ => ?_
  exact ⟨_, he, law_post rfl laidOut (by kernel_rfl) (by kernel_rfl) Try.underlying4 rfl hW' hb⟩

theorem keysMoves_holds : Rows.KeysMovesSaid :=
  OpenClaim.holds_of_wide 4 Try.f4 rfl rfl rfl rfl rfl rfl rfl ⟨rfl, rfl, rfl, rfl, rfl⟩ rfl rfl rfl rfl rfl (by kernel_rfl) Try.func4 (by kernel_rfl)
    (of_decide_eq_true (by kernel_rfl)) (by unfold Func.isWrapper; first | (rw [if_pos (by decide +kernel)]; kernel_rfl) | (rw [if_neg (by decide +kernel)]; exact ⟨rfl, rfl⟩))
    (fun os started H enc _ => keysMoves_lifted os started H enc)
#print axioms keysMoves_holds
end Go.Proofs.Ytphofeeaphkciaa

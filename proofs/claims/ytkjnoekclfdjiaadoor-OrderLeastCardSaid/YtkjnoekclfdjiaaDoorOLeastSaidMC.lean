/- OrderLeast answers true for every tape: Add adds no link that was not needed, and refuses only where the names above and below meet. Condition: the row's own, the laid table of letters; the tied card. -/
import Derived.Test.YtkjnoekclfdjiaaDoorOLeastSaidMB
import Derived.Test.YtkjnoekclfdjiaaDoorCards
import Derived.Test.YtkjnoekclfdjiaaDoorTie
import Derived.Test.YtkjnoekclfdjiaaDoorOLeastSaidMA
namespace Go.Proofs.YtkjnoekclfdjiaaDoor
open Go.RowKit
set_option linter.unusedVariables false
set_option linter.unusedSimpArgs false

def Hit (l : List Lk) (nm x y : ByteArray) : Prop := (x = y ∨ (⟨y, x⟩ : Lk) ∈ l) ∧ (x ≠ nm ∨ y ≠ nm)
def MetP (l : List Lk) (nm : ByteArray) (ps fs ab be : List ByteArray) (k : Nat) (bb : Bool) : Prop := (nm ∈ ps ∨ nm ∈ fs → bb = true) ∧ ∀ x ∈ ab.take k, ∀ y ∈ be, Hit l nm x y → bb = true
def MetQ (l : List Lk) (nm : ByteArray) (ps fs ab be : List ByteArray) (k j : Nat) (x : ByteArray) (bb : Bool) : Prop := MetP l nm ps fs ab be k bb ∧ ∀ y ∈ be.take j, Hit l nm x y → bb = true
theorem MetQ.step {l : List Lk} {nm : ByteArray} {ps fs ab be : List ByteArray} {k j : Nat} {x y : ByteArray} {bb b2 : Bool} (h : MetQ l nm ps fs ab be k j x bb) (hy : be[j]? = some y) (h1 : bb = true → b2 = true) (h2 : Hit l nm x y → b2 = true) : MetQ l nm ps fs ab be k (j + 1) x b2 := by
  refine ⟨⟨fun a => h1 (h.1.1 a), fun u hu v hv hh => h1 (h.1.2 u hu v hv hh)⟩, fun u hu hh => ?_⟩
  rw [List.take_add_one, hy, List.mem_append] at hu
  rcases hu with hu | hu
  · exact h1 (h.2 u hu hh)
  · simp at hu; subst hu; exact h2 hh
theorem MetQ.end_ {l : List Lk} {nm : ByteArray} {ps fs ab be : List ByteArray} {k : Nat} {x : ByteArray} {bb : Bool} (h : MetQ l nm ps fs ab be k be.length x bb) (hx : ab[k]? = some x) : MetP l nm ps fs ab be (k + 1) bb := by
  refine ⟨h.1.1, fun u hu v hv hh => ?_⟩
  rw [List.take_add_one, hx, List.mem_append] at hu
  rcases hu with hu | hu
  · exact h.1.2 u hu v hv hh
  · simp at hu; subst hu; exact h.2 v (by rw [List.take_length]; exact hv) hh
theorem MetP.out {l : List Lk} {nm : ByteArray} {ps fs : List ByteArray} {k : Nat} {bb : Bool} (h : MetP l nm ps fs (abvL l nm fs) (belL l nm ps) k bb) (hk : (abvL l nm fs).length ≤ k) (hm : Meet l nm ps fs) : bb = true := by
  rcases hm with hm | hm | ⟨x, hx, y, hy, h1, h2⟩
  · exact h.1 (.inl hm)
  · exact h.1 (.inr hm)
  · exact h.2 x (by rw [List.take_of_length_le hk]; exact hx) y hy ⟨h1, h2⟩
theorem contS_iff {xs : List ByteArray} {x : ByteArray} : contS xs x = true ↔ x ∈ xs := by unfold contS; rw [decide_eq_true_iff]
theorem contS_no {xs : List ByteArray} {x : ByteArray} (h : contS xs x = false) : x ∉ xs := by unfold contS at h; rwa [decide_eq_false_iff_not] at h
set_option maxHeartbeats 16000000 in
set_option maxRecDepth 100000 in
theorem orderLeast_walk (C : Option Addr) (q qc : Nat) (ts : List Int) (w : World)
    (hr : Rd w w.heap.size 1 C q (ts.map (Value.int .i64))) (hz : Ints ts) (hq : q ≤ qc) (hqc : qc ≤ 9223372036854775807) (hw : Lts w) :
    Calls Tryd.prog 4 #[.slice C q qc] w fun e w' => e = .returned (.bool true) ∧ Below w.heap.size w w' := by
  have hwl := hw.lt
  have K0 := Hold.begin_ w
  go_enter Tryd.func4, Tryd.ntmps4
  go_wp2_with fail
  refine (new_any C q qc ts _ hr hz hq hqc).mono ?_
  rintro e w1 ⟨T, rfl, hT, t1, b1⟩
  have K1 := Hold.newTape K0 b1 t1 hT (by simp [Mut, None_, Hp.foot])
  have wd0 : Lts w1 := hw.below b1 hwl
  have K2 := K1.add (wd0.ro (show ¬ Mut None_ _ 0 from fun h => by simp [Mut, None_, Hp.foot] at h; omega))
  clear K1 K0 wd0 t1 b1 hr hT hw hwl
  go_wp2_with fail
  refine (omade_any (Mut None_ _) T _ K2.mutLt (K2.tp_ 1 rfl) (K2.get 1 rfl).2 ((K2.ro 0 rfl).less (mut_tpO (i := 1) rfl))).mono ?_
  rintro e w2 ⟨B2, m2, d2, l2, rfl, hm2, hd2, hd22, hv2, hn2, r2, t2, g2⟩
  have K3 := (Hold.callT K2 1 rfl g2 t2).add r2
  have HV := hid (And.intro hv2 hn2)
  have HL2 := hid r2.now.len
  clear K2 t2 g2 r2 hv2 hn2
  go_wp2_with fail
  refine wp_region_any (by kernel_rfl) ?_
  refine wpAny_holdC 8 171 ([.ro (LksIn B2 m2 l2), .ro Lts, .tp T]) (spL [(26, fun u _ => NatB 5 u), (30, SomeSlot (Mut None_ [.ro (LksIn B2 m2 l2), .ro Lts, .tp T])), (32, SomeSlot (Mut None_ [.ro (LksIn B2 m2 l2), .ro Lts, .tp T]))]) (by kernel_rfl) (by kernel_rfl) (by kernel_rfl) rfl ?_ (K3.drew) ?_
  · exact stays_cons (fun _ _ _ _ h => h) (stays_cons someSlot_mono (stays_cons someSlot_mono (stays_nil _)))
  simp only [List.take_succ_cons, List.take_zero, List.drop_succ_cons, List.drop_zero, Act.put, List.getElem_toArray, List.getElem_cons_zero, List.getElem_cons_succ, List.setIfInBounds_toArray, List.set_cons_succ, List.set_cons_zero]
  repeat (first | (refine dw_skip rfl rfl rfl ?_; simp only [Act.put, List.setIfInBounds_toArray, List.set_cons_succ, List.set_cons_zero]) | (refine dw_val rfl rfl rfl ?_; apply Exists.intro; refine ⟨fun wv HC => ?_, ?_⟩; (focus ( go_simp <;> rfl; done)); simp only [Act.put, List.setIfInBounds_toArray, List.set_cons_succ, List.set_cons_zero]))
  refine dw_next 5 2 rfl 26 rfl rfl rfl rfl (fun wv => ?_) ?_
  · go_simp <;> rfl
  rintro r hr
  simp only [Act.put, List.setIfInBounds_toArray, List.set_cons_succ, List.set_cons_zero]
  have r4 : (r : Int) < 5 := by omega
  have r0 : (0 : Int) ≤ (r : Int) := by omega
  repeat (first | (refine dw_skip rfl rfl rfl ?_; simp only [Act.put, List.setIfInBounds_toArray, List.set_cons_succ, List.set_cons_zero]) | (refine dw_val rfl rfl rfl ?_; apply Exists.intro; refine ⟨fun wv HC => ?_, ?_⟩; (focus (have hc := (HC.ro 1 rfl).now r hr; go_simp <;> rfl; done)); simp only [Act.put, List.setIfInBounds_toArray, List.set_cons_succ, List.set_cons_zero]))
  refine dw_callR 30 (SomeSlot (Mut None_ [.ro (LksIn B2 m2 l2), .ro Lts, .tp T])) (f := 10) (args := #[.pointer (some ⟨T, 0, none⟩)]) rfl rfl rfl rfl (fun wv => ?_) (fun wv HC hrm hD => ?_) ?_
  · go_simp <;> rfl
  · refine (some_any (Mut None_ _) T wv HC.mutLt (HC.tp_ 2 rfl) (HC.get 2 rfl).2 ((HC.ro 1 rfl).less (mut_tpO (i := 2) rfl))).mono ?_
    rintro e w5 ⟨A5, n5, c5, ss5, rfl, h1, h2, h3, t5, g5⟩
    exact ⟨_, rfl, ⟨A5, n5, c5, ss5, rfl, h1, h2, h3⟩, Hold.callT HC 2 rfl g5 t5, RM.grown g5 (.inr ⟨_, List.mem_of_getElem? (i := 2) rfl, rfl⟩)⟩
  rintro u_ wx HCx ⟨A5, n5, c5, ss5, rfl, -, -, -⟩
  clear HCx
  simp only [Act.put, List.setIfInBounds_toArray, List.set_cons_succ, List.set_cons_zero]
  repeat (first | (refine dw_skip rfl rfl rfl ?_; simp only [Act.put, List.setIfInBounds_toArray, List.set_cons_succ, List.set_cons_zero]) | (refine dw_val rfl rfl rfl ?_; apply Exists.intro; refine ⟨fun wv HC => ?_, ?_⟩; (focus ( go_simp <;> rfl; done)); simp only [Act.put, List.setIfInBounds_toArray, List.set_cons_succ, List.set_cons_zero]))
  refine dw_callR 32 (SomeSlot (Mut None_ [.ro (LksIn B2 m2 l2), .ro Lts, .tp T])) (f := 10) (args := #[.pointer (some ⟨T, 0, none⟩)]) rfl rfl rfl rfl (fun wv => ?_) (fun wv HC hrm hD => ?_) ?_
  · go_simp <;> rfl
  · refine (some_any (Mut None_ _) T wv HC.mutLt (HC.tp_ 2 rfl) (HC.get 2 rfl).2 ((HC.ro 1 rfl).less (mut_tpO (i := 2) rfl))).mono ?_
    rintro e w5 ⟨A5, n5, c5, ss5, rfl, h1, h2, h3, t5, g5⟩
    exact ⟨_, rfl, ⟨A5, n5, c5, ss5, rfl, h1, h2, h3⟩, Hold.callT HC 2 rfl g5 t5, RM.grown g5 (.inr ⟨_, List.mem_of_getElem? (i := 2) rfl, rfl⟩)⟩
  rintro u_ wx HCx ⟨A6, n6, c6, ss6, rfl, -, -, -⟩
  clear HCx
  simp only [Act.put, List.setIfInBounds_toArray, List.set_cons_succ, List.set_cons_zero]
  refine rel_nil ?_
  rintro wx HX _hrm HG
  simp only [List.length_cons, List.length_nil, Nat.reduceAdd, Nat.reduceSub]
  have hu1 : SomeSlot (Mut None_ [.ro (LksIn B2 m2 l2), .ro Lts, .tp T]) (.slice A5 n5 c5) wx := (GW_on (d := 30) rfl).1 (HG 5 _ rfl (by omega))
  have hu2 : SomeSlot (Mut None_ [.ro (LksIn B2 m2 l2), .ro Lts, .tp T]) (.slice A6 n6 c6) wx := (GW_on (d := 32) rfl).1 (HG 7 _ rfl (by omega))
  clear HG _hrm
  obtain ⟨A7, n7, c7, ps, e7, h57, hps, r7⟩ := hu1
  obtain ⟨A8, n8, c8, fs, e8, h58, hfs, r8⟩ := hu2
  injection e7 with q1 q2 q3
  injection e8 with p1 p2 p3
  subst q1 q2 q3 p1 p2 p3
  have K4 := (HX.add r7).add (r8.less (by simp [Mut, Hp.foot]))
  have HN := hid (And.intro (let5_mem hr) (And.intro hps hfs))
  clear HX r7 r8 hps hfs r0 r4
  refine wpAny_take (i := 8) (v := .string (let5 r)) rfl (by kernel_rfl) (by kernel_rfl) (by kernel_rfl) (fun _ _ _ h => h) (Or.inl ⟨by rfl, fun w => ?_⟩) ?_
  · go_simp
  simp only [Act.put, List.getElem_toArray, List.getElem_cons_zero, List.getElem_cons_succ, List.setIfInBounds_toArray, List.set_cons_succ, List.set_cons_zero]
  refine wpAny_take (i := 9) (v := .slice A5 n5 c5) rfl (by kernel_rfl) (by kernel_rfl) (by kernel_rfl) (fun _ _ _ h => h) (Or.inl ⟨by rfl, fun w => ?_⟩) ?_
  · go_simp
  simp only [Act.put, List.getElem_toArray, List.getElem_cons_zero, List.getElem_cons_succ, List.setIfInBounds_toArray, List.set_cons_succ, List.set_cons_zero]
  refine wpAny_take (i := 10) (v := .slice A6 n6 c6) rfl (by kernel_rfl) (by kernel_rfl) (by kernel_rfl) (fun _ _ _ h => h) (Or.inl ⟨by rfl, fun w => ?_⟩) ?_
  · go_simp
  simp only [Act.put, List.getElem_toArray, List.getElem_cons_zero, List.getElem_cons_succ, List.setIfInBounds_toArray, List.set_cons_succ, List.set_cons_zero]
  refine wpAny_done (by kernel_rfl) ?_ _
  generalize let5 r = nm at *
  clear hr
  go_wp2_with fail
  refine (oadd_any _ _ K4.mutLt B2 m2 d2 l2 nm A5 n5 c5 ps A6 n6 c6 fs (K4.ro 2 rfl) (K4.ro 1 rfl) (K4.ro 0 rfl) (by omega) (by omega) (by omega) (names5_ok HV.out.2) (lets5_small _ HN.out.1) (fun s hs => lets5_small _ (HN.out.2.1 s hs)) (fun s hs => lets5_small _ (HN.out.2.2 s hs))).mono ?_
  intro e w4 h
  obtain ⟨ec, r7, A7, n7, c7, rfl, hk, h77, h78, r6, b6⟩ := oadd_kind h
  have K5 := (K4.call b6).add r6
  have HK := hid hk
  have HL7 := hid r6.now.len
  clear hk h b6 r6 K4
  go_wp2_with fail
  refine (cloneStrs_any _ A6 n6 c6 fs (K5.ro 1 rfl).now (by omega)).mono ?_
  rintro e w5 ⟨C5, k5, d5, rfl, hl5, ho5, hb5⟩
  have K6 := K5.callOwn hb5 ho5
  have Ho5 := hid hl5
  have hle5 : k5 ≤ n6 := by rw [hl5, (K5.ro 1 rfl).now.len]; exact Nat.le_refl _
  clear hb5 ho5 hl5 K5
  go_wp2_with (at_builtin; go_must (refine wpList_appH K6 0 rfl Tryd.elSt #[.string nm] rfl (.tmp 42) (.tmp 44) rfl rfl _ (by first | rfl | simp) rfl rfl (by intro u hu; simp at hu; rcases hu with rfl; rfl) (by omega) (by omega) ?_); intro g6 cap6 w6 hc6 hm6 K7; simp only [List.set_cons_zero, List.set_cons_succ] at K7)
  clear K6
  refine (cloneStrs_any _ A5 n5 c5 ps (K7.ro 3 rfl).now (by omega)).mono ?_
  rintro e w7 ⟨C7, k7, d7, rfl, hl7, ho7, hb7⟩
  have K8 := K7.callOwn hb7 ho7
  have Ho7 := hid hl7
  have hle7 : k7 ≤ n5 := by rw [hl7, (K7.ro 3 rfl).now.len]; exact Nat.le_refl _
  clear hb7 ho7 hl7 K7
  go_wp2_with (at_builtin; go_must (refine wpList_appH K8 0 rfl Tryd.elSt #[.string nm] rfl (.tmp 47) (.tmp 49) rfl rfl _ (by first | rfl | simp) rfl rfl (by intro u hu; simp at hu; rcases hu with rfl; rfl) (by omega) (by omega) ?_); intro g8 cap8 w8 hc8 hm8 K9; simp only [List.set_cons_zero, List.set_cons_succ] at K9)
  clear K8
  rw [show strsCells ps ++ (#[Value.string nm]).toList = strsCells (belL (l2.take 0) nm ps) by simp [belL, strsCells], show strsCells fs ++ (#[Value.string nm]).toList = strsCells (abvL (l2.take 0) nm fs) by simp [abvL, strsCells]] at K9
  go_loopw [10, 11, 53] (fun av bv iv wr => ∃ (k q1 p1 q2 p2 : Nat) (O1 O2 : Option Addr), k ≤ m2 ∧ q1 ≤ 3 + k ∧ q2 ≤ 3 + k ∧ av = .slice O1 q1 p1 ∧ bv = .slice O2 q2 p2 ∧ iv = .int .i64 k ∧ Hold None_ none w wr [.own 9 1 (.slice O2 q2 p2) q2 (strsCells (belL (l2.take k) nm ps)), .own 9 1 (.slice O1 q1 p1) q1 (strsCells (abvL (l2.take k) nm fs)), .ro (LksIn A7 n7 r7), .ro (StrsIn A6 n6 fs), .ro (StrsIn A5 n5 ps), .ro (LksIn B2 m2 l2), .ro Lts, .tp T]) (fun _ _ iv _ => m2 - (intOf iv).toNat)
  case atStart => exact ⟨0, k5 + 1, cap6, k7 + 1, cap8, _, _, by omega, by omega, by omega, by first | rfl | simp, by first | rfl | simp, rfl, K9⟩
  case round =>
    clear K9 hle5 hle7 hc6 hm6 hc8 hm8
    obtain ⟨k, q1, p1, q2, p2, O1, O2, hk, hq1, hq2, rfl, rfl, rfl, H⟩ := hrel
    by_cases hlt : k < m2
    · have hd : decide ((k : Int) < (m2 : Int)) = true := by simp; omega
      have i0 : (0 : Int) ≤ (k : Int) := by omega
      have i1 : (k : Int) < (m2 : Int) := by omega
      obtain ⟨x, hx⟩ := get_of HL2.out hlt
      obtain ⟨g, o, rfl, hb, c0, c1⟩ := (H.ro 5 rfl).now.at_ hx
      have HX := hid hx; clear hx
      have K1 := H.alloc_cst #[.string x.a, .string x.b] 41
      have FA := K1.facts
      simp only [World.size_alloc, World.size_drew, factsL, cellsF, Nat.reduceAdd, List.toList_toArray, List.set_cons_zero, List.set_cons_succ, List.setIfInBounds_toArray, and_true, true_and] at FA
      clear H
      go_wp2_with fail
      refine (scont_any _ A6 n6 c6 fs x.b (K1.ro 4 rfl).now (by omega)).mono ?_
      rintro e w1 ⟨rfl, rfl⟩
      cases hcf : contS fs x.b
      · by_cases hbn : x.b = nm
        · have e1 : (x.b.toList == nm.toList) = true := by simp [hbn]
          have HA := hid (show strsCells (abvL (l2.take k) nm fs) ++ (#[Value.string x.a]).toList = strsCells (abvL (l2.take (k + 1)) nm fs) by rw [abv_take HX.out, if_pos (.inr hbn)]; simp [strsCells])
          clear hbn hcf
          go_wp2_with (at_builtin; go_must (refine wpList_appH K1 2 rfl Tryd.elSt #[.string x.a] rfl (.tmp 67) (.tmp 70) rfl rfl _ (by first | rfl | simp) rfl rfl (by intro u hu; simp at hu; rcases hu with rfl; rfl) (by omega) (by omega) ?_); intro g9 cap9 w9 hc9 hm9 KB; simp only [List.set_cons_zero, List.set_cons_succ] at KB; have FB := KB.facts; simp only [World.size_alloc, World.size_drew, factsL, cellsF, Nat.reduceAdd, List.toList_toArray, List.set_cons_zero, List.set_cons_succ, List.setIfInBounds_toArray, and_true, true_and] at FB)
          rw [HA.out] at KB
          clear K1 FA
          refine (scont_any _ A5 n5 c5 ps x.a (KB.ro 5 rfl).now (by omega)).mono ?_
          rintro e w1 ⟨rfl, rfl⟩
          cases hcf : contS ps x.a
          · by_cases hbn : x.a = nm
            · have e2 : (x.a.toList == nm.toList) = true := by simp [hbn]
              have HB := hid (show strsCells (belL (l2.take k) nm ps) ++ (#[Value.string x.b]).toList = strsCells (belL (l2.take (k + 1)) nm ps) by rw [bel_take HX.out, if_pos (.inr hbn)]; simp [strsCells])
              clear hbn hcf
              go_wp2_with (at_builtin; go_must (refine wpList_appH KB 1 rfl Tryd.elSt #[.string x.b] rfl (.tmp 82) (.tmp 85) rfl rfl _ (by first | rfl | simp) rfl rfl (by intro u hu; simp at hu; rcases hu with rfl; rfl) (by omega) (by omega) ?_); intro g8 cap8 w8 hc8 hm8 KD; simp only [List.set_cons_zero, List.set_cons_succ] at KD)
              rw [HB.out] at KD
              go_roundw
              case rel => exact ⟨k + 1, q1 + 1, cap9, q2 + 1, cap8, _, _, by omega, by omega, by omega, by first | rfl | go_num, by first | rfl | go_num, by go_num, KD.drop (List.sublist_cons_self _ _)⟩
              case measure => simp [intOf]; omega
            · have e2 : (x.a.toList == nm.toList) = false := by rw [beq_eq_false_iff_ne]; exact fun h => hbn (ba_ext h)
              have HB := hid (show strsCells (belL (l2.take k) nm ps) = strsCells (belL (l2.take (k + 1)) nm ps) by rw [bel_take HX.out, if_neg (by rintro (h | h); exact contS_no hcf h; exact hbn h)]; simp)
              clear hbn hcf
              go_wp2_with fail
              rw [HB.out] at KB
              go_roundw
              case rel => exact ⟨k + 1, q1 + 1, cap9, q2, p2, _, _, by omega, by omega, by omega, by first | rfl | go_num, by first | rfl | go_num, by go_num, KB.drop (List.sublist_cons_self _ _)⟩
              case measure => simp [intOf]; omega
          · have HB := hid (show strsCells (belL (l2.take k) nm ps) ++ (#[Value.string x.b]).toList = strsCells (belL (l2.take (k + 1)) nm ps) by rw [bel_take HX.out, if_pos (.inl (contS_iff.1 hcf))]; simp [strsCells])
            clear hcf
            go_wp2_with (at_builtin; go_must (refine wpList_appH KB 1 rfl Tryd.elSt #[.string x.b] rfl (.tmp 82) (.tmp 85) rfl rfl _ (by first | rfl | simp) rfl rfl (by intro u hu; simp at hu; rcases hu with rfl; rfl) (by omega) (by omega) ?_); intro g8 cap8 w8 hc8 hm8 KD; simp only [List.set_cons_zero, List.set_cons_succ] at KD)
            rw [HB.out] at KD
            go_roundw
            case rel => exact ⟨k + 1, q1 + 1, cap9, q2 + 1, cap8, _, _, by omega, by omega, by omega, by first | rfl | go_num, by first | rfl | go_num, by go_num, KD.drop (List.sublist_cons_self _ _)⟩
            case measure => simp [intOf]; omega
        · have e1 : (x.b.toList == nm.toList) = false := by rw [beq_eq_false_iff_ne]; exact fun h => hbn (ba_ext h)
          have HA := hid (show strsCells (abvL (l2.take k) nm fs) = strsCells (abvL (l2.take (k + 1)) nm fs) by rw [abv_take HX.out, if_neg (by rintro (h | h); exact contS_no hcf h; exact hbn h)]; simp)
          clear hbn hcf
          rw [HA.out] at K1
          go_wp2_with fail
          refine (scont_any _ A5 n5 c5 ps x.a (K1.ro 5 rfl).now (by omega)).mono ?_
          rintro e w1 ⟨rfl, rfl⟩
          cases hcf : contS ps x.a
          · by_cases hbn : x.a = nm
            · have e2 : (x.a.toList == nm.toList) = true := by simp [hbn]
              have HB := hid (show strsCells (belL (l2.take k) nm ps) ++ (#[Value.string x.b]).toList = strsCells (belL (l2.take (k + 1)) nm ps) by rw [bel_take HX.out, if_pos (.inr hbn)]; simp [strsCells])
              clear hbn hcf
              go_wp2_with (at_builtin; go_must (refine wpList_appH K1 1 rfl Tryd.elSt #[.string x.b] rfl (.tmp 82) (.tmp 85) rfl rfl _ (by first | rfl | simp) rfl rfl (by intro u hu; simp at hu; rcases hu with rfl; rfl) (by omega) (by omega) ?_); intro g8 cap8 w8 hc8 hm8 KD; simp only [List.set_cons_zero, List.set_cons_succ] at KD)
              rw [HB.out] at KD
              go_roundw
              case rel => exact ⟨k + 1, q1, p1, q2 + 1, cap8, _, _, by omega, by omega, by omega, by first | rfl | go_num, by first | rfl | go_num, by go_num, KD.drop (List.sublist_cons_self _ _)⟩
              case measure => simp [intOf]; omega
            · have e2 : (x.a.toList == nm.toList) = false := by rw [beq_eq_false_iff_ne]; exact fun h => hbn (ba_ext h)
              have HB := hid (show strsCells (belL (l2.take k) nm ps) = strsCells (belL (l2.take (k + 1)) nm ps) by rw [bel_take HX.out, if_neg (by rintro (h | h); exact contS_no hcf h; exact hbn h)]; simp)
              clear hbn hcf
              go_wp2_with fail
              rw [HB.out] at K1
              go_roundw
              case rel => exact ⟨k + 1, q1, p1, q2, p2, _, _, by omega, by omega, by omega, by first | rfl | go_num, by first | rfl | go_num, by go_num, K1.drop (List.sublist_cons_self _ _)⟩
              case measure => simp [intOf]; omega
          · have HB := hid (show strsCells (belL (l2.take k) nm ps) ++ (#[Value.string x.b]).toList = strsCells (belL (l2.take (k + 1)) nm ps) by rw [bel_take HX.out, if_pos (.inl (contS_iff.1 hcf))]; simp [strsCells])
            clear hcf
            go_wp2_with (at_builtin; go_must (refine wpList_appH K1 1 rfl Tryd.elSt #[.string x.b] rfl (.tmp 82) (.tmp 85) rfl rfl _ (by first | rfl | simp) rfl rfl (by intro u hu; simp at hu; rcases hu with rfl; rfl) (by omega) (by omega) ?_); intro g8 cap8 w8 hc8 hm8 KD; simp only [List.set_cons_zero, List.set_cons_succ] at KD)
            rw [HB.out] at KD
            go_roundw
            case rel => exact ⟨k + 1, q1, p1, q2 + 1, cap8, _, _, by omega, by omega, by omega, by first | rfl | go_num, by first | rfl | go_num, by go_num, KD.drop (List.sublist_cons_self _ _)⟩
            case measure => simp [intOf]; omega
      · have HA := hid (show strsCells (abvL (l2.take k) nm fs) ++ (#[Value.string x.a]).toList = strsCells (abvL (l2.take (k + 1)) nm fs) by rw [abv_take HX.out, if_pos (.inl (contS_iff.1 hcf))]; simp [strsCells])
        clear hcf
        go_wp2_with (at_builtin; go_must (refine wpList_appH K1 2 rfl Tryd.elSt #[.string x.a] rfl (.tmp 67) (.tmp 70) rfl rfl _ (by first | rfl | simp) rfl rfl (by intro u hu; simp at hu; rcases hu with rfl; rfl) (by omega) (by omega) ?_); intro g9 cap9 w9 hc9 hm9 KB; simp only [List.set_cons_zero, List.set_cons_succ] at KB; have FB := KB.facts; simp only [World.size_alloc, World.size_drew, factsL, cellsF, Nat.reduceAdd, List.toList_toArray, List.set_cons_zero, List.set_cons_succ, List.setIfInBounds_toArray, and_true, true_and] at FB)
        rw [HA.out] at KB
        clear K1 FA
        refine (scont_any _ A5 n5 c5 ps x.a (KB.ro 5 rfl).now (by omega)).mono ?_
        rintro e w1 ⟨rfl, rfl⟩
        cases hcf : contS ps x.a
        · by_cases hbn : x.a = nm
          · have e2 : (x.a.toList == nm.toList) = true := by simp [hbn]
            have HB := hid (show strsCells (belL (l2.take k) nm ps) ++ (#[Value.string x.b]).toList = strsCells (belL (l2.take (k + 1)) nm ps) by rw [bel_take HX.out, if_pos (.inr hbn)]; simp [strsCells])
            clear hbn hcf
            go_wp2_with (at_builtin; go_must (refine wpList_appH KB 1 rfl Tryd.elSt #[.string x.b] rfl (.tmp 82) (.tmp 85) rfl rfl _ (by first | rfl | simp) rfl rfl (by intro u hu; simp at hu; rcases hu with rfl; rfl) (by omega) (by omega) ?_); intro g8 cap8 w8 hc8 hm8 KD; simp only [List.set_cons_zero, List.set_cons_succ] at KD)
            rw [HB.out] at KD
            go_roundw
            case rel => exact ⟨k + 1, q1 + 1, cap9, q2 + 1, cap8, _, _, by omega, by omega, by omega, by first | rfl | go_num, by first | rfl | go_num, by go_num, KD.drop (List.sublist_cons_self _ _)⟩
            case measure => simp [intOf]; omega
          · have e2 : (x.a.toList == nm.toList) = false := by rw [beq_eq_false_iff_ne]; exact fun h => hbn (ba_ext h)
            have HB := hid (show strsCells (belL (l2.take k) nm ps) = strsCells (belL (l2.take (k + 1)) nm ps) by rw [bel_take HX.out, if_neg (by rintro (h | h); exact contS_no hcf h; exact hbn h)]; simp)
            clear hbn hcf
            go_wp2_with fail
            rw [HB.out] at KB
            go_roundw
            case rel => exact ⟨k + 1, q1 + 1, cap9, q2, p2, _, _, by omega, by omega, by omega, by first | rfl | go_num, by first | rfl | go_num, by go_num, KB.drop (List.sublist_cons_self _ _)⟩
            case measure => simp [intOf]; omega
        · have HB := hid (show strsCells (belL (l2.take k) nm ps) ++ (#[Value.string x.b]).toList = strsCells (belL (l2.take (k + 1)) nm ps) by rw [bel_take HX.out, if_pos (.inl (contS_iff.1 hcf))]; simp [strsCells])
          clear hcf
          go_wp2_with (at_builtin; go_must (refine wpList_appH KB 1 rfl Tryd.elSt #[.string x.b] rfl (.tmp 82) (.tmp 85) rfl rfl _ (by first | rfl | simp) rfl rfl (by intro u hu; simp at hu; rcases hu with rfl; rfl) (by omega) (by omega) ?_); intro g8 cap8 w8 hc8 hm8 KD; simp only [List.set_cons_zero, List.set_cons_succ] at KD)
          rw [HB.out] at KD
          go_roundw
          case rel => exact ⟨k + 1, q1 + 1, cap9, q2 + 1, cap8, _, _, by omega, by omega, by omega, by first | rfl | go_num, by first | rfl | go_num, by go_num, KD.drop (List.sublist_cons_self _ _)⟩
          case measure => simp [intOf]; omega
    · obtain rfl : m2 = k := by omega
      have hd : decide ((m2 : Int) < (m2 : Int)) = false := by simp
      rw [List.take_of_length_le (by rw [HL2.out]; exact Nat.le_refl _)] at H
      obtain ⟨ab, hab⟩ : ∃ x, x = abvL l2 nm fs := ⟨_, rfl⟩
      obtain ⟨be, hbe⟩ : ∃ x, x = belL l2 nm ps := ⟨_, rfl⟩
      rw [← hab, ← hbe] at H
      have HAB := hid hab
      have HBE := hid hbe
      clear hab hbe
      have hp1 := own_caps (H.get 1 rfl)
      have hp2 := own_caps (H.get 0 rfl)
      have Hq1 := hid (show ab.length = q1 by have := (H.get 1 rfl).1; simp [strsCells] at this; omega)
      have Hq2 := hid (show be.length = q2 by have := (H.get 0 rfl).1; simp [strsCells] at this; omega)
      have KS := H.sealRow 1 rfl
      simp only [List.set_cons_zero, List.set_cons_succ] at KS
      have KT := KS.sealRow 0 rfl
      simp only [List.set_cons_zero, List.set_cons_succ] at KT
      have KU : Hold None_ none w wr [.ro (StrsIn O2 q2 be), .ro (StrsIn O1 q1 ab), .ro (LksIn A7 n7 r7), .ro (StrsIn A6 n6 fs), .ro (StrsIn A5 n5 ps), .ro (LksIn B2 m2 l2), .ro Lts, .tp T] := KT
      clear KS KT H
      by_cases h0 : ec = 0
      · have hne : (ec == 0) = true := by simp [h0]
        have HR := hid (okind_valid HK.out h0).2
        clear h0
        go_wp2_with fail
        go_loopw [92] (fun iv wr => ∃ (k : Nat), k ≤ n7 ∧ iv = .int .i64 k ∧ Hold None_ none w wr [.ro (StrsIn O2 q2 be), .ro (StrsIn O1 q1 ab), .ro (LksIn A7 n7 r7), .ro (StrsIn A6 n6 fs), .ro (StrsIn A5 n5 ps), .ro (LksIn B2 m2 l2), .ro Lts, .tp T]) (fun iv _ => n7 - (intOf iv).toNat)
        case atStart => exact ⟨0, by omega, rfl, KU⟩
        case round =>
          clear KU
          obtain ⟨k, hk, rfl, H⟩ := hrel
          by_cases hlt : k < n7
          · have hd : decide ((k : Int) < (n7 : Int)) = true := by simp; omega
            have i0 : (0 : Int) ≤ (k : Int) := by omega
            have i1 : (k : Int) < (n7 : Int) := by omega
            obtain ⟨x, hx⟩ := get_of HL7.out hlt
            obtain ⟨g, o, rfl, hb, c0, c1⟩ := (H.ro 2 rfl).now.at_ hx
            have HX := hid (least_ok (strict_of HV.out.1) ((HR.out.2 x.a x.b).1 (List.mem_of_getElem? hx)))
            clear hx
            have K1 := H.alloc_cst #[.string x.a, .string x.b] 41
            have FA := K1.facts
            simp only [World.size_alloc, World.size_drew, factsL, cellsF, Nat.reduceAdd, List.toList_toArray, List.set_cons_zero, List.set_cons_succ, List.setIfInBounds_toArray, and_true, true_and] at FA
            clear H
            go_wp2_with fail
            refine (prec_any _ _ K1.mutLt B2 m2 d2 l2 x.a x.b (K1.ro 6 rfl) (by omega)).mono ?_
            rintro e w1 ⟨rfl, b1⟩
            have K2 := K1.call b1
            clear b1 K1 FA
            cases hpr : precB l2 x.a x.b
            · have HC := hid (show contS ab x.a = true ∧ contS be x.b = true by
                rcases HX.out with h | h
                · rw [precB_iff.2 h] at hpr; cases hpr
                · rw [HAB.out, HBE.out]; exact ⟨contS_iff.2 h.1, contS_iff.2 h.2⟩)
              clear hpr
              have FA := K2.facts
              simp only [World.size_alloc, World.size_drew, factsL, cellsF, Nat.reduceAdd, List.toList_toArray, List.set_cons_zero, List.set_cons_succ, List.setIfInBounds_toArray, and_true, true_and] at FA
              go_wp2_with fail
              refine (scont_any _ O1 q1 p1 ab x.a (K2.ro 2 rfl).now (by omega)).mono ?_
              rintro e w3 ⟨rfl, rfl⟩
              rw [HC.out.1]
              go_wp2_with fail
              refine (scont_any _ O2 q2 p2 be x.b (K2.ro 1 rfl).now (by omega)).mono ?_
              rintro e w3 ⟨rfl, rfl⟩
              rw [HC.out.2]
              go_wp2_with fail
              go_roundw
              case rel => exact ⟨k + 1, by omega, by go_num, K2.drop (List.sublist_cons_self _ _)⟩
              case measure => simp [intOf]; omega
            · clear hpr
              go_wp2_with fail
              go_roundw
              case rel => exact ⟨k + 1, by omega, by go_num, K2.drop (List.sublist_cons_self _ _)⟩
              case measure => simp [intOf]; omega
          · obtain rfl : n7 = k := by omega
            have hd : decide ((n7 : Int) < (n7 : Int)) = false := by simp
            go_wp2_with fail
            refine (known18 _).mono ?_
            rintro e wz ⟨rfl, bz⟩
            have Kz := H.call bz
            go_wp2_with fail
            go_ret
            exact ⟨rfl, Kz.below⟩
      · obtain ⟨h13, s, hs⟩ : ec = 13 ∧ ∃ s, Tr (allO l2 nm ps fs) s s := by
          rcases HK.out with ⟨_, h2, _⟩ | ⟨_, ⟨h1, h2, _⟩ | ⟨h1, _⟩⟩
          · rw [HV.out.1] at h2; cases h2
          · exact ⟨h1, h2⟩
          · exact absurd h1 h0
        have HME := hid (least_meet (strict_of HV.out.1) hs)
        subst h13
        clear h0 hs HK
        obtain ⟨g1, o1, rfl⟩ : ∃ g o, O1 = some ⟨g, o, none⟩ := by
          obtain ⟨x, hx⟩ := get_of Hq1.out (show 0 < q1 by rw [← Hq1.out, HAB.out]; simp [abvL]; omega)
          obtain ⟨g, o, e, _⟩ := (KU.ro 1 rfl).now.at_ hx
          exact ⟨g, o, e⟩
        obtain ⟨g2, o2, rfl⟩ : ∃ g o, O2 = some ⟨g, o, none⟩ := by
          obtain ⟨x, hx⟩ := get_of Hq2.out (show 0 < q2 by rw [← Hq2.out, HBE.out]; simp [belL]; omega)
          obtain ⟨g, o, e, _⟩ := (KU.ro 0 rfl).now.at_ hx
          exact ⟨g, o, e⟩
        go_wp2_with fail
        refine (scont_any _ A5 n5 c5 ps nm (KU.ro 4 rfl).now (by omega)).mono ?_
        rintro e w3 ⟨rfl, rfl⟩
        cases hps : contS ps nm
        · go_wp2_with fail
          refine (scont_any _ A6 n6 c6 fs nm (KU.ro 3 rfl).now (by omega)).mono ?_
          rintro e w3 ⟨rfl, rfl⟩
          have HB0 := hid (show MetP l2 nm ps fs ab be 0 (contS fs nm) from ⟨fun h => by
            rcases h with h | h
            · exact absurd h (contS_no hps)
            · exact contS_iff.2 h, fun x hx => by simp at hx⟩)
          clear hps
          go_wp2_with fail
          go_loopw [16, 129] (fun bv iv wr => ∃ (k : Nat) (bb : Bool), k ≤ q1 ∧ bv = .bool bb ∧ iv = .int .i64 k ∧ Hid (MetP l2 nm ps fs ab be k bb) ∧ Hold None_ none w wr [.ro (StrsIn (some ⟨g2, o2, none⟩) q2 be), .ro (StrsIn (some ⟨g1, o1, none⟩) q1 ab), .ro (LksIn A7 n7 r7), .ro (StrsIn A6 n6 fs), .ro (StrsIn A5 n5 ps), .ro (LksIn B2 m2 l2), .ro Lts, .tp T]) (fun _ iv _ => q1 - (intOf iv).toNat)
          case atStart => exact ⟨0, (contS fs nm), by omega, rfl, rfl, HB0, KU⟩
          case round =>
            clear HB0 KU
            obtain ⟨k, bb, hk, rfl, rfl, HP, H⟩ := hrel
            by_cases hlt : k < q1
            · have hd : decide ((k : Int) < (q1 : Int)) = true := by simp; omega
              have i0 : (0 : Int) ≤ (k : Int) := by omega
              have i1 : (k : Int) < (q1 : Int) := by omega
              obtain ⟨x, hx⟩ := get_of Hq1.out hlt
              have c0 : g1 < wr.heap.size ∧ wr.cell? ⟨g1, o1 + k, none⟩ = some (.string x) := by
                obtain ⟨_, _, e, h1, h2⟩ := (H.ro 1 rfl).now.at_ hx
                cases e; exact ⟨h1, h2⟩
              obtain ⟨hb, c0⟩ := c0
              have HX := hid hx; clear hx
              go_wp2_with fail
              clear c0 hb
              go_loopw [16, 135] (fun bv iv wr => ∃ (j : Nat) (bb : Bool), j ≤ q2 ∧ bv = .bool bb ∧ iv = .int .i64 j ∧ Hid (MetQ l2 nm ps fs ab be k j x bb) ∧ Hold None_ none w wr [.ro (StrsIn (some ⟨g2, o2, none⟩) q2 be), .ro (StrsIn (some ⟨g1, o1, none⟩) q1 ab), .ro (LksIn A7 n7 r7), .ro (StrsIn A6 n6 fs), .ro (StrsIn A5 n5 ps), .ro (LksIn B2 m2 l2), .ro Lts, .tp T]) (fun _ iv _ => q2 - (intOf iv).toNat)
              case atStart => exact ⟨0, bb, by omega, rfl, rfl, hid ⟨HP.out, fun y hy => by simp at hy⟩, H⟩
              case round =>
                clear HP H
                obtain ⟨j, bb, hj, rfl, rfl, HQ, H⟩ := hrel
                by_cases hlt2 : j < q2
                · have hd : decide ((j : Int) < (q2 : Int)) = true := by simp; omega
                  have i0 : (0 : Int) ≤ (j : Int) := by omega
                  have i1 : (j : Int) < (q2 : Int) := by omega
                  obtain ⟨y, hy⟩ := get_of Hq2.out hlt2
                  have c0 : g2 < wr.heap.size ∧ wr.cell? ⟨g2, o2 + j, none⟩ = some (.string y) := by
                    obtain ⟨_, _, e, h1, h2⟩ := (H.ro 0 rfl).now.at_ hy
                    cases e; exact ⟨h1, h2⟩
                  obtain ⟨hb2, c0⟩ := c0
                  have HY := hid hy; clear hy
                  cases bb
                  · by_cases hxy : x = y
                    · have e1 : (x.toList == y.toList) = true := by simp [hxy]
                      clear hxy
                      by_cases h1 : x = nm
                      · have f1 : (x.toList != nm.toList) = false := by simp [h1]
                        have f1b : (x.toList == nm.toList) = true := by simp [h1]
                        by_cases h2 : y = nm
                        · have f2 : (y.toList != nm.toList) = false := by simp [h2]
                          have f2b : (y.toList == nm.toList) = true := by simp [h2]
                          have HH := hid (show ¬ Hit l2 nm x y from fun h => h.2.elim (fun h => h h1) (fun h => h h2))
                          clear h1 h2
                          go_wp2_with fail
                          go_roundw
                          case rel => exact ⟨j + 1, false, by omega, rfl, by go_num, hid (HQ.out.step HY.out (fun h => h) (fun h => absurd h HH.out)), H⟩
                          case measure => simp [intOf]; omega
                        · have f2 : (y.toList != nm.toList) = true := by rw [bne_iff_ne]; exact fun h => h2 (ba_ext h)
                          have f2b : (y.toList == nm.toList) = false := by rw [beq_eq_false_iff_ne]; exact fun h => h2 (ba_ext h)
                          clear h1 h2
                          go_wp2_with fail
                          go_roundw
                          case rel => exact ⟨j + 1, true, by omega, rfl, by go_num, hid (HQ.out.step HY.out (fun _ => rfl) (fun _ => rfl)), H⟩
                          case measure => simp [intOf]; omega
                      · have f1 : (x.toList != nm.toList) = true := by rw [bne_iff_ne]; exact fun h => h1 (ba_ext h)
                        have f1b : (x.toList == nm.toList) = false := by rw [beq_eq_false_iff_ne]; exact fun h => h1 (ba_ext h)
                        clear h1
                        go_wp2_with fail
                        go_roundw
                        case rel => exact ⟨j + 1, true, by omega, rfl, by go_num, hid (HQ.out.step HY.out (fun _ => rfl) (fun _ => rfl)), H⟩
                        case measure => simp [intOf]; omega
                    · have e1 : (x.toList == y.toList) = false := by rw [beq_eq_false_iff_ne]; exact fun h => hxy (ba_ext h)
                      cases hpr : precB l2 y x
                      · have HH := hid (show ¬ Hit l2 nm x y from fun h => h.1.elim hxy (fun h => by rw [precB_iff.2 h] at hpr; cases hpr))
                        have HPR := hid hpr
                        clear hpr hxy
                        go_wp2_with fail
                        refine (prec_any _ _ H.mutLt B2 m2 d2 l2 y x (H.ro 5 rfl) (by omega)).mono ?_
                        rintro e w1 ⟨rfl, b1⟩
                        have H1 := H.call b1
                        clear b1
                        rw [HPR.out]
                        go_wp2_with fail
                        go_roundw
                        case rel => exact ⟨j + 1, false, by omega, rfl, by go_num, hid (HQ.out.step HY.out (fun h => h) (fun h => absurd h HH.out)), H1⟩
                        case measure => simp [intOf]; omega
                      · have HPR := hid hpr
                        clear hpr hxy
                        go_wp2_with fail
                        refine (prec_any _ _ H.mutLt B2 m2 d2 l2 y x (H.ro 5 rfl) (by omega)).mono ?_
                        rintro e w1 ⟨rfl, b1⟩
                        have H1 := H.call b1
                        clear b1
                        rw [HPR.out]
                        by_cases h1 : x = nm
                        · have f1 : (x.toList != nm.toList) = false := by simp [h1]
                          have f1b : (x.toList == nm.toList) = true := by simp [h1]
                          by_cases h2 : y = nm
                          · have f2 : (y.toList != nm.toList) = false := by simp [h2]
                            have f2b : (y.toList == nm.toList) = true := by simp [h2]
                            have HH := hid (show ¬ Hit l2 nm x y from fun h => h.2.elim (fun h => h h1) (fun h => h h2))
                            clear h1 h2
                            go_wp2_with fail
                            go_roundw
                            case rel => exact ⟨j + 1, false, by omega, rfl, by go_num, hid (HQ.out.step HY.out (fun h => h) (fun h => absurd h HH.out)), H1⟩
                            case measure => simp [intOf]; omega
                          · have f2 : (y.toList != nm.toList) = true := by rw [bne_iff_ne]; exact fun h => h2 (ba_ext h)
                            have f2b : (y.toList == nm.toList) = false := by rw [beq_eq_false_iff_ne]; exact fun h => h2 (ba_ext h)
                            clear h1 h2
                            go_wp2_with fail
                            go_roundw
                            case rel => exact ⟨j + 1, true, by omega, rfl, by go_num, hid (HQ.out.step HY.out (fun _ => rfl) (fun _ => rfl)), H1⟩
                            case measure => simp [intOf]; omega
                        · have f1 : (x.toList != nm.toList) = true := by rw [bne_iff_ne]; exact fun h => h1 (ba_ext h)
                          have f1b : (x.toList == nm.toList) = false := by rw [beq_eq_false_iff_ne]; exact fun h => h1 (ba_ext h)
                          clear h1
                          go_wp2_with fail
                          go_roundw
                          case rel => exact ⟨j + 1, true, by omega, rfl, by go_num, hid (HQ.out.step HY.out (fun _ => rfl) (fun _ => rfl)), H1⟩
                          case measure => simp [intOf]; omega
                  · go_wp2_with fail
                    go_roundw
                    case rel => exact ⟨j + 1, true, by omega, rfl, by go_num, hid (HQ.out.step HY.out (fun _ => rfl) (fun _ => rfl)), H⟩
                    case measure => simp [intOf]; omega
                · obtain rfl : q2 = j := by omega
                  have hd : decide ((q2 : Int) < (q2 : Int)) = false := by simp
                  go_wp2_with fail
                  go_roundw
                  case rel => exact ⟨k + 1, bb, by omega, rfl, by go_num, hid (MetQ.end_ (by rw [Hq2.out]; exact HQ.out) HX.out), H⟩
                  case measure => simp [intOf]; omega
            · obtain rfl : q1 = k := by omega
              have hd : decide ((q1 : Int) < (q1 : Int)) = false := by simp
              obtain rfl : bb = true := by
                have h := HP.out
                rw [HAB.out, HBE.out] at h
                exact h.out (by rw [← HAB.out, Hq1.out]; exact Nat.le_refl _) HME.out
              go_wp2_with fail
              refine (known18 _).mono ?_
              rintro e wz ⟨rfl, bz⟩
              have Kz := H.call bz
              go_wp2_with fail
              go_ret
              exact ⟨rfl, Kz.below⟩
        · have HB0 := hid (show MetP l2 nm ps fs ab be 0 true from ⟨fun _ => rfl, fun x hx => by simp at hx⟩)
          clear hps
          go_wp2_with fail
          go_loopw [16, 129] (fun bv iv wr => ∃ (k : Nat) (bb : Bool), k ≤ q1 ∧ bv = .bool bb ∧ iv = .int .i64 k ∧ Hid (MetP l2 nm ps fs ab be k bb) ∧ Hold None_ none w wr [.ro (StrsIn (some ⟨g2, o2, none⟩) q2 be), .ro (StrsIn (some ⟨g1, o1, none⟩) q1 ab), .ro (LksIn A7 n7 r7), .ro (StrsIn A6 n6 fs), .ro (StrsIn A5 n5 ps), .ro (LksIn B2 m2 l2), .ro Lts, .tp T]) (fun _ iv _ => q1 - (intOf iv).toNat)
          case atStart => exact ⟨0, true, by omega, rfl, rfl, HB0, KU⟩
          case round =>
            clear HB0 KU
            obtain ⟨k, bb, hk, rfl, rfl, HP, H⟩ := hrel
            by_cases hlt : k < q1
            · have hd : decide ((k : Int) < (q1 : Int)) = true := by simp; omega
              have i0 : (0 : Int) ≤ (k : Int) := by omega
              have i1 : (k : Int) < (q1 : Int) := by omega
              obtain ⟨x, hx⟩ := get_of Hq1.out hlt
              have c0 : g1 < wr.heap.size ∧ wr.cell? ⟨g1, o1 + k, none⟩ = some (.string x) := by
                obtain ⟨_, _, e, h1, h2⟩ := (H.ro 1 rfl).now.at_ hx
                cases e; exact ⟨h1, h2⟩
              obtain ⟨hb, c0⟩ := c0
              have HX := hid hx; clear hx
              go_wp2_with fail
              clear c0 hb
              go_loopw [16, 135] (fun bv iv wr => ∃ (j : Nat) (bb : Bool), j ≤ q2 ∧ bv = .bool bb ∧ iv = .int .i64 j ∧ Hid (MetQ l2 nm ps fs ab be k j x bb) ∧ Hold None_ none w wr [.ro (StrsIn (some ⟨g2, o2, none⟩) q2 be), .ro (StrsIn (some ⟨g1, o1, none⟩) q1 ab), .ro (LksIn A7 n7 r7), .ro (StrsIn A6 n6 fs), .ro (StrsIn A5 n5 ps), .ro (LksIn B2 m2 l2), .ro Lts, .tp T]) (fun _ iv _ => q2 - (intOf iv).toNat)
              case atStart => exact ⟨0, bb, by omega, rfl, rfl, hid ⟨HP.out, fun y hy => by simp at hy⟩, H⟩
              case round =>
                clear HP H
                obtain ⟨j, bb, hj, rfl, rfl, HQ, H⟩ := hrel
                by_cases hlt2 : j < q2
                · have hd : decide ((j : Int) < (q2 : Int)) = true := by simp; omega
                  have i0 : (0 : Int) ≤ (j : Int) := by omega
                  have i1 : (j : Int) < (q2 : Int) := by omega
                  obtain ⟨y, hy⟩ := get_of Hq2.out hlt2
                  have c0 : g2 < wr.heap.size ∧ wr.cell? ⟨g2, o2 + j, none⟩ = some (.string y) := by
                    obtain ⟨_, _, e, h1, h2⟩ := (H.ro 0 rfl).now.at_ hy
                    cases e; exact ⟨h1, h2⟩
                  obtain ⟨hb2, c0⟩ := c0
                  have HY := hid hy; clear hy
                  cases bb
                  · by_cases hxy : x = y
                    · have e1 : (x.toList == y.toList) = true := by simp [hxy]
                      clear hxy
                      by_cases h1 : x = nm
                      · have f1 : (x.toList != nm.toList) = false := by simp [h1]
                        have f1b : (x.toList == nm.toList) = true := by simp [h1]
                        by_cases h2 : y = nm
                        · have f2 : (y.toList != nm.toList) = false := by simp [h2]
                          have f2b : (y.toList == nm.toList) = true := by simp [h2]
                          have HH := hid (show ¬ Hit l2 nm x y from fun h => h.2.elim (fun h => h h1) (fun h => h h2))
                          clear h1 h2
                          go_wp2_with fail
                          go_roundw
                          case rel => exact ⟨j + 1, false, by omega, rfl, by go_num, hid (HQ.out.step HY.out (fun h => h) (fun h => absurd h HH.out)), H⟩
                          case measure => simp [intOf]; omega
                        · have f2 : (y.toList != nm.toList) = true := by rw [bne_iff_ne]; exact fun h => h2 (ba_ext h)
                          have f2b : (y.toList == nm.toList) = false := by rw [beq_eq_false_iff_ne]; exact fun h => h2 (ba_ext h)
                          clear h1 h2
                          go_wp2_with fail
                          go_roundw
                          case rel => exact ⟨j + 1, true, by omega, rfl, by go_num, hid (HQ.out.step HY.out (fun _ => rfl) (fun _ => rfl)), H⟩
                          case measure => simp [intOf]; omega
                      · have f1 : (x.toList != nm.toList) = true := by rw [bne_iff_ne]; exact fun h => h1 (ba_ext h)
                        have f1b : (x.toList == nm.toList) = false := by rw [beq_eq_false_iff_ne]; exact fun h => h1 (ba_ext h)
                        clear h1
                        go_wp2_with fail
                        go_roundw
                        case rel => exact ⟨j + 1, true, by omega, rfl, by go_num, hid (HQ.out.step HY.out (fun _ => rfl) (fun _ => rfl)), H⟩
                        case measure => simp [intOf]; omega
                    · have e1 : (x.toList == y.toList) = false := by rw [beq_eq_false_iff_ne]; exact fun h => hxy (ba_ext h)
                      cases hpr : precB l2 y x
                      · have HH := hid (show ¬ Hit l2 nm x y from fun h => h.1.elim hxy (fun h => by rw [precB_iff.2 h] at hpr; cases hpr))
                        have HPR := hid hpr
                        clear hpr hxy
                        go_wp2_with fail
                        refine (prec_any _ _ H.mutLt B2 m2 d2 l2 y x (H.ro 5 rfl) (by omega)).mono ?_
                        rintro e w1 ⟨rfl, b1⟩
                        have H1 := H.call b1
                        clear b1
                        rw [HPR.out]
                        go_wp2_with fail
                        go_roundw
                        case rel => exact ⟨j + 1, false, by omega, rfl, by go_num, hid (HQ.out.step HY.out (fun h => h) (fun h => absurd h HH.out)), H1⟩
                        case measure => simp [intOf]; omega
                      · have HPR := hid hpr
                        clear hpr hxy
                        go_wp2_with fail
                        refine (prec_any _ _ H.mutLt B2 m2 d2 l2 y x (H.ro 5 rfl) (by omega)).mono ?_
                        rintro e w1 ⟨rfl, b1⟩
                        have H1 := H.call b1
                        clear b1
                        rw [HPR.out]
                        by_cases h1 : x = nm
                        · have f1 : (x.toList != nm.toList) = false := by simp [h1]
                          have f1b : (x.toList == nm.toList) = true := by simp [h1]
                          by_cases h2 : y = nm
                          · have f2 : (y.toList != nm.toList) = false := by simp [h2]
                            have f2b : (y.toList == nm.toList) = true := by simp [h2]
                            have HH := hid (show ¬ Hit l2 nm x y from fun h => h.2.elim (fun h => h h1) (fun h => h h2))
                            clear h1 h2
                            go_wp2_with fail
                            go_roundw
                            case rel => exact ⟨j + 1, false, by omega, rfl, by go_num, hid (HQ.out.step HY.out (fun h => h) (fun h => absurd h HH.out)), H1⟩
                            case measure => simp [intOf]; omega
                          · have f2 : (y.toList != nm.toList) = true := by rw [bne_iff_ne]; exact fun h => h2 (ba_ext h)
                            have f2b : (y.toList == nm.toList) = false := by rw [beq_eq_false_iff_ne]; exact fun h => h2 (ba_ext h)
                            clear h1 h2
                            go_wp2_with fail
                            go_roundw
                            case rel => exact ⟨j + 1, true, by omega, rfl, by go_num, hid (HQ.out.step HY.out (fun _ => rfl) (fun _ => rfl)), H1⟩
                            case measure => simp [intOf]; omega
                        · have f1 : (x.toList != nm.toList) = true := by rw [bne_iff_ne]; exact fun h => h1 (ba_ext h)
                          have f1b : (x.toList == nm.toList) = false := by rw [beq_eq_false_iff_ne]; exact fun h => h1 (ba_ext h)
                          clear h1
                          go_wp2_with fail
                          go_roundw
                          case rel => exact ⟨j + 1, true, by omega, rfl, by go_num, hid (HQ.out.step HY.out (fun _ => rfl) (fun _ => rfl)), H1⟩
                          case measure => simp [intOf]; omega
                  · go_wp2_with fail
                    go_roundw
                    case rel => exact ⟨j + 1, true, by omega, rfl, by go_num, hid (HQ.out.step HY.out (fun _ => rfl) (fun _ => rfl)), H⟩
                    case measure => simp [intOf]; omega
                · obtain rfl : q2 = j := by omega
                  have hd : decide ((q2 : Int) < (q2 : Int)) = false := by simp
                  go_wp2_with fail
                  go_roundw
                  case rel => exact ⟨k + 1, bb, by omega, rfl, by go_num, hid (MetQ.end_ (by rw [Hq2.out]; exact HQ.out) HX.out), H⟩
                  case measure => simp [intOf]; omega
            · obtain rfl : q1 = k := by omega
              have hd : decide ((q1 : Int) < (q1 : Int)) = false := by simp
              obtain rfl : bb = true := by
                have h := HP.out
                rw [HAB.out, HBE.out] at h
                exact h.out (by rw [← HAB.out, Hq1.out]; exact Nat.le_refl _) HME.out
              go_wp2_with fail
              refine (known18 _).mono ?_
              rintro e wz ⟨rfl, bz⟩
              have Kz := H.call bz
              go_wp2_with fail
              go_ret
              exact ⟨rfl, Kz.below⟩
end Go.Proofs.YtkjnoekclfdjiaaDoor

namespace Go.Proofs.YtkjnoekclfdjiaaDoor
open Go.ChangeShapes Go.WideShapes Go.ChangeAt Go.RowKit
set_option linter.unusedVariables false
set_option linter.unusedSimpArgs false

namespace LawOrderLeast
set_option maxRecDepth 100000 in
theorem contract (H : Type) (enc : TypeId × Value → H) (W : World) (base : Nat) (args : Array Value) (ds gs : List (DataW H)) (before : List MemPlace)
    (hval0 : ∀ (j : Nat) t v, Tryd.f4.params[j]? = some t → args[j]? = some v → Value.okWide Tryd.prog W .any base t v)
    (hsz0 : (DataW.weightsEach Tryd.prog (Tryd.f4.params.toList ++ Rows.orderLeastSpec.plain.varTypes Tryd.prog) (ds ++ gs)).all (· ≤ reachBytes) = true)
    (hW : DataW.Whole enc Tryd.prog Tryd.f4.params.toList Rows.orderLeastSpec.vars false W args.toList ds gs before) (hL : laidMetH Tryd.prog Rows.orderLeastRow.laid W) (hsh : W.ShapedOpen Tryd.prog) :
    Calls Tryd.prog 4 args W fun e W' => ∃ v, e = .returned v ∧ Rows.orderLeastSpec.post enc Tryd.prog Tryd.f4 false true false false W args v W' := by
  have hsz : (DataW.weightsEach Tryd.prog (Tryd.f4.params.toList ++ Rows.orderLeastSpec.plain.varTypes Tryd.prog) (ds ++ gs)).all (· ≤ reachBytes) = true := hsz0
  have hval : ∀ (j : Nat) t v, Tryd.f4.params[j]? = some t → args[j]? = some v → Value.okWide Tryd.prog W .any base t v := hval0
  have hW' := hW
  obtain ⟨p, q, hA0, hV, rfl, hfz, hnd⟩ := hW
  have hA : DataW.TrodAll enc Tryd.prog W 0 (fun _ => true) true Tryd.f4.params.toList args.toList ds p := hA0
  rw [Tryd.params4] at hA hval hsz
  obtain ⟨v0, vs0, d0, ds0, p0, q0, hargs, rfl, rfl, h0, r0⟩ := trodAll_cons hA
  obtain ⟨rfl, rfl, rfl⟩ := trodAll_nil r0
  obtain rfl : args = #[v0] := by cases args; simp_all
  obtain ⟨rfl, rfl⟩ := trodVars_none hV
  obtain ⟨A0, n0, c0, zs0, rfl, k0, z0, l0, m0, e0⟩ := open_i64s Tryd.underlying22 Tryd.underlying3 (by kernel_rfl) (hval 0 22 v0 rfl rfl) h0
  refine (orderLeast_walk A0 n0 c0 zs0 W k0 z0 l0 (by unfold maxLen at m0; omega) (lts_of_laid (rest := []) hL)).mono fun e W' ⟨he, hb⟩ => ?_
  exact ⟨_, he, law_post rfl laidOut (by kernel_rfl) (by kernel_rfl) Tryd.underlying4 rfl hW' hb⟩

theorem laid_met (os : Os) : laidMet Tryd.prog Rows.orderLeastRow.laid ((letsWorld os).forCall (fun _ _ => 0) ⟨#[], #[.slice none 0 0], []⟩).memory :=
  laidMet_of_run' 16 (by kernel_rfl) (by kernel_rfl)
theorem reads (os : Os) {H : Type} (enc : TypeId × Value → H) : ∃ places, DataW.whole enc Tryd.prog ((letsWorld os).forCall (fun _ _ => 0) ⟨#[], #[.slice none 0 0], []⟩).memory Tryd.f4.params.toList Rows.orderLeastSpec.vars false #[.slice none 0 0].toList 8 = some ([.nil], [], places) :=
  ⟨[], by kernel_rfl⟩

set_option maxRecDepth 100000 in
theorem lifted (os : Os) (started : os.Started) (H : Type) (enc : TypeId × Value → H) (F : Stop.Interp) :
    ReturnsInHanded {} Tryd.checked os 4 .any ((OpenSpec.ofChange Rows.orderLeastSpec).preRow enc Tryd.prog Tryd.f4 Rows.orderLeastRow.domain false Rows.orderLeastRow.laid) (((OpenSpec.ofChange Rows.orderLeastSpec).at F).post enc Tryd.prog Tryd.f4 false true false false) := by
  obtain ⟨places, hx⟩ := reads os enc
  refine returnsInHanded_of_row (C := Tryd.checked) (s := OpenSpec.ofChange Rows.orderLeastSpec) own started (by kernel_rfl) Tryd.func4
    (witness_row_at (enc := enc) (C := Tryd.checked) false (letsWorld os) #[.slice none 0 0] rfl (by kernel_rfl) (by kernel_rfl) (by kernel_rfl)
      (OpenSpec.preRow_of_cond 8 hx (by kernel_rfl) (fun k hk => by cases hk) (by kernel_rfl) (laid_met os))) ?_
  intro W base args ds gs before hval hW _ _ hsz0 hL hsh _
  exact contract H enc W base args ds gs before hval hsz0 hW hL hsh

theorem said : Rows.OrderLeastSaid :=
  OpenClaim.holds_of_cond 4 Tryd.f4 rfl rfl rfl rfl rfl rfl rfl ⟨rfl, rfl, rfl, rfl, rfl⟩ rfl rfl rfl rfl rfl (by kernel_rfl) Tryd.func4 (by kernel_rfl)
    (of_decide_eq_true (by kernel_rfl)) (by unfold Func.isWrapper; first | (rw [if_pos (by decide +kernel)]; kernel_rfl) | (rw [if_neg (by decide +kernel)]; exact ⟨rfl, rfl⟩))
    (fun os started H enc _ F => by rw [OpenClaim.pre_eq_preRow]; exact lifted os started H enc F)

theorem plain (f : FuncId) (fn : Func) (hf : Tryd.pinned.checked.prog.funcNamed "triggerstore/triggerstorelaw18.OrderLeast" = some f) (hfn : Tryd.pinned.checked.prog.funcs[f]? = some fn) :
    false = Tryd.pinned.checked.prog.looks [] ∧ ∀ (j : Nat) t, fn.params[j]? = some t → Tryd.pinned.checked.prog.wantsStandIn t = false := by
  obtain rfl : f = 4 := Option.some.inj ((show Tryd.prog.funcNamed "triggerstore/triggerstorelaw18.OrderLeast" = some 4 by kernel_rfl).symm.trans hf) |>.symm
  obtain rfl : fn = Tryd.f4 := (Option.some.inj (Tryd.func4.symm.trans hfn)).symm
  refine ⟨by kernel_rfl, fun j t ht => ?_⟩
  rw [Tryd.params4] at ht
  have hm := Array.mem_of_getElem? ht
  simp only [List.mem_toArray, List.mem_cons, List.not_mem_nil, or_false] at hm
  subst hm
  · exact (show Tryd.prog.wantsStandIn 22 = false by kernel_rfl)
end LawOrderLeast

theorem orderLeast_holds : Rows.OrderLeastCardSaid :=
  Claim7.holds_tied_plain_at .later [] _ _ _ _ LawOrderLeast.said (fun _ h => by cases h) (by kernel_rfl) (fun _ h => by cases h) orderLeast_row_tie rfl ⟨rfl, rfl⟩ (by kernel_rfl) rfl LawOrderLeast.plain (by kernel_rfl)
#print axioms orderLeast_holds
end Go.Proofs.YtkjnoekclfdjiaaDoor

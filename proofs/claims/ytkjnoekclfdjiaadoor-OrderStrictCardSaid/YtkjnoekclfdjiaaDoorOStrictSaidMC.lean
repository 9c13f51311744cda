/- OrderStrict answers true for every tape: a valid order is strict and transitive, adding keeps it and its links, removing a name leaves the others. Condition: the row's own, the laid table of letters; the tied card. -/
import Derived.Test.YtkjnoekclfdjiaaDoorOStrictSaidMB
import Derived.Test.YtkjnoekclfdjiaaDoorCards
import Derived.Test.YtkjnoekclfdjiaaDoorTie
import Derived.Test.YtkjnoekclfdjiaaDoorOStrictSaidMA
namespace Go.Proofs.YtkjnoekclfdjiaaDoor
open Go.RowKit
set_option linter.unusedVariables false
set_option linter.unusedSimpArgs false

def OASlot (M : Nat → Prop) (l : List Lk) (u : Value) (w : World) : Prop :=
  ∃ (ec : Int) (r : List Lk) (A : Option Addr) (n c : Nat) (nm : ByteArray) (ps fs : List ByteArray), u = .tuple #[.slice A n c, .int .i64 ec] ∧ OKind l nm ps fs ec r ∧ nm ∈ lets5 ∧ (∀ s ∈ ps, s ∈ lets5) ∧ (∀ s ∈ fs, s ∈ lets5) ∧ n ≤ c ∧ c ≤ 9223372036854775807 ∧ Ro w M (LksIn A n r)
theorem oaSlot_mono {M : Nat → Prop} {l : List Lk} (u : Value) (w w' : World) (hr : RM M w w') (h : OASlot M l u w) : OASlot M l u w' := by
  obtain ⟨ec, r, A, n, c, nm, ps, fs, h1, h2, h3, h4, h5, h6, h7, h8⟩ := h
  exact ⟨ec, r, A, n, c, nm, ps, fs, h1, h2, h3, h4, h5, h6, h7, hr.ro h8⟩
theorem allO_names {l : List Lk} {nm : ByteArray} {ps fs : List ByteArray} (h : NamesIn lets5 l) (h1 : nm ∈ lets5) (h2 : ∀ s ∈ ps, s ∈ lets5) (h3 : ∀ s ∈ fs, s ∈ lets5) : NamesIn lets5 (allO l nm ps fs) := fun z hz => by
  unfold allO at hz
  rcases List.mem_append.1 hz with hz | hz
  · rcases List.mem_append.1 hz with hz | hz
    · exact h z hz
    · obtain ⟨s, hs, rfl⟩ := List.mem_map.1 hz; exact ⟨h1, h2 s hs⟩
  · obtain ⟨s, hs, rfl⟩ := List.mem_map.1 hz; exact ⟨h3 s hs, h1⟩
theorem allO_sub {l : List Lk} {nm : ByteArray} {ps fs : List ByteArray} : ∀ z ∈ l, z ∈ allO l nm ps fs := fun z hz => by
  unfold allO; simp [hz]
theorem idx5 {k : Nat} (hk : k < 5) : ∀ w : World, (Instr.index 30 (.agg #[.string (let5 0), .string (let5 1), .string (let5 2), .string (let5 3), .string (let5 4)]) (.int .i64 k)).run Tryd.prog w = .ok (.string (let5 k)) w := by
  intro w
  obtain rfl | rfl | rfl | rfl | rfl : k = 0 ∨ k = 1 ∨ k = 2 ∨ k = 3 ∨ k = 4 := by omega
  all_goals kernel_rfl
set_option maxHeartbeats 16000000 in
set_option maxRecDepth 100000 in
theorem orderStrict_walk (C : Option Addr) (q qc : Nat) (ts : List Int) (w : World)
    (hr : Rd w w.heap.size 1 C q (ts.map (Value.int .i64))) (hz : Ints ts) (hq : q ≤ qc) (hqc : qc ≤ 9223372036854775807) (hw : Lts w) :
    Calls Tryd.prog 3 #[.slice C q qc] w fun e w' => e = .returned (.bool true) ∧ Below w.heap.size w w' := by
  have hwl := hw.lt
  obtain ⟨oc, hoc⟩ : ∃ a, a = oC := ⟨_, rfl⟩
  have HOC := hid hoc
  have e99 : (⟨#[99]⟩ : ByteArray) = oc := hoc.symm
  clear hoc
  have K0 := Hold.begin_ w
  go_enter Tryd.func3, Tryd.ntmps3
  go_wp2_with fail
  refine (new_any C q qc ts _ hr hz hq hqc).mono ?_
  rintro e w1 ⟨T, rfl, hT, t1, b1⟩
  have K1 := Hold.newTape K0 b1 t1 hT (by simp [Mut, None_, Hp.foot])
  have wd0 : Lts w1 := hw.below b1 hwl
  have K2 := K1.add (wd0.ro (show ¬ Mut None_ _ 0 from fun h => by simp [Mut, None_, Hp.foot] at h; omega))
  clear K1 K0 wd0 t1 b1 hr hT hw hwl
  go_wp2_with fail
  refine (omade_any (Mut None_ _) T _ K2.mutLt (K2.tp_ 1 rfl) (K2.get 1 rfl).2 ((K2.ro 0 rfl).less (mut_tpO (i := 1) rfl))).mono ?_
  rintro e w2 ⟨B2, m2, d2, l2, rfl, hm2, hd2, hd22, hv2, hn2, r2, t2, g2⟩
  have K3 := (Hold.callT K2 1 rfl g2 t2).add r2
  have HV := hid (And.intro hv2 hn2)
  have HL2 := hid r2.now.len
  clear K2 t2 g2 r2 hv2 hn2
  go_wp2_with fail
  refine wp_region_any (by kernel_rfl) ?_
  refine wpAny_holdC 10 114 ([.ro (LksIn B2 m2 l2), .ro Lts, .tp T]) (spL [(21, fun u _ => NatB 5 u), (25, SomeSlot (Mut None_ [.ro (LksIn B2 m2 l2), .ro Lts, .tp T])), (27, SomeSlot (Mut None_ [.ro (LksIn B2 m2 l2), .ro Lts, .tp T])), (28, OASlot (Mut None_ [.ro (LksIn B2 m2 l2), .ro Lts, .tp T]) l2)]) (by kernel_rfl) (by kernel_rfl) (by kernel_rfl) rfl ?_ (K3.drew) ?_
  · exact stays_cons (fun _ _ _ _ h => h) (stays_cons someSlot_mono (stays_cons someSlot_mono (stays_cons oaSlot_mono (stays_nil _))))
  simp only [List.take_succ_cons, List.take_zero, List.drop_succ_cons, List.drop_zero, Act.put, List.getElem_toArray, List.getElem_cons_zero, List.getElem_cons_succ, List.setIfInBounds_toArray, List.set_cons_succ, List.set_cons_zero]
  repeat (first | (refine dw_skip rfl rfl rfl ?_; simp only [Act.put, List.setIfInBounds_toArray, List.set_cons_succ, List.set_cons_zero]) | (refine dw_val rfl rfl rfl ?_; apply Exists.intro; refine ⟨fun wv HC => ?_, ?_⟩; (focus ( go_simp <;> rfl; done)); simp only [Act.put, List.setIfInBounds_toArray, List.set_cons_succ, List.set_cons_zero]))
  refine dw_next 5 2 rfl 21 rfl rfl rfl rfl (fun wv => ?_) ?_
  · go_simp <;> rfl
  rintro r hr
  simp only [Act.put, List.setIfInBounds_toArray, List.set_cons_succ, List.set_cons_zero]
  have r4 : (r : Int) < 5 := by omega
  have r0 : (0 : Int) ≤ (r : Int) := by omega
  repeat (first | (refine dw_skip rfl rfl rfl ?_; simp only [Act.put, List.setIfInBounds_toArray, List.set_cons_succ, List.set_cons_zero]) | (refine dw_val rfl rfl rfl ?_; apply Exists.intro; refine ⟨fun wv HC => ?_, ?_⟩; (focus (have hc := (HC.ro 1 rfl).now r hr; go_simp <;> rfl; done)); simp only [Act.put, List.setIfInBounds_toArray, List.set_cons_succ, List.set_cons_zero]))
  refine dw_callR 25 (SomeSlot (Mut None_ [.ro (LksIn B2 m2 l2), .ro Lts, .tp T])) (f := 10) (args := #[.pointer (some ⟨T, 0, none⟩)]) rfl rfl rfl rfl (fun wv => ?_) (fun wv HC hrm hD => ?_) ?_
  · go_simp <;> rfl
  · refine (some_any (Mut None_ _) T wv HC.mutLt (HC.tp_ 2 rfl) (HC.get 2 rfl).2 ((HC.ro 1 rfl).less (mut_tpO (i := 2) rfl))).mono ?_
    rintro e w5 ⟨A5, n5, c5, ss5, rfl, h1, h2, h3, t5, g5⟩
    exact ⟨_, rfl, ⟨A5, n5, c5, ss5, rfl, h1, h2, h3⟩, Hold.callT HC 2 rfl g5 t5, RM.grown g5 (.inr ⟨_, List.mem_of_getElem? (i := 2) rfl, rfl⟩)⟩
  rintro u_ wx HCx ⟨A5, n5, c5, ss5, rfl, -, -, -⟩
  clear HCx
  simp only [Act.put, List.setIfInBounds_toArray, List.set_cons_succ, List.set_cons_zero]
  repeat (first | (refine dw_skip rfl rfl rfl ?_; simp only [Act.put, List.setIfInBounds_toArray, List.set_cons_succ, List.set_cons_zero]) | (refine dw_val rfl rfl rfl ?_; apply Exists.intro; refine ⟨fun wv HC => ?_, ?_⟩; (focus ( go_simp <;> rfl; done)); simp only [Act.put, List.setIfInBounds_toArray, List.set_cons_succ, List.set_cons_zero]))
  refine dw_callR 27 (SomeSlot (Mut None_ [.ro (LksIn B2 m2 l2), .ro Lts, .tp T])) (f := 10) (args := #[.pointer (some ⟨T, 0, none⟩)]) rfl rfl rfl rfl (fun wv => ?_) (fun wv HC hrm hD => ?_) ?_
  · go_simp <;> rfl
  · refine (some_any (Mut None_ _) T wv HC.mutLt (HC.tp_ 2 rfl) (HC.get 2 rfl).2 ((HC.ro 1 rfl).less (mut_tpO (i := 2) rfl))).mono ?_
    rintro e w5 ⟨A5, n5, c5, ss5, rfl, h1, h2, h3, t5, g5⟩
    exact ⟨_, rfl, ⟨A5, n5, c5, ss5, rfl, h1, h2, h3⟩, Hold.callT HC 2 rfl g5 t5, RM.grown g5 (.inr ⟨_, List.mem_of_getElem? (i := 2) rfl, rfl⟩)⟩
  rintro u_ wx HCx ⟨A6, n6, c6, ss6, rfl, -, -, -⟩
  clear HCx
  simp only [Act.put, List.setIfInBounds_toArray, List.set_cons_succ, List.set_cons_zero]
  refine dw_callR 28 (OASlot (Mut None_ [.ro (LksIn B2 m2 l2), .ro Lts, .tp T]) l2) (f := 8) (args := #[.slice B2 m2 d2, .string (let5 r), .slice A5 n5 c5, .slice A6 n6 c6]) rfl rfl rfl rfl (fun wv => ?_) (fun wv HC hrm hD => ?_) ?_
  · go_simp <;> rfl
  · have hs1 : SomeSlot _ (.slice A5 n5 c5) wv := deps_at hD 6 rfl (by kernel_rfl) rfl rfl
    have hs2 : SomeSlot _ (.slice A6 n6 c6) wv := deps_at hD 8 rfl (by kernel_rfl) rfl rfl
    obtain ⟨A7, n7, c7, s7, e7, a7, b7, r7⟩ := hs1
    obtain ⟨A8, n8, c8, s8, e8, a8, b8, r8⟩ := hs2
    injection e7 with q1 q2 q3
    injection e8 with p1 p2 p3
    subst q1 q2 q3 p1 p2 p3
    refine (oadd_any _ wv HC.mutLt B2 m2 d2 l2 (let5 r) A5 n5 c5 s7 A6 n6 c6 s8 (HC.ro 0 rfl) r7 r8 (by omega) (by omega) (by omega) (names5_ok HV.out.2) (lets5_small _ (let5_mem hr)) (fun s hs => lets5_small _ (b7 s hs)) (fun s hs => lets5_small _ (b8 s hs))).mono ?_
    intro e w' h
    obtain ⟨ec, rr, B, m, d, rfl, hk, hmd, hd, hro, b1⟩ := oadd_kind h
    exact ⟨_, rfl, ⟨ec, rr, B, m, d, let5 r, s7, s8, rfl, hk, let5_mem hr, b7, b8, hmd, hd, hro⟩, HC.call b1, RM.below b1⟩
  rintro u wu HCu _
  simp only [Act.put, List.setIfInBounds_toArray, List.set_cons_succ, List.set_cons_zero]
  refine rel_nil ?_
  rintro wx HX _hrm HG
  simp only [List.length_cons, List.length_nil, Nat.reduceAdd, Nat.reduceSub]
  have hu : OASlot (Mut None_ [.ro (LksIn B2 m2 l2), .ro Lts, .tp T]) l2 u wx := (GW_on (d := 28) rfl).1 (HG 9 _ rfl (by omega))
  clear HG HCu
  obtain ⟨ec, r5, A5, n5, c5, nm, ps, fs, rfl, hk, hnm, hps, hfs, h55, h56, ro5⟩ := hu
  have HK := hid (And.intro hk (And.intro hnm (And.intro hps hfs)))
  have K4 := HX.add ro5
  clear hk hnm hps hfs HX ro5 _hrm
  refine wpAny_take (i := 10) (v := .tuple #[.slice A5 n5 c5, .int .i64 ec]) rfl (by kernel_rfl) (by kernel_rfl) (by kernel_rfl) (fun _ _ _ h => h) (Or.inl ⟨by rfl, fun w => ?_⟩) ?_
  · go_simp
  simp only [Act.put, List.getElem_toArray, List.getElem_cons_zero, List.getElem_cons_succ, List.setIfInBounds_toArray, List.set_cons_succ, List.set_cons_zero]
  refine wpAny_take (i := 11) (v := .slice A5 n5 c5) rfl (by kernel_rfl) (by kernel_rfl) (by kernel_rfl) (fun _ _ _ h => h) (Or.inl ⟨by rfl, fun w => ?_⟩) ?_
  · go_simp
  simp only [Act.put, List.getElem_toArray, List.getElem_cons_zero, List.getElem_cons_succ, List.setIfInBounds_toArray, List.set_cons_succ, List.set_cons_zero]
  refine wpAny_take (i := 13) (v := .slice A5 n5 c5) rfl (by kernel_rfl) (by kernel_rfl) (by kernel_rfl) (fun _ _ _ h => h) (Or.inl ⟨by rfl, fun w => ?_⟩) ?_
  · go_simp
  simp only [Act.put, List.getElem_toArray, List.getElem_cons_zero, List.getElem_cons_succ, List.setIfInBounds_toArray, List.set_cons_succ, List.set_cons_zero]
  refine wpAny_take (i := 12) (v := .int .i64 ec) rfl (by kernel_rfl) (by kernel_rfl) (by kernel_rfl) (fun _ _ _ h => h) (Or.inl ⟨by rfl, fun w => ?_⟩) ?_
  · go_simp
  simp only [Act.put, List.getElem_toArray, List.getElem_cons_zero, List.getElem_cons_succ, List.setIfInBounds_toArray, List.set_cons_succ, List.set_cons_zero]
  refine wpAny_take (i := 14) (v := .int .i64 ec) rfl (by kernel_rfl) (by kernel_rfl) (by kernel_rfl) (fun _ _ _ h => h) (Or.inl ⟨by rfl, fun w => ?_⟩) ?_
  · go_simp
  simp only [Act.put, List.getElem_toArray, List.getElem_cons_zero, List.getElem_cons_succ, List.setIfInBounds_toArray, List.set_cons_succ, List.set_cons_zero]
  refine wpAny_done (by kernel_rfl) ?_ _
  by_cases h0 : ec = 0
  · have hne : (ec != 0) = false := by simp [h0]
    have HM := hid (show validLk r5 = true ∧ NamesIn lets5 r5 ∧ ∀ z ∈ l2, z ∈ r5 by
      obtain ⟨v1, v2⟩ := okind_valid HK.out.1 h0
      exact ⟨v1, clos_names v2 (allO_names HV.out.2 HK.out.2.1 HK.out.2.2.1 HK.out.2.2.2), fun z hz => clos_sub v2 z (allO_sub z hz)⟩)
    clear h0
    have HN5 := hid (K4.ro 0 rfl).now.len
    have hn5 : n5 ≤ 25 := by
      rw [← (K4.ro 0 rfl).now.len]
      exact HM.out.2.1.len (valid_sorted HM.out.1)
    have hc0 := (K4.ro 2 rfl).now 0 (by omega)
    have hc1 := (K4.ro 2 rfl).now 1 (by omega)
    have hc2 := (K4.ro 2 rfl).now 2 (by omega)
    have hc3 := (K4.ro 2 rfl).now 3 (by omega)
    have hc4 := (K4.ro 2 rfl).now 4 (by omega)
    have hgl := (K4.ro 2 rfl).now.lt
    go_wp2_with fail
    clear hc0 hc1 hc2 hc3 hc4 hgl
    go_loopw [35] (fun iv wr => ∃ (k : Nat), k ≤ 5 ∧ iv = .int .i64 k ∧ Hold None_ none w wr [.ro (LksIn A5 n5 r5), .ro (LksIn B2 m2 l2), .ro Lts, .tp T]) (fun iv _ => 5 - (intOf iv).toNat)
    case atStart => exact ⟨0, by omega, rfl, K4⟩
    case round =>
      clear K4
      obtain ⟨k, hk, rfl, H⟩ := hrel
      by_cases hlt : k < 5
      · have hd : decide ((k : Int) < 5) = true := by simp; omega
        have k0 : (0 : Int) ≤ (k : Int) := by omega
        have k1 : (k : Int) < 5 := by omega
        have hix := idx5 hlt
        have hc0 := (H.ro 2 rfl).now 0 (by omega)
        have hc1 := (H.ro 2 rfl).now 1 (by omega)
        have hc2 := (H.ro 2 rfl).now 2 (by omega)
        have hc3 := (H.ro 2 rfl).now 3 (by omega)
        have hc4 := (H.ro 2 rfl).now 4 (by omega)
        have hgl := (H.ro 2 rfl).now.lt
        go_wp2_with fail
        clear hc0 hc1 hc2 hc3 hc4 hgl
        go_loopw [39] (fun iv wr => ∃ (i : Nat), i ≤ 5 ∧ iv = .int .i64 i ∧ Hold None_ none w wr [.ro (LksIn A5 n5 r5), .ro (LksIn B2 m2 l2), .ro Lts, .tp T]) (fun iv _ => 5 - (intOf iv).toNat)
        case atStart => exact ⟨0, by omega, rfl, H⟩
        case round =>
          clear H
          obtain ⟨i, hi, rfl, H⟩ := hrel
          by_cases hlt2 : i < 5
          · have hd : decide ((i : Int) < 5) = true := by simp; omega
            have k0 : (0 : Int) ≤ (i : Int) := by omega
            have k1 : (i : Int) < 5 := by omega
            have hix := idx5 hlt2
            cases hab : precB r5 (let5 k) (let5 i)
            · have HLAB := hid (show precB l2 (let5 k) (let5 i) = false by
                cases hl : precB l2 (let5 k) (let5 i)
                · rfl
                · rw [prec_sub HM.out.2.2 hl] at hab; cases hab)
              have HAB := hid hab
              clear hab
              go_wp2_with fail
              clear hix
              refine (prec_any _ _ H.mutLt A5 n5 c5 r5 (let5 k) (let5 i) (H.ro 0 rfl) (by omega)).mono ?_
              rintro e w1 ⟨rfl, b1⟩
              have H1 := H.call b1
              clear b1 H
              rw [HAB.out]
              go_wp2_with fail
              refine (prec_any _ _ H1.mutLt B2 m2 d2 l2 (let5 k) (let5 i) (H1.ro 1 rfl) (by omega)).mono ?_
              rintro e w2 ⟨rfl, b2⟩
              have H2 := H1.call b2
              clear b2 H1
              rw [HLAB.out]
              clear hd HAB HLAB
              have hc0 := (H2.ro 2 rfl).now 0 (by omega)
              have hc1 := (H2.ro 2 rfl).now 1 (by omega)
              have hc2 := (H2.ro 2 rfl).now 2 (by omega)
              have hc3 := (H2.ro 2 rfl).now 3 (by omega)
              have hc4 := (H2.ro 2 rfl).now 4 (by omega)
              have hgl := (H2.ro 2 rfl).now.lt
              go_wp2_with fail
              clear hc0 hc1 hc2 hc3 hc4 hgl
              go_loopw [66] (fun iv wr => ∃ (j : Nat), j ≤ 5 ∧ iv = .int .i64 j ∧ Hold None_ none w wr [.ro (LksIn A5 n5 r5), .ro (LksIn B2 m2 l2), .ro Lts, .tp T]) (fun iv _ => 5 - (intOf iv).toNat)
              case atStart => exact ⟨0, by omega, rfl, H2⟩
              case round =>
                clear H2
                obtain ⟨j, hj, rfl, H⟩ := hrel
                by_cases hlt3 : j < 5
                · have hd : decide ((j : Int) < 5) = true := by simp; omega
                  have k0 : (0 : Int) ≤ (j : Int) := by omega
                  have k1 : (j : Int) < 5 := by omega
                  have hix := idx5 hlt3
                  cases hab : precB r5 (let5 k) (let5 i)
                  · have HAB := hid hab
                    clear hab
                    go_wp2_with fail
                    clear hix
                    refine (prec_any _ _ H.mutLt A5 n5 c5 r5 (let5 k) (let5 i) (H.ro 0 rfl) (by omega)).mono ?_
                    rintro e w1 ⟨rfl, b1⟩
                    have H1 := H.call b1
                    clear b1 H
                    rw [HAB.out]
                    go_wp2_with fail
                    go_roundw
                    case rel => exact ⟨j + 1, by omega, by go_num, H1⟩
                    case measure => simp [intOf]; omega
                  · have HAB := hid hab
                    clear hab
                    cases hbc : precB r5 (let5 i) (let5 j)
                    · have HBC := hid hbc
                      clear hbc
                      go_wp2_with fail
                      clear hix
                      refine (prec_any _ _ H.mutLt A5 n5 c5 r5 (let5 k) (let5 i) (H.ro 0 rfl) (by omega)).mono ?_
                      rintro e w1 ⟨rfl, b1⟩
                      have H1 := H.call b1
                      clear b1 H
                      rw [HAB.out]
                      go_wp2_with fail
                      refine (prec_any _ _ H1.mutLt A5 n5 c5 r5 (let5 i) (let5 j) (H1.ro 0 rfl) (by omega)).mono ?_
                      rintro e w2 ⟨rfl, b2⟩
                      have H2 := H1.call b2
                      clear b2 H1
                      rw [HBC.out]
                      go_wp2_with fail
                      go_roundw
                      case rel => exact ⟨j + 1, by omega, by go_num, H2⟩
                      case measure => simp [intOf]; omega
                    · have HAC := hid (prec_trans HM.out.1 HAB.out hbc)
                      have HBC := hid hbc
                      clear hbc
                      go_wp2_with fail
                      clear hix
                      refine (prec_any _ _ H.mutLt A5 n5 c5 r5 (let5 k) (let5 i) (H.ro 0 rfl) (by omega)).mono ?_
                      rintro e w1 ⟨rfl, b1⟩
                      have H1 := H.call b1
                      clear b1 H
                      rw [HAB.out]
                      go_wp2_with fail
                      refine (prec_any _ _ H1.mutLt A5 n5 c5 r5 (let5 i) (let5 j) (H1.ro 0 rfl) (by omega)).mono ?_
                      rintro e w2 ⟨rfl, b2⟩
                      have H2 := H1.call b2
                      clear b2 H1
                      rw [HBC.out]
                      go_wp2_with fail
                      refine (prec_any _ _ H2.mutLt A5 n5 c5 r5 (let5 k) (let5 j) (H2.ro 0 rfl) (by omega)).mono ?_
                      rintro e w3 ⟨rfl, b3⟩
                      have H3 := H2.call b3
                      clear b3 H2
                      rw [HAC.out]
                      go_wp2_with fail
                      go_roundw
                      case rel => exact ⟨j + 1, by omega, by go_num, H3⟩
                      case measure => simp [intOf]; omega
                · obtain rfl : j = 5 := by omega
                  have hd : decide (((5 : Nat) : Int) < 5) = false := by decide
                  go_wp2_with fail
                  refine (oremove_any _ _ H.mutLt A5 n5 c5 r5 oc (H.ro 0 rfl) (by omega)).mono ?_
                  rintro e w8 ⟨D, m8, d8, rfl, h81, h82, h83, r8, b8⟩
                  have K8 := (H.call b8).add r8
                  have hm8 : m8 ≤ 1000000 := by
                    have h1 : (remL r5 oc).length ≤ r5.length := List.length_filter_le _ _
                    have := HN5.out
                    omega
                  clear H b8 r8 h81 hd
                  go_wp2_with fail
                  refine (prec_any _ _ K8.mutLt D m8 d8 (remL r5 oc) (let5 k) (let5 i) (K8.ro 0 rfl) (by omega)).mono ?_
                  rintro e w9 ⟨rfl, b9⟩
                  have K9 := K8.call b9
                  clear b9 K8
                  rw [prec_rem]
                  go_wp2_with fail
                  refine (prec_any _ _ K9.mutLt A5 n5 c5 r5 (let5 k) (let5 i) (K9.ro 1 rfl) (by omega)).mono ?_
                  rintro e wa ⟨rfl, ba⟩
                  have Ka := K9.call ba
                  clear ba K9
                  have HVR := hid (rem_valid HM.out.1 oc)
                  have HOR : Hid (∀ x ∈ remL r5 oc, x.ok) := hid fun x hx => names5_ok HM.out.2.1 x (remL_mem.1 hx).1
                  generalize precB r5 (let5 k) (let5 i) = pab
                  cases pab
                  · have hpr : (false && ((let5 k).toList != oc.toList) && ((let5 i).toList != oc.toList)) = false := by simp
                    rw [hpr]
                    clear hpr
                    go_wp2_with fail
                    refine (ovalid_any _ _ Ka.mutLt D m8 d8 (remL r5 oc) (Ka.ro 0 rfl) hm8 HOR.out).mono ?_
                    rintro e wb ⟨rfl, bb⟩
                    have Kb := Ka.call bb
                    clear bb Ka
                    rw [HVR.out]
                    go_wp2_with fail
                    go_roundw
                    case rel => exact ⟨i + 1, by omega, by go_num, Kb.drop (List.sublist_cons_self _ _)⟩
                    case measure => simp [intOf]; omega
                  · by_cases hu : (let5 k).toList = oc.toList
                    · have hu2 : ((let5 k).toList != oc.toList) = false := by simp [hu]
                      have hu3 : ((let5 k).toList == oc.toList) = true := by simp [hu]
                      have hpr : (true && ((let5 k).toList != oc.toList) && ((let5 i).toList != oc.toList)) = false := by rw [hu2]; rfl
                      rw [hpr]
                      clear hpr
                      go_wp2_with fail
                      refine (ovalid_any _ _ Ka.mutLt D m8 d8 (remL r5 oc) (Ka.ro 0 rfl) hm8 HOR.out).mono ?_
                      rintro e wb ⟨rfl, bb⟩
                      have Kb := Ka.call bb
                      clear bb Ka
                      rw [HVR.out]
                      go_wp2_with fail
                      go_roundw
                      case rel => exact ⟨i + 1, by omega, by go_num, Kb.drop (List.sublist_cons_self _ _)⟩
                      case measure => simp [intOf]; omega
                    · have hu2 : ((let5 k).toList != oc.toList) = true := by simp [hu]
                      have hu3 : ((let5 k).toList == oc.toList) = false := by simp [hu]
                      by_cases hv : (let5 i).toList = oc.toList
                      · have hv2 : ((let5 i).toList != oc.toList) = false := by simp [hv]
                        have hv3 : ((let5 i).toList == oc.toList) = true := by simp [hv]
                        have hpr : (true && ((let5 k).toList != oc.toList) && ((let5 i).toList != oc.toList)) = false := by rw [hu2, hv2]; rfl
                        rw [hpr]
                        clear hpr
                        go_wp2_with fail
                        refine (ovalid_any _ _ Ka.mutLt D m8 d8 (remL r5 oc) (Ka.ro 0 rfl) hm8 HOR.out).mono ?_
                        rintro e wb ⟨rfl, bb⟩
                        have Kb := Ka.call bb
                        clear bb Ka
                        rw [HVR.out]
                        go_wp2_with fail
                        go_roundw
                        case rel => exact ⟨i + 1, by omega, by go_num, Kb.drop (List.sublist_cons_self _ _)⟩
                        case measure => simp [intOf]; omega
                      · have hv2 : ((let5 i).toList != oc.toList) = true := by simp [hv]
                        have hv3 : ((let5 i).toList == oc.toList) = false := by simp [hv]
                        have hpr : (true && ((let5 k).toList != oc.toList) && ((let5 i).toList != oc.toList)) = true := by rw [hu2, hv2]; rfl
                        rw [hpr]
                        clear hpr
                        go_wp2_with fail
                        refine (ovalid_any _ _ Ka.mutLt D m8 d8 (remL r5 oc) (Ka.ro 0 rfl) hm8 HOR.out).mono ?_
                        rintro e wb ⟨rfl, bb⟩
                        have Kb := Ka.call bb
                        clear bb Ka
                        rw [HVR.out]
                        go_wp2_with fail
                        go_roundw
                        case rel => exact ⟨i + 1, by omega, by go_num, Kb.drop (List.sublist_cons_self _ _)⟩
                        case measure => simp [intOf]; omega
            · have HBA := hid (prec_strict HM.out.1 hab)
              have HAB := hid hab
              clear hab
              cases hl : precB l2 (let5 k) (let5 i)
              · have HLAB := hid hl
                clear hl
                go_wp2_with fail
                clear hix
                refine (prec_any _ _ H.mutLt A5 n5 c5 r5 (let5 k) (let5 i) (H.ro 0 rfl) (by omega)).mono ?_
                rintro e w1 ⟨rfl, b1⟩
                have H1 := H.call b1
                clear b1 H
                rw [HAB.out]
                go_wp2_with fail
                refine (prec_any _ _ H1.mutLt A5 n5 c5 r5 (let5 i) (let5 k) (H1.ro 0 rfl) (by omega)).mono ?_
                rintro e w2 ⟨rfl, b2⟩
                have H2 := H1.call b2
                clear b2 H1
                rw [HBA.out]
                go_wp2_with fail
                refine (prec_any _ _ H2.mutLt B2 m2 d2 l2 (let5 k) (let5 i) (H2.ro 1 rfl) (by omega)).mono ?_
                rintro e w3 ⟨rfl, b3⟩
                have H3 := H2.call b3
                clear b3 H2
                rw [HLAB.out]
                clear hd HAB HLAB HBA
                have hc0 := (H3.ro 2 rfl).now 0 (by omega)
                have hc1 := (H3.ro 2 rfl).now 1 (by omega)
                have hc2 := (H3.ro 2 rfl).now 2 (by omega)
                have hc3 := (H3.ro 2 rfl).now 3 (by omega)
                have hc4 := (H3.ro 2 rfl).now 4 (by omega)
                have hgl := (H3.ro 2 rfl).now.lt
                go_wp2_with fail
                clear hc0 hc1 hc2 hc3 hc4 hgl
                go_loopw [66] (fun iv wr => ∃ (j : Nat), j ≤ 5 ∧ iv = .int .i64 j ∧ Hold None_ none w wr [.ro (LksIn A5 n5 r5), .ro (LksIn B2 m2 l2), .ro Lts, .tp T]) (fun iv _ => 5 - (intOf iv).toNat)
                case atStart => exact ⟨0, by omega, rfl, H3⟩
                case round =>
                  clear H3
                  obtain ⟨j, hj, rfl, H⟩ := hrel
                  by_cases hlt3 : j < 5
                  · have hd : decide ((j : Int) < 5) = true := by simp; omega
                    have k0 : (0 : Int) ≤ (j : Int) := by omega
                    have k1 : (j : Int) < 5 := by omega
                    have hix := idx5 hlt3
                    cases hab : precB r5 (let5 k) (let5 i)
                    · have HAB := hid hab
                      clear hab
                      go_wp2_with fail
                      clear hix
                      refine (prec_any _ _ H.mutLt A5 n5 c5 r5 (let5 k) (let5 i) (H.ro 0 rfl) (by omega)).mono ?_
                      rintro e w1 ⟨rfl, b1⟩
                      have H1 := H.call b1
                      clear b1 H
                      rw [HAB.out]
                      go_wp2_with fail
                      go_roundw
                      case rel => exact ⟨j + 1, by omega, by go_num, H1⟩
                      case measure => simp [intOf]; omega
                    · have HAB := hid hab
                      clear hab
                      cases hbc : precB r5 (let5 i) (let5 j)
                      · have HBC := hid hbc
                        clear hbc
                        go_wp2_with fail
                        clear hix
                        refine (prec_any _ _ H.mutLt A5 n5 c5 r5 (let5 k) (let5 i) (H.ro 0 rfl) (by omega)).mono ?_
                        rintro e w1 ⟨rfl, b1⟩
                        have H1 := H.call b1
                        clear b1 H
                        rw [HAB.out]
                        go_wp2_with fail
                        refine (prec_any _ _ H1.mutLt A5 n5 c5 r5 (let5 i) (let5 j) (H1.ro 0 rfl) (by omega)).mono ?_
                        rintro e w2 ⟨rfl, b2⟩
                        have H2 := H1.call b2
                        clear b2 H1
                        rw [HBC.out]
                        go_wp2_with fail
                        go_roundw
                        case rel => exact ⟨j + 1, by omega, by go_num, H2⟩
                        case measure => simp [intOf]; omega
                      · have HAC := hid (prec_trans HM.out.1 HAB.out hbc)
                        have HBC := hid hbc
                        clear hbc
                        go_wp2_with fail
                        clear hix
                        refine (prec_any _ _ H.mutLt A5 n5 c5 r5 (let5 k) (let5 i) (H.ro 0 rfl) (by omega)).mono ?_
                        rintro e w1 ⟨rfl, b1⟩
                        have H1 := H.call b1
                        clear b1 H
                        rw [HAB.out]
                        go_wp2_with fail
                        refine (prec_any _ _ H1.mutLt A5 n5 c5 r5 (let5 i) (let5 j) (H1.ro 0 rfl) (by omega)).mono ?_
                        rintro e w2 ⟨rfl, b2⟩
                        have H2 := H1.call b2
                        clear b2 H1
                        rw [HBC.out]
                        go_wp2_with fail
                        refine (prec_any _ _ H2.mutLt A5 n5 c5 r5 (let5 k) (let5 j) (H2.ro 0 rfl) (by omega)).mono ?_
                        rintro e w3 ⟨rfl, b3⟩
                        have H3 := H2.call b3
                        clear b3 H2
                        rw [HAC.out]
                        go_wp2_with fail
                        go_roundw
                        case rel => exact ⟨j + 1, by omega, by go_num, H3⟩
                        case measure => simp [intOf]; omega
                  · obtain rfl : j = 5 := by omega
                    have hd : decide (((5 : Nat) : Int) < 5) = false := by decide
                    go_wp2_with fail
                    refine (oremove_any _ _ H.mutLt A5 n5 c5 r5 oc (H.ro 0 rfl) (by omega)).mono ?_
                    rintro e w8 ⟨D, m8, d8, rfl, h81, h82, h83, r8, b8⟩
                    have K8 := (H.call b8).add r8
                    have hm8 : m8 ≤ 1000000 := by
                      have h1 : (remL r5 oc).length ≤ r5.length := List.length_filter_le _ _
                      have := HN5.out
                      omega
                    clear H b8 r8 h81 hd
                    go_wp2_with fail
                    refine (prec_any _ _ K8.mutLt D m8 d8 (remL r5 oc) (let5 k) (let5 i) (K8.ro 0 rfl) (by omega)).mono ?_
                    rintro e w9 ⟨rfl, b9⟩
                    have K9 := K8.call b9
                    clear b9 K8
                    rw [prec_rem]
                    go_wp2_with fail
                    refine (prec_any _ _ K9.mutLt A5 n5 c5 r5 (let5 k) (let5 i) (K9.ro 1 rfl) (by omega)).mono ?_
                    rintro e wa ⟨rfl, ba⟩
                    have Ka := K9.call ba
                    clear ba K9
                    have HVR := hid (rem_valid HM.out.1 oc)
                    have HOR : Hid (∀ x ∈ remL r5 oc, x.ok) := hid fun x hx => names5_ok HM.out.2.1 x (remL_mem.1 hx).1
                    generalize precB r5 (let5 k) (let5 i) = pab
                    cases pab
                    · have hpr : (false && ((let5 k).toList != oc.toList) && ((let5 i).toList != oc.toList)) = false := by simp
                      rw [hpr]
                      clear hpr
                      go_wp2_with fail
                      refine (ovalid_any _ _ Ka.mutLt D m8 d8 (remL r5 oc) (Ka.ro 0 rfl) hm8 HOR.out).mono ?_
                      rintro e wb ⟨rfl, bb⟩
                      have Kb := Ka.call bb
                      clear bb Ka
                      rw [HVR.out]
                      go_wp2_with fail
                      go_roundw
                      case rel => exact ⟨i + 1, by omega, by go_num, Kb.drop (List.sublist_cons_self _ _)⟩
                      case measure => simp [intOf]; omega
                    · by_cases hu : (let5 k).toList = oc.toList
                      · have hu2 : ((let5 k).toList != oc.toList) = false := by simp [hu]
                        have hu3 : ((let5 k).toList == oc.toList) = true := by simp [hu]
                        have hpr : (true && ((let5 k).toList != oc.toList) && ((let5 i).toList != oc.toList)) = false := by rw [hu2]; rfl
                        rw [hpr]
                        clear hpr
                        go_wp2_with fail
                        refine (ovalid_any _ _ Ka.mutLt D m8 d8 (remL r5 oc) (Ka.ro 0 rfl) hm8 HOR.out).mono ?_
                        rintro e wb ⟨rfl, bb⟩
                        have Kb := Ka.call bb
                        clear bb Ka
                        rw [HVR.out]
                        go_wp2_with fail
                        go_roundw
                        case rel => exact ⟨i + 1, by omega, by go_num, Kb.drop (List.sublist_cons_self _ _)⟩
                        case measure => simp [intOf]; omega
                      · have hu2 : ((let5 k).toList != oc.toList) = true := by simp [hu]
                        have hu3 : ((let5 k).toList == oc.toList) = false := by simp [hu]
                        by_cases hv : (let5 i).toList = oc.toList
                        · have hv2 : ((let5 i).toList != oc.toList) = false := by simp [hv]
                          have hv3 : ((let5 i).toList == oc.toList) = true := by simp [hv]
                          have hpr : (true && ((let5 k).toList != oc.toList) && ((let5 i).toList != oc.toList)) = false := by rw [hu2, hv2]; rfl
                          rw [hpr]
                          clear hpr
                          go_wp2_with fail
                          refine (ovalid_any _ _ Ka.mutLt D m8 d8 (remL r5 oc) (Ka.ro 0 rfl) hm8 HOR.out).mono ?_
                          rintro e wb ⟨rfl, bb⟩
                          have Kb := Ka.call bb
                          clear bb Ka
                          rw [HVR.out]
                          go_wp2_with fail
                          go_roundw
                          case rel => exact ⟨i + 1, by omega, by go_num, Kb.drop (List.sublist_cons_self _ _)⟩
                          case measure => simp [intOf]; omega
                        · have hv2 : ((let5 i).toList != oc.toList) = true := by simp [hv]
                          have hv3 : ((let5 i).toList == oc.toList) = false := by simp [hv]
                          have hpr : (true && ((let5 k).toList != oc.toList) && ((let5 i).toList != oc.toList)) = true := by rw [hu2, hv2]; rfl
                          rw [hpr]
                          clear hpr
                          go_wp2_with fail
                          refine (ovalid_any _ _ Ka.mutLt D m8 d8 (remL r5 oc) (Ka.ro 0 rfl) hm8 HOR.out).mono ?_
                          rintro e wb ⟨rfl, bb⟩
                          have Kb := Ka.call bb
                          clear bb Ka
                          rw [HVR.out]
                          go_wp2_with fail
                          go_roundw
                          case rel => exact ⟨i + 1, by omega, by go_num, Kb.drop (List.sublist_cons_self _ _)⟩
                          case measure => simp [intOf]; omega
              · have HLAB := hid hl
                clear hl
                go_wp2_with fail
                clear hix
                refine (prec_any _ _ H.mutLt A5 n5 c5 r5 (let5 k) (let5 i) (H.ro 0 rfl) (by omega)).mono ?_
                rintro e w1 ⟨rfl, b1⟩
                have H1 := H.call b1
                clear b1 H
                rw [HAB.out]
                go_wp2_with fail
                refine (prec_any _ _ H1.mutLt A5 n5 c5 r5 (let5 i) (let5 k) (H1.ro 0 rfl) (by omega)).mono ?_
                rintro e w2 ⟨rfl, b2⟩
                have H2 := H1.call b2
                clear b2 H1
                rw [HBA.out]
                go_wp2_with fail
                refine (prec_any _ _ H2.mutLt B2 m2 d2 l2 (let5 k) (let5 i) (H2.ro 1 rfl) (by omega)).mono ?_
                rintro e w3 ⟨rfl, b3⟩
                have H3 := H2.call b3
                clear b3 H2
                rw [HLAB.out]
                go_wp2_with fail
                refine (prec_any _ _ H3.mutLt A5 n5 c5 r5 (let5 k) (let5 i) (H3.ro 0 rfl) (by omega)).mono ?_
                rintro e w4 ⟨rfl, b4⟩
                have H4 := H3.call b4
                clear b4 H3
                rw [HAB.out]
                clear hd HAB HLAB HBA
                have hc0 := (H4.ro 2 rfl).now 0 (by omega)
                have hc1 := (H4.ro 2 rfl).now 1 (by omega)
                have hc2 := (H4.ro 2 rfl).now 2 (by omega)
                have hc3 := (H4.ro 2 rfl).now 3 (by omega)
                have hc4 := (H4.ro 2 rfl).now 4 (by omega)
                have hgl := (H4.ro 2 rfl).now.lt
                go_wp2_with fail
                clear hc0 hc1 hc2 hc3 hc4 hgl
                go_loopw [66] (fun iv wr => ∃ (j : Nat), j ≤ 5 ∧ iv = .int .i64 j ∧ Hold None_ none w wr [.ro (LksIn A5 n5 r5), .ro (LksIn B2 m2 l2), .ro Lts, .tp T]) (fun iv _ => 5 - (intOf iv).toNat)
                case atStart => exact ⟨0, by omega, rfl, H4⟩
                case round =>
                  clear H4
                  obtain ⟨j, hj, rfl, H⟩ := hrel
                  by_cases hlt3 : j < 5
                  · have hd : decide ((j : Int) < 5) = true := by simp; omega
                    have k0 : (0 : Int) ≤ (j : Int) := by omega
                    have k1 : (j : Int) < 5 := by omega
                    have hix := idx5 hlt3
                    cases hab : precB r5 (let5 k) (let5 i)
                    · have HAB := hid hab
                      clear hab
                      go_wp2_with fail
                      clear hix
                      refine (prec_any _ _ H.mutLt A5 n5 c5 r5 (let5 k) (let5 i) (H.ro 0 rfl) (by omega)).mono ?_
                      rintro e w1 ⟨rfl, b1⟩
                      have H1 := H.call b1
                      clear b1 H
                      rw [HAB.out]
                      go_wp2_with fail
                      go_roundw
                      case rel => exact ⟨j + 1, by omega, by go_num, H1⟩
                      case measure => simp [intOf]; omega
                    · have HAB := hid hab
                      clear hab
                      cases hbc : precB r5 (let5 i) (let5 j)
                      · have HBC := hid hbc
                        clear hbc
                        go_wp2_with fail
                        clear hix
                        refine (prec_any _ _ H.mutLt A5 n5 c5 r5 (let5 k) (let5 i) (H.ro 0 rfl) (by omega)).mono ?_
                        rintro e w1 ⟨rfl, b1⟩
                        have H1 := H.call b1
                        clear b1 H
                        rw [HAB.out]
                        go_wp2_with fail
                        refine (prec_any _ _ H1.mutLt A5 n5 c5 r5 (let5 i) (let5 j) (H1.ro 0 rfl) (by omega)).mono ?_
                        rintro e w2 ⟨rfl, b2⟩
                        have H2 := H1.call b2
                        clear b2 H1
                        rw [HBC.out]
                        go_wp2_with fail
                        go_roundw
                        case rel => exact ⟨j + 1, by omega, by go_num, H2⟩
                        case measure => simp [intOf]; omega
                      · have HAC := hid (prec_trans HM.out.1 HAB.out hbc)
                        have HBC := hid hbc
                        clear hbc
                        go_wp2_with fail
                        clear hix
                        refine (prec_any _ _ H.mutLt A5 n5 c5 r5 (let5 k) (let5 i) (H.ro 0 rfl) (by omega)).mono ?_
                        rintro e w1 ⟨rfl, b1⟩
                        have H1 := H.call b1
                        clear b1 H
                        rw [HAB.out]
                        go_wp2_with fail
                        refine (prec_any _ _ H1.mutLt A5 n5 c5 r5 (let5 i) (let5 j) (H1.ro 0 rfl) (by omega)).mono ?_
                        rintro e w2 ⟨rfl, b2⟩
                        have H2 := H1.call b2
                        clear b2 H1
                        rw [HBC.out]
                        go_wp2_with fail
                        refine (prec_any _ _ H2.mutLt A5 n5 c5 r5 (let5 k) (let5 j) (H2.ro 0 rfl) (by omega)).mono ?_
                        rintro e w3 ⟨rfl, b3⟩
                        have H3 := H2.call b3
                        clear b3 H2
                        rw [HAC.out]
                        go_wp2_with fail
                        go_roundw
                        case rel => exact ⟨j + 1, by omega, by go_num, H3⟩
                        case measure => simp [intOf]; omega
                  · obtain rfl : j = 5 := by omega
                    have hd : decide (((5 : Nat) : Int) < 5) = false := by decide
                    go_wp2_with fail
                    refine (oremove_any _ _ H.mutLt A5 n5 c5 r5 oc (H.ro 0 rfl) (by omega)).mono ?_
                    rintro e w8 ⟨D, m8, d8, rfl, h81, h82, h83, r8, b8⟩
                    have K8 := (H.call b8).add r8
                    have hm8 : m8 ≤ 1000000 := by
                      have h1 : (remL r5 oc).length ≤ r5.length := List.length_filter_le _ _
                      have := HN5.out
                      omega
                    clear H b8 r8 h81 hd
                    go_wp2_with fail
                    refine (prec_any _ _ K8.mutLt D m8 d8 (remL r5 oc) (let5 k) (let5 i) (K8.ro 0 rfl) (by omega)).mono ?_
                    rintro e w9 ⟨rfl, b9⟩
                    have K9 := K8.call b9
                    clear b9 K8
                    rw [prec_rem]
                    go_wp2_with fail
                    refine (prec_any _ _ K9.mutLt A5 n5 c5 r5 (let5 k) (let5 i) (K9.ro 1 rfl) (by omega)).mono ?_
                    rintro e wa ⟨rfl, ba⟩
                    have Ka := K9.call ba
                    clear ba K9
                    have HVR := hid (rem_valid HM.out.1 oc)
                    have HOR : Hid (∀ x ∈ remL r5 oc, x.ok) := hid fun x hx => names5_ok HM.out.2.1 x (remL_mem.1 hx).1
                    generalize precB r5 (let5 k) (let5 i) = pab
                    cases pab
                    · have hpr : (false && ((let5 k).toList != oc.toList) && ((let5 i).toList != oc.toList)) = false := by simp
                      rw [hpr]
                      clear hpr
                      go_wp2_with fail
                      refine (ovalid_any _ _ Ka.mutLt D m8 d8 (remL r5 oc) (Ka.ro 0 rfl) hm8 HOR.out).mono ?_
                      rintro e wb ⟨rfl, bb⟩
                      have Kb := Ka.call bb
                      clear bb Ka
                      rw [HVR.out]
                      go_wp2_with fail
                      go_roundw
                      case rel => exact ⟨i + 1, by omega, by go_num, Kb.drop (List.sublist_cons_self _ _)⟩
                      case measure => simp [intOf]; omega
                    · by_cases hu : (let5 k).toList = oc.toList
                      · have hu2 : ((let5 k).toList != oc.toList) = false := by simp [hu]
                        have hu3 : ((let5 k).toList == oc.toList) = true := by simp [hu]
                        have hpr : (true && ((let5 k).toList != oc.toList) && ((let5 i).toList != oc.toList)) = false := by rw [hu2]; rfl
                        rw [hpr]
                        clear hpr
                        go_wp2_with fail
                        refine (ovalid_any _ _ Ka.mutLt D m8 d8 (remL r5 oc) (Ka.ro 0 rfl) hm8 HOR.out).mono ?_
                        rintro e wb ⟨rfl, bb⟩
                        have Kb := Ka.call bb
                        clear bb Ka
                        rw [HVR.out]
                        go_wp2_with fail
                        go_roundw
                        case rel => exact ⟨i + 1, by omega, by go_num, Kb.drop (List.sublist_cons_self _ _)⟩
                        case measure => simp [intOf]; omega
                      · have hu2 : ((let5 k).toList != oc.toList) = true := by simp [hu]
                        have hu3 : ((let5 k).toList == oc.toList) = false := by simp [hu]
                        by_cases hv : (let5 i).toList = oc.toList
                        · have hv2 : ((let5 i).toList != oc.toList) = false := by simp [hv]
                          have hv3 : ((let5 i).toList == oc.toList) = true := by simp [hv]
                          have hpr : (true && ((let5 k).toList != oc.toList) && ((let5 i).toList != oc.toList)) = false := by rw [hu2, hv2]; rfl
                          rw [hpr]
                          clear hpr
                          go_wp2_with fail
                          refine (ovalid_any _ _ Ka.mutLt D m8 d8 (remL r5 oc) (Ka.ro 0 rfl) hm8 HOR.out).mono ?_
                          rintro e wb ⟨rfl, bb⟩
                          have Kb := Ka.call bb
                          clear bb Ka
                          rw [HVR.out]
                          go_wp2_with fail
                          go_roundw
                          case rel => exact ⟨i + 1, by omega, by go_num, Kb.drop (List.sublist_cons_self _ _)⟩
                          case measure => simp [intOf]; omega
                        · have hv2 : ((let5 i).toList != oc.toList) = true := by simp [hv]
                          have hv3 : ((let5 i).toList == oc.toList) = false := by simp [hv]
                          have hpr : (true && ((let5 k).toList != oc.toList) && ((let5 i).toList != oc.toList)) = true := by rw [hu2, hv2]; rfl
                          rw [hpr]
                          clear hpr
                          go_wp2_with fail
                          refine (ovalid_any _ _ Ka.mutLt D m8 d8 (remL r5 oc) (Ka.ro 0 rfl) hm8 HOR.out).mono ?_
                          rintro e wb ⟨rfl, bb⟩
                          have Kb := Ka.call bb
                          clear bb Ka
                          rw [HVR.out]
                          go_wp2_with fail
                          go_roundw
                          case rel => exact ⟨i + 1, by omega, by go_num, Kb.drop (List.sublist_cons_self _ _)⟩
                          case measure => simp [intOf]; omega
          · obtain rfl : i = 5 := by omega
            have hd : decide (((5 : Nat) : Int) < 5) = false := by decide
            go_wp2_with fail
            go_roundw
            case rel => exact ⟨k + 1, by omega, by go_num, H⟩
            case measure => simp [intOf]; omega
      · obtain rfl : k = 5 := by omega
        have hd : decide (((5 : Nat) : Int) < 5) = false := by decide
        go_wp2_with fail
        refine (known18 _).mono ?_
        rintro e wz ⟨rfl, bz⟩
        have Kz := H.call bz
        go_wp2_with fail
        go_ret
        exact ⟨rfl, Kz.below⟩
  · have hne : (ec != 0) = true := by simp [h0]
    clear h0
    have K5 := K4.drop (List.sublist_cons_self _ _)
    have K6 := K5.add (K5.ro 0 rfl)
    clear K4 K5
    have HM := hid (show validLk l2 = true ∧ NamesIn lets5 l2 ∧ ∀ z ∈ l2, z ∈ l2 from ⟨HV.out.1, HV.out.2, fun z hz => hz⟩)
    have HN5 := hid (K6.ro 0 rfl).now.len
    clear HK
    have hc0 := (K6.ro 2 rfl).now 0 (by omega)
    have hc1 := (K6.ro 2 rfl).now 1 (by omega)
    have hc2 := (K6.ro 2 rfl).now 2 (by omega)
    have hc3 := (K6.ro 2 rfl).now 3 (by omega)
    have hc4 := (K6.ro 2 rfl).now 4 (by omega)
    have hgl := (K6.ro 2 rfl).now.lt
    go_wp2_with fail
    clear hc0 hc1 hc2 hc3 hc4 hgl
    go_loopw [35] (fun iv wr => ∃ (k : Nat), k ≤ 5 ∧ iv = .int .i64 k ∧ Hold None_ none w wr [.ro (LksIn B2 m2 l2), .ro (LksIn B2 m2 l2), .ro Lts, .tp T]) (fun iv _ => 5 - (intOf iv).toNat)
    case atStart => exact ⟨0, by omega, rfl, K6⟩
    case round =>
      clear K6
      obtain ⟨k, hk, rfl, H⟩ := hrel
      by_cases hlt : k < 5
      · have hd : decide ((k : Int) < 5) = true := by simp; omega
        have k0 : (0 : Int) ≤ (k : Int) := by omega
        have k1 : (k : Int) < 5 := by omega
        have hix := idx5 hlt
        have hc0 := (H.ro 2 rfl).now 0 (by omega)
        have hc1 := (H.ro 2 rfl).now 1 (by omega)
        have hc2 := (H.ro 2 rfl).now 2 (by omega)
        have hc3 := (H.ro 2 rfl).now 3 (by omega)
        have hc4 := (H.ro 2 rfl).now 4 (by omega)
        have hgl := (H.ro 2 rfl).now.lt
        go_wp2_with fail
        clear hc0 hc1 hc2 hc3 hc4 hgl
        go_loopw [39] (fun iv wr => ∃ (i : Nat), i ≤ 5 ∧ iv = .int .i64 i ∧ Hold None_ none w wr [.ro (LksIn B2 m2 l2), .ro (LksIn B2 m2 l2), .ro Lts, .tp T]) (fun iv _ => 5 - (intOf iv).toNat)
        case atStart => exact ⟨0, by omega, rfl, H⟩
        case round =>
          clear H
          obtain ⟨i, hi, rfl, H⟩ := hrel
          by_cases hlt2 : i < 5
          · have hd : decide ((i : Int) < 5) = true := by simp; omega
            have k0 : (0 : Int) ≤ (i : Int) := by omega
            have k1 : (i : Int) < 5 := by omega
            have hix := idx5 hlt2
            cases hab : precB l2 (let5 k) (let5 i)
            · have HLAB := hid (show precB l2 (let5 k) (let5 i) = false by
                cases hl : precB l2 (let5 k) (let5 i)
                · rfl
                · rw [prec_sub HM.out.2.2 hl] at hab; cases hab)
              have HAB := hid hab
              clear hab
              go_wp2_with fail
              clear hix
              refine (prec_any _ _ H.mutLt B2 m2 d2 l2 (let5 k) (let5 i) (H.ro 0 rfl) (by omega)).mono ?_
              rintro e w1 ⟨rfl, b1⟩
              have H1 := H.call b1
              clear b1 H
              rw [HAB.out]
              go_wp2_with fail
              refine (prec_any _ _ H1.mutLt B2 m2 d2 l2 (let5 k) (let5 i) (H1.ro 1 rfl) (by omega)).mono ?_
              rintro e w2 ⟨rfl, b2⟩
              have H2 := H1.call b2
              clear b2 H1
              rw [HLAB.out]
              clear hd HAB HLAB
              have hc0 := (H2.ro 2 rfl).now 0 (by omega)
              have hc1 := (H2.ro 2 rfl).now 1 (by omega)
              have hc2 := (H2.ro 2 rfl).now 2 (by omega)
              have hc3 := (H2.ro 2 rfl).now 3 (by omega)
              have hc4 := (H2.ro 2 rfl).now 4 (by omega)
              have hgl := (H2.ro 2 rfl).now.lt
              go_wp2_with fail
              clear hc0 hc1 hc2 hc3 hc4 hgl
              go_loopw [66] (fun iv wr => ∃ (j : Nat), j ≤ 5 ∧ iv = .int .i64 j ∧ Hold None_ none w wr [.ro (LksIn B2 m2 l2), .ro (LksIn B2 m2 l2), .ro Lts, .tp T]) (fun iv _ => 5 - (intOf iv).toNat)
              case atStart => exact ⟨0, by omega, rfl, H2⟩
              case round =>
                clear H2
                obtain ⟨j, hj, rfl, H⟩ := hrel
                by_cases hlt3 : j < 5
                · have hd : decide ((j : Int) < 5) = true := by simp; omega
                  have k0 : (0 : Int) ≤ (j : Int) := by omega
                  have k1 : (j : Int) < 5 := by omega
                  have hix := idx5 hlt3
                  cases hab : precB l2 (let5 k) (let5 i)
                  · have HAB := hid hab
                    clear hab
                    go_wp2_with fail
                    clear hix
                    refine (prec_any _ _ H.mutLt B2 m2 d2 l2 (let5 k) (let5 i) (H.ro 0 rfl) (by omega)).mono ?_
                    rintro e w1 ⟨rfl, b1⟩
                    have H1 := H.call b1
                    clear b1 H
                    rw [HAB.out]
                    go_wp2_with fail
                    go_roundw
                    case rel => exact ⟨j + 1, by omega, by go_num, H1⟩
                    case measure => simp [intOf]; omega
                  · have HAB := hid hab
                    clear hab
                    cases hbc : precB l2 (let5 i) (let5 j)
                    · have HBC := hid hbc
                      clear hbc
                      go_wp2_with fail
                      clear hix
                      refine (prec_any _ _ H.mutLt B2 m2 d2 l2 (let5 k) (let5 i) (H.ro 0 rfl) (by omega)).mono ?_
                      rintro e w1 ⟨rfl, b1⟩
                      have H1 := H.call b1
                      clear b1 H
                      rw [HAB.out]
                      go_wp2_with fail
                      refine (prec_any _ _ H1.mutLt B2 m2 d2 l2 (let5 i) (let5 j) (H1.ro 0 rfl) (by omega)).mono ?_
                      rintro e w2 ⟨rfl, b2⟩
                      have H2 := H1.call b2
                      clear b2 H1
                      rw [HBC.out]
                      go_wp2_with fail
                      go_roundw
                      case rel => exact ⟨j + 1, by omega, by go_num, H2⟩
                      case measure => simp [intOf]; omega
                    · have HAC := hid (prec_trans HM.out.1 HAB.out hbc)
                      have HBC := hid hbc
                      clear hbc
                      go_wp2_with fail
                      clear hix
                      refine (prec_any _ _ H.mutLt B2 m2 d2 l2 (let5 k) (let5 i) (H.ro 0 rfl) (by omega)).mono ?_
                      rintro e w1 ⟨rfl, b1⟩
                      have H1 := H.call b1
                      clear b1 H
                      rw [HAB.out]
                      go_wp2_with fail
                      refine (prec_any _ _ H1.mutLt B2 m2 d2 l2 (let5 i) (let5 j) (H1.ro 0 rfl) (by omega)).mono ?_
                      rintro e w2 ⟨rfl, b2⟩
                      have H2 := H1.call b2
                      clear b2 H1
                      rw [HBC.out]
                      go_wp2_with fail
                      refine (prec_any _ _ H2.mutLt B2 m2 d2 l2 (let5 k) (let5 j) (H2.ro 0 rfl) (by omega)).mono ?_
                      rintro e w3 ⟨rfl, b3⟩
                      have H3 := H2.call b3
                      clear b3 H2
                      rw [HAC.out]
                      go_wp2_with fail
                      go_roundw
                      case rel => exact ⟨j + 1, by omega, by go_num, H3⟩
                      case measure => simp [intOf]; omega
                · obtain rfl : j = 5 := by omega
                  have hd : decide (((5 : Nat) : Int) < 5) = false := by decide
                  go_wp2_with fail
                  refine (oremove_any _ _ H.mutLt B2 m2 d2 l2 oc (H.ro 0 rfl) (by omega)).mono ?_
                  rintro e w8 ⟨D, m8, d8, rfl, h81, h82, h83, r8, b8⟩
                  have K8 := (H.call b8).add r8
                  have hm8 : m8 ≤ 1000000 := by
                    have h1 : (remL l2 oc).length ≤ l2.length := List.length_filter_le _ _
                    have := HN5.out
                    omega
                  clear H b8 r8 h81 hd
                  go_wp2_with fail
                  refine (prec_any _ _ K8.mutLt D m8 d8 (remL l2 oc) (let5 k) (let5 i) (K8.ro 0 rfl) (by omega)).mono ?_
                  rintro e w9 ⟨rfl, b9⟩
                  have K9 := K8.call b9
                  clear b9 K8
                  rw [prec_rem]
                  go_wp2_with fail
                  refine (prec_any _ _ K9.mutLt B2 m2 d2 l2 (let5 k) (let5 i) (K9.ro 1 rfl) (by omega)).mono ?_
                  rintro e wa ⟨rfl, ba⟩
                  have Ka := K9.call ba
                  clear ba K9
                  have HVR := hid (rem_valid HM.out.1 oc)
                  have HOR : Hid (∀ x ∈ remL l2 oc, x.ok) := hid fun x hx => names5_ok HM.out.2.1 x (remL_mem.1 hx).1
                  generalize precB l2 (let5 k) (let5 i) = pab
                  cases pab
                  · have hpr : (false && ((let5 k).toList != oc.toList) && ((let5 i).toList != oc.toList)) = false := by simp
                    rw [hpr]
                    clear hpr
                    go_wp2_with fail
                    refine (ovalid_any _ _ Ka.mutLt D m8 d8 (remL l2 oc) (Ka.ro 0 rfl) hm8 HOR.out).mono ?_
                    rintro e wb ⟨rfl, bb⟩
                    have Kb := Ka.call bb
                    clear bb Ka
                    rw [HVR.out]
                    go_wp2_with fail
                    go_roundw
                    case rel => exact ⟨i + 1, by omega, by go_num, Kb.drop (List.sublist_cons_self _ _)⟩
                    case measure => simp [intOf]; omega
                  · by_cases hu : (let5 k).toList = oc.toList
                    · have hu2 : ((let5 k).toList != oc.toList) = false := by simp [hu]
                      have hu3 : ((let5 k).toList == oc.toList) = true := by simp [hu]
                      have hpr : (true && ((let5 k).toList != oc.toList) && ((let5 i).toList != oc.toList)) = false := by rw [hu2]; rfl
                      rw [hpr]
                      clear hpr
                      go_wp2_with fail
                      refine (ovalid_any _ _ Ka.mutLt D m8 d8 (remL l2 oc) (Ka.ro 0 rfl) hm8 HOR.out).mono ?_
                      rintro e wb ⟨rfl, bb⟩
                      have Kb := Ka.call bb
                      clear bb Ka
                      rw [HVR.out]
                      go_wp2_with fail
                      go_roundw
                      case rel => exact ⟨i + 1, by omega, by go_num, Kb.drop (List.sublist_cons_self _ _)⟩
                      case measure => simp [intOf]; omega
                    · have hu2 : ((let5 k).toList != oc.toList) = true := by simp [hu]
                      have hu3 : ((let5 k).toList == oc.toList) = false := by simp [hu]
                      by_cases hv : (let5 i).toList = oc.toList
                      · have hv2 : ((let5 i).toList != oc.toList) = false := by simp [hv]
                        have hv3 : ((let5 i).toList == oc.toList) = true := by simp [hv]
                        have hpr : (true && ((let5 k).toList != oc.toList) && ((let5 i).toList != oc.toList)) = false := by rw [hu2, hv2]; rfl
                        rw [hpr]
                        clear hpr
                        go_wp2_with fail
                        refine (ovalid_any _ _ Ka.mutLt D m8 d8 (remL l2 oc) (Ka.ro 0 rfl) hm8 HOR.out).mono ?_
                        rintro e wb ⟨rfl, bb⟩
                        have Kb := Ka.call bb
                        clear bb Ka
                        rw [HVR.out]
                        go_wp2_with fail
                        go_roundw
                        case rel => exact ⟨i + 1, by omega, by go_num, Kb.drop (List.sublist_cons_self _ _)⟩
                        case measure => simp [intOf]; omega
                      · have hv2 : ((let5 i).toList != oc.toList) = true := by simp [hv]
                        have hv3 : ((let5 i).toList == oc.toList) = false := by simp [hv]
                        have hpr : (true && ((let5 k).toList != oc.toList) && ((let5 i).toList != oc.toList)) = true := by rw [hu2, hv2]; rfl
                        rw [hpr]
                        clear hpr
                        go_wp2_with fail
                        refine (ovalid_any _ _ Ka.mutLt D m8 d8 (remL l2 oc) (Ka.ro 0 rfl) hm8 HOR.out).mono ?_
                        rintro e wb ⟨rfl, bb⟩
                        have Kb := Ka.call bb
                        clear bb Ka
                        rw [HVR.out]
                        go_wp2_with fail
                        go_roundw
                        case rel => exact ⟨i + 1, by omega, by go_num, Kb.drop (List.sublist_cons_self _ _)⟩
                        case measure => simp [intOf]; omega
            · have HBA := hid (prec_strict HM.out.1 hab)
              have HAB := hid hab
              clear hab
              cases hl : precB l2 (let5 k) (let5 i)
              · have HLAB := hid hl
                clear hl
                go_wp2_with fail
                clear hix
                refine (prec_any _ _ H.mutLt B2 m2 d2 l2 (let5 k) (let5 i) (H.ro 0 rfl) (by omega)).mono ?_
                rintro e w1 ⟨rfl, b1⟩
                have H1 := H.call b1
                clear b1 H
                rw [HAB.out]
                go_wp2_with fail
                refine (prec_any _ _ H1.mutLt B2 m2 d2 l2 (let5 i) (let5 k) (H1.ro 0 rfl) (by omega)).mono ?_
                rintro e w2 ⟨rfl, b2⟩
                have H2 := H1.call b2
                clear b2 H1
                rw [HBA.out]
                go_wp2_with fail
                refine (prec_any _ _ H2.mutLt B2 m2 d2 l2 (let5 k) (let5 i) (H2.ro 1 rfl) (by omega)).mono ?_
                rintro e w3 ⟨rfl, b3⟩
                have H3 := H2.call b3
                clear b3 H2
                rw [HLAB.out]
                clear hd HAB HLAB HBA
                have hc0 := (H3.ro 2 rfl).now 0 (by omega)
                have hc1 := (H3.ro 2 rfl).now 1 (by omega)
                have hc2 := (H3.ro 2 rfl).now 2 (by omega)
                have hc3 := (H3.ro 2 rfl).now 3 (by omega)
                have hc4 := (H3.ro 2 rfl).now 4 (by omega)
                have hgl := (H3.ro 2 rfl).now.lt
                go_wp2_with fail
                clear hc0 hc1 hc2 hc3 hc4 hgl
                go_loopw [66] (fun iv wr => ∃ (j : Nat), j ≤ 5 ∧ iv = .int .i64 j ∧ Hold None_ none w wr [.ro (LksIn B2 m2 l2), .ro (LksIn B2 m2 l2), .ro Lts, .tp T]) (fun iv _ => 5 - (intOf iv).toNat)
                case atStart => exact ⟨0, by omega, rfl, H3⟩
                case round =>
                  clear H3
                  obtain ⟨j, hj, rfl, H⟩ := hrel
                  by_cases hlt3 : j < 5
                  · have hd : decide ((j : Int) < 5) = true := by simp; omega
                    have k0 : (0 : Int) ≤ (j : Int) := by omega
                    have k1 : (j : Int) < 5 := by omega
                    have hix := idx5 hlt3
                    cases hab : precB l2 (let5 k) (let5 i)
                    · have HAB := hid hab
                      clear hab
                      go_wp2_with fail
                      clear hix
                      refine (prec_any _ _ H.mutLt B2 m2 d2 l2 (let5 k) (let5 i) (H.ro 0 rfl) (by omega)).mono ?_
                      rintro e w1 ⟨rfl, b1⟩
                      have H1 := H.call b1
                      clear b1 H
                      rw [HAB.out]
                      go_wp2_with fail
                      go_roundw
                      case rel => exact ⟨j + 1, by omega, by go_num, H1⟩
                      case measure => simp [intOf]; omega
                    · have HAB := hid hab
                      clear hab
                      cases hbc : precB l2 (let5 i) (let5 j)
                      · have HBC := hid hbc
                        clear hbc
                        go_wp2_with fail
                        clear hix
                        refine (prec_any _ _ H.mutLt B2 m2 d2 l2 (let5 k) (let5 i) (H.ro 0 rfl) (by omega)).mono ?_
                        rintro e w1 ⟨rfl, b1⟩
                        have H1 := H.call b1
                        clear b1 H
                        rw [HAB.out]
                        go_wp2_with fail
                        refine (prec_any _ _ H1.mutLt B2 m2 d2 l2 (let5 i) (let5 j) (H1.ro 0 rfl) (by omega)).mono ?_
                        rintro e w2 ⟨rfl, b2⟩
                        have H2 := H1.call b2
                        clear b2 H1
                        rw [HBC.out]
                        go_wp2_with fail
                        go_roundw
                        case rel => exact ⟨j + 1, by omega, by go_num, H2⟩
                        case measure => simp [intOf]; omega
                      · have HAC := hid (prec_trans HM.out.1 HAB.out hbc)
                        have HBC := hid hbc
                        clear hbc
                        go_wp2_with fail
                        clear hix
                        refine (prec_any _ _ H.mutLt B2 m2 d2 l2 (let5 k) (let5 i) (H.ro 0 rfl) (by omega)).mono ?_
                        rintro e w1 ⟨rfl, b1⟩
                        have H1 := H.call b1
                        clear b1 H
                        rw [HAB.out]
                        go_wp2_with fail
                        refine (prec_any _ _ H1.mutLt B2 m2 d2 l2 (let5 i) (let5 j) (H1.ro 0 rfl) (by omega)).mono ?_
                        rintro e w2 ⟨rfl, b2⟩
                        have H2 := H1.call b2
                        clear b2 H1
                        rw [HBC.out]
                        go_wp2_with fail
                        refine (prec_any _ _ H2.mutLt B2 m2 d2 l2 (let5 k) (let5 j) (H2.ro 0 rfl) (by omega)).mono ?_
                        rintro e w3 ⟨rfl, b3⟩
                        have H3 := H2.call b3
                        clear b3 H2
                        rw [HAC.out]
                        go_wp2_with fail
                        go_roundw
                        case rel => exact ⟨j + 1, by omega, by go_num, H3⟩
                        case measure => simp [intOf]; omega
                  · obtain rfl : j = 5 := by omega
                    have hd : decide (((5 : Nat) : Int) < 5) = false := by decide
                    go_wp2_with fail
                    refine (oremove_any _ _ H.mutLt B2 m2 d2 l2 oc (H.ro 0 rfl) (by omega)).mono ?_
                    rintro e w8 ⟨D, m8, d8, rfl, h81, h82, h83, r8, b8⟩
                    have K8 := (H.call b8).add r8
                    have hm8 : m8 ≤ 1000000 := by
                      have h1 : (remL l2 oc).length ≤ l2.length := List.length_filter_le _ _
                      have := HN5.out
                      omega
                    clear H b8 r8 h81 hd
                    go_wp2_with fail
                    refine (prec_any _ _ K8.mutLt D m8 d8 (remL l2 oc) (let5 k) (let5 i) (K8.ro 0 rfl) (by omega)).mono ?_
                    rintro e w9 ⟨rfl, b9⟩
                    have K9 := K8.call b9
                    clear b9 K8
                    rw [prec_rem]
                    go_wp2_with fail
                    refine (prec_any _ _ K9.mutLt B2 m2 d2 l2 (let5 k) (let5 i) (K9.ro 1 rfl) (by omega)).mono ?_
                    rintro e wa ⟨rfl, ba⟩
                    have Ka := K9.call ba
                    clear ba K9
                    have HVR := hid (rem_valid HM.out.1 oc)
                    have HOR : Hid (∀ x ∈ remL l2 oc, x.ok) := hid fun x hx => names5_ok HM.out.2.1 x (remL_mem.1 hx).1
                    generalize precB l2 (let5 k) (let5 i) = pab
                    cases pab
                    · have hpr : (false && ((let5 k).toList != oc.toList) && ((let5 i).toList != oc.toList)) = false := by simp
                      rw [hpr]
                      clear hpr
                      go_wp2_with fail
                      refine (ovalid_any _ _ Ka.mutLt D m8 d8 (remL l2 oc) (Ka.ro 0 rfl) hm8 HOR.out).mono ?_
                      rintro e wb ⟨rfl, bb⟩
                      have Kb := Ka.call bb
                      clear bb Ka
                      rw [HVR.out]
                      go_wp2_with fail
                      go_roundw
                      case rel => exact ⟨i + 1, by omega, by go_num, Kb.drop (List.sublist_cons_self _ _)⟩
                      case measure => simp [intOf]; omega
                    · by_cases hu : (let5 k).toList = oc.toList
                      · have hu2 : ((let5 k).toList != oc.toList) = false := by simp [hu]
                        have hu3 : ((let5 k).toList == oc.toList) = true := by simp [hu]
                        have hpr : (true && ((let5 k).toList != oc.toList) && ((let5 i).toList != oc.toList)) = false := by rw [hu2]; rfl
                        rw [hpr]
                        clear hpr
                        go_wp2_with fail
                        refine (ovalid_any _ _ Ka.mutLt D m8 d8 (remL l2 oc) (Ka.ro 0 rfl) hm8 HOR.out).mono ?_
                        rintro e wb ⟨rfl, bb⟩
                        have Kb := Ka.call bb
                        clear bb Ka
                        rw [HVR.out]
                        go_wp2_with fail
                        go_roundw
                        case rel => exact ⟨i + 1, by omega, by go_num, Kb.drop (List.sublist_cons_self _ _)⟩
                        case measure => simp [intOf]; omega
                      · have hu2 : ((let5 k).toList != oc.toList) = true := by simp [hu]
                        have hu3 : ((let5 k).toList == oc.toList) = false := by simp [hu]
                        by_cases hv : (let5 i).toList = oc.toList
                        · have hv2 : ((let5 i).toList != oc.toList) = false := by simp [hv]
                          have hv3 : ((let5 i).toList == oc.toList) = true := by simp [hv]
                          have hpr : (true && ((let5 k).toList != oc.toList) && ((let5 i).toList != oc.toList)) = false := by rw [hu2, hv2]; rfl
                          rw [hpr]
                          clear hpr
                          go_wp2_with fail
                          refine (ovalid_any _ _ Ka.mutLt D m8 d8 (remL l2 oc) (Ka.ro 0 rfl) hm8 HOR.out).mono ?_
                          rintro e wb ⟨rfl, bb⟩
                          have Kb := Ka.call bb
                          clear bb Ka
                          rw [HVR.out]
                          go_wp2_with fail
                          go_roundw
                          case rel => exact ⟨i + 1, by omega, by go_num, Kb.drop (List.sublist_cons_self _ _)⟩
                          case measure => simp [intOf]; omega
                        · have hv2 : ((let5 i).toList != oc.toList) = true := by simp [hv]
                          have hv3 : ((let5 i).toList == oc.toList) = false := by simp [hv]
                          have hpr : (true && ((let5 k).toList != oc.toList) && ((let5 i).toList != oc.toList)) = true := by rw [hu2, hv2]; rfl
                          rw [hpr]
                          clear hpr
                          go_wp2_with fail
                          refine (ovalid_any _ _ Ka.mutLt D m8 d8 (remL l2 oc) (Ka.ro 0 rfl) hm8 HOR.out).mono ?_
                          rintro e wb ⟨rfl, bb⟩
                          have Kb := Ka.call bb
                          clear bb Ka
                          rw [HVR.out]
                          go_wp2_with fail
                          go_roundw
                          case rel => exact ⟨i + 1, by omega, by go_num, Kb.drop (List.sublist_cons_self _ _)⟩
                          case measure => simp [intOf]; omega
              · have HLAB := hid hl
                clear hl
                go_wp2_with fail
                clear hix
                refine (prec_any _ _ H.mutLt B2 m2 d2 l2 (let5 k) (let5 i) (H.ro 0 rfl) (by omega)).mono ?_
                rintro e w1 ⟨rfl, b1⟩
                have H1 := H.call b1
                clear b1 H
                rw [HAB.out]
                go_wp2_with fail
                refine (prec_any _ _ H1.mutLt B2 m2 d2 l2 (let5 i) (let5 k) (H1.ro 0 rfl) (by omega)).mono ?_
                rintro e w2 ⟨rfl, b2⟩
                have H2 := H1.call b2
                clear b2 H1
                rw [HBA.out]
                go_wp2_with fail
                refine (prec_any _ _ H2.mutLt B2 m2 d2 l2 (let5 k) (let5 i) (H2.ro 1 rfl) (by omega)).mono ?_
                rintro e w3 ⟨rfl, b3⟩
                have H3 := H2.call b3
                clear b3 H2
                rw [HLAB.out]
                go_wp2_with fail
                refine (prec_any _ _ H3.mutLt B2 m2 d2 l2 (let5 k) (let5 i) (H3.ro 0 rfl) (by omega)).mono ?_
                rintro e w4 ⟨rfl, b4⟩
                have H4 := H3.call b4
                clear b4 H3
                rw [HAB.out]
                clear hd HAB HLAB HBA
                have hc0 := (H4.ro 2 rfl).now 0 (by omega)
                have hc1 := (H4.ro 2 rfl).now 1 (by omega)
                have hc2 := (H4.ro 2 rfl).now 2 (by omega)
                have hc3 := (H4.ro 2 rfl).now 3 (by omega)
                have hc4 := (H4.ro 2 rfl).now 4 (by omega)
                have hgl := (H4.ro 2 rfl).now.lt
                go_wp2_with fail
                clear hc0 hc1 hc2 hc3 hc4 hgl
                go_loopw [66] (fun iv wr => ∃ (j : Nat), j ≤ 5 ∧ iv = .int .i64 j ∧ Hold None_ none w wr [.ro (LksIn B2 m2 l2), .ro (LksIn B2 m2 l2), .ro Lts, .tp T]) (fun iv _ => 5 - (intOf iv).toNat)
                case atStart => exact ⟨0, by omega, rfl, H4⟩
                case round =>
                  clear H4
                  obtain ⟨j, hj, rfl, H⟩ := hrel
                  by_cases hlt3 : j < 5
                  · have hd : decide ((j : Int) < 5) = true := by simp; omega
                    have k0 : (0 : Int) ≤ (j : Int) := by omega
                    have k1 : (j : Int) < 5 := by omega
                    have hix := idx5 hlt3
                    cases hab : precB l2 (let5 k) (let5 i)
                    · have HAB := hid hab
                      clear hab
                      go_wp2_with fail
                      clear hix
                      refine (prec_any _ _ H.mutLt B2 m2 d2 l2 (let5 k) (let5 i) (H.ro 0 rfl) (by omega)).mono ?_
                      rintro e w1 ⟨rfl, b1⟩
                      have H1 := H.call b1
                      clear b1 H
                      rw [HAB.out]
                      go_wp2_with fail
                      go_roundw
                      case rel => exact ⟨j + 1, by omega, by go_num, H1⟩
                      case measure => simp [intOf]; omega
                    · have HAB := hid hab
                      clear hab
                      cases hbc : precB l2 (let5 i) (let5 j)
                      · have HBC := hid hbc
                        clear hbc
                        go_wp2_with fail
                        clear hix
                        refine (prec_any _ _ H.mutLt B2 m2 d2 l2 (let5 k) (let5 i) (H.ro 0 rfl) (by omega)).mono ?_
                        rintro e w1 ⟨rfl, b1⟩
                        have H1 := H.call b1
                        clear b1 H
                        rw [HAB.out]
                        go_wp2_with fail
                        refine (prec_any _ _ H1.mutLt B2 m2 d2 l2 (let5 i) (let5 j) (H1.ro 0 rfl) (by omega)).mono ?_
                        rintro e w2 ⟨rfl, b2⟩
                        have H2 := H1.call b2
                        clear b2 H1
                        rw [HBC.out]
                        go_wp2_with fail
                        go_roundw
                        case rel => exact ⟨j + 1, by omega, by go_num, H2⟩
                        case measure => simp [intOf]; omega
                      · have HAC := hid (prec_trans HM.out.1 HAB.out hbc)
                        have HBC := hid hbc
                        clear hbc
                        go_wp2_with fail
                        clear hix
                        refine (prec_any _ _ H.mutLt B2 m2 d2 l2 (let5 k) (let5 i) (H.ro 0 rfl) (by omega)).mono ?_
                        rintro e w1 ⟨rfl, b1⟩
                        have H1 := H.call b1
                        clear b1 H
                        rw [HAB.out]
                        go_wp2_with fail
                        refine (prec_any _ _ H1.mutLt B2 m2 d2 l2 (let5 i) (let5 j) (H1.ro 0 rfl) (by omega)).mono ?_
                        rintro e w2 ⟨rfl, b2⟩
                        have H2 := H1.call b2
                        clear b2 H1
                        rw [HBC.out]
                        go_wp2_with fail
                        refine (prec_any _ _ H2.mutLt B2 m2 d2 l2 (let5 k) (let5 j) (H2.ro 0 rfl) (by omega)).mono ?_
                        rintro e w3 ⟨rfl, b3⟩
                        have H3 := H2.call b3
                        clear b3 H2
                        rw [HAC.out]
                        go_wp2_with fail
                        go_roundw
                        case rel => exact ⟨j + 1, by omega, by go_num, H3⟩
                        case measure => simp [intOf]; omega
                  · obtain rfl : j = 5 := by omega
                    have hd : decide (((5 : Nat) : Int) < 5) = false := by decide
                    go_wp2_with fail
                    refine (oremove_any _ _ H.mutLt B2 m2 d2 l2 oc (H.ro 0 rfl) (by omega)).mono ?_
                    rintro e w8 ⟨D, m8, d8, rfl, h81, h82, h83, r8, b8⟩
                    have K8 := (H.call b8).add r8
                    have hm8 : m8 ≤ 1000000 := by
                      have h1 : (remL l2 oc).length ≤ l2.length := List.length_filter_le _ _
                      have := HN5.out
                      omega
                    clear H b8 r8 h81 hd
                    go_wp2_with fail
                    refine (prec_any _ _ K8.mutLt D m8 d8 (remL l2 oc) (let5 k) (let5 i) (K8.ro 0 rfl) (by omega)).mono ?_
                    rintro e w9 ⟨rfl, b9⟩
                    have K9 := K8.call b9
                    clear b9 K8
                    rw [prec_rem]
                    go_wp2_with fail
                    refine (prec_any _ _ K9.mutLt B2 m2 d2 l2 (let5 k) (let5 i) (K9.ro 1 rfl) (by omega)).mono ?_
                    rintro e wa ⟨rfl, ba⟩
                    have Ka := K9.call ba
                    clear ba K9
                    have HVR := hid (rem_valid HM.out.1 oc)
                    have HOR : Hid (∀ x ∈ remL l2 oc, x.ok) := hid fun x hx => names5_ok HM.out.2.1 x (remL_mem.1 hx).1
                    generalize precB l2 (let5 k) (let5 i) = pab
                    cases pab
                    · have hpr : (false && ((let5 k).toList != oc.toList) && ((let5 i).toList != oc.toList)) = false := by simp
                      rw [hpr]
                      clear hpr
                      go_wp2_with fail
                      refine (ovalid_any _ _ Ka.mutLt D m8 d8 (remL l2 oc) (Ka.ro 0 rfl) hm8 HOR.out).mono ?_
                      rintro e wb ⟨rfl, bb⟩
                      have Kb := Ka.call bb
                      clear bb Ka
                      rw [HVR.out]
                      go_wp2_with fail
                      go_roundw
                      case rel => exact ⟨i + 1, by omega, by go_num, Kb.drop (List.sublist_cons_self _ _)⟩
                      case measure => simp [intOf]; omega
                    · by_cases hu : (let5 k).toList = oc.toList
                      · have hu2 : ((let5 k).toList != oc.toList) = false := by simp [hu]
                        have hu3 : ((let5 k).toList == oc.toList) = true := by simp [hu]
                        have hpr : (true && ((let5 k).toList != oc.toList) && ((let5 i).toList != oc.toList)) = false := by rw [hu2]; rfl
                        rw [hpr]
                        clear hpr
                        go_wp2_with fail
                        refine (ovalid_any _ _ Ka.mutLt D m8 d8 (remL l2 oc) (Ka.ro 0 rfl) hm8 HOR.out).mono ?_
                        rintro e wb ⟨rfl, bb⟩
                        have Kb := Ka.call bb
                        clear bb Ka
                        rw [HVR.out]
                        go_wp2_with fail
                        go_roundw
                        case rel => exact ⟨i + 1, by omega, by go_num, Kb.drop (List.sublist_cons_self _ _)⟩
                        case measure => simp [intOf]; omega
                      · have hu2 : ((let5 k).toList != oc.toList) = true := by simp [hu]
                        have hu3 : ((let5 k).toList == oc.toList) = false := by simp [hu]
                        by_cases hv : (let5 i).toList = oc.toList
                        · have hv2 : ((let5 i).toList != oc.toList) = false := by simp [hv]
                          have hv3 : ((let5 i).toList == oc.toList) = true := by simp [hv]
                          have hpr : (true && ((let5 k).toList != oc.toList) && ((let5 i).toList != oc.toList)) = false := by rw [hu2, hv2]; rfl
                          rw [hpr]
                          clear hpr
                          go_wp2_with fail
                          refine (ovalid_any _ _ Ka.mutLt D m8 d8 (remL l2 oc) (Ka.ro 0 rfl) hm8 HOR.out).mono ?_
                          rintro e wb ⟨rfl, bb⟩
                          have Kb := Ka.call bb
                          clear bb Ka
                          rw [HVR.out]
                          go_wp2_with fail
                          go_roundw
                          case rel => exact ⟨i + 1, by omega, by go_num, Kb.drop (List.sublist_cons_self _ _)⟩
                          case measure => simp [intOf]; omega
                        · have hv2 : ((let5 i).toList != oc.toList) = true := by simp [hv]
                          have hv3 : ((let5 i).toList == oc.toList) = false := by simp [hv]
                          have hpr : (true && ((let5 k).toList != oc.toList) && ((let5 i).toList != oc.toList)) = true := by rw [hu2, hv2]; rfl
                          rw [hpr]
                          clear hpr
                          go_wp2_with fail
                          refine (ovalid_any _ _ Ka.mutLt D m8 d8 (remL l2 oc) (Ka.ro 0 rfl) hm8 HOR.out).mono ?_
                          rintro e wb ⟨rfl, bb⟩
                          have Kb := Ka.call bb
                          clear bb Ka
                          rw [HVR.out]
                          go_wp2_with fail
                          go_roundw
                          case rel => exact ⟨i + 1, by omega, by go_num, Kb.drop (List.sublist_cons_self _ _)⟩
                          case measure => simp [intOf]; omega
          · obtain rfl : i = 5 := by omega
            have hd : decide (((5 : Nat) : Int) < 5) = false := by decide
            go_wp2_with fail
            go_roundw
            case rel => exact ⟨k + 1, by omega, by go_num, H⟩
            case measure => simp [intOf]; omega
      · obtain rfl : k = 5 := by omega
        have hd : decide (((5 : Nat) : Int) < 5) = false := by decide
        go_wp2_with fail
        refine (known18 _).mono ?_
        rintro e wz ⟨rfl, bz⟩
        have Kz := H.call bz
        go_wp2_with fail
        go_ret
        exact ⟨rfl, Kz.below⟩
end Go.Proofs.YtkjnoekclfdjiaaDoor

namespace Go.Proofs.YtkjnoekclfdjiaaDoor
open Go.ChangeShapes Go.WideShapes Go.ChangeAt Go.RowKit
set_option linter.unusedVariables false
set_option linter.unusedSimpArgs false

namespace LawOrderStrict
set_option maxRecDepth 100000 in
theorem contract (H : Type) (enc : TypeId × Value → H) (W : World) (base : Nat) (args : Array Value) (ds gs : List (DataW H)) (before : List MemPlace)
    (hval0 : ∀ (j : Nat) t v, Tryd.f3.params[j]? = some t → args[j]? = some v → Value.okWide Tryd.prog W .any base t v)
    (hsz0 : (DataW.weightsEach Tryd.prog (Tryd.f3.params.toList ++ Rows.orderStrictSpec.plain.varTypes Tryd.prog) (ds ++ gs)).all (· ≤ reachBytes) = true)
    (hW : DataW.Whole enc Tryd.prog Tryd.f3.params.toList Rows.orderStrictSpec.vars false W args.toList ds gs before) (hL : laidMetH Tryd.prog Rows.orderStrictRow.laid W) (hsh : W.ShapedOpen Tryd.prog) :
    Calls Tryd.prog 3 args W fun e W' => ∃ v, e = .returned v ∧ Rows.orderStrictSpec.post enc Tryd.prog Tryd.f3 false true false false W args v W' := by
  have hsz : (DataW.weightsEach Tryd.prog (Tryd.f3.params.toList ++ Rows.orderStrictSpec.plain.varTypes Tryd.prog) (ds ++ gs)).all (· ≤ reachBytes) = true := hsz0
  have hval : ∀ (j : Nat) t v, Tryd.f3.params[j]? = some t → args[j]? = some v → Value.okWide Tryd.prog W .any base t v := hval0
  have hW' := hW
  obtain ⟨p, q, hA0, hV, rfl, hfz, hnd⟩ := hW
  have hA : DataW.TrodAll enc Tryd.prog W 0 (fun _ => true) true Tryd.f3.params.toList args.toList ds p := hA0
  rw [Tryd.params3] at hA hval hsz
  obtain ⟨v0, vs0, d0, ds0, p0, q0, hargs, rfl, rfl, h0, r0⟩ := trodAll_cons hA
  obtain ⟨rfl, rfl, rfl⟩ := trodAll_nil r0
  obtain rfl : args = #[v0] := by cases args; simp_all
  obtain ⟨rfl, rfl⟩ := trodVars_none hV
  obtain ⟨A0, n0, c0, zs0, rfl, k0, z0, l0, m0, e0⟩ := open_i64s Tryd.underlying22 Tryd.underlying3 (by kernel_rfl) (hval 0 22 v0 rfl rfl) h0
  refine (orderStrict_walk A0 n0 c0 zs0 W k0 z0 l0 (by unfold maxLen at m0; omega) (lts_of_laid (rest := []) hL)).mono fun e W' ⟨he, hb⟩ => ?_
  exact ⟨_, he, law_post rfl laidOut (by kernel_rfl) (by kernel_rfl) Tryd.underlying4 rfl hW' hb⟩

theorem laid_met (os : Os) : laidMet Tryd.prog Rows.orderStrictRow.laid ((letsWorld os).forCall (fun _ _ => 0) ⟨#[], #[.slice none 0 0], []⟩).memory :=
  laidMet_of_run' 16 (by kernel_rfl) (by kernel_rfl)
theorem reads (os : Os) {H : Type} (enc : TypeId × Value → H) : ∃ places, DataW.whole enc Tryd.prog ((letsWorld os).forCall (fun _ _ => 0) ⟨#[], #[.slice none 0 0], []⟩).memory Tryd.f3.params.toList Rows.orderStrictSpec.vars false #[.slice none 0 0].toList 8 = some ([.nil], [], places) :=
  ⟨[], by kernel_rfl⟩

set_option maxRecDepth 100000 in
theorem lifted (os : Os) (started : os.Started) (H : Type) (enc : TypeId × Value → H) (F : Stop.Interp) :
    ReturnsInHanded {} Tryd.checked os 3 .any ((OpenSpec.ofChange Rows.orderStrictSpec).preRow enc Tryd.prog Tryd.f3 Rows.orderStrictRow.domain false Rows.orderStrictRow.laid) (((OpenSpec.ofChange Rows.orderStrictSpec).at F).post enc Tryd.prog Tryd.f3 false true false false) := by
  obtain ⟨places, hx⟩ := reads os enc
  refine returnsInHanded_of_row (C := Tryd.checked) (s := OpenSpec.ofChange Rows.orderStrictSpec) own started (by kernel_rfl) Tryd.func3
    (witness_row_at (enc := enc) (C := Tryd.checked) false (letsWorld os) #[.slice none 0 0] rfl (by kernel_rfl) (by kernel_rfl) (by kernel_rfl)
      (OpenSpec.preRow_of_cond 8 hx (by kernel_rfl) (fun k hk => by cases hk) (by kernel_rfl) (laid_met os))) ?_
  intro W base args ds gs before hval hW _ _ hsz0 hL hsh _
  exact contract H enc W base args ds gs before hval hsz0 hW hL hsh

theorem said : Rows.OrderStrictSaid :=
  OpenClaim.holds_of_cond 3 Tryd.f3 rfl rfl rfl rfl rfl rfl rfl ⟨rfl, rfl, rfl, rfl, rfl⟩ rfl rfl rfl rfl rfl (by kernel_rfl) Tryd.func3 (by kernel_rfl)
    (of_decide_eq_true (by kernel_rfl)) (by unfold Func.isWrapper; first | (rw [if_pos (by decide +kernel)]; kernel_rfl) | (rw [if_neg (by decide +kernel)]; exact ⟨rfl, rfl⟩))
    (fun os started H enc _ F => by rw [OpenClaim.pre_eq_preRow]; exact lifted os started H enc F)

theorem plain (f : FuncId) (fn : Func) (hf : Tryd.pinned.checked.prog.funcNamed "triggerstore/triggerstorelaw18.OrderStrict" = some f) (hfn : Tryd.pinned.checked.prog.funcs[f]? = some fn) :
    false = Tryd.pinned.checked.prog.looks [] ∧ ∀ (j : Nat) t, fn.params[j]? = some t → Tryd.pinned.checked.prog.wantsStandIn t = false := by
  obtain rfl : f = 3 := Option.some.inj ((show Tryd.prog.funcNamed "triggerstore/triggerstorelaw18.OrderStrict" = some 3 by kernel_rfl).symm.trans hf) |>.symm
  obtain rfl : fn = Tryd.f3 := (Option.some.inj (Tryd.func3.symm.trans hfn)).symm
  refine ⟨by kernel_rfl, fun j t ht => ?_⟩
  rw [Tryd.params3] at ht
  have hm := Array.mem_of_getElem? ht
  simp only [List.mem_toArray, List.mem_cons, List.not_mem_nil, or_false] at hm
  subst hm
  · exact (show Tryd.prog.wantsStandIn 22 = false by kernel_rfl)
end LawOrderStrict

theorem orderStrict_holds : Rows.OrderStrictCardSaid :=
  Claim7.holds_tied_plain_at .later [] _ _ _ _ LawOrderStrict.said (fun _ h => by cases h) (by kernel_rfl) (fun _ h => by cases h) orderStrict_row_tie rfl ⟨rfl, rfl⟩ (by kernel_rfl) rfl LawOrderStrict.plain (by kernel_rfl)
#print axioms orderStrict_holds
end Go.Proofs.YtkjnoekclfdjiaaDoor

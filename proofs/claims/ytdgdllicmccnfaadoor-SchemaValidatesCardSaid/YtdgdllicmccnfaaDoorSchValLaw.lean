/- SchemaValidates: the walk of the statement's own function. -/
import Derived.Test.YtdgdllicmccnfaaDoorKnown4
import Derived.Test.YtdgdllicmccnfaaDoorSpoiled
namespace Go.Proofs.YtdgdllicmccnfaaDoor
open Go.RowKit
set_option linter.unusedVariables false
set_option linter.unusedSimpArgs false

/-- A schema in memory: its name, where its columns lie, its columns. -/
structure Sc where
  nm : ByteArray
  A : Option Addr
  n : Nat
  c : Nat
  l : List Col
def ScAt (g k : Nat) (s : Sc) (w : World) : Prop := w.cell? ⟨g, k * 2, none⟩ = some (.string s.nm) ∧ w.cell? ⟨g, k * 2 + 1, none⟩ = some (.slice s.A s.n s.c) ∧ SlR 4 s.A s.n (colCells s.l) w
def ScOk (s : Sc) : Prop := s.n ≤ 9223372036854775807 ∧ s.nm.size ≤ maxLen ∧ ∀ x ∈ s.l, x.name.size ≤ maxLen
def ScsAt (g : Nat) (D : Nat → Sc) (w : World) : Prop := ∀ k, k < 4 → ScAt g k (D k) w
theorem scs_4 {w : World} {M : Nat → Prop} {g : Nat} {t : TypeId} {s0 s1 s2 s3 : Sc}
    (h : Ro w M (fun w => w.heap[g]? = some (.cells #[.string s0.nm, .slice s0.A s0.n s0.c, .string s1.nm, .slice s1.A s1.n s1.c, .string s2.nm, .slice s2.A s2.n s2.c, .string s3.nm, .slice s3.A s3.n s3.c] t (0, 0))))
    (r0 : Ro w M (SlR 4 s0.A s0.n (colCells s0.l))) (r1 : Ro w M (SlR 4 s1.A s1.n (colCells s1.l))) (r2 : Ro w M (SlR 4 s2.A s2.n (colCells s2.l))) (r3 : Ro w M (SlR 4 s3.A s3.n (colCells s3.l)))
    (k0 : ScOk s0) (k1 : ScOk s1) (k2 : ScOk s2) (k3 : ScOk s3) : ∃ D : Nat → Sc, Ro w M (ScsAt g D) ∧ ∀ k, k < 4 → ScOk (D k) := by
  refine ⟨fun k => if k = 0 then s0 else if k = 1 then s1 else if k = 2 then s2 else s3, ?_, fun k hk => ?_⟩
  · refine ((h.and (r0.and r1)).and (r2.and r3)).imp fun w2 ⟨⟨hh, q0, q1⟩, q2, q3⟩ k hk => ?_
    have hb : Blk w2 g t _ := hh
    obtain rfl | rfl | rfl | rfl : k = 0 ∨ k = 1 ∨ k = 2 ∨ k = 3 := by omega
    · exact ⟨hb.cell 0, hb.cell 1, q0⟩
    · exact ⟨hb.cell 2, hb.cell 3, q1⟩
    · exact ⟨hb.cell 4, hb.cell 5, q2⟩
    · exact ⟨hb.cell 6, hb.cell 7, q3⟩
  · obtain rfl | rfl | rfl | rfl : k = 0 ∨ k = 1 ∨ k = 2 ∨ k = 3 := by omega
    · exact k0
    · exact k1
    · exact k2
    · exact k3
theorem twoc {w : World} {a : Nat} {t : TypeId} {x0 x1 : Value} (ha : Blk w a t #[x0, x1]) : w.cell? ⟨a, 0, none⟩ = some x0 ∧ w.cell? ⟨a, 1, none⟩ = some x1 := ⟨ha.cell 0, ha.cell 1⟩
theorem twotwo {w : World} {a b : Nat} {t t' : TypeId} {x0 x1 y0 y1 : Value} (ha : Blk w a t #[x0, x1]) (hb : Blk w b t' #[y0, y1]) : w.cell? ⟨a, 0, none⟩ = some x0 ∧ w.cell? ⟨a, 1, none⟩ = some x1 ∧ w.cell? ⟨b, 0, none⟩ = some y0 ∧ w.cell? ⟨b, 1, none⟩ = some y1 := ⟨ha.cell 0, ha.cell 1, hb.cell 0, hb.cell 1⟩
theorem twofour {w : World} {a b : Nat} {t t' : TypeId} {x0 x1 y0 y1 y2 y3 : Value} (ha : Blk w a t #[x0, x1]) (hb : Blk w b t' #[y0, y1, y2, y3]) : w.cell? ⟨a, 0, none⟩ = some x0 ∧ w.cell? ⟨a, 1, none⟩ = some x1 ∧ w.cell? ⟨b, 0, none⟩ = some y0 := ⟨ha.cell 0, ha.cell 1, hb.cell 0⟩
theorem mut_tp {M : Nat → Prop} {L : List Hp} {T i : Nat} (h : L[i]? = some (.tp T)) : ∀ b, Mut (Mut M L) [.tp T] b → Mut M L b := by
  rintro b (hb | ⟨k, hk, hf⟩)
  · exact hb
  · simp only [List.mem_singleton] at hk
    subst hk
    exact .inr ⟨_, List.mem_of_getElem? h, hf⟩

set_option maxHeartbeats 8000000 in
theorem schvals_walk (nm0 : ByteArray) (A0 : Option Addr) (n0 c0 : Nat) (l0 : List Col) (s : ByteArray) (A : Option Addr) (n c : Nat) (zs : List Int) (w : World) (h0 : Rd w w.heap.size 4 A0 n0 (colCells l0)) (k0 : ScOk ⟨nm0, A0, n0, c0, l0⟩)
    (hr : Rd w w.heap.size 1 A n (zs.map (Value.int .i64))) (hz : Ints zs) (hn : n ≤ c) (hc : c ≤ 9223372036854775807) (hw : Nms w) :
    Calls Tryd.prog 3 #[.agg #[.string nm0, .slice A0 n0 c0], .slice A n c, .string s] w fun e w' => e = .returned (.bool true) ∧ Below w.heap.size w w' := by
  have hwl := hw.lt
  have K0 := Hold.begin_ w
  go_enter Tryd.func3, Tryd.ntmps3
  go_wp2_with fail
  refine (new_any A n c zs _ ((hr.alloc (Nat.le_refl _) _).more (by simp)) hz hn hc).mono ?_
  rintro e w1 ⟨T, rfl, hT, t1, b1⟩
  have K1 := Hold.newTape (K0.alloc_cst _ _) b1 t1 hT (by simp [Mut, None_, Hp.foot])
  have wd0 : Nms w1 := (hw.below (ext1 w _) hwl).below b1 (by simp)
  have hT0 : w.heap.size + 1 ≤ T := by simpa using hT
  have hT1 : 0 < T := by omega
  have hR1 : Rd w1 w.heap.size 4 A0 n0 (colCells l0) := (h0.alloc (Nat.le_refl _) _).below b1 (by simp)
  have hmT : ∀ b, b < T → ¬ Mut None_ [.tp T, .cst w.heap.size 24 #[.string nm0, .slice A0 n0 c0]] b := fun b hb => by simp [Mut, None_, Hp.foot]; omega
  have K2 := (K1.add (wd0.ro (hmT _ hT1))).add (Ro.less (hR1.ro (by have := b1.size; simp at this; omega) fun b hb => hmT b (by omega)) (mut_none rfl))
  clear K1 K0 wd0 t1 b1 hw hr hR1 hmT h0
  go_wp2_with fail
  refine (anyschema_any (Mut None_ _) T _ K2.mutLt (K2.tp_ 2 rfl) (K2.get 2 rfl).2 (K2.ro 1 rfl).now hT1).mono ?_
  rintro e w2 ⟨nm1, A1, n1, c1, l1, rfl, hv1, hs1, hx1, h51, hc1, hc63, r1, t2, g2⟩
  have K4 := ((Hold.callT K2 2 rfl g2 t2).add r1).alloc_cst #[.string nm1, .slice A1 n1 c1] 24
  have HL1 := hid (RdC.of_sl r1.now).len
  have hn11 : 1 ≤ n1 := by
    have h := hv1
    simp only [schemaB, Bool.and_eq_true, decide_eq_true_eq] at h
    have := HL1.out; omega
  have HV1 := hid hv1
  clear K2 g2 t2 r1 hv1
  go_wp2_with fail
  go_region_held3 (fun w' => w'.cell? ⟨w.heap.size, 0, none⟩ = some (.string nm0) ∧ w'.cell? ⟨w.heap.size, 1, none⟩ = some (.slice A0 n0 c0) ∧ w'.cell? ⟨w2.heap.size, 0, none⟩ = some (.string nm1) ∧ w'.cell? ⟨w2.heap.size, 1, none⟩ = some (.slice A1 n1 c1))
    (first | (have hk_ := twotwo (K4.drew.cst_ 5 rfl) (K4.drew.cst_ 0 rfl); with_reducible exact hk_) | (have hk_ := twotwo (K5.cst_ 6 rfl) (K5.cst_ 1 rfl); with_reducible exact hk_) | (have hk_ := twotwo (K6.cst_ 7 rfl) (K6.cst_ 2 rfl); with_reducible exact hk_) | (have hk_ := twotwo ((K6.cst_ 7 rfl).alloc (.cells #[.string nm0, .slice A0 n0 c0, .string nm1, .slice A1 n1 c1, .string nm5, .slice A5 n5 c5, .string nm6, .slice A6 n6 c6] 24)) ((K6.cst_ 2 rfl).alloc (.cells #[.string nm0, .slice A0 n0 c0, .string nm1, .slice A1 n1 c1, .string nm5, .slice A5 n5 c5, .string nm6, .slice A6 n6 c6] 24)); with_reducible exact hk_))
    (first
      | (have ht_ := spoiled_any (Mut None_ _) T nm1 A1 n1 c1 l1 _ K4.drew.mutLt (K4.drew.tp_ 4 rfl) (K4.drew.get 4 rfl).2 ((K4.drew.ro 1 rfl).less (mut_tp (i := 4) rfl)) hn11 h51 hc1 hs1 hx1; go_at_call 10; ((with_reducible refine ht_.mono ?_); clear ht_; rintro e w5 ⟨nm5, A5, n5, c5, l5, rfl, hs5, hx5, h55, hc5, r5, t5, g5⟩; have K5 := (Hold.callT K4.drew 4 rfl g5 t5).add r5))
      | (have ht_ := spoiled_any (Mut None_ _) T nm1 A1 n1 c1 l1 _ K5.mutLt (K5.tp_ 5 rfl) (K5.get 5 rfl).2 ((K5.ro 2 rfl).less (mut_tp (i := 5) rfl)) hn11 h51 hc1 hs1 hx1; go_at_call 10; ((with_reducible refine ht_.mono ?_); clear ht_; rintro e w6 ⟨nm6, A6, n6, c6, l6, rfl, hs6, hx6, h56, hc6, r6, t6, g6⟩; have K6 := (Hold.callT K5 5 rfl g6 t6).add r6)))
  have K7 := K6.alloc_cst #[.string nm0, .slice A0 n0 c0, .string nm1, .slice A1 n1 c1, .string nm5, .slice A5 n5 c5, .string nm6, .slice A6 n6 c6] 24
  obtain ⟨D, hD, hOk⟩ := scs_4 (s0 := ⟨nm0, A0, n0, c0, l0⟩) (s1 := ⟨nm1, A1, n1, c1, l1⟩) (s2 := ⟨nm5, A5, n5, c5, l5⟩) (s3 := ⟨nm6, A6, n6, c6, l6⟩) (K7.get 0 rfl) (K7.ro 5 rfl) (K7.ro 4 rfl) (K7.ro 2 rfl) (K7.ro 1 rfl) k0
    ⟨by show n1 ≤ _; omega, by show nm1.size ≤ _; unfold maxLen; omega, fun x hx => by have := hx1 x hx; unfold maxLen; omega⟩
    ⟨by show n5 ≤ _; omega, by show nm5.size ≤ _; unfold maxLen; omega, fun x hx => by have := hx5 x hx; unfold maxLen; omega⟩
    ⟨by show n6 ≤ _; omega, by show nm6.size ≤ _; unfold maxLen; omega, fun x hx => by have := hx6 x hx; unfold maxLen; omega⟩
  have KP := (K7.add hD).drop (L' := [.ro (ScsAt w6.heap.size D), .cst w2.heap.size 24 #[.string nm1, .slice A1 n1 c1], .ro (SlR 4 A1 n1 (colCells l1))])
    (List.Sublist.cons_cons _ (List.Sublist.cons _ (List.Sublist.cons _ (List.Sublist.cons _ (List.Sublist.cons_cons _ (List.Sublist.cons_cons _ (List.nil_sublist _)))))))
  clear K7 K6 K5 K4 hD
  go_wp2_with fail
  go_loopw [27] (fun i wr => ∃ k : Nat, k ≤ 4 ∧ i = .int .i64 k ∧ Hold None_ none w wr [.ro (ScsAt w6.heap.size D), .cst w2.heap.size 24 #[.string nm1, .slice A1 n1 c1], .ro (SlR 4 A1 n1 (colCells l1))]) (fun i _ => 4 - (intOf i).toNat)
  case atStart => exact ⟨0, by omega, rfl, KP⟩
  case round =>
    obtain ⟨k, hk, rfl, H⟩ := hrel
    obtain ⟨wo, rfl⟩ : ∃ wo : World, wo = wr := ⟨_, rfl⟩
    by_cases hlt : k < 4
    · have hd : decide ((k : Int) < 4) = true := by simp; omega
      obtain ⟨d0, d1, _⟩ := (H.ro 0 rfl).now k hlt
      have hX := (H.ro 0 rfl).imp (fun w2 h2 => (h2 k hlt).2.2)
      have hOkk := hOk k hlt
      obtain ⟨sc, hsc⟩ : ∃ sc, sc = D k := ⟨_, rfl⟩
      rw [← hsc] at d0 d1 hX hOkk
      clear hsc
      obtain ⟨nm, B, m, cc, l⟩ := sc
      simp only at d0 d1 hX hOkk
      obtain ⟨q1, q2, q3⟩ := hOkk
      have KA := (H.add hX).alloc_cst #[.string nm, .slice B m cc] 24
      have HLX := hid (RdC.of_sl hX.now).len
      go_wp2_with fail
      clear d0 d1
      go_region_held3 (fun w' => w'.cell? ⟨wo.heap.size, 0, none⟩ = some (.string nm) ∧ w'.cell? ⟨wo.heap.size, 1, none⟩ = some (.slice B m cc))
        (first | (have hk_ := twoc (KA.drew.cst_ 0 rfl); with_reducible exact hk_) | (have hk_ := twoc (K11.cst_ 0 rfl); with_reducible exact hk_) | (have hk_ := twoc (K12.cst_ 0 rfl); with_reducible exact hk_) | (have hk_ := twoc (K13.cst_ 0 rfl); with_reducible exact hk_) | (have hk_ := twoc (K14.cst_ 0 rfl); with_reducible exact hk_) | (have hk_ := twoc (K15.cst_ 0 rfl); with_reducible exact hk_) | (have hk_ := twoc (K16.cst_ 0 rfl); with_reducible exact hk_))
        (first
          | (go_at_call 11; refine (svalid_any (Mut None_ _) _ KA.drew.mutLt nm B m cc l (KA.drew.ro 1 rfl) q1 q2 q3).mono ?_; rintro e w11 ⟨rfl, b11⟩; have K11 := Hold.call KA.drew b11)
          | (go_at_call 12; refine (rsvalid_any (Mut None_ _) _ K11.mutLt nm B m cc l (K11.ro 1 rfl) q1 q2 q3).mono ?_; rintro e w12 ⟨rfl, b12⟩; have K12 := Hold.call K11 b12)
          | (go_at_call 13; refine (keycol_any (Mut None_ _) _ K12.mutLt nm B m cc l (K12.ro 1 rfl) q1).mono ?_; rintro e w13 ⟨rfl, b13⟩; have K13 := Hold.call K12 b13)
          | (go_at_call 14; refine (rkeycol_any (Mut None_ _) _ K13.mutLt nm B m cc l (K13.ro 1 rfl) q1).mono ?_; rintro e w14 ⟨rfl, b14⟩; have K14 := Hold.call K13 b14)
          | (go_at_call 15; refine (find_any (Mut None_ _) _ K14.mutLt nm B m cc l s (K14.ro 1 rfl) q1).mono ?_; rintro e w15 ⟨rfl, b15⟩; have K15 := Hold.call K14 b15)
          | (go_at_call 16; refine (rfind_any (Mut None_ _) _ K15.mutLt nm B m cc l s (K15.ro 1 rfl) q1).mono ?_; rintro e w16 ⟨rfl, b16⟩; have K16 := Hold.call K15 b16))
      have F16 := K16.facts
      simp only [World.size_alloc, World.size_drew, factsL, cellsF, Nat.reduceAdd, List.toList_toArray, and_true, true_and] at F16
      clear KA K11 K12 K13 K14 K15
      go_wp2_with fail
      go_loopw [55] (fun j wq => ∃ i : Nat, i ≤ m ∧ j = .int .i64 i ∧ Hold None_ none w wq [.cst wo.heap.size 24 #[.string nm, .slice B m cc], .ro (SlR 4 B m (colCells l)), .ro (ScsAt w6.heap.size D), .cst w2.heap.size 24 #[.string nm1, .slice A1 n1 c1], .ro (SlR 4 A1 n1 (colCells l1))]) (fun j _ => m - (intOf j).toNat)
      case atStart => exact ⟨0, by omega, rfl, K16⟩
      case round =>
        obtain ⟨i, hi, rfl, H2⟩ := hrel
        by_cases hlt2 : i < m
        · have hd2 : decide ((i : Int) < (m : Int)) = true := by simp; omega
          obtain ⟨x, hx⟩ := get_col HLX.out hlt2
          obtain ⟨b, o, rfl, hb, e0, e1, e2, e3⟩ := (RdC.of_sl (H2.ro 1 rfl).now).at_ hx
          obtain ⟨xn, xt, xnn, xk⟩ := x
          clear hx
          simp only at e0 e1 e2 e3
          have KB := H2.alloc_cst #[.string xn, .int .i64 xt, .bool xnn, .bool xk] 35
          go_wp2_with fail
          clear e0 e1 e2 e3
          go_region_held3 (fun w' => w'.cell? ⟨wo.heap.size, 0, none⟩ = some (.string nm) ∧ w'.cell? ⟨wo.heap.size, 1, none⟩ = some (.slice (some ⟨b, o, none⟩) m cc) ∧ w'.cell? ⟨wr.heap.size, 0, none⟩ = some (.string xn))
            (first | (have hk_ := twofour (KB.drew.cst_ 1 rfl) (KB.drew.cst_ 0 rfl); with_reducible exact hk_) | (have hk_ := twofour (K21.cst_ 1 rfl) (K21.cst_ 0 rfl); with_reducible exact hk_) | (have hk_ := twofour (K22.cst_ 1 rfl) (K22.cst_ 0 rfl); with_reducible exact hk_))
            (first
              | (go_at_call 15; refine (find_any (Mut None_ _) _ KB.drew.mutLt nm _ m cc l xn (KB.drew.ro 2 rfl) q1).mono ?_; rintro e w21 ⟨rfl, b21⟩; have K21 := Hold.call KB.drew b21)
              | (go_at_call 16; refine (rfind_any (Mut None_ _) _ K21.mutLt nm _ m cc l xn (K21.ro 2 rfl) q1).mono ?_; rintro e w22 ⟨rfl, b22⟩; have K22 := Hold.call K21 b22))
          have KZ := K22.drop (List.sublist_cons_self _ _)
          clear K22 K21 KB H2
          go_wp2_with fail
          go_roundw
          case rel => exact ⟨i + 1, by omega, by go_num, KZ⟩
          case measure => simp [intOf]; omega
        · go_wp2_with fail
          go_roundw
          case rel => exact ⟨k + 1, by omega, by go_num, H2.drop (List.Sublist.cons _ (List.sublist_cons_self _ _))⟩
          case measure => simp [intOf]; omega
    · have FH := H.facts
      simp only [World.size_alloc, World.size_drew, factsL, cellsF, Nat.reduceAdd, List.toList_toArray, and_true, true_and] at FH
      have ho1 : nm1.size ≤ maxLen := by unfold maxLen; omega
      have ho2 : ∀ x ∈ l1, x.name.size ≤ maxLen := fun x hx => by have := hx1 x hx; unfold maxLen; omega
      have HO := hid (And.intro ho1 ho2)
      clear ho1 ho2
      go_wp2_with fail
      refine (svalid_any (Mut None_ _) _ H.mutLt nm1 A1 n1 c1 l1 (H.ro 2 rfl) (by omega) HO.out.1 HO.out.2).mono ?_
      rintro e w21 ⟨rfl, b21⟩
      rw [HV1.out]
      have K21 := H.call b21
      clear b21
      go_wp2_with fail
      refine (known4 _).mono ?_
      rintro e w22 ⟨rfl, b22⟩
      go_wp2_with fail
      go_ret
      exact ⟨rfl, (K21.call b22).below⟩
end Go.Proofs.YtdgdllicmccnfaaDoor

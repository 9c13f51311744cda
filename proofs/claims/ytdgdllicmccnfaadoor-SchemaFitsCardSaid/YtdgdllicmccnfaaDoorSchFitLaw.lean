/- SchemaFits: the walk of the statement's own function. -/
import Derived.Test.YtdgdllicmccnfaaDoorKnown4
import Derived.Test.YtdgdllicmccnfaaDoorFits
import Derived.Test.YtdgdllicmccnfaaDoorOdd
import Derived.IntWalk
namespace Go.Proofs.YtdgdllicmccnfaaDoor
open Go.RowKit
set_option linter.unusedVariables false
set_option linter.unusedSimpArgs false

theorem Wds.ro_ {w : World} {M : Nat → Prop} (h : Wds w) (hM : ¬ M 1) : Ro w M Wds := fun w2 _ h2 => h.keep (h2 _ h.lt hM)
def VlsAt (g n : Nat) (w : World) : Prop := ∀ k, k < n → ∃ (x i : Int) (s : ByteArray), s.size ≤ maxLen ∧ w.cell? ⟨g, k * 3, none⟩ = some (.int .i64 x) ∧ w.cell? ⟨g, k * 3 + 1, none⟩ = some (.int .i64 i) ∧ w.cell? ⟨g, k * 3 + 2, none⟩ = some (.string s)
theorem vlsAt_5 {w : World} {g : Nat} {t : TypeId} {x0 x1 x2 x3 x4 i0 i1 i2 i3 i4 : Int} {s0 s1 s2 s3 s4 : ByteArray}
    (h0 : s0.size ≤ maxLen) (h1 : s1.size ≤ maxLen) (h2 : s2.size ≤ maxLen) (h3 : s3.size ≤ maxLen) (h4 : s4.size ≤ maxLen)
    (h : w.heap[g]? = some (.cells #[.int .i64 x0, .int .i64 i0, .string s0, .int .i64 x1, .int .i64 i1, .string s1, .int .i64 x2, .int .i64 i2, .string s2, .int .i64 x3, .int .i64 i3, .string s3, .int .i64 x4, .int .i64 i4, .string s4] t (0, 0))) : VlsAt g 5 w := by
  have hb : Blk w g t _ := h
  intro k hk
  obtain rfl | rfl | rfl | rfl | rfl : k = 0 ∨ k = 1 ∨ k = 2 ∨ k = 3 ∨ k = 4 := by omega
  · exact ⟨_, _, _, h0, hb.cell 0, hb.cell 1, hb.cell 2⟩
  · exact ⟨_, _, _, h1, hb.cell 3, hb.cell 4, hb.cell 5⟩
  · exact ⟨_, _, _, h2, hb.cell 6, hb.cell 7, hb.cell 8⟩
  · exact ⟨_, _, _, h3, hb.cell 9, hb.cell 10, hb.cell 11⟩
  · exact ⟨_, _, _, h4, hb.cell 12, hb.cell 13, hb.cell 14⟩
def ColsAt (g n : Nat) (w : World) : Prop := ∀ k, k < n → ∃ (nm : ByteArray) (ty : Int) (nn key : Bool), w.cell? ⟨g, k * 4, none⟩ = some (.string nm) ∧ w.cell? ⟨g, k * 4 + 1, none⟩ = some (.int .i64 ty) ∧ w.cell? ⟨g, k * 4 + 2, none⟩ = some (.bool nn) ∧ w.cell? ⟨g, k * 4 + 3, none⟩ = some (.bool key)
theorem colsAt_2 {w : World} {g : Nat} {t : TypeId} {n0 n1 : ByteArray} {t0 t1 : Int} {b0 b1 k0 k1 : Bool}
    (h : w.heap[g]? = some (.cells #[.string n0, .int .i64 t0, .bool b0, .bool k0, .string n1, .int .i64 t1, .bool b1, .bool k1] t (0, 0))) : ColsAt g 2 w := by
  have hb : Blk w g t _ := h
  intro k hk
  obtain rfl | rfl : k = 0 ∨ k = 1 := by omega
  · exact ⟨_, _, _, _, hb.cell 0, hb.cell 1, hb.cell 2, hb.cell 3⟩
  · exact ⟨_, _, _, _, hb.cell 4, hb.cell 5, hb.cell 6, hb.cell 7⟩
theorem four_ {w : World} {a : Nat} {t : TypeId} {x0 x1 x2 x3 : Value} (ha : Blk w a t #[x0, x1, x2, x3]) :
    w.cell? ⟨a, 0, none⟩ = some x0 ∧ w.cell? ⟨a, 1, none⟩ = some x1 ∧ w.cell? ⟨a, 2, none⟩ = some x2 ∧ w.cell? ⟨a, 3, none⟩ = some x3 := ⟨ha.cell 0, ha.cell 1, ha.cell 2, ha.cell 3⟩
theorem three1 {w : World} {a b : Nat} {t t' : TypeId} {x0 x1 x2 y0 y1 y2 y3 : Value} (ha : Blk w a t #[x0, x1, x2]) (hb : Blk w b t' #[y0, y1, y2, y3]) :
    w.cell? ⟨a, 0, none⟩ = some x0 ∧ w.cell? ⟨a, 1, none⟩ = some x1 ∧ w.cell? ⟨a, 2, none⟩ = some x2 ∧ w.cell? ⟨b, 1, none⟩ = some y1 := ⟨ha.cell 0, ha.cell 1, ha.cell 2, hb.cell 1⟩
theorem four3 {w : World} {a b : Nat} {t t' : TypeId} {x0 x1 x2 y0 y1 y2 y3 : Value} (hb : Blk w b t' #[y0, y1, y2, y3]) (ha : Blk w a t #[x0, x1, x2]) :
    w.cell? ⟨b, 0, none⟩ = some y0 ∧ w.cell? ⟨b, 1, none⟩ = some y1 ∧ w.cell? ⟨b, 2, none⟩ = some y2 ∧ w.cell? ⟨b, 3, none⟩ = some y3 ∧ w.cell? ⟨a, 0, none⟩ = some x0 ∧ w.cell? ⟨a, 1, none⟩ = some x1 ∧ w.cell? ⟨a, 2, none⟩ = some x2 := ⟨hb.cell 0, hb.cell 1, hb.cell 2, hb.cell 3, ha.cell 0, ha.cell 1, ha.cell 2⟩
theorem size0' : (⟨#[]⟩ : ByteArray).size ≤ maxLen := by simp [maxLen]; decide

set_option maxHeartbeats 8000000 in
theorem schfits_walk (cn : ByteArray) (ct : Int) (cnn ck : Bool) (kv iv : Int) (sv : ByteArray) (hsv : sv.size ≤ maxLen) (A : Option Addr) (n c : Nat) (zs : List Int) (w : World) (hr : Rd w w.heap.size 1 A n (zs.map (Value.int .i64))) (hz : Ints zs) (hn : n ≤ c) (hc : c ≤ 9223372036854775807) (hw : Wds w) :
    Calls Tryd.prog 4 #[.agg #[.string cn, .int .i64 ct, .bool cnn, .bool ck], .agg #[.int .i64 kv, .int .i64 iv, .string sv], .slice A n c] w fun e w' => e = .returned (.bool true) ∧ Below w.heap.size w w' := by
  have hwl := hw.lt
  have K0 := Hold.begin_ w
  go_enter Tryd.func4, Tryd.ntmps4
  go_wp2_with fail
  refine (new_any A n c zs _ (((hr.alloc (Nat.le_refl _) _).alloc (by simp) _).more (by simp; omega)) hz hn hc).mono ?_
  rintro e w1 ⟨T, rfl, hT, t1, b1⟩
  have K1 := Hold.newTape ((K0.alloc_cst _ _).alloc_cst _ _) b1 t1 hT (by simp [Mut, None_, Hp.foot])
  have wd0 : Wds w1 := (hw.below (ext2 w _ _) hwl).below b1 (by simp)
  have hT1 : 1 < T := by simp at hT; omega
  have K2 := K1.add (wd0.ro_ (by simp [Mut, None_, Hp.foot]; omega))
  clear K1 K0 wd0 t1 b1 hw hr
  simp only [World.size_alloc] at K2
  go_wp2_with fail
  go_region_held3 (fun w' => w'.cell? ⟨w.heap.size, 0, none⟩ = some (.string cn) ∧ w'.cell? ⟨w.heap.size, 1, none⟩ = some (.int .i64 ct) ∧ w'.cell? ⟨w.heap.size, 2, none⟩ = some (.bool cnn) ∧ w'.cell? ⟨w.heap.size, 3, none⟩ = some (.bool ck))
    (first | exact four_ (K2.cst_ 3 rfl) | exact four_ (K3.cst_ 3 rfl) | exact four_ (K4.cst_ 3 rfl) | exact four_ ((K4.cst_ 3 rfl).alloc _))
    (first
      | (go_at_call 18; refine (next_any T 3 _ (K2.drew.tp_ 1 rfl) (by omega) (by omega)).mono ?_; rintro e w3 ⟨r, rfl, hr0, hr1, t3, g3⟩; have K3 := Hold.callT K2.drew 1 rfl g3 t3; have hw3 : IntKind.i64.wrap (1 + r) = 1 + r := IntWalk.i64_in _ (by omega))
      | (go_at_call 19; refine (bool_any T 2 _ (K3.tp_ 1 rfl) (by omega) (by omega)).mono ?_; rintro e w4 ⟨bb, rfl, t4, g4⟩; have K4 := Hold.callT K3 1 rfl g4 t4))
  have K5 := K4.alloc_cst #[.string cn, .int .i64 ct, .bool cnn, .bool ck, .string ⟨#[]⟩, .int .i64 (1 + r), .bool bb, .bool false] 35
  have hP := (show Ro _ _ (fun w => w.heap[w4.heap.size]? = some (.cells #[.string cn, .int .i64 ct, .bool cnn, .bool ck, .string ⟨#[]⟩, .int .i64 (1 + r), .bool bb, .bool false] 35 (0, 0))) from K5.get 0 rfl).imp (fun _ => colsAt_2)
  have KP := (K5.add hP).drop (L' := [.ro (ColsAt w4.heap.size 2), .ro Wds, .tp T, .cst (w.heap.size + 1) 39 #[.int .i64 kv, .int .i64 iv, .string sv]]) (by
    refine List.Sublist.cons_cons _ (List.Sublist.cons _ (List.Sublist.cons_cons _ (List.Sublist.cons_cons _ (List.Sublist.cons_cons _ (List.nil_sublist _)))))
  )
  clear K5 K4 K3 K2 hP
  go_wp2_with fail
  go_loopw [23] (fun i wr => ∃ k : Nat, k ≤ 2 ∧ i = .int .i64 k ∧ Hold None_ none w wr [.ro (ColsAt w4.heap.size 2), .ro Wds, .tp T, .cst (w.heap.size + 1) 39 #[.int .i64 kv, .int .i64 iv, .string sv]]) (fun i _ => 2 - (intOf i).toNat)
  case atStart => exact ⟨0, by omega, rfl, KP⟩
  case round =>
    obtain ⟨k, hk, rfl, H⟩ := hrel
    obtain ⟨wo, rfl⟩ : ∃ wo : World, wo = wr := ⟨_, rfl⟩
    by_cases hlt : k < 2
    · obtain ⟨nm, ty, nn, key, c0, c1, c2, c3⟩ := (H.ro 0 rfl).now k hlt
      have hd : decide ((k : Int) < 2) = true := by simp; omega
      have KA := H.alloc_cst #[.string nm, .int .i64 ty, .bool nn, .bool key] 35
      go_wp2_with fail
      clear c0 c1 c2 c3
      go_region_held3 (fun w' => w'.cell? ⟨w.heap.size + 1, 0, none⟩ = some (.int .i64 kv) ∧ w'.cell? ⟨w.heap.size + 1, 1, none⟩ = some (.int .i64 iv) ∧ w'.cell? ⟨w.heap.size + 1, 2, none⟩ = some (.string sv) ∧ w'.cell? ⟨wo.heap.size, 1, none⟩ = some (.int .i64 ty))
        (first | exact three1 (KA.cst_ 4 rfl) (KA.cst_ 0 rfl) | exact three1 (K5.cst_ 4 rfl) (K5.cst_ 0 rfl) | exact three1 (K6.cst_ 4 rfl) (K6.cst_ 0 rfl) | exact three1 (K7.cst_ 4 rfl) (K7.cst_ 0 rfl) | exact three1 ((K7.cst_ 4 rfl).alloc _) ((K7.cst_ 0 rfl).alloc _))
        (first
          | (go_at_call 20; refine (value_any T _ (KA.drew.tp_ 3 rfl) (KA.drew.ro 2 rfl).now hT1).mono ?_; rintro e w5 ⟨k5, i5, s5, rfl, v5, z5, y5, t5, d5, g5⟩; have K5 := Hold.callT KA.drew 3 rfl g5 t5)
          | (go_at_call 21; refine (odd_any T _ (K5.tp_ 3 rfl) (K5.ro 2 rfl).now hT1).mono ?_; rintro e w6 ⟨k6, i6, s6, rfl, z6, t6, g6⟩; have K6 := Hold.callT K5 3 rfl g6 t6)
          | (go_at_call 22; refine (typed_any T ty _ (K6.tp_ 3 rfl) (K6.ro 2 rfl).now hT1).mono ?_; rintro e w7 ⟨k7, i7, s7, rfl, v7, z7, y7, t7, d7, g7⟩; have K7 := Hold.callT K6 3 rfl g7 t7))
      have K8 := K7.alloc_cst #[.int .i64 kv, .int .i64 iv, .string sv, .int .i64 k5, .int .i64 i5, .string s5, .int .i64 k6, .int .i64 i6, .string s6, .int .i64 0, .int .i64 0, .string ⟨#[]⟩, .int .i64 k7, .int .i64 i7, .string s7] 39
      have hQ := (show Ro _ _ (fun w => w.heap[w7.heap.size]? = some (.cells #[.int .i64 kv, .int .i64 iv, .string sv, .int .i64 k5, .int .i64 i5, .string s5, .int .i64 k6, .int .i64 i6, .string s6, .int .i64 0, .int .i64 0, .string ⟨#[]⟩, .int .i64 k7, .int .i64 i7, .string s7] 39 (0, 0))) from K8.get 0 rfl).imp (fun _ => vlsAt_5 hsv (by unfold maxLen; omega) (by unfold maxLen; omega) size0' (by unfold maxLen; omega))
      have KQ := (K8.add hQ).drop (L' := [.ro (VlsAt w7.heap.size 5), .cst wo.heap.size 35 #[.string nm, .int .i64 ty, .bool nn, .bool key], .ro (ColsAt w4.heap.size 2), .ro Wds, .tp T, .cst (w.heap.size + 1) 39 #[.int .i64 kv, .int .i64 iv, .string sv]]) (List.Sublist.cons_cons _ (List.sublist_cons_self _ _))
      clear K8 K7 K6 K5 KA hQ
      go_wp2_with fail
      go_loopw [39] (fun j wq => ∃ m : Nat, m ≤ 5 ∧ j = .int .i64 m ∧ Hold None_ none w wq [.ro (VlsAt w7.heap.size 5), .cst wo.heap.size 35 #[.string nm, .int .i64 ty, .bool nn, .bool key], .ro (ColsAt w4.heap.size 2), .ro Wds, .tp T, .cst (w.heap.size + 1) 39 #[.int .i64 kv, .int .i64 iv, .string sv]]) (fun j _ => 5 - (intOf j).toNat)
      case atStart => exact ⟨0, by omega, rfl, KQ⟩
      case round =>
        obtain ⟨m, hm, rfl, H2⟩ := hrel
        by_cases hlt2 : m < 5
        · obtain ⟨y, i', s', hs', d0, d1, d2⟩ := (H2.ro 0 rfl).now m hlt2
          have hd2 : decide ((m : Int) < 5) = true := by simp; omega
          have KB := H2.alloc_cst #[.int .i64 y, .int .i64 i', .string s'] 39
          go_wp2_with fail
          clear d0 d1 d2
          go_region_held3 (fun w' => w'.cell? ⟨wo.heap.size, 0, none⟩ = some (.string nm) ∧ w'.cell? ⟨wo.heap.size, 1, none⟩ = some (.int .i64 ty) ∧ w'.cell? ⟨wo.heap.size, 2, none⟩ = some (.bool nn) ∧ w'.cell? ⟨wo.heap.size, 3, none⟩ = some (.bool key) ∧ w'.cell? ⟨wr.heap.size, 0, none⟩ = some (.int .i64 y) ∧ w'.cell? ⟨wr.heap.size, 1, none⟩ = some (.int .i64 i') ∧ w'.cell? ⟨wr.heap.size, 2, none⟩ = some (.string s'))
            (first | exact four3 (KB.cst_ 2 rfl) (KB.cst_ 0 rfl) | exact four3 (K8.cst_ 2 rfl) (K8.cst_ 0 rfl) | exact four3 (K9.cst_ 2 rfl) (K9.cst_ 0 rfl))
            (first
              | (go_at_call 23; refine (fits_any nm ty nn key y i' s' hs' _).mono ?_; rintro e w8 ⟨rfl, b8⟩; have K8 := Hold.call KB.drew b8)
              | (go_at_call 24; refine (rfits_any nm ty nn key y i' s' hs' _).mono ?_; rintro e w9 ⟨rfl, b9⟩; have K9 := Hold.call K8 b9))
          have KZ := K9.drop (List.sublist_cons_self _ _)
          clear K9 K8 KB H2
          go_wp2_with fail
          go_roundw
          case rel => exact ⟨m + 1, by omega, by go_num, KZ⟩
          case measure => simp [intOf]; omega
        · go_wp2_with fail
          go_roundw
          case rel => exact ⟨k + 1, by omega, by go_num, H2.drop (List.Sublist.cons _ (List.sublist_cons_self _ _))⟩
          case measure => simp [intOf]; omega
    · go_wp2_with fail
      refine (known4 _).mono ?_
      rintro e w10 ⟨rfl, b10⟩
      go_wp2_with fail
      go_ret
      exact ⟨rfl, (H.call b10).below⟩
end Go.Proofs.YtdgdllicmccnfaaDoor

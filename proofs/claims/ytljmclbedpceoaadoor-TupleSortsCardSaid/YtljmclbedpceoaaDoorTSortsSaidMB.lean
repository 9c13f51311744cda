/- TupleSorts answers true for every tape: Sort keeps the rows and orders them, and its result does not depend on the order of the list. Condition: the row's own, the laid table of words; the tied card. -/
import Derived.Test.YtljmclbedpceoaaDoorTSortsSaidMA
import Derived.Deep.RegionHeld3
import Derived.Shelf.SlSortCmp.QuietGrown
import Derived.WalkSpells
import Derived.Sort.Statements
import Derived.Shelf.SlSortCmp.Insertion
import Derived.Laws.CopyOwn
import Derived.Shelf.SlGeneric
import Derived.Shelf.SlSortCmp.NoneTotal
import Derived.Ground.SlsfProg
import Derived.Test.YtljmclbedpceoaaDoorProg
import Derived.Shelf.Small.Strs
import Derived.Ground.NamesProg
import Derived.Test.YtljmclbedpceoaaDoorCards
import Derived.Test.YtljmclbedpceoaaDoorTie
namespace Go.Proofs.YtljmclbedpceoaaDoor
open Go.RowKit
set_option linter.unusedVariables false
set_option linter.unusedSimpArgs false

/-- rows drawn -/
def DrawnRows (w : World) (T : Nat) (M : Nat → Prop) (N : Nat) (e : Ending) (w' : World) : Prop :=
  ∃ (A : Option Addr) (m c : Nat) (l : List Sl), e = .returned (.slice A m c) ∧ m ≤ c ∧ c ≤ 9223372036854775807 ∧ m ≤ N ∧ (∀ s ∈ l, s.ok) ∧ (∀ s ∈ l, s.n ≤ 4) ∧ Ro w' M (SlsIn A m l) ∧ Tp w' T ∧ w.grownBy w' (some T)
set_option maxHeartbeats 4000000 in
set_option maxRecDepth 100000 in
theorem trows_any (M : Nat → Prop) (T : Nat) (w : World) (hM : ∀ b, M b → b < w.heap.size) (ht : Tp w T) (hMT : ∀ b, M b → T ≤ b) (hW : Ro w (Mut M [.tp T]) Wds) (hT : 1 < T) (N : Nat) (hN : N ≤ 1000) :
    Calls Tryd.prog 9 #[.pointer (some ⟨T, 0, none⟩), .int .i64 N] w fun e w' => DrawnRows w T M N e w' := by
  have K0 := ((((Hold.startT M w T hM ht hMT).add hW).add (show Ro w _ (SlVals []) from fun _ _ _ r hr => nomatch hr)).nil 27 1)
  clear hW
  have hNw : IntKind.i64.wrap ((N : Int) + 1) = (N : Int) + 1 := IntWalk.i64_in _ (by omega)
  go_enter Tryd.func9, Tryd.ntmps9
  go_wp2_with fail
  refine (next_any T ((N : Int) + 1) _ (K0.tp_ 3 rfl) (by omega) (by omega)).mono ?_
  rintro e w1 ⟨i0, rfl, i00, i01, t1, g1⟩
  obtain ⟨i0, rfl⟩ := Int.eq_ofNat_of_zero_le i00
  have K1 := Hold.callT K0 3 rfl g1 t1
  have hi0 : i0 ≤ N := by omega
  clear K0 g1 t1 i00 i01 hNw
  go_wp2_with fail
  go_loopw [5, 6] (fun ov iv wr => ∃ (i k cap : Nat) (O : Option Addr) (lo : List Sl), i + k ≤ N ∧ ov = .slice O k cap ∧ iv = .int .i64 i ∧ Hid (∀ s ∈ lo, s.ok) ∧ Hid (∀ s ∈ lo, s.n ≤ 4) ∧ Hold M (some T) w wr [.own 27 1 (.slice O k cap) k (slCells lo), .ro (SlVals lo), .ro Wds, .tp T]) (fun _ iv _ => (intOf iv).toNat)
  case atStart => exact ⟨i0, 0, 0, none, [], by omega, rfl, rfl, hid (fun s hs => nomatch hs), hid (fun s hs => nomatch hs), K1⟩
  case round =>
    clear K1 hi0
    obtain ⟨i, k, cap, O, lo, hik, rfl, rfl, HOO, HNO, H⟩ := hrel
    by_cases hlt : 0 < i
    · obtain ⟨i, rfl⟩ : ∃ i', i = i' + 1 := ⟨i - 1, by omega⟩
      have hd : decide (((i + 1 : Nat) : Int) > 0) = true := by rw [decide_eq_true_iff]; omega
      clear hlt
      go_wp2_with fail
      refine (next_any T 4 _ (H.tp_ 3 rfl) (by omega) (by omega)).mono ?_
      rintro e w2 ⟨j0, rfl, j00, j01, t2, g2⟩
      obtain ⟨j0, rfl⟩ := Int.eq_ofNat_of_zero_le j00
      have K2 := (Hold.callT H 3 rfl g2 t2).nil 66 3
      have hj0 : j0 ≤ 3 := by omega
      clear H g2 t2 j00 j01 hd
      go_wp2_with fail
      go_loopw [7, 8] (fun rv jv wq => ∃ (j q qc : Nat) (R : Option Addr) (vs : List Vl), j + q ≤ 3 ∧ rv = .slice R q qc ∧ jv = .int .i64 j ∧ Hid (∀ v ∈ vs, v.ok) ∧ Hold M (some T) w wq [.own 66 3 (.slice R q qc) q (vlCells vs), .own 27 1 (.slice O k cap) k (slCells lo), .ro (SlVals lo), .ro Wds, .tp T]) (fun _ jv _ => (intOf jv).toNat)
      case atStart => exact ⟨j0, 0, 0, none, [], by omega, rfl, rfl, hid (fun s hs => nomatch hs), K2⟩
      case round =>
        clear K2 hj0
        obtain ⟨j, q, qc, R, vs, hjq, rfl, rfl, HVO, H⟩ := hrel
        by_cases hlt : 0 < j
        · obtain ⟨j, rfl⟩ : ∃ j', j = j' + 1 := ⟨j - 1, by omega⟩
          have hd : decide (((j + 1 : Nat) : Int) > 0) = true := by rw [decide_eq_true_iff]; omega
          clear hlt
          go_wp2_with fail
          refine (next_any T 3 _ (H.tp_ 4 rfl) (by omega) (by omega)).mono ?_
          rintro e w3 ⟨z, rfl, z0, z1, t3, g3⟩
          have K3 := Hold.callT H 4 rfl g3 t3
          have HZ := hid (show Vl.ok ⟨1, z, ⟨#[]⟩⟩ from ⟨(show (-9223372036854775808:Int) ≤ 1 ∧ (1:Int) ≤ 9223372036854775807 by omega), (show (-9223372036854775808:Int) ≤ z ∧ z ≤ 9223372036854775807 by omega), Nat.zero_le _⟩)
          have HCE := hid (vlCells_snoc vs 1 z ⟨#[]⟩)
          clear H g3 t3 hd
          go_wp2_with (at_builtin; go_must (refine wpList_appH K3 0 rfl Tryd.elVl #[.int .i64 1, .int .i64 z, .string ⟨#[]⟩] rfl (.tmp 23) (.tmp 27) rfl rfl _ (by first | rfl | simp) rfl rfl (by intro u hu; simp at hu; rcases hu with rfl | rfl | rfl <;> rfl) (by omega) (by omega) ?_); intro g5 cap5 w5 hc5 hm5 KB; rw [HCE.out] at KB; simp only [List.set_cons_zero, List.set_cons_succ] at KB)
          have HV2 := hid (oks_snoc HVO.out HZ.out)
          go_wp2_with fail
          go_roundw
          case rel => exact ⟨j, q + 1, cap5, _, _, by omega, by first | rfl | go_num, by first | rfl | (simp <;> omega), HV2, KB⟩
          case measure => simp [intOf] <;> omega
        · obtain rfl : j = 0 := by omega
          have hd : decide ((0 : Int) > 0) = false := by decide
          have hq3 : q ≤ 3 := by omega
          clear hlt hjq
          go_wp2_with fail
          refine (bool_any T 4 _ (H.tp_ 4 rfl) (by omega) (by omega)).mono ?_
          rintro e w6 ⟨bb, rfl, t6, g6⟩
          have K6 := Hold.callT H 4 rfl g6 t6
          clear H t6 g6 hd
          cases bb
          · skip
            obtain ⟨hc1, hc2, _⟩ := own_caps (K6.get 0 rfl)
            have HRO := hid (And.intro hc1 hc2)
            have KS := K6.sealRow 0 rfl
            simp only [List.set_cons_zero] at KS
            clear K6 hc1 hc2
            have HCE := hid (show slCells lo ++ (#[Value.slice R q qc]).toList = slCells (lo ++ [⟨R, q, qc, vs⟩]) by simp [slCells, Sl.cells])
            go_wp2_with (at_builtin; go_must (refine wpList_appH KS 1 rfl Tryd.elSlc #[.slice R q qc] rfl (.tmp 36) (.tmp 38) rfl rfl _ (by first | rfl | simp) rfl rfl (by intro u hu; simp at hu; rcases hu with rfl; rfl) (by omega) (by omega) ?_); intro g9 cap9 w9 hc9 hm9 KB; rw [HCE.out] at KB; simp only [List.set_cons_zero, List.set_cons_succ] at KB)
            have KC := (KB.swapRo 2 rfl (sls_snoc (r := ⟨R, q, qc, vs⟩) (KB.ro 2 rfl) (KB.ro 0 rfl))).drop (List.sublist_cons_self _ _)
            have HN2 := hid (okSnoc (P := Sl.ok) (x := (⟨R, q, qc, vs⟩ : Sl)) HOO.out ⟨HRO.out.1, HRO.out.2, HVO.out⟩)
            have HN3 := hid (okSnoc (P := fun s : Sl => s.n ≤ 4) (x := (⟨R, q, qc, vs⟩ : Sl)) HNO.out (show q ≤ 4 by omega))
            go_wp2_with fail
            go_roundw
            case rel => exact ⟨i, k + 1, cap9, _, _, by omega, by first | rfl | go_num, by first | rfl | (simp <;> omega), HN2, HN3, KC⟩
            case measure => simp [intOf] <;> omega
          · go_wp2_with fail
            refine (value_any T _ (K6.tp_ 4 rfl) (K6.ro 3 rfl).now hT).mono ?_
            rintro e w7 ⟨kv, iv, sv, rfl, hv, hsv, hiv, t7, _, g7⟩
            have K7 := Hold.callT K6 4 rfl g7 t7
            have HZ := hid (show Vl.ok ⟨kv, iv, sv⟩ from ⟨validB_k hv, hiv, by show sv.size ≤ maxLen; unfold maxLen; omega⟩)
            have HCV := hid (vlCells_snoc vs kv iv sv)
            clear K6 t7 g7 hv
            go_wp2_with (first
              | (at_builtin; refine wpList_appH K7 0 rfl Tryd.elVl #[.int .i64 kv, .int .i64 iv, .string sv] rfl (.tmp 31) (.tmp 34) rfl rfl _ (by first | rfl | simp) rfl rfl (by intro u hu; simp at hu; rcases hu with rfl | rfl | rfl <;> rfl) (by omega) (by omega) ?_; intro g8 cap8 w8 hc8 hm8 K8; rw [HCV.out] at K8; simp only [List.set_cons_zero, List.set_cons_succ] at K8; have KS := K8.sealRow 0 rfl; simp only [List.set_cons_zero] at KS; (obtain ⟨hc1, hc2, _⟩ := own_caps (K8.get 0 rfl)); have HRO := hid (And.intro hc1 hc2); have HCE := hid (show slCells lo ++ (#[Value.slice (some ⟨g8, 0, none⟩) (q + 1) cap8]).toList = slCells (lo ++ [⟨some ⟨g8, 0, none⟩, q + 1, cap8, vs ++ [⟨kv, iv, sv⟩]⟩]) by simp [slCells, Sl.cells]); clear K7 K8 hc1 hc2)
              | (at_builtin; go_must (refine wpList_appH KS 1 rfl Tryd.elSlc #[.slice (some ⟨g8, 0, none⟩) (q + 1) cap8] rfl (.tmp 36) (.tmp 38) rfl rfl _ (by first | rfl | simp) rfl rfl (by intro u hu; simp at hu; rcases hu with rfl; rfl) (by omega) (by omega) ?_); intro g9 cap9 w9 hc9 hm9 KB; rw [HCE.out] at KB; simp only [List.set_cons_zero, List.set_cons_succ] at KB))
            have HV8 := hid (oks_snoc HVO.out HZ.out)
            have KC := (KB.swapRo 2 rfl (sls_snoc (r := ⟨(some ⟨g8, 0, none⟩), (q + 1), cap8, (vs ++ [⟨kv, iv, sv⟩])⟩) (KB.ro 2 rfl) (KB.ro 0 rfl))).drop (List.sublist_cons_self _ _)
            have HN2 := hid (okSnoc (P := Sl.ok) (x := (⟨(some ⟨g8, 0, none⟩), (q + 1), cap8, (vs ++ [⟨kv, iv, sv⟩])⟩ : Sl)) HOO.out ⟨HRO.out.1, HRO.out.2, HV8.out⟩)
            have HN3 := hid (okSnoc (P := fun s : Sl => s.n ≤ 4) (x := (⟨(some ⟨g8, 0, none⟩), (q + 1), cap8, (vs ++ [⟨kv, iv, sv⟩])⟩ : Sl)) HNO.out (show (q + 1) ≤ 4 by omega))
            go_wp2_with fail
            go_roundw
            case rel => exact ⟨i, k + 1, cap9, _, _, by omega, by first | rfl | go_num, by first | rfl | (simp <;> omega), HN2, HN3, KC⟩
            case measure => simp [intOf] <;> omega
    · obtain rfl : i = 0 := by omega
      have hd : decide ((0 : Int) > 0) = false := by decide
      obtain ⟨hc1, hc2, _⟩ := own_caps (H.get 0 rfl)
      have KS := H.sealRow 0 rfl
      simp only [List.set_cons_zero] at KS
      have r1 := (KS.roOut 0 rfl).and (KS.roOut 1 rfl)
      go_wp2_with fail
      go_ret
      exact ⟨O, k, cap, lo, rfl, hc1, hc2, by omega, HOO.out, HNO.out, r1, KS.tp_ 3 rfl, KS.grow⟩
end Go.Proofs.YtljmclbedpceoaaDoor

namespace Go.Proofs.YtljmclbedpceoaaDoor
open Go.RowKit
set_option linter.unusedVariables false

def cmpI (a b : Int) : Int := if a < b then -1 else if b < a then 1 else 0
def cmpS (a b : ByteArray) : Int := if Op.bytesLess a.toList b.toList then -1 else if a.toList == b.toList then 0 else 1

theorem cmp_int (a b : Int) (w : World) :
    Calls Tryd.prog 82 #[.int .i64 a, .int .i64 b] w fun e w' => e = .returned (.int .i64 (cmpI a b)) ∧ w = w' := by
  by_cases h1 : a < b
  · go_enter Tryd.func82, Tryd.ntmps82
    go_wp2
    go_ret
    exact ⟨by simp [cmpI, h1], rfl⟩
  · by_cases h2 : b < a
    · go_enter Tryd.func82, Tryd.ntmps82
      go_wp2
      go_ret
      exact ⟨by simp [cmpI, h1, h2], rfl⟩
    · go_enter Tryd.func82, Tryd.ntmps82
      go_wp2
      go_ret
      exact ⟨by rw [show cmpI a b = 0 from by unfold cmpI; rw [if_neg (by omega), if_neg (by omega)]]; rfl, rfl⟩

theorem cmp_int64 (a b : Int) (w : World) :
    Calls Tryd.prog 119 #[.int .i64 a, .int .i64 b] w fun e w' => e = .returned (.int .i64 (cmpI a b)) ∧ w = w' := by
  by_cases h1 : a < b
  · go_enter Tryd.func119, Tryd.ntmps119
    go_wp2
    go_ret
    exact ⟨by simp [cmpI, h1], rfl⟩
  · by_cases h2 : b < a
    · go_enter Tryd.func119, Tryd.ntmps119
      go_wp2
      go_ret
      exact ⟨by simp [cmpI, h1, h2], rfl⟩
    · go_enter Tryd.func119, Tryd.ntmps119
      go_wp2
      go_ret
      exact ⟨by rw [show cmpI a b = 0 from by unfold cmpI; rw [if_neg (by omega), if_neg (by omega)]]; rfl, rfl⟩

theorem cmp_string (a b : ByteArray) (w : World) :
    Calls Tryd.prog 120 #[.string a, .string b] w fun e w' => e = .returned (.int .i64 (cmpS a b)) ∧ w = w' := by
  cases h1 : Op.bytesLess a.toList b.toList
  · cases h2 : (a.toList == b.toList)
    · go_enter Tryd.func120, Tryd.ntmps120
      go_wp2
      go_ret
      exact ⟨by simp [cmpS, h1, h2], rfl⟩
    · go_enter Tryd.func120, Tryd.ntmps120
      go_wp2
      go_ret
      exact ⟨by simp [cmpS, h1, h2], rfl⟩
  · go_enter Tryd.func120, Tryd.ntmps120
    go_wp2
    go_ret
    exact ⟨by simp [cmpS, h1], rfl⟩

/-- The first number that is not 0, or 0. -/
def firstNZ : List Int → Int
  | [] => 0
  | x :: r => if x = 0 then firstNZ r else x

theorem firstNZ_skip (l : List Int) (k : Nat) (h : ∀ j, j < k → l.getD j 0 = 0) : firstNZ l = firstNZ (l.drop k) := by
  induction k generalizing l with
  | zero => simp
  | succ k ih =>
    cases l with
    | nil => simp
    | cons x r =>
      have h0 : x = 0 := by simpa using h 0 (by omega)
      simp only [firstNZ, h0, if_true, List.drop_succ_cons]
      exact ih r (fun j hj => by simpa using h (j + 1) (by omega))

set_option maxHeartbeats 1000000 in
theorem or_int (A : Option Addr) (n c : Nat) (zs : List Int) (w : World) (B : Nat) (hr : Rd w B 1 A n (zs.map (Value.int .i64))) (hn : n ≤ 9223372036854775807) :
    Calls Tryd.prog 118 #[.slice A n c] w fun e w' => e = .returned (.int .i64 (firstNZ zs)) ∧ w = w' := by
  have hl : zs.length = n := by simpa using hr.1
  have HL := hid hl; clear hl
  go_enter Tryd.func118, Tryd.ntmps118
  go_wp2_with fail
  go_loop [8] (fun i => ∃ k : Nat, k ≤ n ∧ i = .int .i64 k ∧ ∀ j, j < k → zs.getD j 0 = 0) (fun i => n - (intOf i).toNat)
  case atStart => exact ⟨0, by omega, rfl, fun j hj => absurd hj (by omega)⟩
  case round =>
    obtain ⟨k, hk, rfl, hz⟩ := hrel
    have HZ := hid hz; clear hz
    by_cases hlt : k < n
    · obtain ⟨b, o, rfl, hb, hc⟩ := hr.at1 hlt
      rw [ints_get _ _ _ (by rw [HL.out]; omega)] at hc
      obtain ⟨x, hx⟩ : ∃ x, x = zs.getD k 0 := ⟨_, rfl⟩
      rw [← hx] at hc
      have HX := hid hx; clear hx
      by_cases h0 : x = 0
      · have k0 : (x != 0) = false := by simpa using h0
        have H0 := hid h0; clear h0
        go_wp2_with fail
        go_round
        case rel =>
          refine ⟨k + 1, by omega, by go_num, fun j hj => ?_⟩
          by_cases e : j = k
          · subst e; rw [← HX.out]; exact H0.out
          · exact HZ.out j (by omega)
        case measure => simp [intOf]; omega
      · have k0 : (x != 0) = true := by simpa using h0
        have HF : Hid (firstNZ zs = x) := by
          unfold Hid
          rw [firstNZ_skip zs k HZ.out, List.drop_eq_getElem_cons (by rw [HL.out]; omega)]
          have : zs[k]'(by rw [HL.out]; omega) = x := by rw [HX.out]; simp [List.getD, show k < zs.length by rw [HL.out]; omega]
          rw [this, firstNZ, if_neg h0]
        clear h0
        go_wp2_with fail
        go_ret
        exact ⟨by rw [HF.out]; rfl, rfl⟩
    · obtain rfl : k = n := by omega
      have HF : Hid (firstNZ zs = 0) := by
        unfold Hid
        rw [firstNZ_skip zs k HZ.out, List.drop_of_length_le (by rw [HL.out]; omega)]; rfl
      go_wp2
      go_ret
      exact ⟨by rw [HF.out]; rfl, rfl⟩

theorem six {w : World} {g g' : Nat} {t : TypeId} {x y z x' y' z' : Value} (h : Blk w g t #[x, y, z]) (h' : Blk w g' t #[x', y', z']) :
    w.cell? ⟨g, 0, none⟩ = some x ∧ w.cell? ⟨g, 1, none⟩ = some y ∧ w.cell? ⟨g, 2, none⟩ = some z ∧ w.cell? ⟨g', 0, none⟩ = some x' ∧ w.cell? ⟨g', 1, none⟩ = some y' ∧ w.cell? ⟨g', 2, none⟩ = some z' := ⟨h.cell 0, h.cell 1, h.cell 2, h'.cell 0, h'.cell 1, h'.cell 2⟩

/-- The comparison of two values. -/
def cmpV (k1 i1 : Int) (s1 : ByteArray) (k2 i2 : Int) (s2 : ByteArray) : Int := firstNZ [cmpI k1 k2, cmpI i1 i2, cmpS s1 s2]

end Go.Proofs.YtljmclbedpceoaaDoor

namespace Go.Proofs.YtljmclbedpceoaaDoor
open Go.RowKit Go.Sort
set_option linter.unusedVariables false

/-- from w to w' nothing but draws and new blocks -/
def Gr (w w' : World) : Prop := ∃ (q : Nat) (os : Array Obj), w' = grow (w.drewN q) os
theorem Gr.refl (w : World) : Gr w w := ⟨0, #[], by rw [grow_empty]; rfl⟩
theorem Gr.trans {a b c : World} (h : Gr a b) (k : Gr b c) : Gr a c := by
  obtain ⟨q, os, rfl⟩ := h
  obtain ⟨q2, os2, rfl⟩ := k
  exact ⟨q + q2, os ++ os2, by show grow (grow ((a.drewN q).drewN q2) os) os2 = _; rw [grow_grow, World.drewN_drewN]⟩
theorem Gr.alloc (w : World) (o : Obj) : Gr w (w.alloc o) := ⟨0, #[o], by rw [alloc_eq_grow]; rfl⟩
theorem Gr.drew (w : World) : Gr w w.drew := ⟨1, #[], by rw [grow_empty]; rfl⟩
theorem Gr.drewN (w : World) (n : Nat) : Gr w (w.drewN n) := ⟨n, #[], by rw [grow_empty]⟩
theorem Gr.size {w w' : World} (h : Gr w w') : w.heap.size ≤ w'.heap.size := by
  obtain ⟨q, os, rfl⟩ := h
  rw [size_grow]
  exact Nat.le_add_right _ _
theorem Gr.block {w w' : World} (h : Gr w w') {k : Nat} (hk : k < w.heap.size) : w'.heap[k]? = w.heap[k]? := by
  obtain ⟨q, os, rfl⟩ := h
  exact heap_grow_old (w.drewN q) os hk
theorem Gr.below {w w' : World} (h : Gr w w') : Below w.heap.size w w' := by
  have h1 := h.size
  have h2 := fun k (hk : k < w.heap.size) => h.block hk
  obtain ⟨q, os, rfl⟩ := h
  exact ⟨rfl, rfl, rfl, h1, h2⟩
theorem Gr.ro {w w' : World} {M : Nat → Prop} {S : World → Prop} (h : Gr w w') (hs : Ro w M S) : Ro w' M S := hs.below h.below
end Go.Proofs.YtljmclbedpceoaaDoor

namespace Go.Proofs.YtljmclbedpceoaaDoor
open Go.RowKit Go.Sort
set_option linter.unusedVariables false
set_option linter.unusedSimpArgs false

set_option maxHeartbeats 1000000 in
theorem vcompare_gr (k1 i1 : Int) (s1 : ByteArray) (k2 i2 : Int) (s2 : ByteArray) (w : World) :
    Calls Tryd.prog 81 #[.agg #[.int .i64 k1, .int .i64 i1, .string s1], .agg #[.int .i64 k2, .int .i64 i2, .string s2]] w fun e w' => e = .returned (.int .i64 (cmpV k1 i1 s1 k2 i2 s2)) ∧ Gr w w' := by
  obtain ⟨x, hx⟩ : ∃ x, x = cmpI k1 k2 := ⟨_, rfl⟩
  obtain ⟨y, hy⟩ : ∃ y, y = cmpI i1 i2 := ⟨_, rfl⟩
  obtain ⟨z, hz⟩ : ∃ z, z = cmpS s1 s2 := ⟨_, rfl⟩
  have c1 := fun w => cmp_int k1 k2 w
  have c2 := fun w => cmp_int64 i1 i2 w
  have c3 := fun w => cmp_string s1 s2 w
  rw [← hx] at c1
  rw [← hy] at c2
  rw [← hz] at c3
  have HF : Hid (cmpV k1 i1 s1 k2 i2 s2 = firstNZ [x, y, z]) := by unfold Hid cmpV; rw [hx, hy, hz]
  have C1 := hid c1; have C2 := hid c2; have C3 := hid c3
  clear c1 c2 c3 hx hy hz
  have B0 := (Blk.new w 66 #[.int .i64 k1, .int .i64 i1, .string s1]).alloc (.cells #[.int .i64 k2, .int .i64 i2, .string s2] 66)
  have B1 : Blk ((w.alloc (.cells #[.int .i64 k1, .int .i64 i1, .string s1] 66)).alloc (.cells #[.int .i64 k2, .int .i64 i2, .string s2] 66)) (w.heap.size + 1) 66 #[.int .i64 k2, .int .i64 i2, .string s2] := by
    have := Blk.new (w.alloc (.cells #[.int .i64 k1, .int .i64 i1, .string s1] 66)) 66 #[.int .i64 k2, .int .i64 i2, .string s2]
    simpa using this
  have RO : Rd (((w.alloc (.cells #[.int .i64 k1, .int .i64 i1, .string s1] 66)).alloc (.cells #[.int .i64 k2, .int .i64 i2, .string s2] 66)).alloc (.cells #[.int .i64 x, .int .i64 y, .int .i64 z] 3)) (w.heap.size + 1 + 1 + 1) 1 (some ⟨w.heap.size + 1 + 1, 0, none⟩) 3 ([x, y, z].map (Value.int .i64)) := by
    have := Rd.lit ((w.alloc (.cells #[.int .i64 k1, .int .i64 i1, .string s1] 66)).alloc (.cells #[.int .i64 k2, .int .i64 i2, .string s2] 66)) #[.int .i64 x, .int .i64 y, .int .i64 z] 3 (size := 1) (n := 3) (xs := [x, y, z].map (Value.int .i64)) rfl rfl
    simpa using this
  go_enter Tryd.func81, Tryd.ntmps81
  go_wp2_with fail
  go_region_held3 (fun w' => w'.cell? ⟨w.heap.size, 0, none⟩ = some (.int .i64 k1) ∧ w'.cell? ⟨w.heap.size, 1, none⟩ = some (.int .i64 i1) ∧ w'.cell? ⟨w.heap.size, 2, none⟩ = some (.string s1) ∧ w'.cell? ⟨w.heap.size + 1, 0, none⟩ = some (.int .i64 k2) ∧ w'.cell? ⟨w.heap.size + 1, 1, none⟩ = some (.int .i64 i2) ∧ w'.cell? ⟨w.heap.size + 1, 2, none⟩ = some (.string s2))
    (first | exact six B0 B1 | exact six (B0.alloc _) (B1.alloc _))
    (first
      | (go_at_call 82; ((with_reducible refine (C1.out _).mono ?_); rintro e w3 ⟨rfl, rfl⟩))
      | (go_at_call 119; ((with_reducible refine (C2.out _).mono ?_); rintro e w3 ⟨rfl, rfl⟩))
      | (go_at_call 120; ((with_reducible refine (C3.out _).mono ?_); rintro e w3 ⟨rfl, rfl⟩))
      | (go_at_call 118; ((with_reducible refine (or_int _ 3 3 [x, y, z] _ _ (Rd.drew RO) (by omega)).mono ?_); rintro e w4 ⟨rfl, rfl⟩)))
  go_wp2_with fail
  go_ret
  exact ⟨by rw [HF.out]; rfl, (((Gr.alloc _ _).trans (Gr.alloc _ _)).trans (Gr.alloc _ _)).trans (Gr.drew _)⟩

/-- the order of values, of rows -/
def cmpVl (x y : Vl) : Int := cmpV x.k x.i x.s y.k y.i y.s
def rowC : List Vl → List Vl → Int
  | [], [] => 0
  | [], _ :: _ => -1
  | _ :: _, [] => 1
  | x :: xs, y :: ys => if cmpVl x y = 0 then rowC xs ys else cmpVl x y
theorem rowC_go {xs ys : List Vl} {k : Nat} {x y : Vl} (hx : xs[k]? = some x) (hy : ys[k]? = some y) (h : cmpVl x y = 0) : rowC (xs.drop k) (ys.drop k) = rowC (xs.drop (k + 1)) (ys.drop (k + 1)) := by
  rw [drop_cons hx, drop_cons hy, rowC, if_pos h]
theorem rowC_stop {xs ys : List Vl} {k : Nat} {x y : Vl} (hx : xs[k]? = some x) (hy : ys[k]? = some y) (h : cmpVl x y ≠ 0) : rowC (xs.drop k) (ys.drop k) = cmpVl x y := by
  rw [drop_cons hx, drop_cons hy, rowC, if_neg h]
theorem rowC_end {xs ys : List Vl} {k n m : Nat} (hn : xs.length = n) (hm : ys.length = m) (hk : k = min n m) : rowC (xs.drop k) (ys.drop k) = cmpI n m := by
  unfold cmpI
  rcases Nat.lt_trichotomy n m with h | h | h
  · have hk2 : k < ys.length := by omega
    rw [List.drop_of_length_le (show xs.length ≤ k by omega), List.drop_eq_getElem_cons hk2, rowC, if_pos (by omega)]
  · rw [List.drop_of_length_le (show xs.length ≤ k by omega), List.drop_of_length_le (show ys.length ≤ k by omega), rowC, if_neg (by omega), if_neg (by omega)]
  · have hk2 : k < xs.length := by omega
    rw [List.drop_of_length_le (show ys.length ≤ k by omega), List.drop_eq_getElem_cons hk2, rowC, if_neg (by omega), if_pos (by omega)]
set_option maxHeartbeats 4000000 in
set_option maxRecDepth 100000 in
theorem vcmprows_gr (w : World) (A : Option Addr) (n c : Nat) (xs : List Vl) (B : Option Addr) (m d : Nat) (ys : List Vl) (hD : Ro w None_ (VlsIn A n xs)) (hE : Ro w None_ (VlsIn B m ys)) (hn : n ≤ 9223372036854775807) (hm : m ≤ 9223372036854775807) :
    Calls Tryd.prog 47 #[.slice A n c, .slice B m d] w fun e w' => e = .returned (.int .i64 (rowC xs ys)) ∧ Gr w w' := by
  have HX := hid (show xs.length = n from hD.now.len)
  have HY := hid (show ys.length = m from hE.now.len)
  have HD := hid hD
  have HE := hid hE
  have mixed : Tryd.prog.follows .mixedOrders = true := by kernel_rfl
  clear hD hE
  obtain ⟨r, hr⟩ : ∃ r, r = rowC xs ys := ⟨_, rfl⟩
  rw [← hr]
  have HR := hid hr
  clear hr
  by_cases hnm : n ≤ m
  · have z1 : (n : Int) ≤ (m : Int) := by omega
    go_enter Tryd.func47, Tryd.ntmps47
    go_wp2_with fail
    go_loopw [12] (fun iv wr => ∃ k : Nat, k ≤ n ∧ iv = .int .i64 k ∧ Hid (r = rowC (xs.drop k) (ys.drop k)) ∧ Hid (Gr w wr)) (fun iv _ => n - (intOf iv).toNat)
    case atStart => exact ⟨0, by omega, rfl, hid (by rw [HR.out]; rfl), hid (Gr.refl w)⟩
    case round =>
      obtain ⟨k, hk, rfl, HK, HG⟩ := hrel
      by_cases hlt : k < n
      · have hd : decide ((k : Int) < (n : Int)) = true := by simp; omega
        have i0 : (0 : Int) ≤ (k : Int) := by omega
        have i1 : (k : Int) < (n : Int) := by omega
        have i2 : (k : Int) < (m : Int) := by omega
        obtain ⟨x, hx⟩ := get_of HX.out (show k < n by omega)
        obtain ⟨y, hy⟩ := get_of HY.out (show k < m by omega)
        have h1 := (HG.out.ro HD.out).now
        have h2 := (HG.out.ro HE.out).now
        obtain ⟨b, o, rfl, hb, c0, c1, c2⟩ := h1.at_ hx
        obtain ⟨b', o', rfl, hb', e0, e1, e2⟩ := h2.at_ hy
        clear h1 h2
        have g0 := fun p os => cell_grown (a := ⟨b, o + k * 3, none⟩) hb c0 p os
        have g1 := fun p os => cell_grown (a := ⟨b, o + k * 3 + 1, none⟩) hb c1 p os
        have g2 := fun p os => cell_grown (a := ⟨b, o + k * 3 + 2, none⟩) hb c2 p os
        have g3 := fun p os => cell_grown (a := ⟨b', o' + k * 3, none⟩) hb' e0 p os
        have g4 := fun p os => cell_grown (a := ⟨b', o' + k * 3 + 1, none⟩) hb' e1 p os
        have g5 := fun p os => cell_grown (a := ⟨b', o' + k * 3 + 2, none⟩) hb' e2 p os
        have HV := hid (fun W => vcompare_gr x.k x.i x.s y.k y.i y.s W)
        obtain ⟨cv, hcv⟩ : ∃ cv, cv = cmpVl x y := ⟨_, rfl⟩
        have HV2 : Hid (∀ W, Calls Tryd.prog 81 #[.agg #[.int .i64 x.k, .int .i64 x.i, .string x.s], .agg #[.int .i64 y.k, .int .i64 y.i, .string y.s]] W fun e w' => e = .returned (.int .i64 cv) ∧ ∃ q os', w' = grow (W.drewN q) os') := hid fun W => by rw [hcv]; exact HV.out W
        have HXK := hid hx
        have HYK := hid hy
        have HCV := hid hcv
        clear hx hy hcv HV c0 c1 c2 e0 e1 e2
        go_wp2_with fail
        go_quiet_grown (first | (go_at_call 81; refine Calls.grown_of (HV2.out _)))
        have HG2 := hid (HG.out.trans (show Gr wr (grow (wr.drewN nq) osq) from ⟨nq, osq, rfl⟩))
        clear g0 g1 g2 g3 g4 g5
        by_cases hz : cv = 0
        · have hb0 : (cv != 0) = false := by simp [hz]
          have HN := hid (show r = rowC (xs.drop (k + 1)) (ys.drop (k + 1)) by rw [HK.out]; exact rowC_go HXK.out HYK.out (by rw [← HCV.out, hz]))
          clear hz
          go_wp2_with fail
          go_roundw
          case rel => exact ⟨k + 1, by omega, by go_num, HN, HG2⟩
          case measure => simp [intOf]; omega
        · have hb0 : (cv != 0) = true := by simpa using hz
          have HN := hid (show r = cv by rw [HK.out, rowC_stop HXK.out HYK.out (by rw [← HCV.out]; exact hz), HCV.out])
          clear hz
          go_wp2_with fail
          go_ret
          exact ⟨by rw [HN.out] <;> rfl, HG2.out⟩
      · obtain rfl : n = k := by omega
        have hd : decide ((n : Int) < (n : Int)) = false := by simp
        have HN := hid (show r = cmpI n m by rw [HK.out]; exact rowC_end HX.out HY.out (by omega))
        go_wp2_with fail
        refine (cmp_int _ _ _).mono ?_
        rintro e w1 ⟨rfl, rfl⟩
        go_wp2_with fail
        go_ret
        exact ⟨by rw [HN.out] <;> rfl, HG.out⟩
  · have z1 : ¬ (n : Int) ≤ (m : Int) := by omega
    have z2 : (m : Int) ≤ (n : Int) := by omega
    have z3 : (m : Int) < (n : Int) := by omega
    go_enter Tryd.func47, Tryd.ntmps47
    go_wp2_with fail
    go_loopw [12] (fun iv wr => ∃ k : Nat, k ≤ m ∧ iv = .int .i64 k ∧ Hid (r = rowC (xs.drop k) (ys.drop k)) ∧ Hid (Gr w wr)) (fun iv _ => m - (intOf iv).toNat)
    case atStart => exact ⟨0, by omega, rfl, hid (by rw [HR.out]; rfl), hid (Gr.refl w)⟩
    case round =>
      obtain ⟨k, hk, rfl, HK, HG⟩ := hrel
      by_cases hlt : k < m
      · have hd : decide ((k : Int) < (m : Int)) = true := by simp; omega
        have i0 : (0 : Int) ≤ (k : Int) := by omega
        have i1 : (k : Int) < (n : Int) := by omega
        have i2 : (k : Int) < (m : Int) := by omega
        obtain ⟨x, hx⟩ := get_of HX.out (show k < n by omega)
        obtain ⟨y, hy⟩ := get_of HY.out (show k < m by omega)
        have h1 := (HG.out.ro HD.out).now
        have h2 := (HG.out.ro HE.out).now
        obtain ⟨b, o, rfl, hb, c0, c1, c2⟩ := h1.at_ hx
        obtain ⟨b', o', rfl, hb', e0, e1, e2⟩ := h2.at_ hy
        clear h1 h2
        have g0 := fun p os => cell_grown (a := ⟨b, o + k * 3, none⟩) hb c0 p os
        have g1 := fun p os => cell_grown (a := ⟨b, o + k * 3 + 1, none⟩) hb c1 p os
        have g2 := fun p os => cell_grown (a := ⟨b, o + k * 3 + 2, none⟩) hb c2 p os
        have g3 := fun p os => cell_grown (a := ⟨b', o' + k * 3, none⟩) hb' e0 p os
        have g4 := fun p os => cell_grown (a := ⟨b', o' + k * 3 + 1, none⟩) hb' e1 p os
        have g5 := fun p os => cell_grown (a := ⟨b', o' + k * 3 + 2, none⟩) hb' e2 p os
        have HV := hid (fun W => vcompare_gr x.k x.i x.s y.k y.i y.s W)
        obtain ⟨cv, hcv⟩ : ∃ cv, cv = cmpVl x y := ⟨_, rfl⟩
        have HV2 : Hid (∀ W, Calls Tryd.prog 81 #[.agg #[.int .i64 x.k, .int .i64 x.i, .string x.s], .agg #[.int .i64 y.k, .int .i64 y.i, .string y.s]] W fun e w' => e = .returned (.int .i64 cv) ∧ ∃ q os', w' = grow (W.drewN q) os') := hid fun W => by rw [hcv]; exact HV.out W
        have HXK := hid hx
        have HYK := hid hy
        have HCV := hid hcv
        clear hx hy hcv HV c0 c1 c2 e0 e1 e2
        go_wp2_with fail
        go_quiet_grown (first | (go_at_call 81; refine Calls.grown_of (HV2.out _)))
        have HG2 := hid (HG.out.trans (show Gr wr (grow (wr.drewN nq) osq) from ⟨nq, osq, rfl⟩))
        clear g0 g1 g2 g3 g4 g5
        by_cases hz : cv = 0
        · have hb0 : (cv != 0) = false := by simp [hz]
          have HN := hid (show r = rowC (xs.drop (k + 1)) (ys.drop (k + 1)) by rw [HK.out]; exact rowC_go HXK.out HYK.out (by rw [← HCV.out, hz]))
          clear hz
          go_wp2_with fail
          go_roundw
          case rel => exact ⟨k + 1, by omega, by go_num, HN, HG2⟩
          case measure => simp [intOf]; omega
        · have hb0 : (cv != 0) = true := by simpa using hz
          have HN := hid (show r = cv by rw [HK.out, rowC_stop HXK.out HYK.out (by rw [← HCV.out]; exact hz), HCV.out])
          clear hz
          go_wp2_with fail
          go_ret
          exact ⟨by rw [HN.out] <;> rfl, HG2.out⟩
      · obtain rfl : m = k := by omega
        have hd : decide ((m : Int) < (m : Int)) = false := by simp
        have HN := hid (show r = cmpI n m by rw [HK.out]; exact rowC_end HX.out HY.out (by omega))
        go_wp2_with fail
        refine (cmp_int _ _ _).mono ?_
        rintro e w1 ⟨rfl, rfl⟩
        go_wp2_with fail
        go_ret
        exact ⟨by rw [HN.out] <;> rfl, HG.out⟩
end Go.Proofs.YtljmclbedpceoaaDoor

namespace Go.Proofs.YtljmclbedpceoaaDoor
open Go.RowKit
set_option linter.unusedVariables false
set_option linter.unusedSimpArgs false

theorem less_asymm : ∀ x y : List UInt8, Op.bytesLess x y = true → Op.bytesLess y x = false ∧ x ≠ y
  | _, [], h => by simp [Op.bytesLess] at h
  | [], b :: y, _ => ⟨by simp [Op.bytesLess], by simp⟩
  | a :: x, b :: y, h => by
    simp only [Op.bytesLess, Bool.or_eq_true, decide_eq_true_eq, Bool.and_eq_true, beq_iff_eq] at h
    rcases h with h | ⟨rfl, h⟩
    · have h1 : ¬ (b < a) := by
        intro k
        have h' : a.toNat < b.toNat := h
        have k' : b.toNat < a.toNat := k
        omega
      have h2 : a ≠ b := by
        rintro rfl
        have h' : a.toNat < a.toNat := h
        omega
      refine ⟨?_, fun e => h2 (by injection e)⟩
      simp only [Op.bytesLess, Bool.or_eq_false_iff, decide_eq_false_iff_not, Bool.and_eq_false_imp, beq_iff_eq]
      exact ⟨h1, fun e => absurd e.symm h2⟩
    · obtain ⟨i1, i2⟩ := less_asymm x y h
      have h1 : ¬ (a < a) := by
        intro k
        have k' : a.toNat < a.toNat := k
        omega
      refine ⟨?_, fun e => i2 (by injection e)⟩
      simp only [Op.bytesLess, Bool.or_eq_false_iff, decide_eq_false_iff_not, Bool.and_eq_false_imp, beq_iff_eq]
      exact ⟨h1, fun _ => i1⟩
theorem less_tri : ∀ x y : List UInt8, Op.bytesLess x y = false → Op.bytesLess y x = false → x = y
  | [], [], _, _ => rfl
  | [], b :: y, h, _ => by simp [Op.bytesLess] at h
  | a :: x, [], _, h => by simp [Op.bytesLess] at h
  | a :: x, b :: y, h, k => by
    simp only [Op.bytesLess, Bool.or_eq_false_iff, decide_eq_false_iff_not, Bool.and_eq_false_imp, beq_iff_eq] at h k
    have hab : a = b := by
      have h' : ¬ a.toNat < b.toNat := h.1
      have k' : ¬ b.toNat < a.toNat := k.1
      exact UInt8.toNat_inj.1 (by omega)
    subst hab
    rw [less_tri x y (h.2 rfl) (k.2 rfl)]

end Go.Proofs.YtljmclbedpceoaaDoor

namespace Go.Proofs.YtljmclbedpceoaaDoor
open Go.RowKit
set_option linter.unusedVariables false
set_option linter.unusedSimpArgs false

theorem less_trans_ : ∀ x y z : List UInt8, Op.bytesLess x y = true → Op.bytesLess y z = true → Op.bytesLess x z = true
  | [], [], _, h, _ => by simp [Op.bytesLess] at h
  | [], _ :: _, [], _, h => by simp [Op.bytesLess] at h
  | [], _ :: _, _ :: _, _, _ => by simp [Op.bytesLess]
  | _ :: _, [], _, h, _ => by simp [Op.bytesLess] at h
  | _ :: _, _ :: _, [], _, h => by simp [Op.bytesLess] at h
  | a :: x, b :: y, c :: z, h1, h2 => by
    simp only [Op.bytesLess, Bool.or_eq_true, Bool.and_eq_true, decide_eq_true_eq, beq_iff_eq] at h1 h2 ⊢
    rcases h1 with h1 | ⟨rfl, h1⟩ <;> rcases h2 with h2 | ⟨rfl, h2⟩
    · exact .inl (by rw [UInt8.lt_iff_toNat_lt] at *; omega)
    · exact .inl h1
    · exact .inl h2
    · exact .inr ⟨rfl, less_trans_ x y z h1 h2⟩
end Go.Proofs.YtljmclbedpceoaaDoor

namespace Go.Proofs.YtljmclbedpceoaaDoor
open Go.RowKit
set_option linter.unusedVariables false
set_option linter.unusedSimpArgs false

/-- a comparison that is a linear order -/
structure LinC {α : Type} (c : α → α → Int) : Prop where
  eq : ∀ x y, c x y = 0 ↔ x = y
  flip : ∀ x y, c x y < 0 ↔ 0 < c y x
  trans : ∀ x y z, c x y < 0 → c y z < 0 → c x z < 0
theorem cmpI_cases (x y : Int) : (x < y ∧ cmpI x y = -1) ∨ (x = y ∧ cmpI x y = 0) ∨ (y < x ∧ cmpI x y = 1) := by
  unfold cmpI
  rcases Int.lt_trichotomy x y with h | h | h
  · exact .inl ⟨h, if_pos h⟩
  · exact .inr (.inl ⟨h, by rw [if_neg (by omega), if_neg (by omega)]⟩)
  · exact .inr (.inr ⟨h, by rw [if_neg (by omega), if_pos h]⟩)
theorem linI : LinC cmpI where
  eq x y := by rcases cmpI_cases x y with h | h | h <;> omega
  flip x y := by rcases cmpI_cases x y with h | h | h <;> rcases cmpI_cases y x with k | k | k <;> omega
  trans x y z h k := by rcases cmpI_cases x y with a | a | a <;> rcases cmpI_cases y z with b | b | b <;> rcases cmpI_cases x z with c | c | c <;> omega
theorem linS : LinC cmpS where
  eq x y := by
    unfold cmpS
    cases h1 : Op.bytesLess x.toList y.toList
    · by_cases h2 : x = y
      · subst h2; simp
      · have h3 : (x.toList == y.toList) = false := by rw [beq_eq_false_iff_ne]; exact fun h => h2 (bytesEq h)
        simp [h3, h2]
    · have h2 := (less_asymm _ _ h1).2
      have : x ≠ y := fun e => h2 (by rw [e])
      simp [this]
  flip x y := by
    unfold cmpS
    cases h1 : Op.bytesLess x.toList y.toList
    · cases h2 : Op.bytesLess y.toList x.toList
      · have h3 := less_tri _ _ h1 h2
        simp [h3]
      · have h3 := (less_asymm _ _ h2).2
        have h4 : (x.toList == y.toList) = false := by rw [beq_eq_false_iff_ne]; exact fun h => h3 h.symm
        simp [h4]
    · have h2 := less_asymm _ _ h1
      have h4 : (y.toList == x.toList) = false := by rw [beq_eq_false_iff_ne]; exact fun h => h2.2 h.symm
      simp [h2.1, h4]
  trans x y z h k := by
    have lt : ∀ a b : ByteArray, cmpS a b < 0 ↔ Op.bytesLess a.toList b.toList = true := fun a b => by
      unfold cmpS
      cases h1 : Op.bytesLess a.toList b.toList
      · simp only [Bool.false_eq_true, if_false, iff_false]
        split <;> omega
      · simp
    rw [lt] at h k ⊢
    exact less_trans_ _ _ _ h k
/-- the first decides, else the second -/
def thenC (a b : Int) : Int := if a = 0 then b else a
theorem linThen {α β γ : Type} {c : β → β → Int} {e : γ → γ → Int} (hc : LinC c) (he : LinC e) (f : α → β) (g : α → γ) (hi : ∀ x y, f x = f y → g x = g y → x = y) : LinC fun x y : α => thenC (c (f x) (f y)) (e (g x) (g y)) where
  eq x y := by
    show thenC _ _ = 0 ↔ _
    unfold thenC
    constructor
    · intro h
      by_cases h1 : c (f x) (f y) = 0
      · rw [if_pos h1] at h
        exact hi x y ((hc.eq _ _).1 h1) ((he.eq _ _).1 h)
      · rw [if_neg h1] at h; exact absurd h h1
    · rintro rfl
      rw [if_pos ((hc.eq _ _).2 rfl)]
      exact (he.eq _ _).2 rfl
  flip x y := by
    show thenC _ _ < 0 ↔ 0 < thenC _ _
    unfold thenC
    by_cases h1 : f x = f y
    · rw [if_pos ((hc.eq _ _).2 h1), if_pos ((hc.eq _ _).2 h1.symm)]
      exact he.flip _ _
    · rw [if_neg (fun h => h1 ((hc.eq _ _).1 h)), if_neg (fun h => h1 ((hc.eq _ _).1 h).symm)]
      exact hc.flip _ _
  trans x y z h k := by
    replace h : thenC (c (f x) (f y)) (e (g x) (g y)) < 0 := h
    replace k : thenC (c (f y) (f z)) (e (g y) (g z)) < 0 := k
    show thenC (c (f x) (f z)) (e (g x) (g z)) < 0
    unfold thenC at h k ⊢
    by_cases h1 : f x = f y
    · rw [if_pos ((hc.eq _ _).2 h1)] at h
      rw [h1]
      by_cases h2 : f y = f z
      · rw [if_pos ((hc.eq _ _).2 h2)] at k ⊢
        exact he.trans _ _ _ h k
      · rw [if_neg (fun h => h2 ((hc.eq _ _).1 h))] at k ⊢
        exact k
    · rw [if_neg (fun h => h1 ((hc.eq _ _).1 h))] at h
      by_cases h2 : f y = f z
      · rw [← h2, if_neg (fun h => h1 ((hc.eq _ _).1 h))]
        exact h
      · rw [if_neg (fun h => h2 ((hc.eq _ _).1 h))] at k
        have h3 := hc.trans _ _ _ h k
        rw [if_neg (by omega)]
        exact h3
theorem linVl : LinC cmpVl := by
  have h2 := linThen (α := Vl) linI linS Vl.i Vl.s
  have h3 : LinC fun x y : Int × ByteArray => thenC (cmpI x.1 y.1) (cmpS x.2 y.2) := linThen linI linS Prod.fst Prod.snd fun x y h k => Prod.ext h k
  have h4 := linThen (α := Vl) linI h3 Vl.k (fun v => (v.i, v.s)) fun x y h k => by
    cases x; cases y
    simp only [Prod.mk.injEq] at k
    simp only at h
    rw [h, k.1, k.2]
  have : cmpVl = fun x y : Vl => thenC (cmpI x.k y.k) (thenC (cmpI x.i y.i) (cmpS x.s y.s)) := by
    funext x y
    unfold cmpVl cmpV thenC
    simp only [firstNZ]
    by_cases h1 : cmpI x.k y.k = 0 <;> by_cases h2 : cmpI x.i y.i = 0 <;> by_cases h3 : cmpS x.s y.s = 0 <;> simp [h1, h2, h3]
  rw [this]
  exact h4
theorem rowC_eq : ∀ xs ys : List Vl, rowC xs ys = 0 ↔ xs = ys
  | [], [] => by simp [rowC]
  | [], y :: ys => by simp [rowC]
  | x :: xs, [] => by simp [rowC]
  | x :: xs, y :: ys => by
    rw [rowC]
    by_cases h : cmpVl x y = 0
    · rw [if_pos h, rowC_eq xs ys, (linVl.eq _ _).1 h]; simp
    · rw [if_neg h]
      have : x ≠ y := fun e => h ((linVl.eq _ _).2 e)
      simp [h, this]
theorem rowC_flip : ∀ xs ys : List Vl, rowC xs ys < 0 ↔ 0 < rowC ys xs
  | [], [] => by simp [rowC]
  | [], y :: ys => by simp [rowC]
  | x :: xs, [] => by simp [rowC]
  | x :: xs, y :: ys => by
    rw [rowC, rowC]
    by_cases h : x = y
    · subst h
      rw [if_pos ((linVl.eq _ _).2 rfl), if_pos ((linVl.eq _ _).2 rfl)]
      exact rowC_flip xs ys
    · rw [if_neg (fun e => h ((linVl.eq _ _).1 e)), if_neg (fun e => h ((linVl.eq _ _).1 e).symm)]
      exact linVl.flip _ _
theorem rowC_trans : ∀ xs ys zs : List Vl, rowC xs ys < 0 → rowC ys zs < 0 → rowC xs zs < 0
  | [], [], zs, h, k => by simp [rowC] at h
  | [], y :: ys, [], h, k => by simp [rowC] at k
  | [], y :: ys, z :: zs, h, k => by simp [rowC]
  | x :: xs, [], zs, h, k => by simp [rowC] at h
  | x :: xs, y :: ys, [], h, k => by simp [rowC] at k
  | x :: xs, y :: ys, z :: zs, h, k => by
    rw [rowC] at h k ⊢
    by_cases h1 : x = y
    · subst h1
      rw [if_pos ((linVl.eq _ _).2 rfl)] at h
      by_cases h2 : x = z
      · subst h2
        rw [if_pos ((linVl.eq _ _).2 rfl)] at k ⊢
        exact rowC_trans xs ys zs h k
      · rw [if_neg (fun e => h2 ((linVl.eq _ _).1 e))] at k ⊢
        exact k
    · rw [if_neg (fun e => h1 ((linVl.eq _ _).1 e))] at h
      by_cases h2 : y = z
      · subst h2
        rw [if_neg (fun e => h1 ((linVl.eq _ _).1 e))]
        exact h
      · rw [if_neg (fun e => h2 ((linVl.eq _ _).1 e))] at k
        have h3 := linVl.trans _ _ _ h k
        rw [if_neg (by omega)]
        exact h3
theorem swoRow {α : Type} (f : α → List Vl) : Go.Sort.SWO (ltOf fun x y : α => rowC (f x) (f y)) where
  irrefl x := by
    have := (rowC_eq (f x) (f x)).2 rfl
    simp [ltOf, this]
  trans x y z h k := by
    simp only [ltOf, decide_eq_true_eq] at h k ⊢
    exact rowC_trans _ _ _ h k
  ntrans x y z h k := by
    simp only [ltOf, decide_eq_false_iff_not] at h k ⊢
    intro hxz
    by_cases e : f x = f y
    · rw [e] at hxz; exact k hxz
    · have h1 : rowC (f x) (f y) ≠ 0 := fun h => e ((rowC_eq _ _).1 h)
      have h2 : rowC (f y) (f x) < 0 := (rowC_flip _ _).2 (by omega)
      exact k (rowC_trans _ _ _ h2 hxz)
end Go.Proofs.YtljmclbedpceoaaDoor

namespace Go.Proofs.YtljmclbedpceoaaDoor
open Go.RowKit
set_option linter.unusedVariables false
set_option linter.unusedSimpArgs false

def SortedV (l : List (List Vl)) : Prop := l.Pairwise fun a b => ¬ rowC b a < 0
def insV (x : List Vl) : List (List Vl) → List (List Vl)
  | [] => [x]
  | y :: l => if rowC x y < 0 then x :: y :: l else y :: insV x l
def sortV (l : List (List Vl)) : List (List Vl) := l.foldr insV []
theorem rowC_le_trans {a b c : List Vl} (h : ¬ rowC b a < 0) (k : ¬ rowC c b < 0) : ¬ rowC c a < 0 := (swoRow (α := List Vl) id).ntrans c b a (by simpa [ltOf] using k) (by simpa [ltOf] using h) |> fun h => by simpa [ltOf] using h
theorem insV_perm (x : List Vl) : ∀ l, (insV x l).Perm (x :: l)
  | [] => List.Perm.refl _
  | y :: l => by
    rw [insV]
    split
    · exact List.Perm.refl _
    · exact ((insV_perm x l).cons y).trans (List.Perm.swap x y l)
theorem insV_sorted (x : List Vl) : ∀ {l}, SortedV l → SortedV (insV x l)
  | [], _ => List.pairwise_singleton _ _
  | y :: l, h => by
    have h2 := h
    unfold SortedV at h2
    rw [List.pairwise_cons] at h2
    rw [insV]
    split
    · rename_i hlt
      unfold SortedV
      rw [List.pairwise_cons]
      refine ⟨fun z hz => ?_, h⟩
      have h3 : ¬ rowC y x < 0 := fun e => by have := (rowC_flip _ _).1 hlt; omega
      rcases List.mem_cons.1 hz with rfl | hz
      · exact h3
      · exact rowC_le_trans h3 (h2.1 z hz)
    · rename_i hlt
      unfold SortedV
      rw [List.pairwise_cons]
      refine ⟨fun z hz => ?_, insV_sorted x h2.2⟩
      rcases List.mem_cons.1 ((insV_perm x l).mem_iff.1 hz) with rfl | hz
      · exact hlt
      · exact h2.1 z hz
theorem sortV_perm : ∀ l, (sortV l).Perm l
  | [] => List.Perm.refl _
  | x :: l => (insV_perm x (sortV l)).trans ((sortV_perm l).cons x)
theorem sortV_sorted : ∀ l, SortedV (sortV l)
  | [] => List.Pairwise.nil
  | x :: l => insV_sorted x (sortV_sorted l)
theorem sorted_uniq : ∀ {l l' : List (List Vl)}, l.Perm l' → SortedV l → SortedV l' → l = l'
  | [], l', h, _, _ => (List.Perm.nil_eq h)
  | a :: l, [], h, _, _ => absurd h.length_eq (by simp)
  | a :: l, b :: l', h, h1, h2 => by
    unfold SortedV at h1 h2
    rw [List.pairwise_cons] at h1 h2
    have hab : a = b := by
      have ha := h.mem_iff.1 (List.mem_cons_self (a := a) (l := l))
      have hb := h.mem_iff.2 (List.mem_cons_self (a := b) (l := l'))
      rcases List.mem_cons.1 ha with e | ha
      · exact e
      · rcases List.mem_cons.1 hb with e | hb
        · exact e.symm
        · have k1 := h2.1 a ha
          have k2 := h1.1 b hb
          have k3 : ¬ 0 < rowC b a := fun h => k1 ((rowC_flip _ _).2 h)
          exact ((rowC_eq b a).1 (by omega)).symm
    subst hab
    rw [sorted_uniq ((List.perm_cons a).1 h) h1.2 h2.2]
theorem sortV_of {l l' : List (List Vl)} (h : l'.Perm l) (hs : SortedV l') : l' = sortV l := sorted_uniq (h.trans (sortV_perm l).symm) hs (sortV_sorted l)
theorem sortV_len (l : List (List Vl)) : (sortV l).length = l.length := (sortV_perm l).length_eq
end Go.Proofs.YtljmclbedpceoaaDoor

namespace Go.Proofs.YtljmclbedpceoaaDoor
open Go.RowKit
set_option linter.unusedVariables false
set_option linter.unusedSimpArgs false

section
variable {M : Nat → Prop} {row : Option Nat} {w0 w : World} {L : List Hp} {P : Program}
theorem Hold.setRow_ (K : Hold M row w0 w L) (i : Nat) {e : TypeId} {n cap g : Nat} {xs : List Value} (hi : L[i]? = some (.own e 1 (.slice (some ⟨g, 0, none⟩) n cap) n xs)) {cur : Array Value} {t : TypeId} (hg : w.heap[g]? = some (.cells cur t (0, 0))) (d : Nat) (cs : List Value) (hd : d + cs.length ≤ n) :
    Hold M row w0 (w.setRow g (cur.toList.take d ++ (cs ++ cur.toList.drop (d + cs.length))).toArray) (L.set i (.own e 1 (.slice (some ⟨g, 0, none⟩) n cap) n (xs.take d ++ (cs ++ xs.drop (d + cs.length))))) := by
  have hkm := List.mem_of_getElem? hi
  have hs : w.ownsRow w0.heap.size e 1 (.slice (some ⟨g, 0, none⟩) n cap) n xs := K.sat _ hkm
  obtain ⟨hl, ⟨h', _⟩ | ⟨g', cap', cur', h', hb, hg', hnc, hcm, hcs, htake⟩⟩ := hs
  · cases h'
  · simp only [Value.slice.injEq, Option.some.injEq, Addr.mk.injEq, and_true, true_and] at h'
    obtain ⟨rfl, rfl⟩ := h'
    rw [hg] at hg'
    injection hg' with hg'
    injection hg' with e1 e2
    subst e1 e2
    rw [Nat.mul_one] at hl htake hcs
    have hcl : cur.toList.length = cap := by simpa using hcs
    refine K.turn i hi (by simp [World.setRow]) ⟨rfl, rfl, rfl⟩ (fun b _ hne => setRow_other w g b _ fun e => hne (by rw [e]; rfl)) (fun b hf => ?_) ?_ (fun T hT => by cases hT)
    · have : some g = some b := hf
      injection this with this
      subst this
      exact ⟨.inl rfl, by simpa [World.setRow] using Blk.lt (t := t) (cs := cur) hg⟩
    · show World.ownsRow _ _ t 1 (.slice (some ⟨g, 0, none⟩) n cap) n _
      refine ⟨by simp; omega, .inr ⟨g, cap, _, rfl, hb, setRow_heap w g _ _ _ _ hg, hnc, hcm, by simp; omega, ?_⟩⟩
      rw [Nat.mul_one, List.toList_toArray]
      have e1 : cur.toList.take d = xs.take d := by rw [← htake, List.take_take, Nat.min_eq_left (by omega)]
      have e2 : cur.toList.drop (d + cs.length) = xs.drop (d + cs.length) ++ cur.toList.drop n := by
        have h := List.drop_append (l₁ := cur.toList.take n) (l₂ := cur.toList.drop n) (i := d + cs.length)
        rw [List.take_append_drop, htake] at h
        rw [h, show d + cs.length - xs.length = 0 by omega, List.drop_zero]
      rw [e1, e2, ← List.append_assoc cs, ← List.append_assoc (xs.take d), List.take_append_of_le_length (by simp; omega), List.take_of_length_le (by simp; omega)]
theorem wpList_copyH (K : Hold M row w0 w L) (i : Nat) {e : TypeId} {n cap g : Nat} {xs : List Value} (hi : L[i]? = some (.own e 1 (.slice (some ⟨g, 0, none⟩) n cap) n xs)) {ops : Array Oper} {rest : List Oper} {o : Oper} {a : Act} {Q : Exit → Act → World → Prop} (hgd : o.guard = none) (dO sO : Operand) (dT sT : TypeId)
    (ho : o.op = .call { callee := .builtin .copy, args := #[dO, sO], argTypes := #[dT, sT] }) (elem : TypeId) (hu : P.underlying dT = some (.slice elem)) (hsz : (P.info? elem).map (·.size) = some 1)
    (d s dLen dCap sLen sCap m : Nat) (hd : a.eval dO = .slice (some ⟨g, d, none⟩) dLen dCap) (hs : a.eval sO = .slice (some ⟨g, s, none⟩) sLen sCap) (hm : m = Nat.min sLen dLen) (hsm : s + m ≤ n) (hdm : d + m ≤ n) (h1 : ∀ u ∈ xs, u.oneCell' = true)
    (h : ∀ w', Hold M row w0 w' (L.set i (.own e 1 (.slice (some ⟨g, 0, none⟩) n cap) n (xs.take d ++ ((xs.drop s).take m ++ xs.drop (d + m))))) → wpList P ops Q rest (a.put o.dst (goInt m)) w') : wpList P ops Q (o :: rest) a w := by
  have hown : w.ownsRow w0.heap.size e 1 (.slice (some ⟨g, 0, none⟩) n cap) n xs := K.sat _ (List.mem_of_getElem? hi)
  have hcell := hown.cellAt
  obtain ⟨hl, ⟨h', _⟩ | ⟨g', cap', cur, h', hb, hg, hnc, hcm, hcs, htake⟩⟩ := hown
  · cases h'
  · simp only [Value.slice.injEq, Option.some.injEq, Addr.mk.injEq, and_true, true_and] at h'
    obtain ⟨rfl, rfl⟩ := h'
    rw [Nat.mul_one] at hl
    have hml : ((xs.drop s).take m).length = m := by simp; omega
    have hw := h _ (by have h2 := K.setRow_ i hi hg d ((xs.drop s).take m) (by rw [hml]; exact hdm); rw [hml] at h2; exact h2)
    refine wpList_copy_own hgd dO sO dT sT ho elem hu hsz g d dLen dCap ⟨g, s, none⟩ sLen sCap hd hs cur e hg ((xs.drop s).take m) (by rw [hml]; exact hm) (fun j v hv => ?_) ?_ (fun v hv => h1 v (List.mem_of_mem_drop (List.mem_of_mem_take hv))) (by rw [hml]; exact hw)
    · have hj : j < m := by have := (List.getElem?_eq_some_iff.1 hv).1; omega
      rw [List.getElem?_take, if_pos hj, List.getElem?_drop] at hv
      rw [← hv]
      have h3 := hcell (s + j) (by omega)
      rw [Go.WideShapes.add_plain]
      exact h3
    · have : cur.size = cap := by simpa using hcs
      rw [hml]; omega
end
/-- a list with one inserted at place j -/
def putAt {α : Type} (l : List α) (j : Nat) (x : α) : List α := l.take j ++ x :: l.drop j
theorem putAt_perm {α : Type} (l : List α) (j : Nat) (x : α) : (putAt l j x).Perm (x :: l) := by
  have h := List.perm_middle (a := x) (l₁ := l.take j) (l₂ := l.drop j)
  rwa [List.take_append_drop] at h
theorem putAt_map {α β : Type} (f : α → β) (l : List α) (j : Nat) (x : α) : (putAt l j x).map f = putAt (l.map f) j (f x) := by simp [putAt, List.map_take, List.map_drop]
/-- shifting up by one and storing -/
theorem shift_put {α : Type} (l : List α) (z x : α) (j : Nat) (hj : j ≤ l.length) :
    (((l ++ [z]).take (j + 1) ++ (((l ++ [z]).drop j).take (l.length - j) ++ (l ++ [z]).drop (j + 1 + (l.length - j)))).set j x) = putAt l j x := by
  have e1 : ((l ++ [z]).drop j).take (l.length - j) = l.drop j := by
    rw [List.drop_append_of_le_length hj, List.take_append_of_le_length (by simp), List.take_of_length_le (by simp)]
  have e2 : (l ++ [z]).drop (j + 1 + (l.length - j)) = [] := List.drop_of_length_le (by simp; omega)
  rw [e1, e2, List.append_nil]
  have e3 : ((l ++ [z]).take (j + 1)) = l.take j ++ ((l ++ [z]).drop j).take 1 := by
    rw [List.take_add, List.take_append_of_le_length hj]
  rw [e3]
  have e4 : (((l ++ [z]).drop j).take 1).length = 1 := by simp; omega
  obtain ⟨y, hy⟩ : ∃ y, ((l ++ [z]).drop j).take 1 = [y] := List.length_eq_one_iff.1 e4
  rw [hy, List.append_assoc, List.set_append_right _ _ (by rw [List.length_take]; exact Nat.min_le_left _ _), List.length_take, Nat.min_eq_left hj, Nat.sub_self]
  rfl
theorem push_put {α : Type} (l : List α) (z x : α) : (l ++ [z]).set l.length x = putAt l l.length x := by
  rw [List.set_append_right _ _ (Nat.le_refl _), Nat.sub_self, putAt, List.take_length, List.drop_length]; rfl
theorem putAt_slCells (l : List Sl) (j : Nat) (z : Sl) : slCells (putAt l j z) = putAt (slCells l) j (.slice z.A z.n z.c) := by
  have h : ∀ l : List Sl, slCells l = l.map fun s => .slice s.A s.n s.c := fun l => by
    induction l with
    | nil => rfl
    | cons a l ih => simp [slCells, Sl.cells] at ih ⊢; simpa using ih
  rw [h, h, putAt_map]
end Go.Proofs.YtljmclbedpceoaaDoor

namespace Go.Proofs
open Go.Shelf
def Tryd.sortRows_ren : Go.Shelf.Ren := ⟨fun | 6 => 46 | 15 => 80 | 14 => 79 | 28 => 116 | 29 => 117 | 20 => 108 | 21 => 109 | 22 => 110 | 23 => 111 | 24 => 112 | 25 => 113 | 26 => 114 | 27 => 115 | 46 => 130 | 47 => 131 | 48 => 132 | 49 => 133 | 50 => 134 | 57 => 142 | n => n, fun | 22 => 25 | 24 => 27 | 25 => 30 | 3 => 3 | 39 => 114 | 0 => 0 | 53 => 143 | 55 => 145 | 4 => 4 | 46 => 137 | 45 => 136 | 50 => 67 | 5 => 5 | 9 => 9 | 66 => 152 | 70 => 156 | 76 => 160 | 77 => 161 | n => n, fun | n => n⟩
theorem Tryd.sortRows : Go.Proofs.SlLaysF.n6 Tryd.prog Tryd.sortRows_ren := {
  mixed := by kernel_rfl
  f6 := ⟨Tryd.f46.name, by decide, Tryd.func46.trans (congrArg some (by kernel_rfl))⟩
  f14 := ⟨Tryd.f79.name, by decide, Tryd.func79.trans (congrArg some (by kernel_rfl))⟩
  f15 := Tryd.func80.trans (congrArg some (by kernel_rfl))
  f20 := ⟨Tryd.f108.name, by decide, Tryd.func108.trans (congrArg some (by kernel_rfl))⟩
  f21 := ⟨Tryd.f109.name, by decide, Tryd.func109.trans (congrArg some (by kernel_rfl))⟩
  f22 := ⟨Tryd.f110.name, by decide, Tryd.func110.trans (congrArg some (by kernel_rfl))⟩
  f23 := ⟨Tryd.f111.name, by decide, Tryd.func111.trans (congrArg some (by kernel_rfl))⟩
  f24 := ⟨Tryd.f112.name, by decide, Tryd.func112.trans (congrArg some (by kernel_rfl))⟩
  f25 := ⟨Tryd.f113.name, by decide, Tryd.func113.trans (congrArg some (by kernel_rfl))⟩
  f26 := ⟨Tryd.f114.name, by decide, Tryd.func114.trans (congrArg some (by kernel_rfl))⟩
  f27 := ⟨Tryd.f115.name, by decide, Tryd.func115.trans (congrArg some (by kernel_rfl))⟩
  f28 := Tryd.func116.trans (congrArg some (by kernel_rfl))
  f29 := Tryd.func117.trans (congrArg some (by kernel_rfl))
  f46 := ⟨Tryd.f130.name, by decide, Tryd.func130.trans (congrArg some (by kernel_rfl))⟩
  f47 := Tryd.func131.trans (congrArg some (by kernel_rfl))
  f48 := Tryd.func132.trans (congrArg some (by kernel_rfl))
  f49 := ⟨Tryd.f133.name, by decide, Tryd.func133.trans (congrArg some (by kernel_rfl))⟩
  f50 := ⟨Tryd.f134.name, by decide, Tryd.func134.trans (congrArg some (by kernel_rfl))⟩
  f57 := ⟨Tryd.f142.name, by decide, Tryd.func142.trans (congrArg some (by kernel_rfl))⟩
  t0 := Tryd.underlying0
  a0 := Tryd.isAgg0
  z0 := Tryd.sizeOf0
  v0 := Tryd.zeroValue0
  t3 := Tryd.underlying3
  a3 := Tryd.isAgg3
  z3 := Tryd.sizeOf3
  v3 := Tryd.zeroValue3
  t4 := Tryd.underlying4
  a4 := Tryd.isAgg4
  z4 := Tryd.sizeOf4
  v4 := Tryd.zeroValue4
  t5 := Tryd.underlying5
  a5 := Tryd.isAgg5
  z5 := Tryd.sizeOf5
  v5 := Tryd.zeroValue5
  t9 := Tryd.underlying9
  a9 := Tryd.isAgg9
  z9 := Tryd.sizeOf9
  v9 := Tryd.zeroValue9
  t22 := Tryd.underlying25
  a22 := Tryd.isAgg25
  z22 := Tryd.sizeOf25
  v22 := Tryd.zeroValue25
  a24 := Tryd.isAgg27
  z24 := Tryd.sizeOf27
  t25 := Tryd.underlying30
  a25 := Tryd.isAgg30
  z25 := Tryd.sizeOf30
  v25 := Tryd.zeroValue30
  t39 := Tryd.underlying114
  a39 := Tryd.isAgg114
  z39 := Tryd.sizeOf114
  v39 := Tryd.zeroValue114
  t45 := Tryd.underlying136
  a45 := Tryd.isAgg136
  z45 := Tryd.sizeOf136
  v45 := Tryd.zeroValue136
  t46 := Tryd.underlying137
  a46 := Tryd.isAgg137
  z46 := Tryd.sizeOf137
  v46 := Tryd.zeroValue137
  t50 := Tryd.underlying67
  a50 := Tryd.isAgg67
  z50 := Tryd.sizeOf67
  v50 := Tryd.zeroValue67
  t53 := Tryd.underlying143
  a53 := Tryd.isAgg143
  z53 := Tryd.sizeOf143
  v53 := Tryd.zeroValue143
  t55 := Tryd.underlying145
  a55 := Tryd.isAgg145
  z55 := Tryd.sizeOf145
  v55 := Tryd.zeroValue145
  t66 := Tryd.underlying152
  a66 := Tryd.isAgg152
  z66 := Tryd.sizeOf152
  v66 := Tryd.zeroValue152
  t70 := Tryd.underlying156
  a70 := Tryd.isAgg156
  z70 := Tryd.sizeOf156
  v70 := Tryd.zeroValue156
  t76 := Tryd.underlying160
  a76 := Tryd.isAgg160
  z76 := Tryd.sizeOf160
  v76 := Tryd.zeroValue160
  t77 := Tryd.underlying161
  a77 := Tryd.isAgg161
  z77 := Tryd.sizeOf161
  v77 := Tryd.zeroValue161 }
end Go.Proofs

namespace Go.Proofs.YtljmclbedpceoaaDoor
open Go.RowKit
set_option linter.unusedVariables false
set_option linter.unusedSimpArgs false

/-- rows that stand whatever becomes of block g -/
abbrev RowsAt (w : World) (g : Nat) : Type := { s : Sl // Ro w (fun b => b = g) (VlsIn s.A s.n s.vs) ∧ s.n ≤ 9223372036854775807 }
instance rowsAtInh (w : World) (g : Nat) : Inhabited (RowsAt w g) := ⟨⟨⟨none, 0, 0, []⟩, fun _ _ _ => Rd.none_, Nat.zero_le _⟩⟩
def encRow {w : World} {g : Nat} (x : RowsAt w g) : Value := .slice x.1.A x.1.n x.1.c
theorem slCells_at {l : List Sl} {j : Nat} {s : Sl} (h : l[j]? = some s) : (slCells l)[j]? = some (.slice s.A s.n s.c) := by
  have := flat_get Sl.cells 1 (fun _ => rfl) l j 0 s (by omega) h
  unfold slCells
  simpa [Sl.cells] using this
theorem sortWorld_heap {α : Type} [Inhabited α] (enc : α → Value) (w : World) (g m : Nat) (d : Array α) (os : Array Obj) {b : Nat} (hb : b < w.heap.size) (hne : b ≠ g) : (sortWorld enc w g 0 m d os).heap[b]? = w.heap[b]? := by
  show ((w.heap.modify g _) ++ os)[b]? = _
  rw [Array.getElem?_append, if_pos (by simpa using hb), Array.getElem?_modify, if_neg (fun e => hne e.symm)]
theorem sortWorld_size {α : Type} [Inhabited α] (enc : α → Value) (w : World) (g m : Nat) (d : Array α) (os : Array Obj) : w.heap.size ≤ (sortWorld enc w g 0 m d os).heap.size := by
  show _ ≤ ((w.heap.modify g _) ++ os).size
  simp
theorem sortWorld_at {α : Type} [Inhabited α] (enc : α → Value) (w : World) (g m : Nat) (d : Array α) (os : Array Obj) {cs : Array Value} {t : TypeId} (h : w.heap[g]? = some (.cells cs t (0, 0))) : (sortWorld enc w g 0 m d os).heap[g]? = some (.cells (Go.Sort.putCells enc 0 d cs) t (0, 0)) := by
  have hb : g < w.heap.size := (Array.getElem?_eq_some_iff.1 h).1
  show ((w.heap.modify g _) ++ os)[g]? = _
  rw [Array.getElem?_append, if_pos (by simpa using hb), Array.getElem?_modify, if_pos rfl, h]
  rfl
set_option maxHeartbeats 2000000 in
theorem sortfn_any {M : Nat → Prop} {row : Option Nat} {w0 w : World} {L : List Hp} (K : Hold M row w0 w L) (i : Nat) {g q cap : Nat} {lo : List Sl} (hi : L[i]? = some (.own 27 1 (.slice (some ⟨g, 0, none⟩) q cap) q (slCells lo))) (hv : Ro w (Mut M L) (SlVals lo)) (hn : ∀ s ∈ lo, s.n ≤ 9223372036854775807) (hq : q < 4611686018427387904) :
    Calls Tryd.prog 46 #[.slice (some ⟨g, 0, none⟩) q cap, .func (.func 47) #[] #[]] w fun e w' => e = .returned (.tuple #[]) ∧ ∃ lo' : List Sl, lo'.Perm lo ∧ lo'.Pairwise (fun a b => ¬ rowC b.vs a.vs < 0) ∧ Hold M row w0 w' (L.set i (.own 27 1 (.slice (some ⟨g, 0, none⟩) q cap) q (slCells lo'))) := by
  have ho : w.ownsRow w0.heap.size 27 1 (.slice (some ⟨g, 0, none⟩) q cap) q (slCells lo) := K.get i hi
  have hg : g < w.heap.size := (K.fresh _ (List.mem_of_getElem? hi) g rfl).2
  have hgM : Mut M L g := .inr ⟨_, List.mem_of_getElem? hi, rfl⟩
  have hlen : lo.length = q := by have := ho.1; rw [slCells_len] at this; omega
  have hgood : ∀ s ∈ lo, Ro w (fun b => b = g) (VlsIn s.A s.n s.vs) ∧ s.n ≤ 9223372036854775807 := fun s hs => ⟨(hv.imp fun w2 h2 => h2 s hs).less fun b hb => by rw [hb]; exact hgM, hn s hs⟩
  obtain ⟨dl, hdl⟩ : ∃ dl : List (RowsAt w g), dl.map (·.1) = lo := ⟨lo.attach.map fun s => ⟨s.1, hgood s.1 s.2⟩, by rw [List.map_map]; exact List.attach_map_subtype_val lo⟩
  have hdn : dl.toArray.size = q := by rw [← hlen, ← hdl]; simp
  have hget : ∀ j, j < q → ∃ x : RowsAt w g, dl.toArray[j]! = x ∧ lo[j]? = some x.1 := fun j hj => by
    have hj2 : j < dl.length := by have := hdn; simp at this; omega
    exact ⟨dl[j], by rw [getElem!_pos _ _ (by simpa using hj2)]; rfl, by rw [← hdl, List.getElem?_map, List.getElem?_eq_getElem hj2]; rfl⟩
  have hH : Go.Sort.Holds encRow w g 0 dl.toArray := fun j hj => by
    rw [hdn] at hj
    obtain ⟨x, h1, h2⟩ := hget j hj
    rw [h1, Nat.zero_add]
    exact ⟨(ho.cellAt j (by omega)).trans (slCells_at h2), ho.frozenAt j⟩
  have hcmp : CmpLays1 Tryd.prog 47 #[] encRow (fun x y : RowsAt w g => rowC x.1.vs y.1.vs) g 0 dl.toArray.size w := fun m os dk hs x y => by
    have hx : ∀ z : RowsAt w g, Ro (sortWorld encRow w g 0 m dk os) None_ (VlsIn z.1.A z.1.n z.1.vs) := fun z w2 h1 h2 => z.2.1 w2 (Nat.le_trans (sortWorld_size _ _ _ _ _ _) h1) fun b hb hne => (h2 b (Nat.lt_of_lt_of_le hb (sortWorld_size _ _ _ _ _ _)) (by simp [None_])).trans (sortWorld_heap _ _ _ _ _ _ hb hne)
    exact vcmprows_gr _ x.1.A x.1.n x.1.c x.1.vs y.1.A y.1.n y.1.c y.1.vs (hx x) (hx y) x.2.2 y.2.2
  have hcon := Any.slices_SortFunc Tryd.sortRows encRow (fun _ => rfl) (fun x y : RowsAt w g => rowC x.1.vs y.1.vs) (swoRow fun x : RowsAt w g => x.1.vs) 47 #[] g 0 cap dl.toArray w (enters_of Tryd.func47 (by kernel_rfl) rfl) hcmp hH hg (by omega)
  rw [hdn] at hcon
  change Calls Tryd.prog 46 _ _ _ at hcon
  refine hcon.mono ?_
  rintro e w' ⟨rfl, d', n, os, ⟨p1, p2, p3⟩, hs, rfl⟩
  rw [hdn] at p1
  have hall : d'.extract 0 q = d' := by rw [← p1]; simp
  have hall2 : dl.toArray.extract 0 q = dl.toArray := by rw [← hdn]; simp
  rw [hall, hall2] at p3
  have hl' : (d'.toList.map (·.1)).length = q := by simp [p1]
  have hat : ∀ j, j < q → (d'.toList.map (·.1))[j]? = some ((d'[j]!).1) := fun j hj => by
    have hj2 : j < d'.size := by omega
    rw [List.getElem?_map, getElem!_pos d' j hj2, Array.getElem?_toList, Array.getElem?_eq_getElem hj2]
    rfl
  refine ⟨rfl, d'.toList.map (·.1), ?_, ?_, ?_⟩
  · have := p3.map (·.1)
    rwa [show (dl.toArray.toList.map (·.1)) = lo by simpa using hdl] at this
  · rw [List.pairwise_iff_getElem]
    intro a b ha hb hab
    have ha2 := hat a (by omega)
    have hb2 := hat b (by omega)
    rw [List.getElem?_eq_getElem ha] at ha2
    rw [List.getElem?_eq_getElem hb] at hb2
    injection ha2 with ha2
    injection hb2 with hb2
    have h1 := hs a b (Nat.zero_le _) hab (by omega)
    unfold ltOf at h1
    rw [decide_eq_false_iff_not] at h1
    rw [ha2, hb2]
    exact h1
  · refine K.append (w' := sortWorld encRow w g 0 n d' os) i hi (ys := slCells (d'.toList.map (·.1))) ?_ ⟨rfl, rfl, rfl, sortWorld_size _ _ _ _ _ _, fun b hb hne => sortWorld_heap _ _ _ _ _ _ hb fun e => hne (by rw [e]; rfl)⟩ (.inl rfl) (Nat.lt_of_lt_of_le hg (sortWorld_size _ _ _ _ _ _))
    obtain ⟨hlen2, ⟨hv0, _⟩ | ⟨g', cap', cur, hveq, hbase, hcell, hqc, hcm, hcs, htk⟩⟩ := ho
    · cases hv0
    · injection hveq with e1 e2 e3
      injection e1 with e1
      injection e1 with e1
      subst e1; subst e3
      refine ⟨by rw [slCells_len, hl']; omega, .inr ⟨g, cap, _, rfl, hbase, sortWorld_at _ _ _ _ _ _ hcell, hqc, hcm, ?_, ?_⟩⟩
      · rw [← hcs]
        show (cur.mapIdx _).size = _
        simp
      · refine List.ext_getElem? fun j => ?_
        by_cases hj : j < q
        · rw [List.getElem?_take, if_pos (by omega), slCells_at (hat j hj)]
          have hjc : j < cur.size := by omega
          show ((cur.mapIdx fun k x => if 0 ≤ k ∧ k < 0 + d'.size then encRow d'[k - 0]! else x).toList)[j]? = _
          rw [Array.getElem?_toList, Array.getElem?_mapIdx, Array.getElem?_eq_getElem hjc]
          simp only [Option.map_some, Nat.zero_add, Nat.sub_zero, Nat.zero_le, true_and]
          rw [if_pos (by omega)]
          rfl
        · rw [List.getElem?_eq_none (by rw [List.length_take]; omega), List.getElem?_eq_none (by rw [slCells_len, hl']; omega)]
end Go.Proofs.YtljmclbedpceoaaDoor

namespace Go.Proofs.YtljmclbedpceoaaDoor
open Go.RowKit
set_option linter.unusedVariables false
set_option linter.unusedSimpArgs false

/-- rows handed back -/
def SlsRet (w : World) (M : Nat → Prop) (L : List (List Vl)) (e : Ending) (w' : World) : Prop := ∃ (A : Option Addr) (n c : Nat) (l : List Sl), e = .returned (.slice A n c) ∧ n ≤ c ∧ c ≤ 9223372036854775807 ∧ Ro w' M (SlsIn A n l) ∧ (∀ s ∈ l, s.ok) ∧ (∀ s ∈ l, s.n ≤ 4398046511104) ∧ l.map Sl.vs = L ∧ Below w.heap.size w w'
set_option maxHeartbeats 4000000 in
set_option maxRecDepth 100000 in
theorem tsort_any (M : Nat → Prop) (w : World) (hM : ∀ b, M b → b < w.heap.size) (A : Option Addr) (n c : Nat) (l : List Sl) (hD : Ro w M (SlsIn A n l)) (hn : n ≤ 4398046511104) (hr : ∀ s ∈ l, s.n ≤ 4398046511104) (hok : ∀ s ∈ l, s.ok) :
    Calls Tryd.prog 11 #[.slice A n c] w fun e w' => SlsRet w M (sortV (l.map Sl.vs)) e w' := by
  have HL := hid hD.now.len
  have HR := hid hr
  have HOK := hid hok
  have K0 := (((Hold.start M w hM).add (hD.less (by simp [Mut]))).add (show Ro w _ (SlVals []) from fun _ _ _ r hr => nomatch hr)).nil 27 1
  clear hD hr hok
  go_enter Tryd.func11, Tryd.ntmps11
  go_wp2_with fail
  go_loopw [3, 8] (fun ov iv wr => ∃ (k cap : Nat) (C : Option Addr) (lo : List Sl), k ≤ n ∧ ov = .slice C k cap ∧ iv = .int .i64 k ∧ Hid (lo.map Sl.vs = (l.map Sl.vs).take k) ∧ Hid (∀ s ∈ lo, s.ok) ∧ Hid (∀ s ∈ lo, s.n ≤ 4398046511104) ∧ Hold M none w wr [.own 27 1 (.slice C k cap) k (slCells lo), .ro (SlVals lo), .ro (SlsIn A n l)]) (fun _ iv _ => n - (intOf iv).toNat)
  case atStart => exact ⟨0, 0, none, [], by omega, rfl, rfl, hid (by simp), hid (fun s hs => nomatch hs), hid (fun s hs => nomatch hs), K0⟩
  case round =>
    clear K0
    obtain ⟨k, cap, C, lo, hk, rfl, rfl, HLO, HOO, HNO, H⟩ := hrel
    by_cases hlt : k < n
    · have hd : decide ((k : Int) < (n : Int)) = true := by simp; omega
      have i0 : (0 : Int) ≤ (k : Int) := by omega
      have i1 : (k : Int) < (n : Int) := by omega
      obtain ⟨x, hx⟩ := get_of HL.out hlt
      obtain ⟨b, o, rfl, hb, c0, _⟩ := (H.ro 2 rfl).now.at_ hx
      have hxv : Ro wr _ (VlsIn x.A x.n x.vs) := (H.ro 2 rfl).imp fun w2 h2 => h2.2 x (List.mem_of_getElem? hx)
      have hxn := HR.out x (List.mem_of_getElem? hx)
      have HXO := hid (HOK.out x (List.mem_of_getElem? hx))
      have HX := hid (show (l.map Sl.vs)[k]? = some x.vs by rw [List.getElem?_map, hx]; rfl)
      clear hx
      go_wp2_with fail
      refine (cloneVls_any _ wr H.mutLt x.A x.n x.c x.vs hxv hxn).mono ?_
      rintro e w2 ⟨zA, zn, zc, rfl, h1, h2, h3, r2, b2⟩
      have K1 := (H.call b2).add (show Ro w2 _ (VlsIn zA zn x.vs) from r2)
      have hzn : x.vs.length = x.n := hxv.now.len
      have HZ := hid (And.intro h1 (And.intro h2 h3))
      clear H hxv b2 r2 h1 h2 h3 c0
      have HCE := hid (show slCells lo ++ (#[Value.slice zA zn zc]).toList = slCells (lo ++ [⟨zA, zn, zc, x.vs⟩]) by simp [slCells, Sl.cells])
      have FA := K1.facts
      simp only [World.size_alloc, World.size_drew, factsL, cellsF, Nat.reduceAdd, List.toList_toArray, List.set_cons_zero, List.set_cons_succ, List.setIfInBounds_toArray, and_true, true_and] at FA
      go_wp2_with (at_builtin; go_must (refine wpList_appH K1 1 rfl Tryd.elSlc #[.slice zA zn zc] rfl (.tmp 12) (.tmp 15) rfl rfl w2.heap.size (by first | rfl | simp) rfl rfl (by intro u hu; simp at hu; rcases hu with rfl; rfl) (by omega) (by omega) ?_); intro g9 cap9 w9 hc9 hm9 KB; rw [HCE.out] at KB; simp only [List.set_cons_zero, List.set_cons_succ] at KB)
      have KC := (KB.swapRo 2 rfl (sls_snoc (r := ⟨zA, zn, zc, x.vs⟩) (KB.ro 2 rfl) (KB.ro 0 rfl))).drop (List.sublist_cons_self _ _)
      have HN := hid (show (lo ++ [(⟨zA, zn, zc, x.vs⟩ : Sl)]).map Sl.vs = (l.map Sl.vs).take (k + 1) by rw [List.map_append, HLO.out, List.take_add_one, HX.out]; rfl)
      have HN2 := hid (okSnoc (P := Sl.ok) (x := (⟨zA, zn, zc, x.vs⟩ : Sl)) HOO.out ⟨HZ.out.2.1, HZ.out.2.2, HXO.out.vs⟩)
      have HN3 := hid (okSnoc (P := fun s : Sl => s.n ≤ 4398046511104) (x := (⟨zA, zn, zc, x.vs⟩ : Sl)) HNO.out (by have := HZ.out.1; show zn ≤ _; omega))
      go_roundw
      case rel => exact ⟨k + 1, cap9, _, _, by omega, by first | rfl | go_num, by first | rfl | go_num, HN, HN2, HN3, KC⟩
      case measure => simp [intOf]; omega
    · obtain rfl : n = k := by omega
      have hd : decide ((n : Int) < (n : Int)) = false := by simp
      have HLV := hid (show lo.map Sl.vs = l.map Sl.vs by
        have h := HLO.out
        rwa [List.take_of_length_le (by rw [List.length_map, HL.out]; exact Nat.le_refl _)] at h)
      clear HLO
      obtain ⟨hc1, hc2, _⟩ := own_caps (H.get 0 rfl)
      rcases own_addr (H.get 0 rfl) with ⟨rfl, rfl, rfl⟩ | ⟨g, rfl, hg⟩
      · have hcon := AnyF.slices_SortFunc_none (P := Tryd.prog) (ρ := Tryd.sortRows_ren) { Tryd.sortRows with } none 0 (.func (.func 47) #[] #[])
        have HCN := hid (show ∀ W, Calls Tryd.prog 46 #[.slice none 0 0, .func (.func 47) #[] #[]] W fun e w' => e = .returned (.tuple #[]) ∧ w' = W from hcon)
        clear hcon
        have HEM := hid (show sortV (l.map Sl.vs) = lo.map Sl.vs by
          have h0 : l = [] := List.eq_nil_of_length_eq_zero HL.out
          have h1 := HLV.out
          rw [h0] at h1 ⊢
          rw [h1]; rfl)
        have KS := H.sealRow 0 rfl
        simp only [List.set_cons_zero] at KS
        have r1 := (KS.roOut 0 rfl).and (KS.roOut 1 rfl)
        go_wp2_with fail
        refine (HCN.out _).mono ?_
        rintro e w2 ⟨rfl, rfl⟩
        go_wp2_with fail
        go_ret
        exact ⟨none, 0, 0, lo, rfl, by omega, by omega, r1, HOO.out, HNO.out, HEM.out.symm, KS.below⟩
      · have hsf := sortfn_any H 0 rfl (H.ro 1 rfl) (fun s hs => by have := HNO.out s hs; omega) (by omega)
        have HSF := hid hsf
        clear hsf
        go_wp2_with fail
        refine HSF.out.mono ?_
        rintro e w2 ⟨rfl, lo', hp, hs, K2⟩
        simp only [List.set_cons_zero] at K2
        have HEM := hid (show lo'.map Sl.vs = sortV (l.map Sl.vs) by
          rw [← HLV.out]
          exact sortV_of (hp.map _) (List.pairwise_map.2 (hs.imp fun h => by omega)))
        have HP := hid hp
        clear H hp hs
        have KV := K2.add (show Ro w2 _ (SlVals lo') from (K2.ro 1 rfl).imp fun w3 h3 s hs => h3 s (HP.out.mem_iff.1 hs))
        have KS := KV.sealRow 1 rfl
        simp only [List.set_cons_zero, List.set_cons_succ] at KS
        have r1 := (KS.roOut 1 rfl).and (KS.roOut 0 rfl)
        go_wp2_with fail
        go_ret
        exact ⟨_, n, cap, lo', rfl, hc1, hc2, r1, fun s hs => HOO.out s (HP.out.mem_iff.1 hs), fun s hs => HNO.out s (HP.out.mem_iff.1 hs), HEM.out, KS.below⟩
end Go.Proofs.YtljmclbedpceoaaDoor

namespace Go.Proofs.YtljmclbedpceoaaDoor
open Go.RowKit
set_option linter.unusedVariables false
set_option linter.unusedSimpArgs false

def Tryd.lays106_ren : Go.Shelf.Ren := ⟨fun | 106 => 83 | 213 => 122 | 265 => 137 | n => n, fun | 9 => 9 | 3 => 3 | n => n, fun | n => n⟩
theorem Tryd.lays106 : Go.Proofs.Lays.n106 Tryd.prog Tryd.lays106_ren := {
  mixed := by kernel_rfl
  f106 := Tryd.func83.trans (congrArg some (by kernel_rfl))
  f213 := Tryd.func122.trans (congrArg some (by kernel_rfl))
  f265 := Tryd.func137.trans (congrArg some (by kernel_rfl))
  t3 := Tryd.underlying3
  a3 := Tryd.isAgg3
  z3 := Tryd.sizeOf3
  v3 := Tryd.zeroValue3
  t9 := Tryd.underlying9
  a9 := Tryd.isAgg9
  z9 := Tryd.sizeOf9
  v9 := Tryd.zeroValue9 }
end Go.Proofs.YtljmclbedpceoaaDoor

namespace Go.Proofs.YtljmclbedpceoaaDoor
open Go.RowKit
set_option linter.unusedVariables false
set_option linter.unusedSimpArgs false

theorem cb_eq : ∀ x y : List UInt8, Lib.compareBytes x y = if Op.bytesLess x y then -1 else if x == y then 0 else 1
  | [], [] => by simp [Lib.compareBytes, Op.bytesLess]
  | [], b :: y => by simp [Lib.compareBytes, Op.bytesLess]
  | a :: x, [] => by simp [Lib.compareBytes, Op.bytesLess]
  | a :: x, b :: y => by
    simp only [Lib.compareBytes, Op.bytesLess]
    by_cases h1 : a < b
    · simp [h1]
    · by_cases h2 : b < a
      · have hne : a ≠ b := by
          rintro rfl
          exact h1 h2
        simp [h1, h2, hne]
      · have he : a = b := by
          have h1' : ¬ a.toNat < b.toNat := h1
          have h2' : ¬ b.toNat < a.toNat := h2
          exact UInt8.toNat_inj.1 (by omega)
        subst he
        have := cb_eq x y
        simp [h1, this]
theorem toList_data (s : ByteArray) : s.toList = s.data.toList := by
  rw [ByteArray.toList_eq]
theorem scompare_any (a b : ByteArray) (w : World) : Calls Tryd.prog 83 #[.string a, .string b] w fun e w' => e = .returned (.int .i64 (cmpS a b)) ∧ w = w' := by
  have h := Any.strings_Compare Tryd.lays106 a b w
  change Calls Tryd.prog 83 _ _ _ at h
  refine h.mono ?_
  rintro e w' ⟨rfl, rfl⟩
  exact ⟨by rw [cb_eq]; unfold cmpS; rw [toList_data, toList_data], rfl⟩
set_option maxHeartbeats 1000000 in
theorem rcompare_ex (x y : Vl) (w : World) : Calls Tryd.prog 48 #[.agg #[.int .i64 x.k, .int .i64 x.i, .string x.s], .agg #[.int .i64 y.k, .int .i64 y.i, .string y.s]] w fun e w' => e = .returned (.int .i64 (cmpVl x y)) ∧ Below w.heap.size w w' := by
  obtain ⟨xk, xi, xs⟩ := x
  obtain ⟨yk, yi, ys⟩ := y
  dsimp only
  have K0 := ((Hold.begin_ w).alloc_cst #[.int .i64 xk, .int .i64 xi, .string xs] 66).alloc_cst #[.int .i64 yk, .int .i64 yi, .string ys] 66
  rw [World.size_alloc] at K0
  have F0 := K0.facts
  simp only [World.size_alloc, World.size_drew, factsL, cellsF, Nat.reduceAdd, List.toList_toArray, List.set_cons_zero, List.set_cons_succ, List.setIfInBounds_toArray, and_true, true_and] at F0
  by_cases hk : xk = yk
  · subst hk
    have hb : (xk != xk) = false := by simp
    by_cases hi : xi = yi
    · subst hi
      have hb2 : (xi != xi) = false := by simp
      go_enter Tryd.func48, Tryd.ntmps48
      go_wp2_with fail
      have HN := hid (show cmpVl ⟨xk, xi, xs⟩ ⟨xk, xi, ys⟩ = cmpS xs ys by
        have h1 := (linI.eq xk xk).2 rfl
        have h2 := (linI.eq xi xi).2 rfl
        by_cases h3 : cmpS xs ys = 0 <;> simp [cmpVl, cmpV, firstNZ, h1, h2, h3])
      refine (scompare_any xs ys _).mono ?_
      rintro e w1 ⟨rfl, rfl⟩
      go_wp2_with fail
      go_ret
      exact ⟨by rw [HN.out] <;> rfl, K0.below⟩
    · have hb2 : (xi != yi) = true := by simpa using hi
      have HI := hid hi
      rcases Int.lt_or_le xi yi with hl | hl
      · have hd : decide (xi < yi) = true := by simpa using hl
        have HN := hid (show cmpVl ⟨xk, xi, xs⟩ ⟨xk, yi, ys⟩ = -1 by
          have h1 := (linI.eq xk xk).2 rfl
          have h2 : cmpI xi yi = -1 := by rcases cmpI_cases xi yi with h | h | h <;> omega
          simp [cmpVl, cmpV, firstNZ, h2, h1])
        clear hi hl
        go_enter Tryd.func48, Tryd.ntmps48
        go_wp2_with fail
        go_ret
        exact ⟨by rw [HN.out] <;> rfl, K0.below⟩
      · have hd : decide (xi < yi) = false := by rw [decide_eq_false_iff_not]; omega
        have HN := hid (show cmpVl ⟨xk, xi, xs⟩ ⟨xk, yi, ys⟩ = 1 by
          have h1 := (linI.eq xk xk).2 rfl
          have h2 : cmpI xi yi = 1 := by rcases cmpI_cases xi yi with h | h | h <;> omega
          simp [cmpVl, cmpV, firstNZ, h2, h1])
        clear hi hl
        go_enter Tryd.func48, Tryd.ntmps48
        go_wp2_with fail
        go_ret
        exact ⟨by rw [HN.out] <;> rfl, K0.below⟩
  · have hb : (xk != yk) = true := by simpa using hk
    have HI := hid hk
    rcases Int.lt_or_le xk yk with hl | hl
    · have hd : decide (xk < yk) = true := by simpa using hl
      have HN := hid (show cmpVl ⟨xk, xi, xs⟩ ⟨yk, yi, ys⟩ = -1 by
        have h2 : cmpI xk yk = -1 := by rcases cmpI_cases xk yk with h | h | h <;> omega
        simp [cmpVl, cmpV, firstNZ, h2])
      clear hk hl
      go_enter Tryd.func48, Tryd.ntmps48
      go_wp2_with fail
      go_ret
      exact ⟨by rw [HN.out] <;> rfl, K0.below⟩
    · have hd : decide (xk < yk) = false := by rw [decide_eq_false_iff_not]; omega
      have HN := hid (show cmpVl ⟨xk, xi, xs⟩ ⟨yk, yi, ys⟩ = 1 by
        have h2 : cmpI xk yk = 1 := by rcases cmpI_cases xk yk with h | h | h <;> omega
        simp [cmpVl, cmpV, firstNZ, h2])
      clear hk hl
      go_enter Tryd.func48, Tryd.ntmps48
      go_wp2_with fail
      go_ret
      exact ⟨by rw [HN.out] <;> rfl, K0.below⟩
set_option maxHeartbeats 4000000 in
set_option maxRecDepth 100000 in
theorem rcmprows_ex (M : Nat → Prop) (w : World) (hM : ∀ b, M b → b < w.heap.size) (A : Option Addr) (n c : Nat) (xs : List Vl) (B : Option Addr) (m d : Nat) (ys : List Vl) (hD : Ro w M (VlsIn A n xs)) (hE : Ro w M (VlsIn B m ys)) (hn : n ≤ 9223372036854775807) (hm : m ≤ 9223372036854775807) :
    Calls Tryd.prog 12 #[.slice A n c, .slice B m d] w fun e w' => e = .returned (.int .i64 (rowC xs ys)) ∧ Below w.heap.size w w' := by
  have HX := hid hD.now.len
  have HY := hid hE.now.len
  have K0 := ((Hold.start M w hM).add (hE.less (by simp [Mut]))).add (hD.less (by simp [Mut, Hp.foot]))
  clear hD hE
  go_enter Tryd.func12, Tryd.ntmps12
  go_wp2_with fail
  go_loopw [5] (fun iv wr => ∃ k : Nat, k ≤ n ∧ k ≤ m ∧ iv = .int .i64 k ∧ Hid (rowC xs ys = rowC (xs.drop k) (ys.drop k)) ∧ Hold M none w wr [.ro (VlsIn A n xs), .ro (VlsIn B m ys)]) (fun iv _ => n - (intOf iv).toNat)
  case atStart => exact ⟨0, by omega, by omega, rfl, hid rfl, K0⟩
  case round =>
    clear K0
    obtain ⟨k, hk, hkm, rfl, HT, H⟩ := hrel
    by_cases hlt : k < n
    · have hd : decide ((k : Int) < (n : Int)) = true := by simp; omega
      by_cases hltm : k < m
      · have hdm : decide ((k : Int) < (m : Int)) = true := by simp; omega
        have k0 : (0 : Int) ≤ (k : Int) := by omega
        have k1 : (k : Int) < (n : Int) := by omega
        have k2 : (k : Int) < (m : Int) := by omega
        obtain ⟨x, hx⟩ := get_of HX.out hlt
        obtain ⟨y, hy⟩ := get_of HY.out hltm
        obtain ⟨b1, o1, rfl, r1⟩ := (H.ro 0 rfl).vlsAt hx
        obtain ⟨b2, o2, rfl, r2⟩ := (H.ro 1 rfl).vlsAt hy
        have HXX := hid hx
        have HYY := hid hy
        clear hx hy
        have K1 := (H.add r1).add (r2.less (mut_none rfl))
        clear r1 r2
        obtain ⟨KL, hKL, K2⟩ := K1.name
        clear K1
        have HF : Hid (∀ wv, Hold M none w wv KL → (b2 < wv.heap.size ∧ wv.cell? ⟨b2, o2 + k * 3, none⟩ = some (.int .i64 y.k) ∧ wv.cell? ⟨b2, o2 + k * 3 + 1, none⟩ = some (.int .i64 y.i) ∧ wv.cell? ⟨b2, o2 + k * 3 + 2, none⟩ = some (.string y.s)) ∧ b1 < wv.heap.size ∧ wv.cell? ⟨b1, o1 + k * 3, none⟩ = some (.int .i64 x.k) ∧ wv.cell? ⟨b1, o1 + k * 3 + 1, none⟩ = some (.int .i64 x.i) ∧ wv.cell? ⟨b1, o1 + k * 3 + 2, none⟩ = some (.string x.s)) := hid fun wv HC => by
          rw [hKL] at HC
          exact ⟨(HC.ro 0 rfl).now, (HC.ro 1 rfl).now⟩
        have HKL := hid hKL
        clear hKL
        go_wp2_with fail
        refine wp_region_any (by kernel_rfl) ?_
        refine wpAny_hold 10 41 (KL) (spL [(27, fun u _ => u = .int .i64 (cmpVl x y))]) (by kernel_rfl) (by kernel_rfl) (by kernel_rfl) rfl ?_ (K2.drew) ?_
        · exact stays_cons (fun _ _ _ _ h => h) (stays_nil _)
        simp only [List.take_succ_cons, List.take_zero, List.drop_succ_cons, List.drop_zero, Act.put, List.getElem_toArray, List.getElem_cons_zero, List.getElem_cons_succ, List.setIfInBounds_toArray, List.set_cons_succ, List.set_cons_zero]
        refine dw_val rfl rfl rfl ?_; apply Exists.intro; refine ⟨fun wv HC => ?_, ?_⟩
        ·  go_simp <;> rfl
        simp only [Act.put, List.setIfInBounds_toArray, List.set_cons_succ, List.set_cons_zero]
        refine dw_val rfl rfl rfl ?_; apply Exists.intro; refine ⟨fun wv HC => ?_, ?_⟩
        ·  go_simp <;> rfl
        simp only [Act.put, List.setIfInBounds_toArray, List.set_cons_succ, List.set_cons_zero]
        refine dw_val rfl rfl rfl ?_; apply Exists.intro; refine ⟨fun wv HC => ?_, ?_⟩
        ·  go_simp <;> rfl
        simp only [Act.put, List.setIfInBounds_toArray, List.set_cons_succ, List.set_cons_zero]
        refine dw_val rfl rfl rfl ?_; apply Exists.intro; refine ⟨fun wv HC => ?_, ?_⟩
        · obtain ⟨⟨f0, f1, f2, f3⟩, f4, f5, f6, f7⟩ := HF.out _ HC; go_simp <;> rfl
        simp only [Act.put, List.setIfInBounds_toArray, List.set_cons_succ, List.set_cons_zero]
        refine dw_val rfl rfl rfl ?_; apply Exists.intro; refine ⟨fun wv HC => ?_, ?_⟩
        ·  go_simp <;> rfl
        simp only [Act.put, List.setIfInBounds_toArray, List.set_cons_succ, List.set_cons_zero]
        refine dw_val rfl rfl rfl ?_; apply Exists.intro; refine ⟨fun wv HC => ?_, ?_⟩
        ·  go_simp <;> rfl
        simp only [Act.put, List.setIfInBounds_toArray, List.set_cons_succ, List.set_cons_zero]
        refine dw_val rfl rfl rfl ?_; apply Exists.intro; refine ⟨fun wv HC => ?_, ?_⟩
        ·  go_simp <;> rfl
        simp only [Act.put, List.setIfInBounds_toArray, List.set_cons_succ, List.set_cons_zero]
        refine dw_val rfl rfl rfl ?_; apply Exists.intro; refine ⟨fun wv HC => ?_, ?_⟩
        · obtain ⟨⟨f0, f1, f2, f3⟩, f4, f5, f6, f7⟩ := HF.out _ HC; go_simp <;> rfl
        simp only [Act.put, List.setIfInBounds_toArray, List.set_cons_succ, List.set_cons_zero]
        refine dw_callR 27 (fun u _ => u = .int .i64 (cmpVl x y)) (f := 48) (args := #[.agg #[.int .i64 x.k, .int .i64 x.i, .string x.s], .agg #[.int .i64 y.k, .int .i64 y.i, .string y.s]]) rfl rfl rfl rfl (fun wv => ?_) (fun wv HC hrm hD => ?_) ?_
        · go_simp <;> rfl
        · refine (rcompare_ex x y wv).mono ?_
          rintro e w5 ⟨rfl, b5⟩
          exact ⟨_, rfl, rfl, HC.call b5, RM.below b5⟩
        rintro u wx HCx rfl
        clear HCx
        obtain ⟨r, hr⟩ : ∃ r, r = cmpVl x y := ⟨_, rfl⟩
        rw [← hr]
        have HR := hid hr
        clear hr
        simp only [Act.put, List.setIfInBounds_toArray, List.set_cons_succ, List.set_cons_zero]
        refine dw_val rfl rfl rfl ?_; apply Exists.intro; refine ⟨fun wv HC => ?_, ?_⟩
        ·  go_simp <;> rfl
        simp only [Act.put, List.setIfInBounds_toArray, List.set_cons_succ, List.set_cons_zero]
        refine rel_nil ?_
        rintro wx2 HX2
        rintro _hrm _HG
        rw [HKL.out] at HX2
        clear _hrm _HG
        have K3 := HX2.drop (List.Sublist.cons _ (List.sublist_cons_self _ _))
        by_cases hr0 : r = 0
        · have hb : (r != 0) = false := by simp [hr0]
          have HN := hid (show rowC xs ys = rowC (xs.drop (k + 1)) (ys.drop (k + 1)) by rw [HT.out]; exact rowC_go HXX.out HYY.out (by rw [← HR.out, hr0]))
          clear hr0
          go_wp2_with fail
          go_roundw
          case rel => exact ⟨k + 1, by omega, by omega, by go_num, HN, K3⟩
          case measure => simp [intOf]; omega
        · have hb : (r != 0) = true := by simpa using hr0
          have HN := hid (show rowC xs ys = r by rw [HT.out, rowC_stop HXX.out HYY.out (by rw [← HR.out]; exact hr0), HR.out])
          clear hr0
          go_wp2_with fail
          go_ret
          exact ⟨by rw [HN.out] <;> rfl, K3.below⟩
      · obtain rfl : k = m := by omega
        have hdm : decide ((k : Int) < (k : Int)) = false := by simp
        have hd2 : decide ((n : Int) < (k : Int)) = false := by rw [decide_eq_false_iff_not]; omega
        have hd3 : decide ((k : Int) < (n : Int)) = true := by simp; omega
        have hd4 : decide ((n : Int) > (k : Int)) = true := by simp; omega
        have HN := hid (show rowC xs ys = 1 by rw [HT.out, rowC_end HX.out HY.out (show k = min n k by omega)]; rcases cmpI_cases (n : Int) (k : Int) with h | h | h <;> omega)
        go_wp2_with fail
        go_ret
        exact ⟨by rw [HN.out] <;> rfl, H.below⟩
    · obtain rfl : k = n := by omega
      have hd : decide ((k : Int) < (k : Int)) = false := by simp
      by_cases hkm2 : k = m
      · subst hkm2
        have hd4 : decide ((k : Int) > (k : Int)) = false := by simp
        have HN := hid (show rowC xs ys = 0 by rw [HT.out, rowC_end HX.out HY.out (show k = min k k by omega)]; rcases cmpI_cases (k : Int) (k : Int) with h | h | h <;> omega)
        go_wp2_with fail
        go_ret
        exact ⟨by rw [HN.out] <;> rfl, H.below⟩
      · have hd2 : decide ((k : Int) < (m : Int)) = true := by simp; omega
        have HN := hid (show rowC xs ys = -1 by rw [HT.out, rowC_end HX.out HY.out (show k = min k m by omega)]; rcases cmpI_cases (k : Int) (m : Int) with h | h | h <;> omega)
        have hkm3 : k < m := by omega
        clear hkm2
        go_wp2_with fail
        go_ret
        exact ⟨by rw [HN.out] <;> rfl, H.below⟩
end Go.Proofs.YtljmclbedpceoaaDoor

namespace Go.Proofs.YtljmclbedpceoaaDoor
open Go.RowKit
set_option linter.unusedVariables false
set_option linter.unusedSimpArgs false

theorem slNil_one (l : List Sl) : ∀ u ∈ slCells l ++ [Value.slice none 0 0], u.oneCell' = true := fun u hu => by
  rcases List.mem_append.1 hu with h | h
  · obtain ⟨s, hs, hu'⟩ := List.mem_flatMap.1 h
    simp [Sl.cells] at hu'
    subst hu'
    rfl
  · simp at h; subst h; rfl
theorem min_shift1 {k j : Nat} : k - j = Nat.min (k + 1 - j) (k - j) := (Nat.min_eq_right (by omega)).symm
theorem cells_shift {lo : List Sl} {k j : Nat} {A : Option Addr} {n c : Nat} {vs : List Vl} (hl : lo.length = k) (hj : j ≤ k) :
    (((slCells lo ++ [Value.slice none 0 0]).take (j + 1) ++ (((slCells lo ++ [Value.slice none 0 0]).drop j).take (k - j) ++ (slCells lo ++ [Value.slice none 0 0]).drop (j + 1 + (k - j)))).set j (.slice A n c)) = slCells (putAt lo j ⟨A, n, c, vs⟩) := by
  have h := shift_put (slCells lo) (Value.slice none 0 0) (.slice A n c) j (by rw [slCells_len]; omega)
  rw [slCells_len, hl] at h
  rw [putAt_slCells, h]
theorem cells_push {lo : List Sl} {j : Nat} {A : Option Addr} {n c : Nat} {vs : List Vl} (hl : lo.length = j) : (slCells lo ++ [Value.slice none 0 0]).set j (.slice A n c) = slCells (putAt lo j ⟨A, n, c, vs⟩) := by
  have h := push_put (slCells lo) (Value.slice none 0 0) (.slice A n c)
  rw [slCells_len, hl] at h
  rw [putAt_slCells, h]
end Go.Proofs.YtljmclbedpceoaaDoor

namespace Go.Proofs.YtljmclbedpceoaaDoor
open Go.RowKit
set_option linter.unusedVariables false
set_option linter.unusedSimpArgs false

theorem sametuple_any (w : World) (A : Option Addr) (n c : Nat) (xs : List Vl) (B : Option Addr) (m d : Nat) (ys : List Vl) (hD : VlsIn A n xs w) (hE : VlsIn B m ys w) (hn : n ≤ 4398046511104) :
    Calls Tryd.prog 50 #[.slice A n c, .slice B m d] w fun e w' => e = .returned (.bool (decide (xs = ys))) ∧ ∃ q, w' = w.drewN q := by
  have HE := hid (eqVls_any w A n c xs B m d ys hD hE hn)
  clear hD hE
  go_enter Tryd.func50, Tryd.ntmps50
  go_wp2_with fail
  refine HE.out.mono ?_
  rintro e w1 ⟨rfl, q, rfl⟩
  obtain ⟨r, hr0⟩ : ∃ r, r = decide (xs = ys) := ⟨_, rfl⟩
  rw [← hr0]
  have HRR := hid hr0
  clear hr0
  go_wp2_with fail
  go_ret
  exact ⟨by rw [← HRR.out] <;> rfl, q, rfl⟩
set_option maxHeartbeats 2000000 in
set_option maxRecDepth 100000 in
theorem eqSls_any (M : Nat → Prop) (w : World) (hM : ∀ b, M b → b < w.heap.size) (A : Option Addr) (n c : Nat) (xs : List Sl) (B : Option Addr) (m d : Nat) (ys : List Sl) (hD : Ro w M (SlsIn A n xs)) (hE : Ro w M (SlsIn B m ys)) (hn : n ≤ 4398046511204) (hr : ∀ r ∈ xs, r.n ≤ 4398046511104) :
    Calls Tryd.prog 49 #[.slice A n c, .slice B m d, .func (.func 33) #[] #[]] w fun e w' => e = .returned (.bool (decide (xs.map Sl.vs = ys.map Sl.vs))) ∧ Below w.heap.size w w' := by
  have HL := hid hD.now.len
  have HK := hid hE.now.len
  by_cases hnm : n = m
  · subst hnm
    have hb : ((n : Int) != (n : Int)) = false := by simp
    have K0 := ((Hold.start M w hM).add (hE.less (by simp [Mut]))).add (hD.less (by simp [Mut, Hp.foot]))
    clear hD hE
    go_enter Tryd.func49, Tryd.ntmps49
    go_wp2_with fail
    go_loopw [17] (fun i wr => ∃ (k : Nat), k ≤ n ∧ i = .int .i64 k ∧ Hid ((xs.map Sl.vs).take k = (ys.map Sl.vs).take k) ∧ Hold M none w wr [.ro (SlsIn A n xs), .ro (SlsIn B n ys)]) (fun i _ => n - (intOf i).toNat)
    case atStart => exact ⟨0, by omega, rfl, hid (by simp), K0⟩
    case round =>
      clear K0
      obtain ⟨k, hk, rfl, HTK, H⟩ := hrel
      by_cases hlt : k < n
      · have hd : decide ((k : Int) < (n : Int)) = true := by simp; omega
        have i0 : (0 : Int) ≤ (k : Int) := by omega
        have i1 : (k : Int) < (n : Int) := by omega
        obtain ⟨x, hx⟩ := get_of HL.out hlt
        obtain ⟨y, hy⟩ := get_of HK.out hlt
        have hxn := hr x (List.mem_of_getElem? hx)
        have HX := hid (show (xs.map Sl.vs)[k]? = some x.vs by simp [hx])
        have HY := hid (show (ys.map Sl.vs)[k]? = some y.vs by simp [hy])
        obtain ⟨g, o, rfl, hbx, x0, hvx⟩ := (H.ro 0 rfl).now.at_ hx
        obtain ⟨g', o', rfl, hby, y0, hvy⟩ := (H.ro 1 rfl).now.at_ hy
        have HVX := hid hvx
        have HVY := hid hvy
        clear hx hy hvx hvy
        go_wp2_with fail
        refine (eqVls_any _ x.A x.n x.c x.vs y.A y.n y.c y.vs HVX.out HVY.out hxn).mono ?_
        rintro e w3 ⟨rfl, q3, rfl⟩
        have K3 := H.drewN q3
        clear H
        by_cases hb : x.vs = y.vs
        · have HB := hid (takeEq_succ HX.out HY.out HTK.out hb)
          rw [decide_eq_true hb]
          clear hb
          go_wp2_with fail
          go_roundw
          case rel => exact ⟨k + 1, by omega, by go_num, HB, K3⟩
          case measure => simp [intOf]; omega
        · have HB := hid (beqL_no HX.out HY.out hb)
          rw [decide_eq_false hb]
          clear hb
          go_wp2_with fail
          go_ret
          exact ⟨by rw [HB.out] <;> rfl, K3.below⟩
      · obtain rfl : n = k := by omega
        have hd : decide ((n : Int) < (n : Int)) = false := by simp
        have HB := hid (show decide (xs.map Sl.vs = ys.map Sl.vs) = true by
          have h := HTK.out
          rw [List.take_of_length_le (by rw [List.length_map, HL.out]; exact Nat.le_refl _), List.take_of_length_le (by rw [List.length_map, HK.out]; exact Nat.le_refl _)] at h
          simp [h])
        go_wp2_with fail
        go_ret
        exact ⟨by rw [HB.out] <;> rfl, H.below⟩
  · have hb : ((n : Int) != (m : Int)) = true := by simp; omega
    have HB := hid (show decide (xs.map Sl.vs = ys.map Sl.vs) = false by
      rw [decide_eq_false_iff_not]; intro h; have h1 := congrArg List.length h; rw [List.length_map, List.length_map, HL.out, HK.out] at h1; exact hnm h1)
    go_enter Tryd.func49, Tryd.ntmps49
    go_wp2_with fail
    go_ret
    exact ⟨by rw [HB.out] <;> rfl, Below.refl _ _⟩
set_option maxHeartbeats 2000000 in
set_option maxRecDepth 100000 in
theorem eqTps_any (M : Nat → Prop) (w : World) (hM : ∀ b, M b → b < w.heap.size) (A : Option Addr) (n c : Nat) (xs : List Sl) (B : Option Addr) (m d : Nat) (ys : List Sl) (hD : Ro w M (SlsIn A n xs)) (hE : Ro w M (SlsIn B m ys)) (hn : n ≤ 4398046511204) (hr : ∀ r ∈ xs, r.n ≤ 4398046511104) :
    Calls Tryd.prog 49 #[.slice A n c, .slice B m d, .func (.func 50) #[] #[]] w fun e w' => e = .returned (.bool (decide (xs.map Sl.vs = ys.map Sl.vs))) ∧ Below w.heap.size w w' := by
  have HL := hid hD.now.len
  have HK := hid hE.now.len
  by_cases hnm : n = m
  · subst hnm
    have hb : ((n : Int) != (n : Int)) = false := by simp
    have K0 := ((Hold.start M w hM).add (hE.less (by simp [Mut]))).add (hD.less (by simp [Mut, Hp.foot]))
    clear hD hE
    go_enter Tryd.func49, Tryd.ntmps49
    go_wp2_with fail
    go_loopw [17] (fun i wr => ∃ (k : Nat), k ≤ n ∧ i = .int .i64 k ∧ Hid ((xs.map Sl.vs).take k = (ys.map Sl.vs).take k) ∧ Hold M none w wr [.ro (SlsIn A n xs), .ro (SlsIn B n ys)]) (fun i _ => n - (intOf i).toNat)
    case atStart => exact ⟨0, by omega, rfl, hid (by simp), K0⟩
    case round =>
      clear K0
      obtain ⟨k, hk, rfl, HTK, H⟩ := hrel
      by_cases hlt : k < n
      · have hd : decide ((k : Int) < (n : Int)) = true := by simp; omega
        have i0 : (0 : Int) ≤ (k : Int) := by omega
        have i1 : (k : Int) < (n : Int) := by omega
        obtain ⟨x, hx⟩ := get_of HL.out hlt
        obtain ⟨y, hy⟩ := get_of HK.out hlt
        have hxn := hr x (List.mem_of_getElem? hx)
        have HX := hid (show (xs.map Sl.vs)[k]? = some x.vs by simp [hx])
        have HY := hid (show (ys.map Sl.vs)[k]? = some y.vs by simp [hy])
        obtain ⟨g, o, rfl, hbx, x0, hvx⟩ := (H.ro 0 rfl).now.at_ hx
        obtain ⟨g', o', rfl, hby, y0, hvy⟩ := (H.ro 1 rfl).now.at_ hy
        have HVX := hid hvx
        have HVY := hid hvy
        clear hx hy hvx hvy
        go_wp2_with fail
        refine (sametuple_any _ x.A x.n x.c x.vs y.A y.n y.c y.vs HVX.out HVY.out hxn).mono ?_
        rintro e w3 ⟨rfl, q3, rfl⟩
        have K3 := H.drewN q3
        clear H
        by_cases hb : x.vs = y.vs
        · have HB := hid (takeEq_succ HX.out HY.out HTK.out hb)
          rw [decide_eq_true hb]
          clear hb
          go_wp2_with fail
          go_roundw
          case rel => exact ⟨k + 1, by omega, by go_num, HB, K3⟩
          case measure => simp [intOf]; omega
        · have HB := hid (beqL_no HX.out HY.out hb)
          rw [decide_eq_false hb]
          clear hb
          go_wp2_with fail
          go_ret
          exact ⟨by rw [HB.out] <;> rfl, K3.below⟩
      · obtain rfl : n = k := by omega
        have hd : decide ((n : Int) < (n : Int)) = false := by simp
        have HB := hid (show decide (xs.map Sl.vs = ys.map Sl.vs) = true by
          have h := HTK.out
          rw [List.take_of_length_le (by rw [List.length_map, HL.out]; exact Nat.le_refl _), List.take_of_length_le (by rw [List.length_map, HK.out]; exact Nat.le_refl _)] at h
          simp [h])
        go_wp2_with fail
        go_ret
        exact ⟨by rw [HB.out] <;> rfl, H.below⟩
  · have hb : ((n : Int) != (m : Int)) = true := by simp; omega
    have HB := hid (show decide (xs.map Sl.vs = ys.map Sl.vs) = false by
      rw [decide_eq_false_iff_not]; intro h; have h1 := congrArg List.length h; rw [List.length_map, List.length_map, HL.out, HK.out] at h1; exact hnm h1)
    go_enter Tryd.func49, Tryd.ntmps49
    go_wp2_with fail
    go_ret
    exact ⟨by rw [HB.out] <;> rfl, Below.refl _ _⟩

theorem sametuples_any (M : Nat → Prop) (w : World) (hM : ∀ b, M b → b < w.heap.size) (A : Option Addr) (n c : Nat) (xs : List Sl) (B : Option Addr) (m d : Nat) (ys : List Sl) (hD : Ro w M (SlsIn A n xs)) (hE : Ro w M (SlsIn B m ys)) (hn : n ≤ 4398046511204) (hr : ∀ r ∈ xs, r.n ≤ 4398046511104) :
    Calls Tryd.prog 15 #[.slice A n c, .slice B m d] w fun e w' => e = .returned (.bool (decide (xs.map Sl.vs = ys.map Sl.vs))) ∧ Below w.heap.size w w' := by
  have HE := hid (eqTps_any M w hM A n c xs B m d ys hD hE hn hr)
  clear hD hE
  go_enter Tryd.func15, Tryd.ntmps15
  go_wp2_with fail
  refine HE.out.mono ?_
  rintro e w1 ⟨rfl, b1⟩
  have HB := hid b1
  clear b1
  obtain ⟨r, hr0⟩ : ∃ r, r = decide (xs.map Sl.vs = ys.map Sl.vs) := ⟨_, rfl⟩
  rw [← hr0]
  have HRR := hid hr0
  clear hr0
  go_wp2_with fail
  go_ret
  exact ⟨by rw [← HRR.out] <;> rfl, HB.out⟩
def sameBagV (a b : List (List Vl)) : Bool := decide (sortV a = sortV b)
set_option maxHeartbeats 2000000 in
set_option maxRecDepth 100000 in
theorem tsamebag_any (M : Nat → Prop) (w : World) (hM : ∀ b, M b → b < w.heap.size) (A : Option Addr) (n c : Nat) (xs : List Sl) (B : Option Addr) (m d : Nat) (ys : List Sl) (hD : Ro w M (SlsIn A n xs)) (hE : Ro w M (SlsIn B m ys)) (hn : n ≤ 4398046511104) (hm : m ≤ 4398046511104) (hr : ∀ r ∈ xs, r.n ≤ 4398046511104) (hs : ∀ r ∈ ys, r.n ≤ 4398046511104) (hox : ∀ r ∈ xs, r.ok) (hoy : ∀ r ∈ ys, r.ok) :
    Calls Tryd.prog 16 #[.slice A n c, .slice B m d] w fun e w' => e = .returned (.bool (sameBagV (xs.map Sl.vs) (ys.map Sl.vs))) ∧ Below w.heap.size w w' := by
  have HL := hid hD.now.len
  have HQ := hid (And.intro hr (And.intro hs (And.intro hox hoy)))
  have K0 := ((Hold.start M w hM).add (hE.less (by simp [Mut]))).add (hD.less (by simp [Mut, Hp.foot]))
  clear hD hE hr hs hox hoy
  go_enter Tryd.func16, Tryd.ntmps16
  go_wp2_with fail
  refine (tsort_any _ _ K0.mutLt A n c xs (K0.ro 0 rfl) hn HQ.out.1 HQ.out.2.2.1).mono ?_
  rintro e w1 ⟨A1, n1, c1, l1, rfl, h11, h12, r1, o1, m1, e1, b1⟩
  have K1 := (K0.call b1).add r1
  have H1 := hid (And.intro m1 e1)
  clear K0 b1 r1 o1 m1 e1
  go_wp2_with fail
  refine (tsort_any _ _ K1.mutLt B m d ys (K1.ro 2 rfl) hm HQ.out.2.1 HQ.out.2.2.2).mono ?_
  rintro e w2 ⟨A2, n2, c2, l2, rfl, h21, h22, r2, o2, m2, e2, b2⟩
  have K2 := (K1.call b2).add r2
  have H2 := hid e2
  clear K1 b2 r2 o2 m2 e2
  go_wp2_with fail
  have hn1 : n1 ≤ 4398046511204 := by
    have h1 := (K2.ro 1 rfl).now.len
    have h2 := congrArg List.length H1.out.2
    rw [List.length_map, sortV_len, List.length_map] at h2
    have := HL.out
    omega
  refine (eqSls_any _ _ K2.mutLt A1 n1 c1 l1 A2 n2 c2 l2 (K2.ro 1 rfl) (K2.ro 0 rfl) hn1 H1.out.1).mono ?_
  rintro e w3 ⟨rfl, b3⟩
  have K3 := K2.call b3
  have HR := hid (show decide (l1.map Sl.vs = l2.map Sl.vs) = sameBagV (xs.map Sl.vs) (ys.map Sl.vs) by rw [H1.out.2, H2.out]; rfl)
  rw [HR.out]
  obtain ⟨r, hr0⟩ : ∃ r, r = sameBagV (xs.map Sl.vs) (ys.map Sl.vs) := ⟨_, rfl⟩
  rw [← hr0]
  have HRR := hid hr0
  clear hr0
  clear K2 b3 hn1
  go_wp2_with fail
  go_ret
  exact ⟨by rw [← HRR.out] <;> rfl, K3.below⟩
def countV (l : List (List Vl)) (t : List Vl) : Nat := l.countP fun x => decide (x = t)
theorem countV_step {l : List (List Vl)} {k : Nat} {x t : List Vl} (hx : l[k]? = some x) : countV (l.take (k + 1)) t = countV (l.take k) t + (if x = t then 1 else 0) := by
  unfold countV
  rw [List.take_add_one, hx, Option.toList_some, List.countP_append]
  by_cases h : x = t <;> simp [h]
set_option maxHeartbeats 2000000 in
set_option maxRecDepth 100000 in
theorem tcount_any (M : Nat → Prop) (w : World) (hM : ∀ b, M b → b < w.heap.size) (A : Option Addr) (n c : Nat) (xs : List Sl) (B : Option Addr) (m d : Nat) (ys : List Vl) (hD : Ro w M (SlsIn A n xs)) (hE : Ro w M (VlsIn B m ys)) (hn : n ≤ 4398046511104) (hr : ∀ r ∈ xs, r.n ≤ 4398046511104) :
    Calls Tryd.prog 13 #[.slice A n c, .slice B m d] w fun e w' => e = .returned (.int .i64 (countV (xs.map Sl.vs) ys)) ∧ Below w.heap.size w w' := by
  have HL := hid hD.now.len
  have K0 := ((Hold.start M w hM).add (hE.less (by simp [Mut]))).add (hD.less (by simp [Mut, Hp.foot]))
  clear hD hE
  go_enter Tryd.func13, Tryd.ntmps13
  go_wp2_with fail
  go_loopw [5, 10] (fun sv iv wr => ∃ (k q : Nat), k ≤ n ∧ q ≤ k ∧ sv = .int .i64 q ∧ iv = .int .i64 k ∧ Hid (q = countV ((xs.map Sl.vs).take k) ys) ∧ Hold M none w wr [.ro (SlsIn A n xs), .ro (VlsIn B m ys)]) (fun _ iv _ => n - (intOf iv).toNat)
  case atStart => exact ⟨0, 0, by omega, by omega, rfl, rfl, hid (by simp [countV]), K0⟩
  case round =>
    clear K0
    obtain ⟨k, q, hk, hq, rfl, rfl, HC, H⟩ := hrel
    by_cases hlt : k < n
    · have hd : decide ((k : Int) < (n : Int)) = true := by simp; omega
      have i0 : (0 : Int) ≤ (k : Int) := by omega
      have i1 : (k : Int) < (n : Int) := by omega
      obtain ⟨x, hx⟩ := get_of HL.out hlt
      have hxn := hr x (List.mem_of_getElem? hx)
      have HX := hid (show (xs.map Sl.vs)[k]? = some x.vs by simp [hx])
      obtain ⟨g, o, rfl, hbx, x0, hvx⟩ := (H.ro 0 rfl).now.at_ hx
      have HVX := hid hvx
      clear hx hvx
      go_wp2_with fail
      refine (eqVls_any _ x.A x.n x.c x.vs B m d ys HVX.out (H.ro 1 rfl).now hxn).mono ?_
      rintro e w3 ⟨rfl, q3, rfl⟩
      have K3 := H.drewN q3
      clear H
      by_cases hb : x.vs = ys
      · have HN := hid (show q + 1 = countV ((xs.map Sl.vs).take (k + 1)) ys by rw [countV_step HX.out, if_pos hb, ← HC.out])
        rw [decide_eq_true hb]
        clear hb
        go_wp2_with fail
        go_roundw
        case rel => exact ⟨k + 1, q + 1, by omega, by omega, by go_num, by go_num, HN, K3⟩
        case measure => simp [intOf]; omega
      · have HN := hid (show q = countV ((xs.map Sl.vs).take (k + 1)) ys by rw [countV_step HX.out, if_neg hb, ← HC.out]; rfl)
        rw [decide_eq_false hb]
        clear hb
        go_wp2_with fail
        go_roundw
        case rel => exact ⟨k + 1, q, by omega, by omega, by first | rfl | go_num, by go_num, HN, K3⟩
        case measure => simp [intOf]; omega
    · obtain rfl : n = k := by omega
      have hd : decide ((n : Int) < (n : Int)) = false := by simp
      have HN := hid (show countV (xs.map Sl.vs) ys = q by
        rw [HC.out, List.take_of_length_le (by rw [List.length_map, HL.out]; exact Nat.le_refl _)])
      go_wp2_with fail
      go_ret
      exact ⟨by rw [HN.out] <;> rfl, H.below⟩
end Go.Proofs.YtljmclbedpceoaaDoor

namespace Go.Proofs.YtljmclbedpceoaaDoor
open Go.RowKit
set_option linter.unusedVariables false
set_option linter.unusedSimpArgs false

/-- one list without the other, both sorted -/
def minL : List (List Vl) → List (List Vl) → List (List Vl)
  | [], _ => []
  | t :: x, g => match g.dropWhile (fun s => decide (rowC s t < 0)) with
    | [] => t :: minL x []
    | s :: g' => if rowC s t = 0 then minL x g' else t :: minL x (s :: g')
def minusV (a b : List (List Vl)) : List (List Vl) := minL (sortV a) (sortV b)
section
variable {a b : List (List Vl)} {k p : Nat} {t s : List Vl}
theorem minL_skip (ht : a[k]? = some t) (hs : b[p]? = some s) (h : rowC s t < 0) : minL (a.drop k) (b.drop p) = minL (a.drop k) (b.drop (p + 1)) := by
  rw [drop_cons ht, drop_cons hs, minL, List.dropWhile_cons, if_pos (by simpa using h), minL]
theorem minL_both (ht : a[k]? = some t) (hs : b[p]? = some s) (h : rowC s t = 0) : minL (a.drop k) (b.drop p) = minL (a.drop (k + 1)) (b.drop (p + 1)) := by
  rw [drop_cons ht, drop_cons hs, minL, List.dropWhile_cons, if_neg (by simp [h])]
  simp only [h, if_true]
theorem minL_keep (ht : a[k]? = some t) (hs : ∀ s, b[p]? = some s → ¬ rowC s t < 0 ∧ ¬ rowC s t = 0) : minL (a.drop k) (b.drop p) = t :: minL (a.drop (k + 1)) (b.drop p) := by
  rw [drop_cons ht, minL]
  cases hb : b.drop p with
  | nil => rfl
  | cons s g =>
    have h1 : b[p]? = some s := by
      have := congrArg (·[0]?) hb
      simpa using this
    obtain ⟨h2, h3⟩ := hs s h1
    rw [List.dropWhile_cons, if_neg (by simpa using h2)]
    simp only [h3, if_false]
end
theorem tail_sls {A : Option Addr} {n : Nat} {x : Sl} {l : List Sl} {w : World} (h : SlsIn A n (x :: l) w) : ∃ b o, A = some ⟨b, o, none⟩ ∧ SlsIn (some ⟨b, o + 1, none⟩) (n - 1) l w := by
  have hl := h.len
  simp only [List.length_cons] at hl
  obtain ⟨b, o, e, hb, hc⟩ := (show Rd w w.heap.size 1 A n (slCells (x :: l)) from h.1).2 (by omega)
  refine ⟨b, o, e, ⟨by rw [slCells_len]; omega, fun _ => ⟨b, o + 1, rfl, hb, fun j u hu => ?_⟩⟩, fun r hr => h.2 r (List.mem_cons_of_mem _ hr)⟩
  have h2 := hc (j + 1) u (by
    have e0 : slCells (x :: l) = x.cells ++ slCells l := by simp [slCells]
    rw [e0, List.getElem?_append_right (by simp [Sl.cells])]
    simpa [Sl.cells] using hu)
  rw [← h2]
  congr 2
  omega
theorem Ro.tailSls {w : World} {M : Nat → Prop} {A : Option Addr} {n : Nat} {x : Sl} {l : List Sl} (h : Ro w M (SlsIn A n (x :: l))) : ∃ b o, A = some ⟨b, o, none⟩ ∧ Ro w M (SlsIn (some ⟨b, o + 1, none⟩) (n - 1) l) := by
  obtain ⟨b, o, e, _⟩ := tail_sls h.now
  refine ⟨b, o, e, fun w2 h1 h2 => ?_⟩
  obtain ⟨b', o', e', h3⟩ := tail_sls (h w2 h1 h2)
  rw [e] at e'
  injection e' with e'
  injection e' with e1 e2
  subst e1; subst e2
  exact h3
theorem Ro.nilSls {w : World} {M : Nat → Prop} {A : Option Addr} {n : Nat} {l : List Sl} (hn : n = 0) (hl : l = []) : Ro w M (SlsIn A n l) := fun w2 _ _ => by
  subst hn; subst hl
  exact ⟨⟨rfl, fun h => absurd h (by omega)⟩, fun r hr => nomatch hr⟩
theorem mut_sub {M : Nat → Prop} {L L' : List Hp} (h : List.Sublist L' L) : ∀ b, Mut M L' b → Mut M L b := fun b hb => hb.imp id fun ⟨k, hk, hf⟩ => ⟨k, h.subset hk, hf⟩
/-- the length of a slice -/
def slLen : Value → Nat | .slice _ n _ => n | _ => 0
set_option maxHeartbeats 8000000 in
set_option maxRecDepth 100000 in
theorem tminus_any (M : Nat → Prop) (w : World) (hM : ∀ b, M b → b < w.heap.size) (A : Option Addr) (n c : Nat) (xs : List Sl) (B : Option Addr) (m d : Nat) (ys : List Sl) (hD : Ro w M (SlsIn A n xs)) (hE : Ro w M (SlsIn B m ys)) (hn : n ≤ 4398046511104) (hm : m ≤ 4398046511104) (hr : ∀ r ∈ xs, r.n ≤ 4398046511104) (hs : ∀ r ∈ ys, r.n ≤ 4398046511104) (hox : ∀ r ∈ xs, r.ok) (hoy : ∀ r ∈ ys, r.ok) :
    Calls Tryd.prog 51 #[.slice A n c, .slice B m d] w fun e w' => SlsRet w M (minusV (xs.map Sl.vs) (ys.map Sl.vs)) e w' := by
  have HL := hid hD.now.len
  have HQ := hid (And.intro hr (And.intro hs (And.intro hox hoy)))
  have K0 := ((Hold.start M w hM).add (hE.less (by simp [Mut]))).add (hD.less (by simp [Mut, Hp.foot]))
  clear hD hE hr hs hox hoy
  go_enter Tryd.func51, Tryd.ntmps51
  go_wp2_with fail
  refine (tsort_any _ _ K0.mutLt B m d ys (K0.ro 1 rfl) hm HQ.out.2.1 HQ.out.2.2.2).mono ?_
  rintro e w1 ⟨A2, n2, c2, lb, rfl, h21, h22, r1, o1, m1, e1, b1⟩
  have K1 := (K0.call b1).add r1
  have HBN := hid m1
  have HBE := hid e1
  clear K0 b1 r1 o1 m1 e1
  go_wp2_with fail
  refine (tsort_any _ _ K1.mutLt A n c xs (K1.ro 1 rfl) hn HQ.out.1 HQ.out.2.2.1).mono ?_
  rintro e w2 ⟨A1, n1, c1, la, rfl, h11, h12, r2, o2, m2, e2, b2⟩
  have K2 := (K1.call b2).add r2
  have HAO := hid o2
  have HAN := hid m2
  have HAE := hid e2
  clear K1 b2 r2 o2 m2 e2
  have HAL := hid (show la.length = n1 from (K2.ro 0 rfl).now.len)
  have HBL := hid (show lb.length = n2 from (K2.ro 1 rfl).now.len)
  have hn1 : n1 ≤ 4398046511104 := by
    have h2 := congrArg List.length HAE.out
    rw [List.length_map, sortV_len, List.length_map] at h2
    have := HL.out
    have := HAL.out
    omega
  have K3 : Hold M none w w2 [.ro (SlsIn A2 n2 (lb.drop 0)), .own 27 1 (.slice none 0 0) 0 (slCells []), .ro (SlVals [] ), .ro (SlsIn A1 n1 la), .ro (SlsIn A n xs), .ro (SlsIn B m ys)] := ((((K2.add (show Ro w2 _ (SlsIn A2 n2 (lb.drop 0)) from K2.ro 1 rfl)).add (show Ro w2 _ (SlVals []) from fun _ _ _ r hr => nomatch hr)).nil 27 1).perm (List.perm_middle (l₁ := [_, _]))).drop (List.Sublist.cons_cons _ (List.Sublist.cons_cons _ (List.Sublist.cons_cons _ (List.Sublist.cons_cons _ (List.sublist_cons_self _ _)))))
  clear K2
  go_wp2_with fail
  go_loopw [5, 6, 14] (fun gv ov iv wr => ∃ (k p np cp q cq : Nat) (Ap O : Option Addr) (lo : List Sl), k ≤ n1 ∧ gv = .slice Ap np cp ∧ ov = .slice O q cq ∧ iv = .int .i64 k ∧ Hid (np + p = n2) ∧ np ≤ cp ∧ cp ≤ 9223372036854775807 ∧ q ≤ k ∧ Hid (minL (la.map Sl.vs) (lb.map Sl.vs) = lo.map Sl.vs ++ minL ((la.map Sl.vs).drop k) ((lb.map Sl.vs).drop p)) ∧ Hid (∀ s ∈ lo, s.ok) ∧ Hid (∀ s ∈ lo, s.n ≤ 4398046511104) ∧ Hold M none w wr [.ro (SlsIn Ap np (lb.drop p)), .own 27 1 (.slice O q cq) q (slCells lo), .ro (SlVals lo), .ro (SlsIn A1 n1 la), .ro (SlsIn A n xs), .ro (SlsIn B m ys)]) (fun _ _ iv _ => n1 - (intOf iv).toNat)
  case atStart => exact ⟨0, 0, n2, c2, 0, 0, A2, none, [], by omega, rfl, rfl, rfl, hid (by omega), h21, h22, by omega, hid rfl, hid (fun s hs => nomatch hs), hid (fun s hs => nomatch hs), K3⟩
  case round =>
    clear K3
    obtain ⟨k, p, np, cp, q, cq, Ap, O, lo, hk, rfl, rfl, rfl, HNP, hncp, hcp, hq, HM, HOO, HNO, H⟩ := hrel
    by_cases hlt : k < n1
    · have hd : decide ((k : Int) < (n1 : Int)) = true := by simp; omega
      have i0 : (0 : Int) ≤ (k : Int) := by omega
      have i1 : (k : Int) < (n1 : Int) := by omega
      obtain ⟨t, ht⟩ := get_of HAL.out hlt
      have htv : Ro wr _ (VlsIn t.A t.n t.vs) := (H.ro 3 rfl).imp fun w2 h2 => h2.2 t (List.mem_of_getElem? ht)
      obtain ⟨bt, ot, rfl, hbt, t0, _⟩ := (H.ro 3 rfl).now.at_ ht
      have HTT := hid (show (la.map Sl.vs)[k]? = some t.vs by simp [ht])
      have HTO := hid (HAO.out t (List.mem_of_getElem? ht))
      have HTN := hid (HAN.out t (List.mem_of_getElem? ht))
      obtain ⟨tA, tn, tc, tvs⟩ := t
      dsimp only at *
      clear ht
      have K4 := (H.add htv).sinkN 1
      simp only [List.take_succ_cons, List.take_zero, List.drop_succ_cons, List.drop_zero, List.cons_append, List.nil_append] at K4
      clear H htv
      go_wp2_with fail
      clear t0
      go_loopw [5] (fun gv wq => ∃ (p np cp : Nat) (Ap : Option Addr), Hid (np + p = n2) ∧ gv = .slice Ap np cp ∧ np ≤ cp ∧ cp ≤ 9223372036854775807 ∧ Hid (minL (la.map Sl.vs) (lb.map Sl.vs) = lo.map Sl.vs ++ minL ((la.map Sl.vs).drop k) ((lb.map Sl.vs).drop p)) ∧ Hold M none w wq [.ro (SlsIn Ap np (lb.drop p)), .ro (VlsIn tA tn tvs), .own 27 1 (.slice O q cq) q (slCells lo), .ro (SlVals lo), .ro (SlsIn (some ⟨bt, ot, none⟩) n1 la), .ro (SlsIn A n xs), .ro (SlsIn B m ys)]) (fun gv _ => slLen gv)
      case atStart => exact ⟨p, np, cp, Ap, HNP, rfl, hncp, hcp, HM, K4⟩
      case round =>
        clear K4 HM HNP hncp hcp
        obtain ⟨p, np, cp, Ap, HNP, rfl, hncp, hcp, HM, H⟩ := hrel
        by_cases h0 : 0 < np
        · have z0 : decide ((np : Int) > 0) = true := by rw [decide_eq_true_iff]; omega
          have z1 : (0 : Int) < (np : Int) := by omega
          obtain ⟨s, hs⟩ := get_of HBL.out (show p < n2 by have := HNP.out; omega)
          have HSS := hid (show (lb.map Sl.vs)[p]? = some s.vs by simp [hs])
          have HSN := hid (HBN.out s (List.mem_of_getElem? hs))
          have hdr := drop_cons hs
          have hbf : Ro wr _ (SlsIn Ap np (s :: lb.drop (p + 1))) := (H.ro 0 rfl).imp fun w2 h2 => by rw [← hdr]; exact h2
          obtain ⟨bx, ox, rfl, hnxt⟩ := hbf.tailSls
          obtain ⟨b', o', e', hbx', x0, _⟩ := hbf.now.at_ (k := 0) rfl
          obtain ⟨rfl, rfl⟩ : bx = b' ∧ ox = o' := by injection e' with e'; injection e' with e1 e2; exact ⟨e1, e2⟩
          simp only [Nat.add_zero] at x0
          have hsv : Ro wr _ (VlsIn s.A s.n s.vs) := hbf.imp fun w2 h2 => h2.2 _ (List.mem_cons_self ..)
          obtain ⟨sA, sn, sc, svs⟩ := s
          dsimp only at *
          have HDR := hid hdr
          clear hs hdr hbf e'
          have hcmp := vcmprows_gr wr sA sn sc svs tA tn tc tvs (hsv.less (fun b hb => hb.elim)) ((H.ro 1 rfl).less (fun b hb => hb.elim)) (by have := HSN.out; omega) (by have := HTN.out; omega)
          obtain ⟨r, hr0⟩ : ∃ r, r = rowC svs tvs := ⟨_, rfl⟩
          rw [← hr0] at hcmp
          have HRR := hid hr0
          have HCM := hid hcmp
          clear hr0 hcmp hsv
          have hnx0 : Ro wr _ (SlsIn (some ⟨bx, ox + 1, none⟩) (np - 1) (lb.drop (p + 1))) := hnxt
          by_cases hlt2 : r < 0
          · have z2 : decide (r < 0) = true := decide_eq_true hlt2
            have HN := hid (show minL (la.map Sl.vs) (lb.map Sl.vs) = lo.map Sl.vs ++ minL ((la.map Sl.vs).drop k) ((lb.map Sl.vs).drop (p + 1)) by rw [HM.out, minL_skip HTT.out HSS.out (by rw [← HRR.out]; exact hlt2)])
            clear hlt2 hnx0
            go_wp2_with fail
            refine HCM.out.mono ?_
            rintro e w5 ⟨rfl, g5⟩
            have H2 := H.call g5.below
            replace hnxt := g5.ro hnxt
            clear H g5
            by_cases hc1 : cp = 1
            · have HZ := hid (show lb.drop (p + 1) = [] from List.drop_of_length_le (by rw [HBL.out]; have := HNP.out; omega))
              have KX := H2.swapRo 0 rfl (Ro.nilSls (A := some ⟨bx, ox, none⟩) (n := np - 1) (l := lb.drop (p + 1)) (by omega) HZ.out)
              simp only [List.set_cons_zero, List.set_cons_succ] at KX
              clear H2 hnxt
              go_wp2_with fail
              go_roundw
              case rel => exact ⟨p + 1, np - 1, 0, (some ⟨bx, ox, none⟩), hid (by have := HNP.out; omega), by first | rfl | (simp <;> omega), by omega, by omega, HN, KX⟩
              case measure => simp [slLen] <;> omega
            · have KX := H2.swapRo 0 rfl hnxt
              simp only [List.set_cons_zero, List.set_cons_succ] at KX
              clear H2 hnxt
              go_wp2_with fail
              go_roundw
              case rel => exact ⟨p + 1, np - 1, (cp - 1), (some ⟨bx, ox + 1, none⟩), hid (by have := HNP.out; omega), by first | rfl | (simp <;> omega), by omega, by omega, HN, KX⟩
              case measure => simp [slLen] <;> omega
          · have z2 : decide (r < 0) = false := decide_eq_false hlt2
            have HNL := hid hlt2
            clear hlt2 hnx0
            go_wp2_with fail
            refine HCM.out.mono ?_
            rintro e w5 ⟨rfl, g5⟩
            have H2 := H.call g5.below
            replace hnxt := g5.ro hnxt
            clear H
            have x1 : w5.cell? ⟨bx, ox, none⟩ = some (.slice sA sn sc) := (World.cell?_of_block (g5.block hbx')).trans x0
            have hbx5 : bx < w5.heap.size := Nat.lt_of_lt_of_le hbx' g5.size
            clear x0 hbx' g5
            have hsv : Ro w5 _ (VlsIn sA sn svs) := (H2.ro 0 rfl).imp fun w2 h2 => by rw [HDR.out] at h2; exact h2.2 _ (List.mem_cons_self ..)
            have hcmp := vcmprows_gr w5 sA sn sc svs tA tn tc tvs (hsv.less (fun b hb => hb.elim)) ((H2.ro 1 rfl).less (fun b hb => hb.elim)) (by have := HSN.out; omega) (by have := HTN.out; omega)
            rw [← HRR.out] at hcmp
            have HCM2 := hid hcmp
            clear hcmp hsv HCM
            by_cases hz : r = 0
            · have z3 : (r == 0) = true := by simp [hz]
              have HN := hid (show minL (la.map Sl.vs) (lb.map Sl.vs) = lo.map Sl.vs ++ minL ((la.map Sl.vs).drop (k + 1)) ((lb.map Sl.vs).drop (p + 1)) by rw [HM.out, minL_both HTT.out HSS.out (by rw [← HRR.out]; exact hz)])
              clear hz
              go_wp2_with fail
              refine HCM2.out.mono ?_
              rintro e w6 ⟨rfl, g6⟩
              have H3 := (H2.call g6.below).drop (List.Sublist.cons_cons _ (List.sublist_cons_self _ _))
              have hnx6 := g6.ro hnxt
              replace hnxt : Ro w6 (Mut M [.ro (SlsIn (some ⟨bx, ox, none⟩) np (lb.drop p)), .own 27 1 (.slice O q cq) q (slCells lo), .ro (SlVals lo), .ro (SlsIn (some ⟨bt, ot, none⟩) n1 la), .ro (SlsIn A n xs), .ro (SlsIn B m ys)]) (SlsIn (some ⟨bx, ox + 1, none⟩) (np - 1) (lb.drop (p + 1))) := hnx6.less (mut_sub (List.Sublist.cons_cons _ (List.sublist_cons_self _ _)))
              clear H2 g6 hnx6
              by_cases hc1 : cp = 1
              · have HZ := hid (show lb.drop (p + 1) = [] from List.drop_of_length_le (by rw [HBL.out]; have := HNP.out; omega))
                have KX := H3.swapRo 0 rfl (Ro.nilSls (A := some ⟨bx, ox, none⟩) (n := np - 1) (l := lb.drop (p + 1)) (by omega) HZ.out)
                simp only [List.set_cons_zero, List.set_cons_succ] at KX
                clear H3 hnxt
                go_wp2_with fail
                go_roundw
                case rel => exact ⟨k + 1, p + 1, np - 1, 0, q, cq, (some ⟨bx, ox, none⟩), O, lo, by omega, by first | rfl | (simp <;> omega), rfl, by first | rfl | go_num, hid (by have := HNP.out; omega), by omega, by omega, by omega, HN, HOO, HNO, KX⟩
                case measure => simp [intOf]; omega
              · have KX := H3.swapRo 0 rfl hnxt
                simp only [List.set_cons_zero, List.set_cons_succ] at KX
                clear H3 hnxt
                go_wp2_with fail
                go_roundw
                case rel => exact ⟨k + 1, p + 1, np - 1, (cp - 1), q, cq, (some ⟨bx, ox + 1, none⟩), O, lo, by omega, by first | rfl | (simp <;> omega), rfl, by first | rfl | go_num, hid (by have := HNP.out; omega), by omega, by omega, by omega, HN, HOO, HNO, KX⟩
                case measure => simp [intOf]; omega
            · have z3 : (r == 0) = false := by simpa using hz
              have HN := hid (show minL (la.map Sl.vs) (lb.map Sl.vs) = (lo ++ [(⟨tA, tn, tc, tvs⟩ : Sl)]).map Sl.vs ++ minL ((la.map Sl.vs).drop (k + 1)) ((lb.map Sl.vs).drop p) by rw [HM.out, minL_keep HTT.out (fun s hs => by rw [HSS.out] at hs; injection hs with hs; subst hs; rw [← HRR.out]; exact ⟨by have := HNL.out; omega, hz⟩), List.map_append, List.append_assoc]; rfl)
              clear hz
              go_wp2_with fail
              refine HCM2.out.mono ?_
              rintro e w6 ⟨rfl, g6⟩
              have KY := (H2.call g6.below).perm (List.Perm.swap _ _ _)
              clear H2 g6 hnxt
              have HCE := hid (show slCells lo ++ (#[Value.slice tA tn tc]).toList = slCells (lo ++ [⟨tA, tn, tc, tvs⟩]) by simp [slCells, Sl.cells])
              go_wp2_with (at_builtin; go_must (refine wpList_appH KY 2 rfl Tryd.elSlc #[.slice tA tn tc] rfl (.tmp 44) (.tmp 46) rfl rfl w6.heap.size (by first | rfl | simp) rfl rfl (by intro u hu; simp at hu; rcases hu with rfl; rfl) (by omega) (by omega) ?_); intro g9 cap9 w9 hc9 hm9 KB; rw [HCE.out] at KB; simp only [List.set_cons_zero, List.set_cons_succ] at KB)
              have KC := (KB.swapRo 3 rfl (sls_snoc (r := ⟨tA, tn, tc, tvs⟩) (KB.ro 3 rfl) (KB.ro 0 rfl))).drop (List.sublist_cons_self _ _)
              have HN2 := hid (okSnoc (P := Sl.ok) (x := (⟨tA, tn, tc, tvs⟩ : Sl)) HOO.out HTO.out)
              have HN3 := hid (okSnoc (P := fun s : Sl => s.n ≤ 4398046511104) (x := (⟨tA, tn, tc, tvs⟩ : Sl)) HNO.out HTN.out)
              go_roundw
              case rel => exact ⟨k + 1, p, np, cp, q + 1, cap9, _, _, _, by omega, rfl, by first | rfl | go_num, by first | rfl | go_num, HNP, by omega, by omega, by omega, HN, HN2, HN3, KC⟩
              case measure => simp [intOf]; omega
        · obtain rfl : np = 0 := by omega
          have z0 : decide ((0 : Int) > 0) = false := by decide
          have HN := hid (show minL (la.map Sl.vs) (lb.map Sl.vs) = (lo ++ [(⟨tA, tn, tc, tvs⟩ : Sl)]).map Sl.vs ++ minL ((la.map Sl.vs).drop (k + 1)) ((lb.map Sl.vs).drop p) by rw [HM.out, minL_keep HTT.out (fun s hs => by have h1 := (List.getElem?_eq_some_iff.1 hs).1; rw [List.length_map, HBL.out] at h1; have := HNP.out; omega), List.map_append, List.append_assoc]; rfl)
          have KY := H.perm (List.Perm.swap _ _ _)
          clear H
          have HCE := hid (show slCells lo ++ (#[Value.slice tA tn tc]).toList = slCells (lo ++ [⟨tA, tn, tc, tvs⟩]) by simp [slCells, Sl.cells])
          go_wp2_with (at_builtin; go_must (refine wpList_appH KY 2 rfl Tryd.elSlc #[.slice tA tn tc] rfl (.tmp 44) (.tmp 46) rfl rfl wr.heap.size (by first | rfl | simp) rfl rfl (by intro u hu; simp at hu; rcases hu with rfl; rfl) (by omega) (by omega) ?_); intro g9 cap9 w9 hc9 hm9 KB; rw [HCE.out] at KB; simp only [List.set_cons_zero, List.set_cons_succ] at KB)
          have KC := (KB.swapRo 3 rfl (sls_snoc (r := ⟨tA, tn, tc, tvs⟩) (KB.ro 3 rfl) (KB.ro 0 rfl))).drop (List.sublist_cons_self _ _)
          have HN2 := hid (okSnoc (P := Sl.ok) (x := (⟨tA, tn, tc, tvs⟩ : Sl)) HOO.out HTO.out)
          have HN3 := hid (okSnoc (P := fun s : Sl => s.n ≤ 4398046511104) (x := (⟨tA, tn, tc, tvs⟩ : Sl)) HNO.out HTN.out)
          go_roundw
          case rel => exact ⟨k + 1, p, 0, cp, q + 1, cap9, _, _, _, by omega, rfl, by first | rfl | go_num, by first | rfl | go_num, HNP, by omega, by omega, by omega, HN, HN2, HN3, KC⟩
          case measure => simp [intOf]; omega
    · obtain rfl : n1 = k := by omega
      have hd : decide ((n1 : Int) < (n1 : Int)) = false := by simp
      have HF := hid (show lo.map Sl.vs = minusV (xs.map Sl.vs) (ys.map Sl.vs) by
        have h := HM.out
        rw [List.drop_of_length_le (show (la.map Sl.vs).length ≤ n1 by rw [List.length_map, HAL.out]; exact Nat.le_refl _), minL, List.append_nil] at h
        rw [← h, HAE.out, HBE.out]; rfl)
      obtain ⟨hc1, hc2, _⟩ := own_caps (H.get 1 rfl)
      have KS := H.sealRow 1 rfl
      simp only [List.set_cons_zero, List.set_cons_succ] at KS
      have r1 := (KS.roOut 1 rfl).and (KS.roOut 2 rfl)
      go_wp2_with fail
      go_ret
      exact ⟨O, q, cq, lo, rfl, hc1, hc2, r1, HOO.out, HNO.out, HF.out, KS.below⟩
end Go.Proofs.YtljmclbedpceoaaDoor

namespace Go.Proofs.YtljmclbedpceoaaDoor
open Go.RowKit
set_option linter.unusedVariables false
set_option linter.unusedSimpArgs false

set_option maxHeartbeats 2000000 in
set_option maxRecDepth 100000 in
theorem rcount_any (M : Nat → Prop) (w : World) (hM : ∀ b, M b → b < w.heap.size) (A : Option Addr) (n c : Nat) (xs : List Sl) (B : Option Addr) (m d : Nat) (ys : List Vl) (hD : Ro w M (SlsIn A n xs)) (hE : Ro w M (VlsIn B m ys)) (hn : n ≤ 4398046511104) (hr : ∀ r ∈ xs, r.n ≤ 4398046511104) (hm : m ≤ 9223372036854775807) :
    Calls Tryd.prog 14 #[.slice A n c, .slice B m d] w fun e w' => e = .returned (.int .i64 (countV (xs.map Sl.vs) ys)) ∧ Below w.heap.size w w' := by
  have HL := hid hD.now.len
  have K0 := ((Hold.start M w hM).add (hE.less (by simp [Mut]))).add (hD.less (by simp [Mut, Hp.foot]))
  clear hD hE
  go_enter Tryd.func14, Tryd.ntmps14
  go_wp2_with fail
  go_loopw [5, 10] (fun sv iv wr => ∃ (k q : Nat), k ≤ n ∧ q ≤ k ∧ sv = .int .i64 q ∧ iv = .int .i64 k ∧ Hid (q = countV ((xs.map Sl.vs).take k) ys) ∧ Hold M none w wr [.ro (SlsIn A n xs), .ro (VlsIn B m ys)]) (fun _ iv _ => n - (intOf iv).toNat)
  case atStart => exact ⟨0, 0, by omega, by omega, rfl, rfl, hid (by simp [countV]), K0⟩
  case round =>
    clear K0
    obtain ⟨k, q, hk, hq, rfl, rfl, HC, H⟩ := hrel
    by_cases hlt : k < n
    · have hd : decide ((k : Int) < (n : Int)) = true := by simp; omega
      have i0 : (0 : Int) ≤ (k : Int) := by omega
      have i1 : (k : Int) < (n : Int) := by omega
      obtain ⟨x, hx⟩ := get_of HL.out hlt
      have HXN := hid (hr x (List.mem_of_getElem? hx))
      have HX := hid (show (xs.map Sl.vs)[k]? = some x.vs by simp [hx])
      have hcmp := rcmprows_ex _ wr H.mutLt x.A x.n x.c x.vs B m d ys ((H.ro 0 rfl).imp fun w2 h => h.2 x (List.mem_of_getElem? hx)) (H.ro 1 rfl) (by have := HXN.out; omega) hm
      obtain ⟨r, hr0⟩ : ∃ r, r = rowC x.vs ys := ⟨_, rfl⟩
      rw [← hr0] at hcmp
      have HCM := hid hcmp
      obtain ⟨g, o, rfl, hbx, x0, hvx⟩ := (H.ro 0 rfl).now.at_ hx
      clear hx hvx hcmp
      by_cases hb : x.vs = ys
      · have HN := hid (show q + 1 = countV ((xs.map Sl.vs).take (k + 1)) ys by rw [countV_step HX.out, if_pos hb, ← HC.out])
        have hb0 : (r == 0) = true := by rw [hr0, (rowC_eq _ _).2 hb]; rfl
        clear hb hr0
        go_wp2_with fail
        refine HCM.out.mono ?_
        rintro e w3 ⟨rfl, b3⟩
        have K3 := H.call b3
        clear H b3
        go_wp2_with fail
        go_roundw
        case rel => exact ⟨k + 1, q + 1, by omega, by omega, by go_num, by go_num, HN, K3⟩
        case measure => simp [intOf]; omega
      · have HN := hid (show q = countV ((xs.map Sl.vs).take (k + 1)) ys by rw [countV_step HX.out, if_neg hb, ← HC.out]; rfl)
        have hb0 : (r == 0) = false := by
          have : r ≠ 0 := fun h => hb ((rowC_eq _ _).1 (hr0 ▸ h))
          simpa using this
        clear hb hr0
        go_wp2_with fail
        refine HCM.out.mono ?_
        rintro e w3 ⟨rfl, b3⟩
        have K3 := H.call b3
        clear H b3
        go_wp2_with fail
        go_roundw
        case rel => exact ⟨k + 1, q, by omega, by omega, by first | rfl | go_num, by go_num, HN, K3⟩
        case measure => simp [intOf]; omega
    · obtain rfl : n = k := by omega
      have hd : decide ((n : Int) < (n : Int)) = false := by simp
      have HN := hid (show countV (xs.map Sl.vs) ys = q by
        rw [HC.out, List.take_of_length_le (by rw [List.length_map, HL.out]; exact Nat.le_refl _)])
      go_wp2_with fail
      go_ret
      exact ⟨by rw [HN.out] <;> rfl, H.below⟩
end Go.Proofs.YtljmclbedpceoaaDoor

namespace Go.Proofs.YtljmclbedpceoaaDoor
open Go.RowKit
set_option linter.unusedVariables false
set_option linter.unusedSimpArgs false

theorem countV_perm {a b : List (List Vl)} (h : a.Perm b) (r : List Vl) : countV a r = countV b r := h.countP_eq _
theorem sameBag_perm (a b : List (List Vl)) : sameBagV a b = true ↔ a.Perm b := by
  unfold sameBagV
  rw [decide_eq_true_iff]
  exact ⟨fun h => (sortV_perm a).symm.trans (h ▸ sortV_perm b), fun h => sorted_uniq ((sortV_perm a).trans (h.trans (sortV_perm b).symm)) (sortV_sorted a) (sortV_sorted b)⟩
end Go.Proofs.YtljmclbedpceoaaDoor

namespace Go.Proofs.YtljmclbedpceoaaDoor
open Go.RowKit
set_option linter.unusedVariables false
set_option linter.unusedSimpArgs false

def numV (z : Int) : Vl := ⟨1, z, ⟨#[]⟩⟩
set_option maxHeartbeats 2000000 in
set_option maxRecDepth 100000 in
theorem lrow_any (M : Nat → Prop) (w : World) (hM : ∀ b, M b → b < w.heap.size) (g : Nat) (z : Int) (hg : Ro w M (fun w => w.heap[g]? = some (.cells #[.int .i64 z] 2 (0, 0)))) :
    Calls Tryd.prog 52 #[.slice (some ⟨g, 0, none⟩) 1 1] w fun e w' => RowRet 3 (vlCells [numV z]) 1 w M e w' := by
  have K0 := ((Hold.start M w hM).add (hg.less (by simp [Mut]))).nil 66 3
  clear hg
  go_enter Tryd.func52, Tryd.ntmps52
  go_wp2_with fail
  go_loopw [3, 8] (fun ov iv wr => ∃ (k cap : Nat) (C : Option Addr), k ≤ 1 ∧ ov = .slice C k cap ∧ iv = .int .i64 k ∧ Hold M none w wr [.own 66 3 (.slice C k cap) k (vlCells ([numV z].take k)), .ro (fun w => w.heap[g]? = some (.cells #[.int .i64 z] 2 (0, 0)))]) (fun _ iv _ => 1 - (intOf iv).toNat)
  case atStart => exact ⟨0, 0, none, by omega, rfl, rfl, K0⟩
  case round =>
    clear K0
    obtain ⟨k, cap, C, hk, rfl, rfl, H⟩ := hrel
    rcases (show k = 0 ∨ k = 1 by omega) with rfl | rfl
    · have hd : decide (((0 : Nat) : Int) < 1) = true := by decide
      have hb := (H.ro 1 rfl).now
      have c0 := cell_of_row _ _ 0 _ _ _ hb
      have hgl : g < wr.heap.size := Blk.lt hb
      clear hb
      have HCE := hid (show vlCells ([numV z].take 0) ++ (#[Value.int .i64 1, .int .i64 z, .string ⟨#[]⟩]).toList = vlCells ([numV z].take (0 + 1)) by simp [vlCells, numV, Vl.cells])
      go_wp2_with fail
      refine (num_any z _).mono ?_
      rintro e w2 ⟨rfl, b2⟩
      have H := H.call b2
      clear c0 hgl b2
      go_wp2_with (at_builtin; go_must (refine wpList_appH H 0 rfl Tryd.elVl #[.int .i64 1, .int .i64 z, .string ⟨#[]⟩] rfl (.tmp 12) (.tmp 15) rfl rfl _ (by first | rfl | simp) rfl rfl (by intro u hu; simp at hu; rcases hu with rfl | rfl | rfl <;> rfl) (by omega) (by omega) ?_); intro g9 cap9 w9 hc9 hm9 KB; rw [HCE.out] at KB; simp only [List.set_cons_zero, List.set_cons_succ] at KB)
      go_roundw
      case rel => exact ⟨0 + 1, cap9, _, by omega, rfl, by first | rfl | go_num, KB⟩
      case measure => simp [intOf]
    · have hd : decide (((1 : Nat) : Int) < 1) = false := by decide
      obtain ⟨hc1, hc2, _⟩ := own_caps (H.get 0 rfl)
      have KS := H.sealRow 0 rfl
      simp only [List.set_cons_zero] at KS
      have r1 := KS.roOut 0 rfl
      go_wp2_with fail
      go_ret
      exact ⟨C, 1, cap, rfl, rfl, hc1, hc2, r1, KS.below⟩
theorem rowC_num (a b : Int) : rowC [numV a] [numV b] = cmpI a b := by
  have h1 := (linI.eq 1 1).2 rfl
  have h2 := (linS.eq ⟨#[]⟩ ⟨#[]⟩).2 rfl
  by_cases h : cmpI a b = 0 <;> simp [rowC, cmpVl, cmpV, numV, firstNZ, h1, h2, h]
theorem minus5 : minusV [[numV 2], [numV 1], [numV 1]] [[numV 1], [numV 3]] = [[numV 1], [numV 2]] := by
  simp [minusV, sortV, insV, minL, rowC_num, cmpI]
theorem sls_2 {a b : Sl} {w : World} (h : VlsIn a.A a.n a.vs w) (k : VlsIn b.A b.n b.vs w) : ∀ r ∈ [a, b], VlsIn r.A r.n r.vs w := fun r hr => by
  simp only [List.mem_cons, List.not_mem_nil, or_false] at hr
  rcases hr with rfl | rfl
  · exact h
  · exact k
theorem sls_3 {a b c : Sl} {w : World} (h : VlsIn a.A a.n a.vs w) (k : VlsIn b.A b.n b.vs w) (l : VlsIn c.A c.n c.vs w) : ∀ r ∈ [a, b, c], VlsIn r.A r.n r.vs w := fun r hr => by
  simp only [List.mem_cons, List.not_mem_nil, or_false] at hr
  rcases hr with rfl | rfl | rfl
  · exact h
  · exact k
  · exact l
theorem numOk {z : Int} (h : I64 z) : ∀ v ∈ [numV z], v.ok := fun v hv => by
  simp at hv
  subst hv
  exact ⟨(show (-9223372036854775808:Int) ≤ 1 ∧ (1:Int) ≤ 9223372036854775807 by omega), h, Nat.zero_le _⟩
theorem slOk2 {A B : Option Addr} {c d : Nat} {x y : Int} (h1 : 1 ≤ c) (h2 : c ≤ 9223372036854775807) (k1 : 1 ≤ d) (k2 : d ≤ 9223372036854775807) (hx : I64 x := by unfold I64; decide) (hy : I64 y := by unfold I64; decide) : ∀ s ∈ [(⟨A, 1, c, [numV x]⟩ : Sl), ⟨B, 1, d, [numV y]⟩], s.ok := fun s hs => by
  simp only [List.mem_cons, List.not_mem_nil, or_false] at hs
  rcases hs with rfl | rfl
  · exact ⟨h1, h2, numOk hx⟩
  · exact ⟨k1, k2, numOk hy⟩
theorem slOk3 {A B C : Option Addr} {c d e : Nat} {x y z : Int} (h1 : 1 ≤ c) (h2 : c ≤ 9223372036854775807) (k1 : 1 ≤ d) (k2 : d ≤ 9223372036854775807) (l1 : 1 ≤ e) (l2 : e ≤ 9223372036854775807) (hx : I64 x := by unfold I64; decide) (hy : I64 y := by unfold I64; decide) (hz : I64 z := by unfold I64; decide) : ∀ s ∈ [(⟨A, 1, c, [numV x]⟩ : Sl), ⟨B, 1, d, [numV y]⟩, ⟨C, 1, e, [numV z]⟩], s.ok := fun s hs => by
  simp only [List.mem_cons, List.not_mem_nil, or_false] at hs
  rcases hs with rfl | rfl | rfl
  · exact ⟨h1, h2, numOk hx⟩
  · exact ⟨k1, k2, numOk hy⟩
  · exact ⟨l1, l2, numOk hz⟩
theorem slN2 {A B : Option Addr} {c d : Nat} {x y : List Vl} : ∀ s ∈ [(⟨A, 1, c, x⟩ : Sl), ⟨B, 1, d, y⟩], s.n ≤ 4398046511104 := fun s hs => by
  simp only [List.mem_cons, List.not_mem_nil, or_false] at hs
  rcases hs with rfl | rfl <;> (show (1 : Nat) ≤ _; omega)
theorem slN3 {A B C : Option Addr} {c d e : Nat} {x y z : List Vl} : ∀ s ∈ [(⟨A, 1, c, x⟩ : Sl), ⟨B, 1, d, y⟩, ⟨C, 1, e, z⟩], s.n ≤ 4398046511104 := fun s hs => by
  simp only [List.mem_cons, List.not_mem_nil, or_false] at hs
  rcases hs with rfl | rfl | rfl <;> (show (1 : Nat) ≤ _; omega)
set_option maxHeartbeats 4000000 in
set_option maxRecDepth 100000 in
theorem known5 : Gives 17 #[] (.bool true) := by
  intro w
  have K := Hold.begin_ w
  go_enter Tryd.func17, Tryd.ntmps17
  replace K := K.alloc_cst #[.int .i64 2] 2
  try simp only [World.size_alloc] at K
  go_wp2_with fail
  refine (lrow_any _ _ K.mutLt _ 2 (K.get 0 rfl)).mono ?_
  rintro e w1 ⟨A1, n1, c1, rfl, rfl, hc1, hd1, r1, e1⟩
  replace K := (K.call e1).add (show Ro w1 _ (VlsIn A1 1 [numV 2]) from r1)
  clear e1 r1
  replace K := K.alloc_cst #[.int .i64 1] 2
  try simp only [World.size_alloc] at K
  go_wp2_with fail
  refine (lrow_any _ _ K.mutLt _ 1 (K.get 0 rfl)).mono ?_
  rintro e w2 ⟨A2, n2, c2, rfl, rfl, hc2, hd2, r2, e2⟩
  replace K := (K.call e2).add (show Ro w2 _ (VlsIn A2 1 [numV 1]) from r2)
  clear e2 r2
  replace K := K.alloc_cst #[.int .i64 1] 2
  try simp only [World.size_alloc] at K
  go_wp2_with fail
  refine (lrow_any _ _ K.mutLt _ 1 (K.get 0 rfl)).mono ?_
  rintro e w3 ⟨A3, n3, c3, rfl, rfl, hc3, hd3, r3, e3⟩
  replace K := (K.call e3).add (show Ro w3 _ (VlsIn A3 1 [numV 1]) from r3)
  clear e3 r3
  replace K := K.alloc_cst #[.slice A1 1 c1, .slice A2 1 c2, .slice A3 1 c3] 27
  try simp only [World.size_alloc] at K
  replace K := K.alloc_cst #[.int .i64 1] 2
  try simp only [World.size_alloc] at K
  go_wp2_with fail
  refine (lrow_any _ _ K.mutLt _ 1 (K.get 0 rfl)).mono ?_
  rintro e w4 ⟨A4, n4, c4, rfl, rfl, hc4, hd4, r4, e4⟩
  replace K := (K.call e4).add (show Ro w4 _ (VlsIn A4 1 [numV 1]) from r4)
  clear e4 r4
  replace K := K.alloc_cst #[.int .i64 3] 2
  try simp only [World.size_alloc] at K
  go_wp2_with fail
  refine (lrow_any _ _ K.mutLt _ 3 (K.get 0 rfl)).mono ?_
  rintro e w5 ⟨A5, n5, c5, rfl, rfl, hc5, hd5, r5, e5⟩
  replace K := (K.call e5).add (show Ro w5 _ (VlsIn A5 1 [numV 3]) from r5)
  clear e5 r5
  replace K := K.alloc_cst #[.slice A4 1 c4, .slice A5 1 c5] 27
  try simp only [World.size_alloc] at K
  go_wp2_with fail
  have hX : Ro _ _ (SlsIn (some ⟨_, 0, none⟩) 3 [⟨A1, 1, c1, [numV 2]⟩, ⟨A2, 1, c2, [numV 1]⟩, ⟨A3, 1, c3, [numV 1]⟩]) := (ro_block (size := 1) (K.get 5 rfl) rfl).and (((K.ro 10 rfl).and ((K.ro 8 rfl).and (K.ro 6 rfl))).imp fun w h => sls_3 h.1 h.2.1 h.2.2)
  have hY : Ro _ _ (SlsIn (some ⟨_, 0, none⟩) 2 [⟨A4, 1, c4, [numV 1]⟩, ⟨A5, 1, c5, [numV 3]⟩]) := (ro_block (size := 1) (K.get 0 rfl) rfl).and (((K.ro 3 rfl).and (K.ro 1 rfl)).imp fun w h => sls_2 h.1 h.2)
  refine (tminus_any _ _ K.mutLt _ 3 3 [⟨A1, 1, c1, [numV 2]⟩, ⟨A2, 1, c2, [numV 1]⟩, ⟨A3, 1, c3, [numV 1]⟩] _ 2 2 [⟨A4, 1, c4, [numV 1]⟩, ⟨A5, 1, c5, [numV 3]⟩] hX hY (by omega) (by omega) (slN3) (slN2) (slOk3 hc1 hd1 hc2 hd2 hc3 hd3) (slOk2 hc4 hd4 hc5 hd5)).mono ?_
  rintro e w6 ⟨A6, n6, c6, l6, rfl, h61, h62, r6, o6, m6, e6, b6⟩
  replace K := (K.call b6).add r6
  clear hX hY b6 r6
  have HM := hid (show l6.map Sl.vs = [[numV 1], [numV 2]] from e6.trans minus5)
  have HMN := hid m6
  clear e6 m6 o6
  replace K := K.alloc_cst #[.int .i64 1] 2
  try simp only [World.size_alloc] at K
  go_wp2_with fail
  refine (lrow_any _ _ K.mutLt _ 1 (K.get 0 rfl)).mono ?_
  rintro e w7 ⟨A7, n7, c7, rfl, rfl, hc7, hd7, r7, e7⟩
  replace K := (K.call e7).add (show Ro w7 _ (VlsIn A7 1 [numV 1]) from r7)
  clear e7 r7
  replace K := K.alloc_cst #[.int .i64 2] 2
  try simp only [World.size_alloc] at K
  go_wp2_with fail
  refine (lrow_any _ _ K.mutLt _ 2 (K.get 0 rfl)).mono ?_
  rintro e w8 ⟨A8, n8, c8, rfl, rfl, hc8, hd8, r8, e8⟩
  replace K := (K.call e8).add (show Ro w8 _ (VlsIn A8 1 [numV 2]) from r8)
  clear e8 r8
  replace K := K.alloc_cst #[.slice A7 1 c7, .slice A8 1 c8] 27
  try simp only [World.size_alloc] at K
  go_wp2_with fail
  have hZ : Ro _ _ (SlsIn (some ⟨_, 0, none⟩) 2 [⟨A7, 1, c7, [numV 1]⟩, ⟨A8, 1, c8, [numV 2]⟩]) := (ro_block (size := 1) (K.get 0 rfl) rfl).and (((K.ro 3 rfl).and (K.ro 1 rfl)).imp fun w h => sls_2 h.1 h.2)
  have hn6 : n6 ≤ 4398046511204 := by have h1 := (K.ro 5 rfl).now.len; have h2 := congrArg List.length HM.out; rw [List.length_map] at h2; simp at h2; omega
  refine (sametuples_any _ _ K.mutLt A6 n6 c6 l6 _ 2 2 [⟨A7, 1, c7, [numV 1]⟩, ⟨A8, 1, c8, [numV 2]⟩] (K.ro 5 rfl) hZ hn6 HMN.out).mono ?_
  rintro e w9 ⟨rfl, b9⟩
  rw [show decide (l6.map Sl.vs = ([⟨A7, 1, c7, [numV 1]⟩, ⟨A8, 1, c8, [numV 2]⟩] : List Sl).map Sl.vs) = true from decide_eq_true (by rw [HM.out]; rfl)]
  replace K := K.call b9
  clear hZ b9 hn6
  replace K := K.alloc_cst #[.int .i64 1] 2
  try simp only [World.size_alloc] at K
  go_wp2_with fail
  refine (lrow_any _ _ K.mutLt _ 1 (K.get 0 rfl)).mono ?_
  rintro e w10 ⟨A10, n10, c10, rfl, rfl, hc10, hd10, r10, e10⟩
  replace K := (K.call e10).add (show Ro w10 _ (VlsIn A10 1 [numV 1]) from r10)
  clear e10 r10
  replace K := K.alloc_cst #[.int .i64 1] 2
  try simp only [World.size_alloc] at K
  go_wp2_with fail
  refine (lrow_any _ _ K.mutLt _ 1 (K.get 0 rfl)).mono ?_
  rintro e w11 ⟨A11, n11, c11, rfl, rfl, hc11, hd11, r11, e11⟩
  replace K := (K.call e11).add (show Ro w11 _ (VlsIn A11 1 [numV 1]) from r11)
  clear e11 r11
  replace K := K.alloc_cst #[.slice A10 1 c10, .slice A11 1 c11] 27
  try simp only [World.size_alloc] at K
  replace K := K.alloc_cst #[.int .i64 1] 2
  try simp only [World.size_alloc] at K
  go_wp2_with fail
  refine (lrow_any _ _ K.mutLt _ 1 (K.get 0 rfl)).mono ?_
  rintro e w12 ⟨A12, n12, c12, rfl, rfl, hc12, hd12, r12, e12⟩
  replace K := (K.call e12).add (show Ro w12 _ (VlsIn A12 1 [numV 1]) from r12)
  clear e12 r12
  go_wp2_with fail
  have hW : Ro _ _ (SlsIn (some ⟨_, 0, none⟩) 2 [⟨A10, 1, c10, [numV 1]⟩, ⟨A11, 1, c11, [numV 1]⟩]) := (ro_block (size := 1) (K.get 2 rfl) rfl).and (((K.ro 5 rfl).and (K.ro 3 rfl)).imp fun w h => sls_2 h.1 h.2)
  refine (tcount_any _ _ K.mutLt _ 2 2 [⟨A10, 1, c10, [numV 1]⟩, ⟨A11, 1, c11, [numV 1]⟩] A12 1 c12 [numV 1] hW (K.ro 0 rfl) (by omega) (slN2)).mono ?_
  rintro e w13 ⟨rfl, b13⟩
  rw [show (countV (([⟨A10, 1, c10, [numV 1]⟩, ⟨A11, 1, c11, [numV 1]⟩] : List Sl).map Sl.vs) [numV 1] : Int) = 2 by simp [countV]]
  replace K := K.call b13
  go_wp2_with fail
  go_ret
  exact ⟨by first | rfl | simp, K.below⟩
end Go.Proofs.YtljmclbedpceoaaDoor

namespace Go.Proofs.YtljmclbedpceoaaDoor
open Go.RowKit
set_option linter.unusedVariables false
set_option linter.unusedSimpArgs false

theorem perm_put {a b : List Sl} {j : Nat} {x : Sl} (h : a.Perm b) : (putAt a j x).Perm (b ++ (some x).toList) := (putAt_perm a j x).trans ((h.cons x).trans (List.perm_append_singleton x b).symm)
theorem sortV_congr {a b : List (List Vl)} (h : a.Perm b) : sortV a = sortV b := by
  have := (sameBag_perm a b).2 h
  unfold sameBagV at this
  exact of_decide_eq_true this
theorem sorted_next {l : List (List Vl)} (h : SortedV l) {i : Nat} {a b : List Vl} (ha : l[i]? = some a) (hb : l[i + 1]? = some b) : ¬ 0 < rowC a b := fun hlt => by
  unfold SortedV at h
  rw [List.pairwise_iff_getElem] at h
  obtain ⟨l1, g1⟩ := List.getElem?_eq_some_iff.1 ha
  obtain ⟨l2, g2⟩ := List.getElem?_eq_some_iff.1 hb
  have := h i (i + 1) l1 l2 (by omega)
  rw [g1, g2] at this
  exact this ((rowC_flip _ _).2 hlt)
set_option maxHeartbeats 8000000 in
set_option maxRecDepth 100000 in
theorem tsorts_walk (A : Option Addr) (n c : Nat) (zs : List Int) (w : World) (hr : Rd w w.heap.size 1 A n (zs.map (Value.int .i64))) (hz : Ints zs) (hn : n ≤ c) (hc : c ≤ 9223372036854775807) (hw : Wds w) :
    Calls Tryd.prog 3 #[.slice A n c] w fun e w' => e = .returned (.bool true) ∧ Below w.heap.size w w' := by
  have hwl := hw.lt
  have K0 := Hold.begin_ w
  go_enter Tryd.func3, Tryd.ntmps3
  go_wp2_with fail
  refine (new_any A n c zs _ hr hz hn hc).mono ?_
  rintro e w0 ⟨T, rfl, hT, t1, b1⟩
  have K1 := Hold.newTape K0 b1 t1 hT (by simp [Mut, None_, Hp.foot])
  have wd0 : Wds w0 := hw.below b1 hwl
  have hT1 : 1 < T := by omega
  have K2 := K1.add (wd0.ro2 (show ¬ Mut None_ [.tp T] 1 by simp [Mut, None_, Hp.foot]; omega))
  clear K1 K0 wd0 t1 b1 hw hr hwl hT
  go_wp2_with fail
  refine (trows_any (Mut None_ _) T _ K2.mutLt (K2.tp_ 1 rfl) (K2.get 1 rfl).2 ((K2.ro 0 rfl).less (mut_tp (i := 1) rfl)) hT1 8 (by omega)).mono ?_
  rintro e w1 ⟨A1, n1, c1, la, rfl, h11, h12, h13, o1, m1, r1, t2, g2⟩
  have K3 := ((Hold.callT K2 1 rfl g2 t2).add r1).nil 27 1
  have HLA := hid (show la.length = n1 from r1.now.len)
  clear K2 t2 g2 r1
  have HA := hid (And.intro o1 m1)
  clear o1 m1
  go_wp2_with fail
  go_loopw [5, 18] (fun ov iv wr => ∃ (k cap : Nat) (C : Option Addr) (lo : List Sl), k ≤ n1 ∧ ov = .slice C k cap ∧ iv = .int .i64 k ∧ Hid (lo.Perm (la.take k)) ∧ Hold None_ none w wr [.own 27 1 (.slice C k cap) k (slCells lo), .ro (SlsIn A1 n1 la), .ro Wds, .tp T]) (fun _ iv _ => n1 - (intOf iv).toNat)
  case atStart => exact ⟨0, 0, none, [], by omega, rfl, rfl, hid (by simp), K3⟩
  case round =>
    clear K3
    obtain ⟨k, cap, C, lo, hk, rfl, rfl, HLO, H⟩ := hrel
    have HLK := hid (show lo.length = k by have := (H.get 0 rfl).1; rw [slCells_len] at this; omega)
    by_cases hlt : k < n1
    · have hd : decide ((k : Int) < (n1 : Int)) = true := by simp; omega
      have i0 : (0 : Int) ≤ (k : Int) := by omega
      have i1 : (k : Int) < (n1 : Int) := by omega
      obtain ⟨x, hx⟩ := get_of HLA.out hlt
      obtain ⟨b, o, rfl, hb, c0, _⟩ := (H.ro 1 rfl).now.at_ hx
      have HXI := hid hx
      have hkw : IntKind.i64.wrap ((k : Int) + 1) = (k : Int) + 1 := IntWalk.i64_in _ (by omega)
      clear hx
      go_wp2_with fail
      refine (next_any T ((k : Int) + 1) _ (H.tp_ 3 rfl) (by omega) (by omega)).mono ?_
      rintro e w2 ⟨j, rfl, j0, j1, t2, g2⟩
      obtain ⟨j, rfl⟩ := Int.eq_ofNat_of_zero_le j0
      have H2 := Hold.callT H 3 rfl g2 t2
      clear H g2 t2 c0 hb hkw hd i0 i1
      have hj : j ≤ k := by omega
      have hlk : lo.length = k := HLK.out
      clear j0 j1
      go_wp2_with (at_builtin; go_must (refine wpList_appH H2 0 rfl Tryd.elSlc #[.slice none 0 0] rfl (.tmp 27) (.tmp 28) rfl rfl _ (by first | rfl | simp) rfl rfl (by intro u hu; simp at hu; rcases hu with rfl; rfl) (by omega) (by omega) ?_); intro g9 cap9 w9 hc9 hm9 KB; simp only [List.set_cons_zero, List.set_cons_succ] at KB)
      obtain ⟨KL, hKL, KN⟩ := KB.name
      have HKL := hid hKL
      clear hKL KB H2
      have hj0 : (0 : Int) ≤ (j : Int) := by omega
      have hj1 : (j : Int) ≤ (k : Int) + 1 := by omega
      have hj2 : (0 : Int) ≤ (j : Int) + 1 := by omega
      have hj3 : (j : Int) + 1 ≤ (k : Int) + 1 := by omega
      have hjw : IntKind.i64.wrap ((j : Int) + 1) = (j : Int) + 1 := IntWalk.i64_in _ (by omega)
      have hjt : ((j : Int) + 1).toNat = j + 1 := by omega
      have hjc : ¬ cap9 = j := by omega
      by_cases hjk : j < k
      · have hcp : ¬ cap9 = j + 1 := by omega
        refine wp_region_any (by kernel_rfl) ?_
        refine wpAny_hold 7 93 (KL) (spL []) (by kernel_rfl) (by kernel_rfl) (by kernel_rfl) rfl ?_ (KN.drew) ?_
        · exact stays_nil _
        simp only [List.take_succ_cons, List.take_zero, List.drop_succ_cons, List.drop_zero, Act.put, List.getElem_toArray, List.getElem_cons_zero, List.getElem_cons_succ, List.setIfInBounds_toArray, List.set_cons_succ, List.set_cons_zero]
        refine dw_val rfl rfl rfl ?_; apply Exists.intro; refine ⟨fun wv HC => ?_, ?_⟩
        ·  go_simp <;> rfl
        simp only [Act.put, List.setIfInBounds_toArray, List.set_cons_succ, List.set_cons_zero]
        refine dw_val rfl rfl rfl ?_; apply Exists.intro; refine ⟨fun wv HC => ?_, ?_⟩
        ·  go_simp <;> rfl
        simp only [Act.put, List.setIfInBounds_toArray, List.set_cons_succ, List.set_cons_zero]
        refine dw_val rfl rfl rfl ?_; apply Exists.intro; refine ⟨fun wv HC => ?_, ?_⟩
        ·  go_simp <;> rfl
        simp only [Act.put, List.setIfInBounds_toArray, List.set_cons_succ, List.set_cons_zero]
        refine dw_val rfl rfl rfl ?_; apply Exists.intro; refine ⟨fun wv HC => ?_, ?_⟩
        ·  go_simp <;> rfl
        simp only [Act.put, List.setIfInBounds_toArray, List.set_cons_succ, List.set_cons_zero]
        refine dw_val rfl rfl rfl ?_; apply Exists.intro; refine ⟨fun wv HC => ?_, ?_⟩
        ·  go_simp <;> rfl
        simp only [Act.put, List.setIfInBounds_toArray, List.set_cons_succ, List.set_cons_zero]
        refine dw_val rfl rfl rfl ?_; apply Exists.intro; refine ⟨fun wv HC => ?_, ?_⟩
        ·  go_simp <;> rfl
        simp only [Act.put, List.setIfInBounds_toArray, List.set_cons_succ, List.set_cons_zero]
        refine dw_val rfl rfl rfl ?_; apply Exists.intro; refine ⟨fun wv HC => ?_, ?_⟩
        ·  go_simp <;> rfl
        simp only [Act.put, List.setIfInBounds_toArray, List.set_cons_succ, List.set_cons_zero]
        refine rel_nil ?_
        rintro wx9 HX9
        rintro _hrm _HG
        clear _hrm _HG
        rw [HKL.out] at HX9
        clear HKL KN
        refine wpList_copyH HX9 0 rfl rfl (.tmp 33) (.tmp 36) _ _ rfl 27 Tryd.underlying25 (by kernel_rfl) (j + 1) j _ _ _ _ (k - j) rfl rfl (show k - j = Nat.min (k + 1 - j) (k - j) from min_shift1) (by omega) (by omega) (slNil_one lo) ?_
        intro w10 KD
        simp only [List.set_cons_zero, List.set_cons_succ] at KD
        obtain ⟨uj, huj⟩ : ∃ u, w10.cell? ⟨g9, j, none⟩ = some u := ⟨_, ((KD.get 0 rfl).cellAt j (by omega)).trans (List.getElem?_eq_getElem (by have := (KD.get 0 rfl).1; omega))⟩
        have hfj : w10.frozen? ⟨g9, j, none⟩ = false := (KD.get 0 rfl).frozenAt j
        have hgj : g9 < w10.heap.size := (KD.fresh _ (List.mem_of_getElem? (i := 0) rfl) g9 rfl).2
        have KF := KD.put_ 0 rfl j (.slice x.A x.n x.c)
        simp only [List.set_cons_zero, List.set_cons_succ] at KF
        rw [cells_shift (vs := x.vs) HLK.out (by omega)] at KF
        clear KD
        have HP1 := hid (show (putAt lo j x).Perm (la.take (k + 1)) by rw [List.take_add_one, HXI.out]; exact perm_put HLO.out)
        go_wp2_with fail
        go_roundw
        case rel => exact ⟨k + 1, _, some ⟨g9, 0, none⟩, putAt lo j x, by omega, by first | rfl | go_num, by first | rfl | go_num, HP1, KF⟩
        case measure => simp [intOf]; omega
      · obtain rfl : j = k := by omega
        by_cases hcp : cap9 = j + 1
        · subst hcp
          refine wp_region_any (by kernel_rfl) ?_
          refine wpAny_hold 7 93 (KL) (spL []) (by kernel_rfl) (by kernel_rfl) (by kernel_rfl) rfl ?_ (KN.drew) ?_
          · exact stays_nil _
          simp only [List.take_succ_cons, List.take_zero, List.drop_succ_cons, List.drop_zero, Act.put, List.getElem_toArray, List.getElem_cons_zero, List.getElem_cons_succ, List.setIfInBounds_toArray, List.set_cons_succ, List.set_cons_zero]
          refine dw_val rfl rfl rfl ?_; apply Exists.intro; refine ⟨fun wv HC => ?_, ?_⟩
          ·  go_simp <;> rfl
          simp only [Act.put, List.setIfInBounds_toArray, List.set_cons_succ, List.set_cons_zero]
          refine dw_val rfl rfl rfl ?_; apply Exists.intro; refine ⟨fun wv HC => ?_, ?_⟩
          ·  go_simp <;> rfl
          simp only [Act.put, List.setIfInBounds_toArray, List.set_cons_succ, List.set_cons_zero]
          refine dw_val rfl rfl rfl ?_; apply Exists.intro; refine ⟨fun wv HC => ?_, ?_⟩
          ·  go_simp <;> rfl
          simp only [Act.put, List.setIfInBounds_toArray, List.set_cons_succ, List.set_cons_zero]
          refine dw_val rfl rfl rfl ?_; apply Exists.intro; refine ⟨fun wv HC => ?_, ?_⟩
          ·  go_simp <;> rfl
          simp only [Act.put, List.setIfInBounds_toArray, List.set_cons_succ, List.set_cons_zero]
          refine dw_val rfl rfl rfl ?_; apply Exists.intro; refine ⟨fun wv HC => ?_, ?_⟩
          ·  go_simp <;> rfl
          simp only [Act.put, List.setIfInBounds_toArray, List.set_cons_succ, List.set_cons_zero]
          refine dw_val rfl rfl rfl ?_; apply Exists.intro; refine ⟨fun wv HC => ?_, ?_⟩
          ·  go_simp <;> rfl
          simp only [Act.put, List.setIfInBounds_toArray, List.set_cons_succ, List.set_cons_zero]
          refine dw_val rfl rfl rfl ?_; apply Exists.intro; refine ⟨fun wv HC => ?_, ?_⟩
          ·  go_simp <;> rfl
          simp only [Act.put, List.setIfInBounds_toArray, List.set_cons_succ, List.set_cons_zero]
          refine rel_nil ?_
          rintro wx9 HX9
          rintro _hrm _HG
          clear _hrm _HG
          rw [HKL.out] at HX9
          clear HKL KN
          refine wpList_copy_nothing rfl (.tmp 33) (.tmp 36) _ _ rfl 27 Tryd.underlying25 (by kernel_rfl) _ _ _ _ _ _ rfl rfl (by simp) ?_
          have KD := HX9
          obtain ⟨uj, huj⟩ : ∃ u, wx9.cell? ⟨g9, j, none⟩ = some u := ⟨_, ((KD.get 0 rfl).cellAt j (by omega)).trans (List.getElem?_eq_getElem (by have := (KD.get 0 rfl).1; omega))⟩
          have hfj : wx9.frozen? ⟨g9, j, none⟩ = false := (KD.get 0 rfl).frozenAt j
          have hgj : g9 < wx9.heap.size := (KD.fresh _ (List.mem_of_getElem? (i := 0) rfl) g9 rfl).2
          have KF := KD.put_ 0 rfl j (.slice x.A x.n x.c)
          simp only [List.set_cons_zero, List.set_cons_succ] at KF
          rw [cells_push (vs := x.vs) HLK.out] at KF
          clear KD
          have HP1 := hid (show (putAt lo j x).Perm (la.take (j + 1)) by rw [List.take_add_one, HXI.out]; exact perm_put HLO.out)
          go_wp2_with fail
          go_roundw
          case rel => exact ⟨j + 1, _, some ⟨g9, 0, none⟩, putAt lo j x, by omega, by first | rfl | go_num, by first | rfl | go_num, HP1, KF⟩
          case measure => simp [intOf]; omega
        · skip
          refine wp_region_any (by kernel_rfl) ?_
          refine wpAny_hold 7 93 (KL) (spL []) (by kernel_rfl) (by kernel_rfl) (by kernel_rfl) rfl ?_ (KN.drew) ?_
          · exact stays_nil _
          simp only [List.take_succ_cons, List.take_zero, List.drop_succ_cons, List.drop_zero, Act.put, List.getElem_toArray, List.getElem_cons_zero, List.getElem_cons_succ, List.setIfInBounds_toArray, List.set_cons_succ, List.set_cons_zero]
          refine dw_val rfl rfl rfl ?_; apply Exists.intro; refine ⟨fun wv HC => ?_, ?_⟩
          ·  go_simp <;> rfl
          simp only [Act.put, List.setIfInBounds_toArray, List.set_cons_succ, List.set_cons_zero]
          refine dw_val rfl rfl rfl ?_; apply Exists.intro; refine ⟨fun wv HC => ?_, ?_⟩
          ·  go_simp <;> rfl
          simp only [Act.put, List.setIfInBounds_toArray, List.set_cons_succ, List.set_cons_zero]
          refine dw_val rfl rfl rfl ?_; apply Exists.intro; refine ⟨fun wv HC => ?_, ?_⟩
          ·  go_simp <;> rfl
          simp only [Act.put, List.setIfInBounds_toArray, List.set_cons_succ, List.set_cons_zero]
          refine dw_val rfl rfl rfl ?_; apply Exists.intro; refine ⟨fun wv HC => ?_, ?_⟩
          ·  go_simp <;> rfl
          simp only [Act.put, List.setIfInBounds_toArray, List.set_cons_succ, List.set_cons_zero]
          refine dw_val rfl rfl rfl ?_; apply Exists.intro; refine ⟨fun wv HC => ?_, ?_⟩
          ·  go_simp <;> rfl
          simp only [Act.put, List.setIfInBounds_toArray, List.set_cons_succ, List.set_cons_zero]
          refine dw_val rfl rfl rfl ?_; apply Exists.intro; refine ⟨fun wv HC => ?_, ?_⟩
          ·  go_simp <;> rfl
          simp only [Act.put, List.setIfInBounds_toArray, List.set_cons_succ, List.set_cons_zero]
          refine dw_val rfl rfl rfl ?_; apply Exists.intro; refine ⟨fun wv HC => ?_, ?_⟩
          ·  go_simp <;> rfl
          simp only [Act.put, List.setIfInBounds_toArray, List.set_cons_succ, List.set_cons_zero]
          refine rel_nil ?_
          rintro wx9 HX9
          rintro _hrm _HG
          clear _hrm _HG
          rw [HKL.out] at HX9
          clear HKL KN
          refine wpList_copy_nothing rfl (.tmp 33) (.tmp 36) _ _ rfl 27 Tryd.underlying25 (by kernel_rfl) _ _ _ _ _ _ rfl rfl (by simp) ?_
          have KD := HX9
          obtain ⟨uj, huj⟩ : ∃ u, wx9.cell? ⟨g9, j, none⟩ = some u := ⟨_, ((KD.get 0 rfl).cellAt j (by omega)).trans (List.getElem?_eq_getElem (by have := (KD.get 0 rfl).1; omega))⟩
          have hfj : wx9.frozen? ⟨g9, j, none⟩ = false := (KD.get 0 rfl).frozenAt j
          have hgj : g9 < wx9.heap.size := (KD.fresh _ (List.mem_of_getElem? (i := 0) rfl) g9 rfl).2
          have KF := KD.put_ 0 rfl j (.slice x.A x.n x.c)
          simp only [List.set_cons_zero, List.set_cons_succ] at KF
          rw [cells_push (vs := x.vs) HLK.out] at KF
          clear KD
          have HP1 := hid (show (putAt lo j x).Perm (la.take (j + 1)) by rw [List.take_add_one, HXI.out]; exact perm_put HLO.out)
          go_wp2_with fail
          go_roundw
          case rel => exact ⟨j + 1, _, some ⟨g9, 0, none⟩, putAt lo j x, by omega, by first | rfl | go_num, by first | rfl | go_num, HP1, KF⟩
          case measure => simp [intOf]; omega
    · obtain rfl : n1 = k := by omega
      have hd : decide ((n1 : Int) < (n1 : Int)) = false := by simp
      have HPF := hid (show lo.Perm la by
        have h := HLO.out
        rwa [List.take_of_length_le (by rw [HLA.out]; exact Nat.le_refl _)] at h)
      clear HLO
      obtain ⟨hc1, hc2, _⟩ := own_caps (H.get 0 rfl)
      have KS := H.sealRow 0 rfl
      simp only [List.set_cons_zero] at KS
      have KV := KS.swapRo 0 rfl (((KS.ro 0 rfl).and (KS.ro 1 rfl)).imp fun w2 h => (⟨h.1, fun r hr => h.2.2 r (HPF.out.mem_iff.1 hr)⟩ : SlsIn C n1 lo w2))
      simp only [List.set_cons_zero] at KV
      clear H KS
      have HB := hid (show (∀ s ∈ lo, s.ok) ∧ ∀ s ∈ lo, s.n ≤ 4 from ⟨fun s hs => HA.out.1 s (HPF.out.mem_iff.1 hs), fun s hs => HA.out.2 s (HPF.out.mem_iff.1 hs)⟩)
      go_wp2_with fail
      refine (tsort_any _ _ KV.mutLt C n1 cap lo (KV.ro 0 rfl) (by omega) (fun r hr => by have := HB.out.2 r hr; omega) HB.out.1).mono ?_
      rintro e w3 ⟨A3, n3, c3, ls, rfl, h31, h32, r3, o3, m3, e3, b3⟩
      have K5 := (KV.call b3).add r3
      have HS := hid (And.intro o3 (And.intro m3 (show ls.map Sl.vs = sortV (la.map Sl.vs) by rw [e3]; exact sortV_congr (HPF.out.map _))))
      have hn3 : n3 = n1 := by
        have h1 := congrArg List.length HS.out.2.2
        rw [sortV_len, List.length_map, List.length_map, HLA.out, r3.now.len] at h1
        exact h1
      have hn38 : n3 ≤ 8 := by omega
      have HN3 := hid hn3
      clear hn3
      have HLS := hid (show ls.length = n3 from r3.now.len)
      clear KV b3 r3 o3 m3 e3 hd
      go_wp2_with fail
      go_loopw [47] (fun iv wr => ∃ (k : Nat), k ≤ n3 ∧ iv = .int .i64 k ∧ Hold None_ none w wr [.ro (SlsIn A3 n3 ls), .ro (SlsIn C n1 lo), .ro (SlsIn A1 n1 la), .ro Wds, .tp T]) (fun iv _ => n3 - (intOf iv).toNat)
      case atStart => exact ⟨0, by omega, rfl, K5⟩
      case round =>
        clear K5
        obtain ⟨k, hk, rfl, H⟩ := hrel
        by_cases hlt : k < n3
        · have hd : decide ((k : Int) < (n3 : Int)) = true := by simp; omega
          have i0 : (0 : Int) ≤ (k : Int) := by omega
          have i1 : (k : Int) < (n3 : Int) := by omega
          obtain ⟨x, hx⟩ := get_of HLS.out hlt
          obtain ⟨b, o, rfl, hb, x0, _⟩ := (H.ro 0 rfl).now.at_ hx
          have HXI := hid hx
          have HXM := hid (List.mem_of_getElem? hx)
          have HXN := hid (HS.out.2.1 x HXM.out)
          obtain ⟨xA, xn, xc, xvs⟩ := x
          dsimp only at *
          clear hx
          obtain ⟨ca, hca⟩ : ∃ ca, ca = countV (ls.map Sl.vs) xvs := ⟨_, rfl⟩
          have HCT := hid (show ca = countV (ls.map Sl.vs) xvs ∧ ca = countV (la.map Sl.vs) xvs from ⟨hca, by rw [hca, HS.out.2.2, countV_perm (sortV_perm _)]⟩)
          clear hca
          by_cases h0 : 0 < k
          · obtain ⟨k, rfl⟩ : ∃ k', k = k' + 1 := ⟨k - 1, by omega⟩
            have z0 : decide (((k + 1 : Nat) : Int) > 0) = true := by rw [decide_eq_true_iff]; omega
            have hkw : IntKind.i64.wrap (((k + 1 : Nat) : Int) - 1) = (k : Int) := by rw [IntWalk.i64_in _ (by omega)]; omega
            have i2 : (0 : Int) ≤ (k : Int) := by omega
            have i3 : (k : Int) < (n3 : Int) := by omega
            obtain ⟨y, hy⟩ := get_of HLS.out (show k < n3 by omega)
            obtain ⟨_, _, e1, _, y0, _⟩ := (H.ro 0 rfl).now.at_ hy
            injection e1 with e1; injection e1 with e3 e4; subst e3 e4
            have HYM := hid (List.mem_of_getElem? hy)
            have HYN := hid (HS.out.2.1 y HYM.out)
            have hle : ¬ 0 < rowC y.vs xvs := sorted_next (l := ls.map Sl.vs) (by rw [HS.out.2.2]; exact sortV_sorted _) (i := k) (by simp [hy]) (by simp [HXI.out])
            obtain ⟨r, hr0⟩ : ∃ r, r = rowC y.vs xvs := ⟨_, rfl⟩
            have hcmp := rcmprows_ex _ wr H.mutLt y.A y.n y.c y.vs xA xn xc xvs ((H.ro 0 rfl).imp fun w2 h => h.2 y HYM.out) ((H.ro 0 rfl).imp fun w2 h => h.2 _ HXM.out) (by have := HYN.out; omega) (by have := HXN.out; omega)
            rw [← hr0] at hcmp hle
            have HCM := hid hcmp
            clear hcmp hr0 hy
            have z2 : decide (0 < r) = false := by rw [decide_eq_false_iff_not]; exact hle
            clear hle
            go_wp2_with fail
            refine HCM.out.mono ?_
            rintro e w5 ⟨rfl, b5⟩
            have H2 := H.call b5
            clear H b5 x0 y0 HCM
            go_wp2_with fail
            refine (tcount_any _ _ H2.mutLt _ n3 c3 ls xA xn xc xvs (H2.ro 0 rfl) ((H2.ro 0 rfl).imp fun w2 h => h.2 _ HXM.out) (by omega) HS.out.2.1).mono ?_
            rw [← HCT.out.1]
            rintro e w8 ⟨rfl, b8⟩
            have H8 := H2.call b8
            clear H2 b8
            go_wp2_with fail
            refine (rcount_any _ _ H8.mutLt A1 n1 c1 la xA xn xc xvs (H8.ro 2 rfl) ((H8.ro 0 rfl).imp fun w2 h => h.2 _ HXM.out) (by omega) (fun r hr => by have := HA.out.2 r hr; omega) (by have := HXN.out; omega)).mono ?_
            rw [← HCT.out.2]
            rintro e w9 ⟨rfl, b9⟩
            have H9 := H8.call b9
            clear H8 b9
            have hne : ((ca : Int) != (ca : Int)) = false := by simp
            go_wp2_with fail
            go_roundw
            case rel => exact ⟨k + 1 + 1, by omega, by go_num, H9⟩
            case measure => simp [intOf]; omega
          · have z0' : decide (0 < k) = false := by rw [decide_eq_false_iff_not]; omega
            have z0 : decide ((k : Int) > 0) = false := by rw [decide_eq_false_iff_not]; omega
            go_wp2_with fail
            refine (tcount_any _ _ H.mutLt _ n3 c3 ls xA xn xc xvs (H.ro 0 rfl) ((H.ro 0 rfl).imp fun w2 h => h.2 _ HXM.out) (by omega) HS.out.2.1).mono ?_
            rw [← HCT.out.1]
            rintro e w8 ⟨rfl, b8⟩
            have H8 := H.call b8
            clear H b8
            go_wp2_with fail
            refine (rcount_any _ _ H8.mutLt A1 n1 c1 la xA xn xc xvs (H8.ro 2 rfl) ((H8.ro 0 rfl).imp fun w2 h => h.2 _ HXM.out) (by omega) (fun r hr => by have := HA.out.2 r hr; omega) (by have := HXN.out; omega)).mono ?_
            rw [← HCT.out.2]
            rintro e w9 ⟨rfl, b9⟩
            have H9 := H8.call b9
            clear H8 b9
            have hne : ((ca : Int) != (ca : Int)) = false := by simp
            go_wp2_with fail
            go_roundw
            case rel => exact ⟨k + 1, by omega, by go_num, H9⟩
            case measure => simp [intOf]; omega
        · obtain rfl : n3 = k := by omega
          have hd : decide ((n3 : Int) < (n3 : Int)) = false := by simp
          have hn3 := HN3.out
          subst hn3
          have he : ((n3 : Int) == (n3 : Int)) = true := by simp
          go_wp2_with fail
          refine (tsort_any _ _ H.mutLt A1 n3 c1 la (H.ro 2 rfl) (by omega) (fun r hr => by have := HA.out.2 r hr; omega) HA.out.1).mono ?_
          rintro e w5 ⟨A5, n5, c5, l5, rfl, h51, h52, r5, o5, m5, e5, b5⟩
          have H5 := (H.call b5).add r5
          have HE5 := hid e5
          clear H b5 r5 o5 m5 e5
          go_wp2_with fail
          refine (sametuples_any _ _ H5.mutLt A3 n3 c3 ls A5 n5 c5 l5 (H5.ro 1 rfl) (H5.ro 0 rfl) (by omega) HS.out.2.1).mono ?_
          rintro e w6 ⟨rfl, b6⟩
          rw [show decide (ls.map Sl.vs = l5.map Sl.vs) = true from decide_eq_true (by rw [HE5.out, HS.out.2.2])]
          have H6 := H5.call b6
          clear H5 b6
          go_wp2_with fail
          refine (tsamebag_any _ _ H6.mutLt A1 n3 c1 la C n3 cap lo (H6.ro 3 rfl) (H6.ro 2 rfl) (by omega) (by omega) (fun r hr => by have := HA.out.2 r hr; omega) (fun r hr => by have := HB.out.2 r hr; omega) HA.out.1 HB.out.1).mono ?_
          rintro e w7 ⟨rfl, b7⟩
          rw [show sameBagV (la.map Sl.vs) (lo.map Sl.vs) = true from (sameBag_perm _ _).2 (HPF.out.symm.map _)]
          have H7 := H6.call b7
          clear H6 b7
          go_wp2_with fail
          refine (known5 _).mono ?_
          rintro e w8 ⟨rfl, b8⟩
          have H8 := H7.call b8
          clear H7 b8
          go_wp2_with fail
          go_ret
          exact ⟨by first | rfl | simp, H8.below⟩
end Go.Proofs.YtljmclbedpceoaaDoor

namespace Go.Proofs.YtljmclbedpceoaaDoor
open Go.ChangeShapes Go.WideShapes Go.ChangeAt Go.RowKit
set_option linter.unusedVariables false
set_option linter.unusedSimpArgs false

namespace LawTupleSorts
set_option maxRecDepth 100000 in
theorem contract (H : Type) (enc : TypeId × Value → H) (W : World) (base : Nat) (args : Array Value) (ds gs : List (DataW H)) (before : List MemPlace)
    (hval0 : ∀ (j : Nat) t v, Tryd.f3.params[j]? = some t → args[j]? = some v → Value.okWide Tryd.prog W .any base t v)
    (hsz0 : (DataW.weightsEach Tryd.prog (Tryd.f3.params.toList ++ Rows.tupleSortsSpec.plain.varTypes Tryd.prog) (ds ++ gs)).all (· ≤ reachBytes) = true)
    (hW : DataW.Whole enc Tryd.prog Tryd.f3.params.toList Rows.tupleSortsSpec.vars false W args.toList ds gs before) (hL : laidMetH Tryd.prog Rows.tupleSortsRow.laid W) (hsh : W.ShapedOpen Tryd.prog) :
    Calls Tryd.prog 3 args W fun e W' => ∃ v, e = .returned v ∧ Rows.tupleSortsSpec.post enc Tryd.prog Tryd.f3 false true false false W args v W' := by
  have hsz : (DataW.weightsEach Tryd.prog (Tryd.f3.params.toList ++ Rows.tupleSortsSpec.plain.varTypes Tryd.prog) (ds ++ gs)).all (· ≤ reachBytes) = true := hsz0
  have hval : ∀ (j : Nat) t v, Tryd.f3.params[j]? = some t → args[j]? = some v → Value.okWide Tryd.prog W .any base t v := hval0
  have hW' := hW
  obtain ⟨p, q, hA0, hV, rfl, hfz, hnd⟩ := hW
  have hA : DataW.TrodAll enc Tryd.prog W 0 (fun _ => true) true Tryd.f3.params.toList args.toList ds p := hA0
  rw [Tryd.params3] at hA hval hsz
  obtain ⟨v0, vs0, d0, ds0, p0, q0, hargs, rfl, rfl, h0, r0⟩ := trodAll_cons hA
  obtain ⟨rfl, rfl, rfl⟩ := trodAll_nil r0
  obtain rfl : args = #[v0] := by cases args; simp_all
  obtain ⟨rfl, rfl⟩ := trodVars_none hV
  obtain ⟨A0, n0, c0, zs0, rfl, k0, z0, l0, m0, e0⟩ := open_i64s Tryd.underlying22 Tryd.underlying3 (by kernel_rfl) (hval 0 22 v0 rfl rfl) h0
  refine (tsorts_walk A0 n0 c0 zs0 W k0 z0 l0 (by unfold maxLen at m0; omega) (wds_of_laid (rest := []) hL)).mono fun e W' ⟨he, hb⟩ => ?_
  exact ⟨_, he, law_post rfl laidOut (by kernel_rfl) (by kernel_rfl) Tryd.underlying4 rfl hW' hb⟩

theorem laid_met (os : Os) : laidMet Tryd.prog Rows.tupleSortsRow.laid ((wordsWorld os).forCall (fun _ _ => 0) ⟨#[], #[.slice none 0 0], []⟩).memory :=
  laidMet_of_run' 16 (by kernel_rfl) (by kernel_rfl)
theorem reads (os : Os) {H : Type} (enc : TypeId × Value → H) : ∃ places, DataW.whole enc Tryd.prog ((wordsWorld os).forCall (fun _ _ => 0) ⟨#[], #[.slice none 0 0], []⟩).memory Tryd.f3.params.toList Rows.tupleSortsSpec.vars false #[.slice none 0 0].toList 8 = some ([.nil], [], places) :=
  ⟨[], by kernel_rfl⟩

set_option maxRecDepth 100000 in
theorem lifted (os : Os) (started : os.Started) (H : Type) (enc : TypeId × Value → H) (F : Stop.Interp) :
    ReturnsInHanded {} Tryd.checked os 3 .any ((OpenSpec.ofChange Rows.tupleSortsSpec).preRow enc Tryd.prog Tryd.f3 Rows.tupleSortsRow.domain false Rows.tupleSortsRow.laid) (((OpenSpec.ofChange Rows.tupleSortsSpec).at F).post enc Tryd.prog Tryd.f3 false true false false) := by
  obtain ⟨places, hx⟩ := reads os enc
  refine returnsInHanded_of_row (C := Tryd.checked) (s := OpenSpec.ofChange Rows.tupleSortsSpec) own started (by kernel_rfl) Tryd.func3
    (witness_row_at (enc := enc) (C := Tryd.checked) false (wordsWorld os) #[.slice none 0 0] rfl (by kernel_rfl) (by kernel_rfl) (by kernel_rfl)
      (OpenSpec.preRow_of_cond 8 hx (by kernel_rfl) (fun k hk => by cases hk) (by kernel_rfl) (laid_met os))) ?_
  intro W base args ds gs before hval hW _ _ hsz0 hL hsh _
  exact contract H enc W base args ds gs before hval hsz0 hW hL hsh

theorem said : Rows.TupleSortsSaid :=
  OpenClaim.holds_of_cond 3 Tryd.f3 rfl rfl rfl rfl rfl rfl rfl ⟨rfl, rfl, rfl, rfl, rfl⟩ rfl rfl rfl rfl rfl (by kernel_rfl) Tryd.func3 (by kernel_rfl)
    (of_decide_eq_true (by kernel_rfl)) (by unfold Func.isWrapper; first | (rw [if_pos (by decide +kernel)]; kernel_rfl) | (rw [if_neg (by decide +kernel)]; exact ⟨rfl, rfl⟩))
    (fun os started H enc _ F => by rw [OpenClaim.pre_eq_preRow]; exact lifted os started H enc F)

theorem plain (f : FuncId) (fn : Func) (hf : Tryd.pinned.checked.prog.funcNamed "triggerstore/triggerstorelaw5.TupleSorts" = some f) (hfn : Tryd.pinned.checked.prog.funcs[f]? = some fn) :
    false = Tryd.pinned.checked.prog.looks [] ∧ ∀ (j : Nat) t, fn.params[j]? = some t → Tryd.pinned.checked.prog.wantsStandIn t = false := by
  obtain rfl : f = 3 := Option.some.inj ((show Tryd.prog.funcNamed "triggerstore/triggerstorelaw5.TupleSorts" = some 3 by kernel_rfl).symm.trans hf) |>.symm
  obtain rfl : fn = Tryd.f3 := (Option.some.inj (Tryd.func3.symm.trans hfn)).symm
  refine ⟨by kernel_rfl, fun j t ht => ?_⟩
  rw [Tryd.params3] at ht
  have hm := Array.mem_of_getElem? ht
  simp only [List.mem_toArray, List.mem_cons, List.not_mem_nil, or_false] at hm
  subst hm
  · exact (show Tryd.prog.wantsStandIn 22 = false by kernel_rfl)
end LawTupleSorts

theorem tupleSorts_holds : Rows.TupleSortsCardSaid :=
  Claim7.holds_tied_plain_at .later [] _ _ _ _ LawTupleSorts.said (fun _ h => by cases h) (by kernel_rfl) (fun _ h => by cases h) tupleSorts_row_tie rfl ⟨rfl, rfl⟩ (by kernel_rfl) rfl LawTupleSorts.plain (by kernel_rfl)
#print axioms tupleSorts_holds
end Go.Proofs.YtljmclbedpceoaaDoor

/- SchemaNames: the walk of the statement's own function. -/
import Derived.Test.YtdgdllicmccnfaaDoorKnown4
import Derived.Test.YtdgdllicmccnfaaDoorKwRef
import Derived.Test.YtdgdllicmccnfaaDoorNameTab
import Derived.Deep.RegionHeld3
import Derived.Deep.DeepCutAuto
import Derived.Laws.BytesArg
namespace Go.Proofs.YtdgdllicmccnfaaDoor
open Go.RowKit
set_option linter.unusedVariables false
set_option linter.unusedSimpArgs false

/-- n texts lie in block g. -/
def StrsAt (g n : Nat) (w : World) : Prop := ∀ k, k < n → ∃ s : ByteArray, s.size ≤ 140737488351232 ∧ w.cell? ⟨g, k, none⟩ = some (.string s)
theorem strsAt_11 {w : World} {g : Nat} {t : TypeId} {s0 s1 s2 s3 s4 s5 s6 s7 s8 s9 s10 : ByteArray} (h : ∀ s ∈ [s0, s1, s2, s3, s4, s5, s6, s7, s8, s9, s10], s.size ≤ 140737488351232)
    (hb : w.heap[g]? = some (.cells #[.string s0, .string s1, .string s2, .string s3, .string s4, .string s5, .string s6, .string s7, .string s8, .string s9, .string s10] t (0, 0))) : StrsAt g 11 w := by
  have hB : Blk w g t _ := hb
  intro k hk
  obtain rfl | rfl | rfl | rfl | rfl | rfl | rfl | rfl | rfl | rfl | rfl : k = 0 ∨ k = 1 ∨ k = 2 ∨ k = 3 ∨ k = 4 ∨ k = 5 ∨ k = 6 ∨ k = 7 ∨ k = 8 ∨ k = 9 ∨ k = 10 := by omega
  all_goals refine ⟨_, h _ (by simp), hB.cell _⟩

theorem conv_at (g n cp : Nat) (xs : List Int) (hl : xs.length = n) (w : World) (h : ∀ j, j < n → w.cell? ⟨g, j, none⟩ = some (.int .u8 (xs.getD j 0))) :
    (convert 57 9 (.slice (some ⟨g, 0, none⟩) n cp)).run Tryd.prog w = .ok (.string (strOfNums xs)) w :=
  run_convert_bytes_arg w _ _ Tryd.underlying57 Tryd.underlying5 g 0 n cp xs hl (fun i hi => by rw [Nat.zero_add]; exact h i hi) _ Tryd.underlying9
def BytesAt (g n : Nat) (xs : List Int) (w : World) : Prop := ∀ j, j < n → w.cell? ⟨g, j, none⟩ = some (.int .u8 (xs.getD j 0))
theorem frozen_at {w : World} {g j : Nat} {cs : Array Value} {e : TypeId} {v : Value} (h : w.heap[g]? = some (.cells cs e (cs.size, cs.size + 1))) (hc : w.cell? ⟨g, j, none⟩ = some v) : w.frozen? ⟨g, j, none⟩ = false := by
  have hj : j < cs.size := by
    rcases Nat.lt_or_ge j cs.size with hlt | hge
    · exact hlt
    · simp [World.cell?, h, Array.getElem?_eq_none hge] at hc
  simp only [World.frozen?, h]
  simp; omega
theorem bytes_set {w : World} {g n r : Nat} {nm : ByteArray} {b : Int} (h : ∀ j, j < nm.size → w.cell? ⟨g, j, none⟩ = some (.int .u8 (nm.data.toList.getD j 0).toNat)) (hr : r < nm.size) :
    BytesAt g nm.size ((nm.data.toList.map fun c => (c.toNat : Int)).set r b) (w.setCell ⟨g, r, none⟩ (.int .u8 b)) := by
  intro j hj
  by_cases e : j = r
  · subst e
    have hc := h j hj
    rw [World.cell?_setCell_same' w _ _ (by rw [hc]; rfl)]
    simp [List.getD, hr]
  · rw [World.cell?_setCell_other w _ _ _ (fun e' => e (by injection e' with _ e2; exact e2.symm)), h j hj]
    have hj' : j < nm.data.toList.length := by simpa using hj
    simp [List.getD, List.getElem?_set, Ne.symm e, hj]

set_option maxHeartbeats 8000000 in
theorem schnames_walk (raw : ByteArray) (hraw : raw.size ≤ 140737488351232) (A : Option Addr) (n c : Nat) (zs : List Int) (at_ by_ : Int) (ha : I64 at_) (hby : 0 ≤ by_ ∧ by_ < 256) (m : Int) (w : World)
    (hr : Rd w w.heap.size 1 A n (zs.map (Value.int .i64))) (hz : Ints zs) (hn : n ≤ c) (hc : c ≤ 9223372036854775807) (hw : Nms w) (hm : w.cell? ⟨2, 0, none⟩ = some (.int .i64 m)) :
    Calls Tryd.prog 7 #[.string raw, .slice A n c, .int .i64 at_, .int .u8 by_] w fun e w' => e = .returned (.bool true) ∧ Below w.heap.size w w' := by
  have hwl := hw.lt
  have hml : 2 < w.heap.size := World.block_lt_of_cell? w ⟨2, 0, none⟩ hm
  have K0 := Hold.begin_ w
  go_enter Tryd.func7, Tryd.ntmps7
  go_wp2_with fail
  refine (new_any A n c zs _ hr hz hn hc).mono ?_
  rintro e w1 ⟨T, rfl, hT, t1, b1⟩
  have K1 := Hold.newTape K0 b1 t1 hT (by simp [Mut, None_])
  have hT1 : 0 < T := by omega
  have K2 := (K1.add ((hw.below b1 hwl).ro (by simp [Mut, None_, Hp.foot]; omega))).add (S := fun w => w.cell? ⟨2, 0, none⟩ = some (.int .i64 m))
    (fun w2 h1 h2 => (World.cell?_of_block (w := w1) (a := ⟨2, 0, none⟩) (h2 2 (by have := b1.size; omega) (by simp [Mut, None_, Hp.foot]; omega))).trans ((b1.cell (p := ⟨2, 0, none⟩) hml).trans hm))
  clear K1 K0 t1 b1 hw hr hm
  go_wp2_with fail
  refine (name_any T _ (K2.tp_ 2 rfl) (K2.ro 1 rfl).now hT1).mono ?_
  rintro e w2 ⟨j1, hj1, rfl, t2, g2⟩
  have K3 := Hold.callT K2 2 rfl g2 t2
  clear K2 t2 g2
  have hnm := (nm_ok j1 hj1).2
  have hpos : 0 < (nm_ j1).size := by
    have h := (nm_ok j1 hj1).1
    simp only [nameB, Bool.and_eq_true, decide_eq_true_eq] at h
    omega
  obtain ⟨nm, hnme⟩ : ∃ nm, nm = nm_ j1 := ⟨_, rfl⟩
  rw [← hnme] at hnm hpos
  rw [← hnme]
  clear hnme hj1
  have hcv := Lib.run_convert_string_bytes (P := Tryd.prog) w2 9 57 5 nm Tryd.underlying9 Tryd.underlying57 Tryd.underlying5
  have hcell := hid (fun j hj => Lib.bytesWorld_cell w2 5 nm j hj)
  have hbl := hid (bytes_below w2 5 nm)
  have hblk := hid (Lib.bytesWorld_at_new w2 5 nm)
  obtain ⟨wb, hwb⟩ : ∃ wb, wb = Lib.bytesWorld w2 5 nm := ⟨_, rfl⟩
  rw [← hwb] at hcv hcell hbl hblk
  clear hwb
  have hsz0 : (0 : Int) < nm.size := by omega
  have r0 := Int.emod_nonneg at_ (show (nm.size : Int) ≠ 0 by omega)
  have r1 := Int.emod_lt_of_pos at_ hsz0
  have HM := hid (fun w => wmod_any at_ nm.size w ha hsz0 (by omega))
  obtain ⟨r, hre⟩ := Int.eq_ofNat_of_zero_le r0
  rw [hre] at HM r1
  have hr : r < nm.size := by omega
  clear hre r0
  have hcr := hcell.out r hr
  have hfr := frozen_at hblk.out hcr
  go_wp2_with fail
  refine (HM.out _).mono ?_
  rintro e w' ⟨rfl, rfl⟩
  have K4 := (K3.call (hbl.out.setCell (p := ⟨w2.heap.size, r, none⟩) (Nat.le_refl _) (.int .u8 by_))).add (S := BytesAt w2.heap.size nm.size ((nm.data.toList.map fun c => (c.toNat : Int)).set r by_))
    (fun w5 h1 h2 j hj => (World.cell?_of_block (w := wb.setCell ⟨w2.heap.size, r, none⟩ (.int .u8 by_)) (a := ⟨w2.heap.size, j, none⟩) (h2 w2.heap.size (by have := hbl.out.size; have := World.block_lt_of_cell? wb ⟨w2.heap.size, r, none⟩ hcr; simpa [World.setCell] using this) (fun hmut => by have := K3.mutLt _ hmut; omega))).trans (bytes_set (n := 0) hcell.out hr j hj))
  obtain ⟨xs, hxs⟩ : ∃ xs, xs = (nm.data.toList.map fun c => (c.toNat : Int)).set r by_ := ⟨_, rfl⟩
  have hxl : xs.length = nm.size := by rw [hxs]; simp
  rw [← hxs] at K4
  clear hxs
  have HXL := hid hxl
  clear K3 hxl
  generalize grownCap w2 nm.size 0 5 = cp
  go_wp2_with fail
  have HSB := hid (show (strOfNums xs).size ≤ 12 by rw [strOfNums_size, HXL.out]; exact hnm)
  go_cut [11] (fun s11 wx => ∃ g : Nat, s11 = .slice (some ⟨g, 0, none⟩) 11 11 ∧ Hold None_ none w wx [.ro (StrsAt g 11), .ro (fun w => w.cell? ⟨2, 0, none⟩ = some (.int .i64 m))])
  case first =>
    go_region_held3 (fun w' => (convert 57 9 (.slice (some ⟨w2.heap.size, 0, none⟩) nm.size cp)).run Tryd.prog w' = .ok (.string (strOfNums xs)) w')
      (first | (have hk_ := conv_at w2.heap.size nm.size cp xs HXL.out _ (K4.drew.ro 0 rfl).now; with_reducible exact hk_) | (have hk_ := conv_at w2.heap.size nm.size cp xs HXL.out _ (K5.ro 0 rfl).now; with_reducible exact hk_) | (have hk_ := conv_at w2.heap.size nm.size cp xs HXL.out _ (K6.ro 0 rfl).now; with_reducible exact hk_) | (have hk_ := conv_at w2.heap.size nm.size cp xs HXL.out _ (K7.ro 0 rfl).now; with_reducible exact hk_) | (have hk_ := conv_at w2.heap.size nm.size cp xs HXL.out _ ((K7.alloc_cst #[.string raw, .string (nm_ j5), .string (strOfNums xs), .string (nm_ j6 ++ nm_ j7), .string ⟨#[83, 69, 76, 69, 67, 84]⟩, .string ⟨#[115, 101, 108, 101, 99, 116]⟩, .string ⟨#[73, 78, 83, 69, 82, 84, 69, 68]⟩, .string ⟨#[32]⟩, .string ⟨#[78, 79, 84, 32, 78, 85, 76, 76]⟩, .string ⟨#[73, 78]⟩, .string ⟨#[82, 79, 87]⟩] 9).ro 1 rfl).now; with_reducible exact hk_))
      (first
        | (have ht_ := name_any T _ (K4.drew.tp_ 3 rfl) (K4.drew.ro 2 rfl).now hT1; go_at_call 33; ((with_reducible refine ht_.mono ?_); clear ht_; rintro e w5 ⟨j5, hj5, rfl, t5, g5⟩; have K5 := Hold.callT K4.drew 3 rfl g5 t5; have hz5 := (nm_ok j5 hj5).2))
        | (have ht_ := name_any T _ (K5.tp_ 3 rfl) (K5.ro 2 rfl).now hT1; go_at_call 33; ((with_reducible refine ht_.mono ?_); clear ht_; rintro e w6 ⟨j6, hj6, rfl, t6, g6⟩; have K6 := Hold.callT K5 3 rfl g6 t6; have hz6 := (nm_ok j6 hj6).2))
        | (have ht_ := name_any T _ (K6.tp_ 3 rfl) (K6.ro 2 rfl).now hT1; go_at_call 33; ((with_reducible refine ht_.mono ?_); clear ht_; rintro e w7 ⟨j7, hj7, rfl, t7, g7⟩; have K7 := Hold.callT K6 3 rfl g7 t7; have hz7 := (nm_ok j7 hj7).2; have hz8 : ¬ (9223372036854775807 < (nm_ j6).size + (nm_ j7).size) := by omega)))
    all_goals
      go_wp2_with fail
      go_meet
      have K8 := K7.alloc_cst #[.string raw, .string (nm_ j5), .string (strOfNums xs), .string (nm_ j6 ++ nm_ j7), .string ⟨#[83, 69, 76, 69, 67, 84]⟩, .string ⟨#[115, 101, 108, 101, 99, 116]⟩, .string ⟨#[73, 78, 83, 69, 82, 84, 69, 68]⟩, .string ⟨#[32]⟩, .string ⟨#[78, 79, 84, 32, 78, 85, 76, 76]⟩, .string ⟨#[73, 78]⟩, .string ⟨#[82, 79, 87]⟩] 9
      have hP := (show Ro _ _ (fun w => w.heap[w7.heap.size]? = some (.cells #[.string raw, .string (nm_ j5), .string (strOfNums xs), .string (nm_ j6 ++ nm_ j7), .string ⟨#[83, 69, 76, 69, 67, 84]⟩, .string ⟨#[115, 101, 108, 101, 99, 116]⟩, .string ⟨#[73, 78, 83, 69, 82, 84, 69, 68]⟩, .string ⟨#[32]⟩, .string ⟨#[78, 79, 84, 32, 78, 85, 76, 76]⟩, .string ⟨#[73, 78]⟩, .string ⟨#[82, 79, 87]⟩] 9 (0, 0))) from K8.get 0 rfl).imp (fun _ h => strsAt_11 (by
        intro s hs
        simp only [List.mem_cons, List.not_mem_nil, or_false] at hs
        rcases hs with rfl | rfl | rfl | rfl | rfl | rfl | rfl | rfl | rfl | rfl | rfl
        · exact hraw
        · omega
        · have := HSB.out; omega
        · rw [ByteArray.size_append]; omega
        all_goals decide) h)
      exact ⟨w7.heap.size, rfl, (K8.add hP).drop (List.Sublist.cons_cons _ (List.Sublist.cons _ (List.Sublist.cons _ (List.Sublist.cons_cons _ (List.nil_sublist _)))))⟩
  case rest =>
    obtain ⟨g, rfl, K⟩ := hcut
    go_wp2_with fail
    go_loopw [39] (fun i wr => ∃ k : Nat, k ≤ 11 ∧ i = .int .i64 k ∧ Hold None_ none w wr [.ro (StrsAt g 11), .ro (fun w => w.cell? ⟨2, 0, none⟩ = some (.int .i64 m))]) (fun i _ => 11 - (intOf i).toNat)
    case atStart => exact ⟨0, by omega, rfl, K⟩
    case round =>
      obtain ⟨k, hk, rfl, H⟩ := hrel
      by_cases hlt : k < 11
      · obtain ⟨s, hs, c0⟩ := (H.ro 0 rfl).now k hlt
        have hs2 : s.size ≤ maxLen := by unfold maxLen; omega
        go_wp2_with fail
        refine (validname_any s _ hs2).mono ?_
        rintro e w8 ⟨rfl, b8⟩
        have K8 := H.call b8
        clear c0 b8
        go_wp2_with fail
        refine (rvalidname_b s _ hs2).mono ?_
        rintro e w9 ⟨rfl, b9⟩
        have K9 := K8.call b9
        clear b9
        go_wp2_with fail
        refine (keyword_any s _).mono ?_
        rintro e w10 ⟨rfl, b10⟩
        have K10 := K9.call b10
        clear b10
        go_wp2_with fail
        refine (rkeyword_any s m _ (K10.ro 1 rfl).now hs).mono ?_
        rintro e w11 ⟨rfl, rfl⟩
        go_wp2_with fail
        go_roundw
        case rel => exact ⟨k + 1, by omega, by go_num, K10⟩
        case measure => simp [intOf]; omega
      · go_wp2_with fail
        refine (known4 _).mono ?_
        rintro e w12 ⟨rfl, b12⟩
        go_wp2_with fail
        go_ret
        exact ⟨rfl, (H.call b12).below⟩
end Go.Proofs.YtdgdllicmccnfaaDoor

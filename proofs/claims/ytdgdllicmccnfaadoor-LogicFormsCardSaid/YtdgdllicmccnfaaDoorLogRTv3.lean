/- The reference's And at the three values. -/
import Derived.Test.YtdgdllicmccnfaaDoorLogRTv2
namespace Go.Proofs.YtdgdllicmccnfaaDoor
open Go.RowKit
set_option linter.unusedVariables false
set_option linter.unusedSimpArgs false

set_option maxHeartbeats 4000000 in
theorem rand_1 : Gives 51 #[.agg #[.int .i64 0, .int .i64 0, .string ⟨#[]⟩], .agg #[.int .i64 0, .int .i64 0, .string ⟨#[]⟩]] (.tuple #[.agg #[.int .i64 0, .int .i64 0, .string ⟨#[]⟩], .bool true]) := by
  intro w
  have V1 := hid (rlv_tv none); have V2 := hid (rlv_tv none)
  simp only [tv] at V1 V2
  go_enter Tryd.func51, Tryd.ntmps51
  go_wp2_with fail
  refine (V1.out _).mono ?_
  rintro e w1 ⟨rfl, b1⟩
  obtain ⟨hc1, hf1⟩ := below_cells b1
  have z12 := below_size b1 (n := w.heap.size + 1 + 1) (by simp only [World.size_alloc]; omega)
  have z11 : w.heap.size + 1 < w1.heap.size := by omega
  have z10 : w.heap.size < w1.heap.size := by omega
  go_wp2_with fail
  refine (V2.out _).mono ?_
  rintro e w2 ⟨rfl, b2⟩
  have A2 : Blk w2 w.heap.size 39 #[.int .i64 0, .int .i64 0, .string ⟨#[]⟩] := (Blk.new3a b1).1.over b2
  have B2 : Blk w2 (w.heap.size + 1) 39 #[.int .i64 0, .int .i64 0, .string ⟨#[]⟩] := (Blk.new3a b1).2.1.over b2
  have R2 : Blk w2 (w.heap.size + 1 + 1) 39 #[.int .i64 0, .int .i64 0, .string ⟨#[]⟩] := (Blk.new3a b1).2.2.over b2
  have a2 : Below w.heap.size w w2 := bnext ((ext3 _ _ _ _).trans (b1.mono (by simp only [World.size_alloc]; omega))) b2 (Nat.le_refl _)
  clear hc1 hf1 z12 z11 z10 b1 b2 V1 V2
  go_wp2_with fail
  go_region_held3 (fun w' => w'.cell? ⟨w.heap.size, 0, none⟩ = some (.int .i64 0) ∧ w'.cell? ⟨w.heap.size, 1, none⟩ = some (.int .i64 0) ∧ w'.cell? ⟨w.heap.size, 2, none⟩ = some (.string ⟨#[]⟩) ∧ w'.cell? ⟨w.heap.size + 1, 0, none⟩ = some (.int .i64 0) ∧ w'.cell? ⟨w.heap.size + 1, 1, none⟩ = some (.int .i64 0) ∧ w'.cell? ⟨w.heap.size + 1, 2, none⟩ = some (.string ⟨#[]⟩))
    (first | exact six A2 B2 | exact six A3 B3 | exact six A4 B4)
    (first
      | (go_at_call 29; ((with_reducible refine (rtr_f _).mono ?_); rintro e w3 ⟨rfl, b3⟩; have A3 : Blk w3 w.heap.size 39 #[.int .i64 0, .int .i64 0, .string ⟨#[]⟩] := (b3.block _ A2.lt).trans A2; have B3 : Blk w3 (w.heap.size + 1) 39 #[.int .i64 0, .int .i64 0, .string ⟨#[]⟩] := (b3.block _ B2.lt).trans B2; have R3 : Blk w3 (w.heap.size + 1 + 1) 39 #[.int .i64 0, .int .i64 0, .string ⟨#[]⟩] := (b3.block _ R2.lt).trans R2))
      | (go_at_call 29; ((with_reducible refine (rtr_f _).mono ?_); rintro e w4 ⟨rfl, b4⟩; have A4 : Blk w4 w.heap.size 39 #[.int .i64 0, .int .i64 0, .string ⟨#[]⟩] := (b4.block _ A3.lt).trans A3; have B4 : Blk w4 (w.heap.size + 1) 39 #[.int .i64 0, .int .i64 0, .string ⟨#[]⟩] := (b4.block _ B3.lt).trans B3; have R4 : Blk w4 (w.heap.size + 1 + 1) 39 #[.int .i64 0, .int .i64 0, .string ⟨#[]⟩] := (b4.block _ R3.lt).trans R3)))
  obtain ⟨c0, c1, c2, cl⟩ := A4.c3
  obtain ⟨d0, d1, d2, dl⟩ := B4.c3
  obtain ⟨r0, r1, r2, rl⟩ := R4.c3
  have f0 := R4.frozen 0; have f1 := R4.frozen 1; have f2 := R4.frozen 2
  have a3 : Below w.heap.size w w3 := (a2.drew).trans (b3.mono a2.size)
  have a4 : Below w.heap.size w w4 := a3.trans (b4.mono a3.size)
  go_wp2_with fail
  refine bodyPost_ret (v := .tuple #[.agg #[.int .i64 0, .int .i64 0, .string ⟨#[]⟩], .bool true]) (by simp [results, Tryd.results51, go_sem, r0, r1, r2, rl]) rfl ⟨rfl, ?_⟩
  exact set3 a4 (by omega) _ _ _

set_option maxHeartbeats 4000000 in
theorem rand_2 : Gives 51 #[.agg #[.int .i64 0, .int .i64 0, .string ⟨#[]⟩], .agg #[.int .i64 2, .int .i64 0, .string ⟨#[]⟩]] (.tuple #[.agg #[.int .i64 2, .int .i64 0, .string ⟨#[]⟩], .bool true]) := by
  intro w
  have V1 := hid (rlv_tv none); have V2 := hid (rlv_tv (some false))
  simp only [tv] at V1 V2
  go_enter Tryd.func51, Tryd.ntmps51
  go_wp2_with fail
  refine (V1.out _).mono ?_
  rintro e w1 ⟨rfl, b1⟩
  obtain ⟨hc1, hf1⟩ := below_cells b1
  have z12 := below_size b1 (n := w.heap.size + 1 + 1) (by simp only [World.size_alloc]; omega)
  have z11 : w.heap.size + 1 < w1.heap.size := by omega
  have z10 : w.heap.size < w1.heap.size := by omega
  go_wp2_with fail
  refine (V2.out _).mono ?_
  rintro e w2 ⟨rfl, b2⟩
  have A2 : Blk w2 w.heap.size 39 #[.int .i64 0, .int .i64 0, .string ⟨#[]⟩] := (Blk.new3a b1).1.over b2
  have B2 : Blk w2 (w.heap.size + 1) 39 #[.int .i64 2, .int .i64 0, .string ⟨#[]⟩] := (Blk.new3a b1).2.1.over b2
  have R2 : Blk w2 (w.heap.size + 1 + 1) 39 #[.int .i64 0, .int .i64 0, .string ⟨#[]⟩] := (Blk.new3a b1).2.2.over b2
  have a2 : Below w.heap.size w w2 := bnext ((ext3 _ _ _ _).trans (b1.mono (by simp only [World.size_alloc]; omega))) b2 (Nat.le_refl _)
  clear hc1 hf1 z12 z11 z10 b1 b2 V1 V2
  go_wp2_with fail
  go_region_held3 (fun w' => w'.cell? ⟨w.heap.size, 0, none⟩ = some (.int .i64 0) ∧ w'.cell? ⟨w.heap.size, 1, none⟩ = some (.int .i64 0) ∧ w'.cell? ⟨w.heap.size, 2, none⟩ = some (.string ⟨#[]⟩) ∧ w'.cell? ⟨w.heap.size + 1, 0, none⟩ = some (.int .i64 2) ∧ w'.cell? ⟨w.heap.size + 1, 1, none⟩ = some (.int .i64 0) ∧ w'.cell? ⟨w.heap.size + 1, 2, none⟩ = some (.string ⟨#[]⟩))
    (first | exact six A2 B2 | exact six A3 B3 | exact six A4 B4)
    (first
      | (go_at_call 29; ((with_reducible refine (rtr_f _).mono ?_); rintro e w3 ⟨rfl, b3⟩; have A3 : Blk w3 w.heap.size 39 #[.int .i64 0, .int .i64 0, .string ⟨#[]⟩] := (b3.block _ A2.lt).trans A2; have B3 : Blk w3 (w.heap.size + 1) 39 #[.int .i64 2, .int .i64 0, .string ⟨#[]⟩] := (b3.block _ B2.lt).trans B2; have R3 : Blk w3 (w.heap.size + 1 + 1) 39 #[.int .i64 0, .int .i64 0, .string ⟨#[]⟩] := (b3.block _ R2.lt).trans R2))
      | (go_at_call 29; ((with_reducible refine (rtr_f _).mono ?_); rintro e w4 ⟨rfl, b4⟩; have A4 : Blk w4 w.heap.size 39 #[.int .i64 0, .int .i64 0, .string ⟨#[]⟩] := (b4.block _ A3.lt).trans A3; have B4 : Blk w4 (w.heap.size + 1) 39 #[.int .i64 2, .int .i64 0, .string ⟨#[]⟩] := (b4.block _ B3.lt).trans B3; have R4 : Blk w4 (w.heap.size + 1 + 1) 39 #[.int .i64 0, .int .i64 0, .string ⟨#[]⟩] := (b4.block _ R3.lt).trans R3)))
  obtain ⟨c0, c1, c2, cl⟩ := A4.c3
  obtain ⟨d0, d1, d2, dl⟩ := B4.c3
  obtain ⟨r0, r1, r2, rl⟩ := R4.c3
  have f0 := R4.frozen 0; have f1 := R4.frozen 1; have f2 := R4.frozen 2
  have a3 : Below w.heap.size w w3 := (a2.drew).trans (b3.mono a2.size)
  have a4 : Below w.heap.size w w4 := a3.trans (b4.mono a3.size)
  go_wp2_with fail
  refine (rtruth_any _ _).mono ?_
  rintro e w5 ⟨rfl, b5⟩
  have R5 := R4.over b5
  obtain ⟨s0, s1, s2, sl⟩ := R5.c3
  have g0 := R5.frozen 0; have g1 := R5.frozen 1; have g2 := R5.frozen 2
  go_wp2_with fail
  refine bodyPost_ret (v := .tuple #[.agg #[.int .i64 2, .int .i64 _, .string ⟨#[]⟩], .bool true]) (by simp [results, Tryd.results51, go_sem, s0, s1, s2, sl]) rfl ⟨rfl, ?_⟩
  exact set3 (a4.trans (b5.mono a4.size)) (by omega) _ _ _

set_option maxHeartbeats 4000000 in
theorem rand_3 : Gives 51 #[.agg #[.int .i64 0, .int .i64 0, .string ⟨#[]⟩], .agg #[.int .i64 2, .int .i64 1, .string ⟨#[]⟩]] (.tuple #[.agg #[.int .i64 0, .int .i64 0, .string ⟨#[]⟩], .bool true]) := by
  intro w
  have V1 := hid (rlv_tv none); have V2 := hid (rlv_tv (some true))
  simp only [tv] at V1 V2
  go_enter Tryd.func51, Tryd.ntmps51
  go_wp2_with fail
  refine (V1.out _).mono ?_
  rintro e w1 ⟨rfl, b1⟩
  obtain ⟨hc1, hf1⟩ := below_cells b1
  have z12 := below_size b1 (n := w.heap.size + 1 + 1) (by simp only [World.size_alloc]; omega)
  have z11 : w.heap.size + 1 < w1.heap.size := by omega
  have z10 : w.heap.size < w1.heap.size := by omega
  go_wp2_with fail
  refine (V2.out _).mono ?_
  rintro e w2 ⟨rfl, b2⟩
  have A2 : Blk w2 w.heap.size 39 #[.int .i64 0, .int .i64 0, .string ⟨#[]⟩] := (Blk.new3a b1).1.over b2
  have B2 : Blk w2 (w.heap.size + 1) 39 #[.int .i64 2, .int .i64 1, .string ⟨#[]⟩] := (Blk.new3a b1).2.1.over b2
  have R2 : Blk w2 (w.heap.size + 1 + 1) 39 #[.int .i64 0, .int .i64 0, .string ⟨#[]⟩] := (Blk.new3a b1).2.2.over b2
  have a2 : Below w.heap.size w w2 := bnext ((ext3 _ _ _ _).trans (b1.mono (by simp only [World.size_alloc]; omega))) b2 (Nat.le_refl _)
  clear hc1 hf1 z12 z11 z10 b1 b2 V1 V2
  go_wp2_with fail
  go_region_held3 (fun w' => w'.cell? ⟨w.heap.size, 0, none⟩ = some (.int .i64 0) ∧ w'.cell? ⟨w.heap.size, 1, none⟩ = some (.int .i64 0) ∧ w'.cell? ⟨w.heap.size, 2, none⟩ = some (.string ⟨#[]⟩) ∧ w'.cell? ⟨w.heap.size + 1, 0, none⟩ = some (.int .i64 2) ∧ w'.cell? ⟨w.heap.size + 1, 1, none⟩ = some (.int .i64 1) ∧ w'.cell? ⟨w.heap.size + 1, 2, none⟩ = some (.string ⟨#[]⟩))
    (first | exact six A2 B2 | exact six A3 B3 | exact six A4 B4)
    (first
      | (go_at_call 29; ((with_reducible refine (rtr_f _).mono ?_); rintro e w3 ⟨rfl, b3⟩; have A3 : Blk w3 w.heap.size 39 #[.int .i64 0, .int .i64 0, .string ⟨#[]⟩] := (b3.block _ A2.lt).trans A2; have B3 : Blk w3 (w.heap.size + 1) 39 #[.int .i64 2, .int .i64 1, .string ⟨#[]⟩] := (b3.block _ B2.lt).trans B2; have R3 : Blk w3 (w.heap.size + 1 + 1) 39 #[.int .i64 0, .int .i64 0, .string ⟨#[]⟩] := (b3.block _ R2.lt).trans R2))
      | (go_at_call 29; ((with_reducible refine (rtr_f _).mono ?_); rintro e w4 ⟨rfl, b4⟩; have A4 : Blk w4 w.heap.size 39 #[.int .i64 0, .int .i64 0, .string ⟨#[]⟩] := (b4.block _ A3.lt).trans A3; have B4 : Blk w4 (w.heap.size + 1) 39 #[.int .i64 2, .int .i64 1, .string ⟨#[]⟩] := (b4.block _ B3.lt).trans B3; have R4 : Blk w4 (w.heap.size + 1 + 1) 39 #[.int .i64 0, .int .i64 0, .string ⟨#[]⟩] := (b4.block _ R3.lt).trans R3)))
  obtain ⟨c0, c1, c2, cl⟩ := A4.c3
  obtain ⟨d0, d1, d2, dl⟩ := B4.c3
  obtain ⟨r0, r1, r2, rl⟩ := R4.c3
  have f0 := R4.frozen 0; have f1 := R4.frozen 1; have f2 := R4.frozen 2
  have a3 : Below w.heap.size w w3 := (a2.drew).trans (b3.mono a2.size)
  have a4 : Below w.heap.size w w4 := a3.trans (b4.mono a3.size)
  go_wp2_with fail
  refine bodyPost_ret (v := .tuple #[.agg #[.int .i64 0, .int .i64 0, .string ⟨#[]⟩], .bool true]) (by simp [results, Tryd.results51, go_sem, r0, r1, r2, rl]) rfl ⟨rfl, ?_⟩
  exact set3 a4 (by omega) _ _ _

set_option maxHeartbeats 4000000 in
theorem rand_4 : Gives 51 #[.agg #[.int .i64 2, .int .i64 0, .string ⟨#[]⟩], .agg #[.int .i64 0, .int .i64 0, .string ⟨#[]⟩]] (.tuple #[.agg #[.int .i64 2, .int .i64 0, .string ⟨#[]⟩], .bool true]) := by
  intro w
  have V1 := hid (rlv_tv (some false)); have V2 := hid (rlv_tv none)
  simp only [tv] at V1 V2
  go_enter Tryd.func51, Tryd.ntmps51
  go_wp2_with fail
  refine (V1.out _).mono ?_
  rintro e w1 ⟨rfl, b1⟩
  obtain ⟨hc1, hf1⟩ := below_cells b1
  have z12 := below_size b1 (n := w.heap.size + 1 + 1) (by simp only [World.size_alloc]; omega)
  have z11 : w.heap.size + 1 < w1.heap.size := by omega
  have z10 : w.heap.size < w1.heap.size := by omega
  go_wp2_with fail
  refine (V2.out _).mono ?_
  rintro e w2 ⟨rfl, b2⟩
  have A2 : Blk w2 w.heap.size 39 #[.int .i64 2, .int .i64 0, .string ⟨#[]⟩] := (Blk.new3a b1).1.over b2
  have B2 : Blk w2 (w.heap.size + 1) 39 #[.int .i64 0, .int .i64 0, .string ⟨#[]⟩] := (Blk.new3a b1).2.1.over b2
  have R2 : Blk w2 (w.heap.size + 1 + 1) 39 #[.int .i64 0, .int .i64 0, .string ⟨#[]⟩] := (Blk.new3a b1).2.2.over b2
  have a2 : Below w.heap.size w w2 := bnext ((ext3 _ _ _ _).trans (b1.mono (by simp only [World.size_alloc]; omega))) b2 (Nat.le_refl _)
  clear hc1 hf1 z12 z11 z10 b1 b2 V1 V2
  go_wp2_with fail
  obtain ⟨o0, o1, o2, ol⟩ := A2.c3
  go_region_with (first
      | (go_at_call 29; ((with_reducible refine (rtr_f _).mono ?_); rintro e w3 ⟨rfl, b3⟩; have A3 : Blk w3 w.heap.size 39 #[.int .i64 2, .int .i64 0, .string ⟨#[]⟩] := (b3.block _ A2.lt).trans A2; have B3 : Blk w3 (w.heap.size + 1) 39 #[.int .i64 0, .int .i64 0, .string ⟨#[]⟩] := (b3.block _ B2.lt).trans B2; have R3 : Blk w3 (w.heap.size + 1 + 1) 39 #[.int .i64 0, .int .i64 0, .string ⟨#[]⟩] := (b3.block _ R2.lt).trans R2); obtain ⟨p0, p1, p2, pl⟩ := A3.c3))
  all_goals
    obtain ⟨c0, c1, c2, cl⟩ := A3.c3
    obtain ⟨d0, d1, d2, dl⟩ := B3.c3
    obtain ⟨r0, r1, r2, rl⟩ := R3.c3
    have f0 := R3.frozen 0; have f1 := R3.frozen 1; have f2 := R3.frozen 2
    have a3 : Below w.heap.size w w3 := (a2.drew).trans (b3.mono a2.size)
    go_wp2_with fail
    refine (rtruth_any _ _).mono ?_
    rintro e w5 ⟨rfl, b5⟩
    have R5 := R3.over b5
    obtain ⟨s0, s1, s2, sl⟩ := R5.c3
    have g0 := R5.frozen 0; have g1 := R5.frozen 1; have g2 := R5.frozen 2
    go_wp2_with fail
    refine bodyPost_ret (v := .tuple #[.agg #[.int .i64 2, .int .i64 _, .string ⟨#[]⟩], .bool true]) (by simp [results, Tryd.results51, go_sem, s0, s1, s2, sl]) rfl ⟨rfl, ?_⟩
    exact set3 (a3.trans (b5.mono a3.size)) (by omega) _ _ _

set_option maxHeartbeats 4000000 in
theorem rand_5 : Gives 51 #[.agg #[.int .i64 2, .int .i64 0, .string ⟨#[]⟩], .agg #[.int .i64 2, .int .i64 0, .string ⟨#[]⟩]] (.tuple #[.agg #[.int .i64 2, .int .i64 0, .string ⟨#[]⟩], .bool true]) := by
  intro w
  have V1 := hid (rlv_tv (some false)); have V2 := hid (rlv_tv (some false))
  simp only [tv] at V1 V2
  go_enter Tryd.func51, Tryd.ntmps51
  go_wp2_with fail
  refine (V1.out _).mono ?_
  rintro e w1 ⟨rfl, b1⟩
  obtain ⟨hc1, hf1⟩ := below_cells b1
  have z12 := below_size b1 (n := w.heap.size + 1 + 1) (by simp only [World.size_alloc]; omega)
  have z11 : w.heap.size + 1 < w1.heap.size := by omega
  have z10 : w.heap.size < w1.heap.size := by omega
  go_wp2_with fail
  refine (V2.out _).mono ?_
  rintro e w2 ⟨rfl, b2⟩
  have A2 : Blk w2 w.heap.size 39 #[.int .i64 2, .int .i64 0, .string ⟨#[]⟩] := (Blk.new3a b1).1.over b2
  have B2 : Blk w2 (w.heap.size + 1) 39 #[.int .i64 2, .int .i64 0, .string ⟨#[]⟩] := (Blk.new3a b1).2.1.over b2
  have R2 : Blk w2 (w.heap.size + 1 + 1) 39 #[.int .i64 0, .int .i64 0, .string ⟨#[]⟩] := (Blk.new3a b1).2.2.over b2
  have a2 : Below w.heap.size w w2 := bnext ((ext3 _ _ _ _).trans (b1.mono (by simp only [World.size_alloc]; omega))) b2 (Nat.le_refl _)
  clear hc1 hf1 z12 z11 z10 b1 b2 V1 V2
  go_wp2_with fail
  obtain ⟨o0, o1, o2, ol⟩ := A2.c3
  go_region_with (first
      | (go_at_call 29; ((with_reducible refine (rtr_f _).mono ?_); rintro e w3 ⟨rfl, b3⟩; have A3 : Blk w3 w.heap.size 39 #[.int .i64 2, .int .i64 0, .string ⟨#[]⟩] := (b3.block _ A2.lt).trans A2; have B3 : Blk w3 (w.heap.size + 1) 39 #[.int .i64 2, .int .i64 0, .string ⟨#[]⟩] := (b3.block _ B2.lt).trans B2; have R3 : Blk w3 (w.heap.size + 1 + 1) 39 #[.int .i64 0, .int .i64 0, .string ⟨#[]⟩] := (b3.block _ R2.lt).trans R2); obtain ⟨p0, p1, p2, pl⟩ := A3.c3))
  all_goals
    obtain ⟨c0, c1, c2, cl⟩ := A3.c3
    obtain ⟨d0, d1, d2, dl⟩ := B3.c3
    obtain ⟨r0, r1, r2, rl⟩ := R3.c3
    have f0 := R3.frozen 0; have f1 := R3.frozen 1; have f2 := R3.frozen 2
    have a3 : Below w.heap.size w w3 := (a2.drew).trans (b3.mono a2.size)
    go_wp2_with fail
    refine (rtruth_any _ _).mono ?_
    rintro e w5 ⟨rfl, b5⟩
    have R5 := R3.over b5
    obtain ⟨s0, s1, s2, sl⟩ := R5.c3
    have g0 := R5.frozen 0; have g1 := R5.frozen 1; have g2 := R5.frozen 2
    go_wp2_with fail
    refine bodyPost_ret (v := .tuple #[.agg #[.int .i64 2, .int .i64 _, .string ⟨#[]⟩], .bool true]) (by simp [results, Tryd.results51, go_sem, s0, s1, s2, sl]) rfl ⟨rfl, ?_⟩
    exact set3 (a3.trans (b5.mono a3.size)) (by omega) _ _ _

set_option maxHeartbeats 4000000 in
theorem rand_6 : Gives 51 #[.agg #[.int .i64 2, .int .i64 0, .string ⟨#[]⟩], .agg #[.int .i64 2, .int .i64 1, .string ⟨#[]⟩]] (.tuple #[.agg #[.int .i64 2, .int .i64 0, .string ⟨#[]⟩], .bool true]) := by
  intro w
  have V1 := hid (rlv_tv (some false)); have V2 := hid (rlv_tv (some true))
  simp only [tv] at V1 V2
  go_enter Tryd.func51, Tryd.ntmps51
  go_wp2_with fail
  refine (V1.out _).mono ?_
  rintro e w1 ⟨rfl, b1⟩
  obtain ⟨hc1, hf1⟩ := below_cells b1
  have z12 := below_size b1 (n := w.heap.size + 1 + 1) (by simp only [World.size_alloc]; omega)
  have z11 : w.heap.size + 1 < w1.heap.size := by omega
  have z10 : w.heap.size < w1.heap.size := by omega
  go_wp2_with fail
  refine (V2.out _).mono ?_
  rintro e w2 ⟨rfl, b2⟩
  have A2 : Blk w2 w.heap.size 39 #[.int .i64 2, .int .i64 0, .string ⟨#[]⟩] := (Blk.new3a b1).1.over b2
  have B2 : Blk w2 (w.heap.size + 1) 39 #[.int .i64 2, .int .i64 1, .string ⟨#[]⟩] := (Blk.new3a b1).2.1.over b2
  have R2 : Blk w2 (w.heap.size + 1 + 1) 39 #[.int .i64 0, .int .i64 0, .string ⟨#[]⟩] := (Blk.new3a b1).2.2.over b2
  have a2 : Below w.heap.size w w2 := bnext ((ext3 _ _ _ _).trans (b1.mono (by simp only [World.size_alloc]; omega))) b2 (Nat.le_refl _)
  clear hc1 hf1 z12 z11 z10 b1 b2 V1 V2
  go_wp2_with fail
  obtain ⟨o0, o1, o2, ol⟩ := A2.c3
  go_region_with (first
      | (go_at_call 29; ((with_reducible refine (rtr_f _).mono ?_); rintro e w3 ⟨rfl, b3⟩; have A3 : Blk w3 w.heap.size 39 #[.int .i64 2, .int .i64 0, .string ⟨#[]⟩] := (b3.block _ A2.lt).trans A2; have B3 : Blk w3 (w.heap.size + 1) 39 #[.int .i64 2, .int .i64 1, .string ⟨#[]⟩] := (b3.block _ B2.lt).trans B2; have R3 : Blk w3 (w.heap.size + 1 + 1) 39 #[.int .i64 0, .int .i64 0, .string ⟨#[]⟩] := (b3.block _ R2.lt).trans R2); obtain ⟨p0, p1, p2, pl⟩ := A3.c3))
  all_goals
    obtain ⟨c0, c1, c2, cl⟩ := A3.c3
    obtain ⟨d0, d1, d2, dl⟩ := B3.c3
    obtain ⟨r0, r1, r2, rl⟩ := R3.c3
    have f0 := R3.frozen 0; have f1 := R3.frozen 1; have f2 := R3.frozen 2
    have a3 : Below w.heap.size w w3 := (a2.drew).trans (b3.mono a2.size)
    go_wp2_with fail
    refine (rtruth_any _ _).mono ?_
    rintro e w5 ⟨rfl, b5⟩
    have R5 := R3.over b5
    obtain ⟨s0, s1, s2, sl⟩ := R5.c3
    have g0 := R5.frozen 0; have g1 := R5.frozen 1; have g2 := R5.frozen 2
    go_wp2_with fail
    refine bodyPost_ret (v := .tuple #[.agg #[.int .i64 2, .int .i64 _, .string ⟨#[]⟩], .bool true]) (by simp [results, Tryd.results51, go_sem, s0, s1, s2, sl]) rfl ⟨rfl, ?_⟩
    exact set3 (a3.trans (b5.mono a3.size)) (by omega) _ _ _

set_option maxHeartbeats 4000000 in
theorem rand_7 : Gives 51 #[.agg #[.int .i64 2, .int .i64 1, .string ⟨#[]⟩], .agg #[.int .i64 0, .int .i64 0, .string ⟨#[]⟩]] (.tuple #[.agg #[.int .i64 0, .int .i64 0, .string ⟨#[]⟩], .bool true]) := by
  intro w
  have V1 := hid (rlv_tv (some true)); have V2 := hid (rlv_tv none)
  simp only [tv] at V1 V2
  go_enter Tryd.func51, Tryd.ntmps51
  go_wp2_with fail
  refine (V1.out _).mono ?_
  rintro e w1 ⟨rfl, b1⟩
  obtain ⟨hc1, hf1⟩ := below_cells b1
  have z12 := below_size b1 (n := w.heap.size + 1 + 1) (by simp only [World.size_alloc]; omega)
  have z11 : w.heap.size + 1 < w1.heap.size := by omega
  have z10 : w.heap.size < w1.heap.size := by omega
  go_wp2_with fail
  refine (V2.out _).mono ?_
  rintro e w2 ⟨rfl, b2⟩
  have A2 : Blk w2 w.heap.size 39 #[.int .i64 2, .int .i64 1, .string ⟨#[]⟩] := (Blk.new3a b1).1.over b2
  have B2 : Blk w2 (w.heap.size + 1) 39 #[.int .i64 0, .int .i64 0, .string ⟨#[]⟩] := (Blk.new3a b1).2.1.over b2
  have R2 : Blk w2 (w.heap.size + 1 + 1) 39 #[.int .i64 0, .int .i64 0, .string ⟨#[]⟩] := (Blk.new3a b1).2.2.over b2
  have a2 : Below w.heap.size w w2 := bnext ((ext3 _ _ _ _).trans (b1.mono (by simp only [World.size_alloc]; omega))) b2 (Nat.le_refl _)
  clear hc1 hf1 z12 z11 z10 b1 b2 V1 V2
  go_wp2_with fail
  go_region_held3 (fun w' => w'.cell? ⟨w.heap.size, 0, none⟩ = some (.int .i64 2) ∧ w'.cell? ⟨w.heap.size, 1, none⟩ = some (.int .i64 1) ∧ w'.cell? ⟨w.heap.size, 2, none⟩ = some (.string ⟨#[]⟩) ∧ w'.cell? ⟨w.heap.size + 1, 0, none⟩ = some (.int .i64 0) ∧ w'.cell? ⟨w.heap.size + 1, 1, none⟩ = some (.int .i64 0) ∧ w'.cell? ⟨w.heap.size + 1, 2, none⟩ = some (.string ⟨#[]⟩))
    (first | exact six A2 B2 | exact six A3 B3 | exact six A4 B4)
    (first
      | (go_at_call 29; ((with_reducible refine (rtr_f _).mono ?_); rintro e w3 ⟨rfl, b3⟩; have A3 : Blk w3 w.heap.size 39 #[.int .i64 2, .int .i64 1, .string ⟨#[]⟩] := (b3.block _ A2.lt).trans A2; have B3 : Blk w3 (w.heap.size + 1) 39 #[.int .i64 0, .int .i64 0, .string ⟨#[]⟩] := (b3.block _ B2.lt).trans B2; have R3 : Blk w3 (w.heap.size + 1 + 1) 39 #[.int .i64 0, .int .i64 0, .string ⟨#[]⟩] := (b3.block _ R2.lt).trans R2))
      | (go_at_call 29; ((with_reducible refine (rtr_f _).mono ?_); rintro e w4 ⟨rfl, b4⟩; have A4 : Blk w4 w.heap.size 39 #[.int .i64 2, .int .i64 1, .string ⟨#[]⟩] := (b4.block _ A3.lt).trans A3; have B4 : Blk w4 (w.heap.size + 1) 39 #[.int .i64 0, .int .i64 0, .string ⟨#[]⟩] := (b4.block _ B3.lt).trans B3; have R4 : Blk w4 (w.heap.size + 1 + 1) 39 #[.int .i64 0, .int .i64 0, .string ⟨#[]⟩] := (b4.block _ R3.lt).trans R3)))
  obtain ⟨c0, c1, c2, cl⟩ := A4.c3
  obtain ⟨d0, d1, d2, dl⟩ := B4.c3
  obtain ⟨r0, r1, r2, rl⟩ := R4.c3
  have f0 := R4.frozen 0; have f1 := R4.frozen 1; have f2 := R4.frozen 2
  have a3 : Below w.heap.size w w3 := (a2.drew).trans (b3.mono a2.size)
  have a4 : Below w.heap.size w w4 := a3.trans (b4.mono a3.size)
  go_wp2_with fail
  refine bodyPost_ret (v := .tuple #[.agg #[.int .i64 0, .int .i64 0, .string ⟨#[]⟩], .bool true]) (by simp [results, Tryd.results51, go_sem, r0, r1, r2, rl]) rfl ⟨rfl, ?_⟩
  exact set3 a4 (by omega) _ _ _

set_option maxHeartbeats 4000000 in
theorem rand_8 : Gives 51 #[.agg #[.int .i64 2, .int .i64 1, .string ⟨#[]⟩], .agg #[.int .i64 2, .int .i64 0, .string ⟨#[]⟩]] (.tuple #[.agg #[.int .i64 2, .int .i64 0, .string ⟨#[]⟩], .bool true]) := by
  intro w
  have V1 := hid (rlv_tv (some true)); have V2 := hid (rlv_tv (some false))
  simp only [tv] at V1 V2
  go_enter Tryd.func51, Tryd.ntmps51
  go_wp2_with fail
  refine (V1.out _).mono ?_
  rintro e w1 ⟨rfl, b1⟩
  obtain ⟨hc1, hf1⟩ := below_cells b1
  have z12 := below_size b1 (n := w.heap.size + 1 + 1) (by simp only [World.size_alloc]; omega)
  have z11 : w.heap.size + 1 < w1.heap.size := by omega
  have z10 : w.heap.size < w1.heap.size := by omega
  go_wp2_with fail
  refine (V2.out _).mono ?_
  rintro e w2 ⟨rfl, b2⟩
  have A2 : Blk w2 w.heap.size 39 #[.int .i64 2, .int .i64 1, .string ⟨#[]⟩] := (Blk.new3a b1).1.over b2
  have B2 : Blk w2 (w.heap.size + 1) 39 #[.int .i64 2, .int .i64 0, .string ⟨#[]⟩] := (Blk.new3a b1).2.1.over b2
  have R2 : Blk w2 (w.heap.size + 1 + 1) 39 #[.int .i64 0, .int .i64 0, .string ⟨#[]⟩] := (Blk.new3a b1).2.2.over b2
  have a2 : Below w.heap.size w w2 := bnext ((ext3 _ _ _ _).trans (b1.mono (by simp only [World.size_alloc]; omega))) b2 (Nat.le_refl _)
  clear hc1 hf1 z12 z11 z10 b1 b2 V1 V2
  go_wp2_with fail
  go_region_held3 (fun w' => w'.cell? ⟨w.heap.size, 0, none⟩ = some (.int .i64 2) ∧ w'.cell? ⟨w.heap.size, 1, none⟩ = some (.int .i64 1) ∧ w'.cell? ⟨w.heap.size, 2, none⟩ = some (.string ⟨#[]⟩) ∧ w'.cell? ⟨w.heap.size + 1, 0, none⟩ = some (.int .i64 2) ∧ w'.cell? ⟨w.heap.size + 1, 1, none⟩ = some (.int .i64 0) ∧ w'.cell? ⟨w.heap.size + 1, 2, none⟩ = some (.string ⟨#[]⟩))
    (first | exact six A2 B2 | exact six A3 B3 | exact six A4 B4)
    (first
      | (go_at_call 29; ((with_reducible refine (rtr_f _).mono ?_); rintro e w3 ⟨rfl, b3⟩; have A3 : Blk w3 w.heap.size 39 #[.int .i64 2, .int .i64 1, .string ⟨#[]⟩] := (b3.block _ A2.lt).trans A2; have B3 : Blk w3 (w.heap.size + 1) 39 #[.int .i64 2, .int .i64 0, .string ⟨#[]⟩] := (b3.block _ B2.lt).trans B2; have R3 : Blk w3 (w.heap.size + 1 + 1) 39 #[.int .i64 0, .int .i64 0, .string ⟨#[]⟩] := (b3.block _ R2.lt).trans R2))
      | (go_at_call 29; ((with_reducible refine (rtr_f _).mono ?_); rintro e w4 ⟨rfl, b4⟩; have A4 : Blk w4 w.heap.size 39 #[.int .i64 2, .int .i64 1, .string ⟨#[]⟩] := (b4.block _ A3.lt).trans A3; have B4 : Blk w4 (w.heap.size + 1) 39 #[.int .i64 2, .int .i64 0, .string ⟨#[]⟩] := (b4.block _ B3.lt).trans B3; have R4 : Blk w4 (w.heap.size + 1 + 1) 39 #[.int .i64 0, .int .i64 0, .string ⟨#[]⟩] := (b4.block _ R3.lt).trans R3)))
  obtain ⟨c0, c1, c2, cl⟩ := A4.c3
  obtain ⟨d0, d1, d2, dl⟩ := B4.c3
  obtain ⟨r0, r1, r2, rl⟩ := R4.c3
  have f0 := R4.frozen 0; have f1 := R4.frozen 1; have f2 := R4.frozen 2
  have a3 : Below w.heap.size w w3 := (a2.drew).trans (b3.mono a2.size)
  have a4 : Below w.heap.size w w4 := a3.trans (b4.mono a3.size)
  go_wp2_with fail
  refine (rtruth_any _ _).mono ?_
  rintro e w5 ⟨rfl, b5⟩
  have R5 := R4.over b5
  obtain ⟨s0, s1, s2, sl⟩ := R5.c3
  have g0 := R5.frozen 0; have g1 := R5.frozen 1; have g2 := R5.frozen 2
  go_wp2_with fail
  refine bodyPost_ret (v := .tuple #[.agg #[.int .i64 2, .int .i64 _, .string ⟨#[]⟩], .bool true]) (by simp [results, Tryd.results51, go_sem, s0, s1, s2, sl]) rfl ⟨rfl, ?_⟩
  exact set3 (a4.trans (b5.mono a4.size)) (by omega) _ _ _

set_option maxHeartbeats 4000000 in
theorem rand_9 : Gives 51 #[.agg #[.int .i64 2, .int .i64 1, .string ⟨#[]⟩], .agg #[.int .i64 2, .int .i64 1, .string ⟨#[]⟩]] (.tuple #[.agg #[.int .i64 2, .int .i64 1, .string ⟨#[]⟩], .bool true]) := by
  intro w
  have V1 := hid (rlv_tv (some true)); have V2 := hid (rlv_tv (some true))
  simp only [tv] at V1 V2
  go_enter Tryd.func51, Tryd.ntmps51
  go_wp2_with fail
  refine (V1.out _).mono ?_
  rintro e w1 ⟨rfl, b1⟩
  obtain ⟨hc1, hf1⟩ := below_cells b1
  have z12 := below_size b1 (n := w.heap.size + 1 + 1) (by simp only [World.size_alloc]; omega)
  have z11 : w.heap.size + 1 < w1.heap.size := by omega
  have z10 : w.heap.size < w1.heap.size := by omega
  go_wp2_with fail
  refine (V2.out _).mono ?_
  rintro e w2 ⟨rfl, b2⟩
  have A2 : Blk w2 w.heap.size 39 #[.int .i64 2, .int .i64 1, .string ⟨#[]⟩] := (Blk.new3a b1).1.over b2
  have B2 : Blk w2 (w.heap.size + 1) 39 #[.int .i64 2, .int .i64 1, .string ⟨#[]⟩] := (Blk.new3a b1).2.1.over b2
  have R2 : Blk w2 (w.heap.size + 1 + 1) 39 #[.int .i64 0, .int .i64 0, .string ⟨#[]⟩] := (Blk.new3a b1).2.2.over b2
  have a2 : Below w.heap.size w w2 := bnext ((ext3 _ _ _ _).trans (b1.mono (by simp only [World.size_alloc]; omega))) b2 (Nat.le_refl _)
  clear hc1 hf1 z12 z11 z10 b1 b2 V1 V2
  go_wp2_with fail
  go_region_held3 (fun w' => w'.cell? ⟨w.heap.size, 0, none⟩ = some (.int .i64 2) ∧ w'.cell? ⟨w.heap.size, 1, none⟩ = some (.int .i64 1) ∧ w'.cell? ⟨w.heap.size, 2, none⟩ = some (.string ⟨#[]⟩) ∧ w'.cell? ⟨w.heap.size + 1, 0, none⟩ = some (.int .i64 2) ∧ w'.cell? ⟨w.heap.size + 1, 1, none⟩ = some (.int .i64 1) ∧ w'.cell? ⟨w.heap.size + 1, 2, none⟩ = some (.string ⟨#[]⟩))
    (first | exact six A2 B2 | exact six A3 B3 | exact six A4 B4)
    (first
      | (go_at_call 29; ((with_reducible refine (rtr_f _).mono ?_); rintro e w3 ⟨rfl, b3⟩; have A3 : Blk w3 w.heap.size 39 #[.int .i64 2, .int .i64 1, .string ⟨#[]⟩] := (b3.block _ A2.lt).trans A2; have B3 : Blk w3 (w.heap.size + 1) 39 #[.int .i64 2, .int .i64 1, .string ⟨#[]⟩] := (b3.block _ B2.lt).trans B2; have R3 : Blk w3 (w.heap.size + 1 + 1) 39 #[.int .i64 0, .int .i64 0, .string ⟨#[]⟩] := (b3.block _ R2.lt).trans R2))
      | (go_at_call 29; ((with_reducible refine (rtr_f _).mono ?_); rintro e w4 ⟨rfl, b4⟩; have A4 : Blk w4 w.heap.size 39 #[.int .i64 2, .int .i64 1, .string ⟨#[]⟩] := (b4.block _ A3.lt).trans A3; have B4 : Blk w4 (w.heap.size + 1) 39 #[.int .i64 2, .int .i64 1, .string ⟨#[]⟩] := (b4.block _ B3.lt).trans B3; have R4 : Blk w4 (w.heap.size + 1 + 1) 39 #[.int .i64 0, .int .i64 0, .string ⟨#[]⟩] := (b4.block _ R3.lt).trans R3)))
  obtain ⟨c0, c1, c2, cl⟩ := A4.c3
  obtain ⟨d0, d1, d2, dl⟩ := B4.c3
  obtain ⟨r0, r1, r2, rl⟩ := R4.c3
  have f0 := R4.frozen 0; have f1 := R4.frozen 1; have f2 := R4.frozen 2
  have a3 : Below w.heap.size w w3 := (a2.drew).trans (b3.mono a2.size)
  have a4 : Below w.heap.size w w4 := a3.trans (b4.mono a3.size)
  go_wp2_with fail
  refine (rtruth_any _ _).mono ?_
  rintro e w5 ⟨rfl, b5⟩
  have R5 := R4.over b5
  obtain ⟨s0, s1, s2, sl⟩ := R5.c3
  have g0 := R5.frozen 0; have g1 := R5.frozen 1; have g2 := R5.frozen 2
  go_wp2_with fail
  refine bodyPost_ret (v := .tuple #[.agg #[.int .i64 2, .int .i64 _, .string ⟨#[]⟩], .bool true]) (by simp [results, Tryd.results51, go_sem, s0, s1, s2, sl]) rfl ⟨rfl, ?_⟩
  exact set3 (a4.trans (b5.mono a4.size)) (by omega) _ _ _

theorem rand_tv (x y : Option Bool) : Gives 51 #[tv x, tv y] (.tuple #[tv (and3 x y), .bool true]) := by
  rcases x with _ | _ | _ <;> rcases y with _ | _ | _
  · exact rand_1
  · exact rand_2
  · exact rand_3
  · exact rand_4
  · exact rand_5
  · exact rand_6
  · exact rand_7
  · exact rand_8
  · exact rand_9
end Go.Proofs.YtdgdllicmccnfaaDoor

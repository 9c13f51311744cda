/- The contract of the tape's draw of an odd value. -/
import Derived.Test.YtdgdllicmccnfaaDoorTape2
import Derived.Laws.BytesArg
namespace Go.Proofs.YtdgdllicmccnfaaDoor
open Go.RowKit
set_option linter.unusedVariables false
set_option linter.unusedSimpArgs false

/-- Some value, drawn. -/
def DrawnO (w : World) (T : Nat) (e : Ending) (w' : World) : Prop :=
  ∃ (k i : Int) (s : ByteArray), e = .returned (.agg #[.int .i64 k, .int .i64 i, .string s]) ∧ s.size ≤ 100 ∧ Tp w' T ∧ w.grownBy w' (some T)

/-- The state of Odd's walk: the value's box V, the result's box R. -/
structure OddSt (w : World) (T V R : Nat) (wr : World) (k i : Int) (s : ByteArray) : Prop where
  bv : Blk wr V 39 #[.int .i64 k, .int .i64 i, .string s]
  br : Blk wr R 39 #[.int .i64 0, .int .i64 0, .string ⟨#[]⟩]
  tp : Tp wr T
  gr : w.grownBy wr (some T)
  hi : I64 i
  hs : s.size ≤ 100

theorem OddSt.grown {w : World} {T V R : Nat} {wr w' : World} {k i : Int} {s : ByteArray} (h : OddSt w T V R wr k i s) (hV : T < V) (hR : T < R) (t : Tp w' T) (g : wr.grownBy w' (some T)) : OddSt w T V R w' k i s :=
  ⟨h.bv.grown g (by intro e; injection e with e; omega), h.br.grown g (by intro e; injection e with e; omega), t, only_trans h.gr g, h.hi, h.hs⟩

theorem OddSt.drew {w : World} {T V R : Nat} {wr : World} {k i : Int} {s : ByteArray} (h : OddSt w T V R wr k i s) : OddSt w T V R wr.drew k i s := ⟨h.bv, h.br, h.tp, only_drew h.gr, h.hi, h.hs⟩
theorem drawnO_mk {w w1 : World} {T g : Nat} {k i : Int} {s : ByteArray} (hs : s.size ≤ 100) (t1 : Tp w1 T) (hTg : T < g) (g1 : w.grownBy w1 (some T)) (hg : w.heap.size ≤ g) :
    DrawnO w T (.returned (.agg #[.int .i64 k, .int .i64 i, .string s])) (((w1.setCell ⟨g, 0, none⟩ (.int .i64 k)).setCell ⟨g, 1, none⟩ (.int .i64 i)).setCell ⟨g, 2, none⟩ (.string s)) :=
  ⟨k, i, s, rfl, hs, tp_set3 t1 hTg _ _ _, only_set3 g1 hg _ _ _⟩

theorem DrawnO.alloc {w w' : World} {T : Nat} {e : Ending} (h : DrawnO w T e w') (o : Obj) : DrawnO w T e (w'.alloc o) := by
  obtain ⟨k, i, s, h1, h2, h3, h4⟩ := h
  exact ⟨k, i, s, h1, h2, h3.alloc o, only_alloc h4 o⟩
theorem conv1 (W : World) (x : Int) : (convert 57 9 (.slice (some ⟨W.heap.size, 0, none⟩) 1 1)).run Tryd.prog (W.alloc (.cells #[.int .u8 x] 5)) = .ok (.string (strOfNums [x])) (W.alloc (.cells #[.int .u8 x] 5)) :=
  run_convert_bytes_arg _ _ _ Tryd.underlying57 Tryd.underlying5 W.heap.size 0 1 1 [x] rfl (fun i hi => by
    obtain rfl : i = 0 := by omega
    exact (Blk.new W 5 #[.int .u8 x]).cell 0) _ Tryd.underlying9

set_option maxHeartbeats 2000000 in
theorem odd_any (T : Nat) (w : World) (ht : Tp w T) (hw : Wds w) (hT : 1 < T) :
    Calls Tryd.prog 21 #[.pointer (some ⟨T, 0, none⟩)] w fun e w' => DrawnO w T e w' := by
  have hlt := ht.lt
  have B0 := Blk.new w 39 #[.int .i64 0, .int .i64 0, .string ⟨#[]⟩]
  have t0 := ht.alloc (.cells #[.int .i64 0, .int .i64 0, .string ⟨#[]⟩] 39)
  have g0 : w.grownBy (w.alloc (.cells #[.int .i64 0, .int .i64 0, .string ⟨#[]⟩] 39)) (some T) := only_alloc (World.grownBy.refl _ _) _
  have w0 : Wds (w.alloc (.cells #[.int .i64 0, .int .i64 0, .string ⟨#[]⟩] 39)) := hw.grown g0 (by intro e; injection e with e; omega)
  go_enter Tryd.func21, Tryd.ntmps21
  go_wp2_with fail
  refine (value_any T _ t0 w0 hT).mono ?_
  rintro e w1 ⟨k, i, s, rfl, hv, hs, hi, t1, _, g1⟩
  have B1 := B0.grown g1 (by intro e; injection e with e; omega)
  have V1 := Blk.new w1 39 #[.int .i64 k, .int .i64 i, .string s]
  have R1 := B1.alloc (.cells #[.int .i64 k, .int .i64 i, .string s] 39)
  have t2 := t1.alloc (.cells #[.int .i64 k, .int .i64 i, .string s] 39)
  have g2 := only_alloc (only_trans g0 g1) (.cells #[.int .i64 k, .int .i64 i, .string s] 39)
  have hRV : w.heap.size < w1.heap.size := B1.lt
  clear hv w0 t0 B0 g0 g1 B1 t1
  go_wp2_with fail
  refine (next_any T 5 _ t2 (by omega) (by omega)).mono ?_
  rintro e w2 ⟨x, rfl, x0, x1, t3, g3⟩
  have hTV : T < w1.heap.size := by omega
  have V2 := V1.grown g3 (by intro e; injection e with e; omega)
  have R2 := R1.grown g3 (by intro e; injection e with e; omega)
  have g4 := only_trans g2 g3
  have ST : OddSt w T w1.heap.size w.heap.size w2 k i s := ⟨V2, R2, t3, g4, hi, by omega⟩
  clear V1 R1 t2 g2 g3 V2 R2 t3 g4
  obtain ⟨V, hV⟩ : ∃ V, V = w1.heap.size := ⟨_, rfl⟩
  rw [← hV] at ST hRV hTV ⊢
  clear hV
  have hcase : x = 0 ∨ x = 1 ∨ x = 2 ∨ x = 3 ∨ x = 4 := by omega
  rcases hcase with rfl | rfl | rfl | rfl | rfl
  · go_wp2_with fail
    refine (next_any T 7 _ ST.tp (by omega) (by omega)).mono ?_
    rintro e w3 ⟨y, rfl, y0, y1, t3, g3⟩
    have S3 := ST.grown hTV hlt t3 g3
    obtain ⟨c0, c1, c2, cl⟩ := S3.bv.c3
    obtain ⟨r0, r1, r2, rl⟩ := S3.br.c3
    have f0 := S3.bv.frozen 0; have f1 := S3.bv.frozen 1; have f2 := S3.bv.frozen 2
    have q0 := S3.br.frozen 0; have q1 := S3.br.frozen 1; have q2 := S3.br.frozen 2
    go_wp2
    exact bodyPost_ret (v := .agg #[.int .i64 (y - 2), .int .i64 i, .string s]) (by simp [results, Tryd.results21, go_sem, c0, c1, c2, r0, r1, r2]) rfl (drawnO_mk S3.hs (Tp.setCell (p := ⟨V, 0, none⟩) S3.tp hTV _) hlt (only_setCell (p := ⟨V, 0, none⟩) S3.gr (.inr (Nat.le_of_lt hRV)) _) (Nat.le_refl _))
  · obtain ⟨c0, c1, c2, cl⟩ := ST.bv.c3
    obtain ⟨r0, r1, r2, rl⟩ := ST.br.c3
    have f0 := ST.bv.frozen 0; have f1 := ST.bv.frozen 1; have f2 := ST.bv.frozen 2
    have q0 := ST.br.frozen 0; have q1 := ST.br.frozen 1; have q2 := ST.br.frozen 2
    go_wp2
    generalize wrap64 (i + 1) = j
    exact bodyPost_ret (v := .agg #[.int .i64 k, .int .i64 j, .string s]) (by simp [results, Tryd.results21, go_sem, c0, c1, c2, r0, r1, r2]) rfl (drawnO_mk ST.hs (Tp.setCell (p := ⟨V, 1, none⟩) ST.tp hTV _) hlt (only_setCell (p := ⟨V, 1, none⟩) ST.gr (.inr (Nat.le_of_lt hRV)) _) (Nat.le_refl _))
  · obtain ⟨c0, c1, c2, cl⟩ := ST.bv.c3
    obtain ⟨r0, r1, r2, rl⟩ := ST.br.c3
    have f0 := ST.bv.frozen 0; have f1 := ST.bv.frozen 1; have f2 := ST.bv.frozen 2
    have q0 := ST.br.frozen 0; have q1 := ST.br.frozen 1; have q2 := ST.br.frozen 2
    go_wp2_with fail
    have kc := conv1
    have hsz := ST.hs
    have hsb : ∀ y : Int, (s ++ strOfNums [y]).size ≤ 100 := fun y => by
      rw [ByteArray.size_append, strOfNums_size]; simp only [List.length_cons, List.length_nil]; omega
    have hss : ∀ x, (strOfNums [x]).size = 1 := fun x => strOfNums_size [x]
    go_region_with (first
      | (go_at_call 18; refine (next_any T 256 _ (Tp.drew ST.tp) (by omega) (by omega)).mono ?_; rintro e w3 ⟨y, rfl, y0, y1, t3, g3⟩; have S3 := OddSt.grown (OddSt.drew ST) hTV hlt t3 g3; obtain ⟨c30, c31, c32, c3l⟩ := S3.bv.c3; obtain ⟨r30, r31, r32, r3l⟩ := S3.br.c3; have f30 := S3.bv.frozen 2; have q30 := S3.br.frozen 0; have q31 := S3.br.frozen 1; have q32 := S3.br.frozen 2))
    all_goals
      go_wp2
      refine bodyPost_ret (v := .agg #[.int .i64 k, .int .i64 i, .string (s ++ strOfNums [y])]) (by simp [results, Tryd.results21, go_sem, c30, c31, c32, r30, r31, r32, c3l, r3l]) rfl ?_
      refine DrawnO.alloc ?_ _
      exact drawnO_mk (hsb y) (Tp.setCell (p := ⟨V, 2, none⟩) S3.tp hTV _) hlt (only_setCell (p := ⟨V, 2, none⟩) S3.gr (.inr (Nat.le_of_lt hRV)) _) (Nat.le_refl _)
  · obtain ⟨c0, c1, c2, cl⟩ := ST.bv.c3
    obtain ⟨r0, r1, r2, rl⟩ := ST.br.c3
    have f0 := ST.bv.frozen 0; have f1 := ST.bv.frozen 1; have f2 := ST.bv.frozen 2
    have q0 := ST.br.frozen 0; have q1 := ST.br.frozen 1; have q2 := ST.br.frozen 2
    go_wp2_with fail
    have g5 := only_set3 ST.gr (Nat.le_of_lt hRV) (.int .i64 3) (.int .i64 0) (.string ⟨#[]⟩)
    have bv5 : Blk (((w2.setCell ⟨V, 0, none⟩ (.int .i64 3)).setCell ⟨V, 1, none⟩ (.int .i64 0)).setCell ⟨V, 2, none⟩ (.string ⟨#[]⟩)) V 39 #[.int .i64 3, .int .i64 0, .string ⟨#[]⟩] := by
      have := ((ST.bv.set_ 0 (.int .i64 3)).set_ 1 (.int .i64 0)).set_ 2 (.string ⟨#[]⟩)
      simpa using this
    have br5 : Blk (((w2.setCell ⟨V, 0, none⟩ (.int .i64 3)).setCell ⟨V, 1, none⟩ (.int .i64 0)).setCell ⟨V, 2, none⟩ (.string ⟨#[]⟩)) w.heap.size 39 #[.int .i64 0, .int .i64 0, .string ⟨#[]⟩] :=
      Blk.far (p := ⟨V, 2, none⟩) (Blk.far (p := ⟨V, 1, none⟩) (Blk.far (p := ⟨V, 0, none⟩) ST.br (Nat.ne_of_lt hRV) _) (Nat.ne_of_lt hRV) _) (Nat.ne_of_lt hRV) _
    have S5 : OddSt w T V w.heap.size _ 3 0 ⟨#[]⟩ := ⟨bv5, br5, tp_set3 ST.tp hTV _ _ _, g5, by unfold I64; omega, by decide⟩
    refine (next_any T 8 _ S5.tp (by omega) (by omega)).mono ?_
    rintro e w3 ⟨y, rfl, y0, y1, t3, g3⟩
    have S6 := OddSt.grown S5 hTV hlt t3 g3
    clear S5 bv5 br5 g5 c0 c1 c2 cl r0 r1 r2 rl f0 f1 f2 q0 q1 q2 ST g3 t3 hi
    go_wp2_with fail
    go_loopw [4] (fun j wr => ∃ (n : Nat) (s : ByteArray), j = .int .i64 n ∧ s.size + n ≤ 67 ∧ OddSt w T V w.heap.size wr 3 0 s) (fun j _ => (intOf j).toNat)
    case atStart => exact ⟨(60 + y).toNat, ⟨#[]⟩, by congr 1; omega, by simp [ByteArray.size]; omega, S6⟩
    case round =>
      obtain ⟨n, s, rfl, hsn, SS⟩ := hrel
      obtain ⟨c0, c1, c2, cl⟩ := SS.bv.c3
      obtain ⟨r0, r1, r2, rl⟩ := SS.br.c3
      have f0 := SS.bv.frozen 0; have f1 := SS.bv.frozen 1; have f2 := SS.bv.frozen 2
      have q0 := SS.br.frozen 0; have q1 := SS.br.frozen 1; have q2 := SS.br.frozen 2
      by_cases hn : 0 < n
      · obtain ⟨m, rfl⟩ : ∃ m, n = m + 1 := ⟨n - 1, by omega⟩
        have hbv := SS.bv.set_ 2 (.string (s ++ ⟨#[120]⟩))
        have hbr := SS.br.far (p := ⟨V, 2, none⟩) (Nat.ne_of_lt hRV) (.string (s ++ ⟨#[120]⟩))
        have hsz : (s ++ ⟨#[120]⟩ : ByteArray).size = s.size + 1 := by rw [ByteArray.size_append]; rfl
        have hS := hid (OddSt.mk (w := w) (T := T) (V := V) (R := w.heap.size) (k := 3) (i := 0) (s := s ++ ⟨#[120]⟩) (by simpa using hbv) hbr (Tp.setCell (p := ⟨V, 2, none⟩) SS.tp hTV _) (only_setCell (p := ⟨V, 2, none⟩) SS.gr (.inr (Nat.le_of_lt hRV)) _) SS.hi (by omega))
        have HZ := hid hsz
        clear hbv hbr hsz
        go_wp2_with fail
        refine ⟨⟨m, s ++ ⟨#[120]⟩, rfl, by have := HZ.out; omega, hS.out⟩, by simp [intOf]⟩
      · obtain rfl : n = 0 := by omega
        go_wp2
        refine bodyPost_ret (v := .agg #[.int .i64 3, .int .i64 0, .string s]) (by simp [results, Tryd.results21, go_sem, c0, c1, c2, r0, r1, r2]) rfl ?_
        exact drawnO_mk SS.hs SS.tp hlt SS.gr (Nat.le_refl _)
  · obtain ⟨c0, c1, c2, cl⟩ := ST.bv.c3
    obtain ⟨r0, r1, r2, rl⟩ := ST.br.c3
    have f0 := ST.bv.frozen 0; have f1 := ST.bv.frozen 1; have f2 := ST.bv.frozen 2
    have q0 := ST.br.frozen 0; have q1 := ST.br.frozen 1; have q2 := ST.br.frozen 2
    go_wp2
    exact bodyPost_ret (v := .agg #[.int .i64 k, .int .i64 i, .string s]) (by simp [results, Tryd.results21, go_sem, c0, c1, c2, r0, r1, r2]) rfl (drawnO_mk ST.hs ST.tp hlt ST.gr (Nat.le_refl _))
end Go.Proofs.YtdgdllicmccnfaaDoor

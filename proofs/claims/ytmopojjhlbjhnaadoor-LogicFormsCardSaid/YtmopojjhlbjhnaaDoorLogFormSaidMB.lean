/- LogicForms answers true for all values and every tape: Not, And, Or, Equal, Less, Valid and IsTrue of the program return what the reference's return. Condition: the row's own, the laid table of words; the tied card. -/
import Derived.Test.YtmopojjhlbjhnaaDoorLogFormSaidMA
import Derived.Laws.BytesArg
import Derived.Test.YtmopojjhlbjhnaaDoorCards
import Derived.Test.YtmopojjhlbjhnaaDoorTie
namespace Go.Proofs.YtmopojjhlbjhnaaDoor
open Go.RowKit
set_option linter.unusedVariables false
set_option linter.unusedSimpArgs false

theorem tv_agg (x : Option Bool) : ∃ (k i : Int) (s : ByteArray), tv x = .agg #[.int .i64 k, .int .i64 i, .string s] := by
  rcases x with _ | _ | _
  · exact ⟨0, 0, ⟨#[]⟩, rfl⟩
  · exact ⟨2, 0, ⟨#[]⟩, rfl⟩
  · exact ⟨2, 1, ⟨#[]⟩, rfl⟩
theorem ansV_agg (t : Int → Bool) (r : Int × Bool × Bool) : ∃ (k i : Int) (s : ByteArray), ansV t r = .agg #[.int .i64 k, .int .i64 i, .string s] := by
  unfold ansV
  split
  · exact ⟨_, _, _, rfl⟩
  · exact ⟨_, _, _, rfl⟩
theorem size0 : (⟨#[]⟩ : ByteArray).size ≤ maxLen := by simp [maxLen]; decide

section
variable (k1 i1 k2 i2 : Int) (s1 s2 : ByteArray) (h1 : s1.size ≤ maxLen) (h2 : s2.size ≤ maxLen)
include h1
theorem two_not : ∃ (k i : Int) (s : ByteArray) (j : Bool), Gives 75 #[.agg #[.int .i64 k1, .int .i64 i1, .string s1]] (.tuple #[.agg #[.int .i64 k, .int .i64 i, .string s], .bool j]) ∧ Gives 76 #[.agg #[.int .i64 k1, .int .i64 i1, .string s1]] (.tuple #[.agg #[.int .i64 k, .int .i64 i, .string s], .bool j]) := by
  cases e1 : lvB k1 i1 s1
  · exact ⟨_, _, _, _, logic_not_inv k1 i1 s1 h1 e1, ref2_not_inv k1 i1 s1 h1 e1⟩
  · obtain ⟨x, hx⟩ := lv_tv e1
    rw [hx]
    obtain ⟨k, i, s, hy⟩ := tv_agg (not3 x)
    exact ⟨k, i, s, true, by rw [← hy]; exact fun w => not_tv x w, by rw [← hy]; exact rnot_tv x⟩
include h2
theorem two_and : ∃ (k i : Int) (s : ByteArray) (j : Bool), Gives 77 #[.agg #[.int .i64 k1, .int .i64 i1, .string s1], .agg #[.int .i64 k2, .int .i64 i2, .string s2]] (.tuple #[.agg #[.int .i64 k, .int .i64 i, .string s], .bool j]) ∧
    Gives 78 #[.agg #[.int .i64 k1, .int .i64 i1, .string s1], .agg #[.int .i64 k2, .int .i64 i2, .string s2]] (.tuple #[.agg #[.int .i64 k, .int .i64 i, .string s], .bool j]) := by
  by_cases hh : lvB k1 i1 s1 = false ∨ lvB k2 i2 s2 = false
  · exact ⟨_, _, _, _, logic_And_inv k1 i1 s1 k2 i2 s2 h1 h2 hh, ref2_And_inv k1 i1 s1 k2 i2 s2 h1 h2 hh⟩
  · obtain ⟨x, hx⟩ := lv_tv (k := k1) (i := i1) (s := s1) (by simpa using fun h => hh (.inl h))
    obtain ⟨y, hy⟩ := lv_tv (k := k2) (i := i2) (s := s2) (by simpa using fun h => hh (.inr h))
    rw [hx, hy]
    obtain ⟨k, i, s, hz⟩ := tv_agg (and3 x y)
    exact ⟨k, i, s, true, by rw [← hz]; exact fun w => and_tv x y w, by rw [← hz]; exact rand_tv x y⟩
theorem two_or : ∃ (k i : Int) (s : ByteArray) (j : Bool), Gives 79 #[.agg #[.int .i64 k1, .int .i64 i1, .string s1], .agg #[.int .i64 k2, .int .i64 i2, .string s2]] (.tuple #[.agg #[.int .i64 k, .int .i64 i, .string s], .bool j]) ∧
    Gives 80 #[.agg #[.int .i64 k1, .int .i64 i1, .string s1], .agg #[.int .i64 k2, .int .i64 i2, .string s2]] (.tuple #[.agg #[.int .i64 k, .int .i64 i, .string s], .bool j]) := by
  by_cases hh : lvB k1 i1 s1 = false ∨ lvB k2 i2 s2 = false
  · exact ⟨_, _, _, _, logic_Or_inv k1 i1 s1 k2 i2 s2 h1 h2 hh, ref2_Or_inv k1 i1 s1 k2 i2 s2 h1 h2 hh⟩
  · obtain ⟨x, hx⟩ := lv_tv (k := k1) (i := i1) (s := s1) (by simpa using fun h => hh (.inl h))
    obtain ⟨y, hy⟩ := lv_tv (k := k2) (i := i2) (s := s2) (by simpa using fun h => hh (.inr h))
    rw [hx, hy]
    obtain ⟨k, i, s, hz⟩ := tv_agg (or3 x y)
    exact ⟨k, i, s, true, by rw [← hz]; exact or_tv x y, by rw [← hz]; exact ror_tv x y⟩

theorem alike_any : Gives 39 #[.agg #[.int .i64 k1, .int .i64 i1, .string s1], .agg #[.int .i64 k2, .int .i64 i2, .string s2]] (.bool true) := by
  obtain ⟨kn, inn, sn, jn, n1, n2⟩ := two_not k1 i1 s1 h1
  obtain ⟨kc, ic, sc, jc, c1, c2⟩ := two_and k1 i1 k2 i2 s1 s2 h1 h2
  obtain ⟨ke, ie, se, je, e1, e2⟩ := two_or k1 i1 k2 i2 s1 s2 h1 h2
  have q1 := equal_any k1 i1 s1 k2 i2 s2 h1 h2
  have q2 := requal_any k1 i1 s1 k2 i2 s2 h1 h2
  have l1 := less_any k1 i1 s1 k2 i2 s2 h1 h2
  have l2 := rless_any k1 i1 s1 k2 i2 s2 h1 h2
  obtain ⟨kq, iq, sq, hq⟩ := ansV_agg (fun c => c == 0) (cmp3 k1 i1 s1 k2 i2 s2)
  obtain ⟨kl, il, sl, hl⟩ := ansV_agg (fun c => decide (c < 0)) (cmp3 k1 i1 s1 k2 i2 s2)
  rw [hq] at q1 q2
  rw [hl] at l1 l2
  exact alike_core k1 i1 k2 i2 kn inn kc ic ke ie kq iq kl il s1 s2 sn sc se sq sl jn jc je _ _ _ _ n1 n2 c1 c2 e1 e2 q1 q2 l1 l2 (lvalid_any k1 i1 s1 h1) (rlvalid_any k1 i1 s1 h1) (istrue_any k1 i1 s1) (ristrue_any k1 i1 s1)
end
end Go.Proofs.YtmopojjhlbjhnaaDoor

namespace Go.Proofs.YtmopojjhlbjhnaaDoor
open Go.RowKit
set_option linter.unusedVariables false
set_option linter.unusedSimpArgs false

/-- Some value, drawn. -/
def DrawnO (w : World) (T : Nat) (e : Ending) (w' : World) : Prop :=
  ∃ (k i : Int) (s : ByteArray), e = .returned (.agg #[.int .i64 k, .int .i64 i, .string s]) ∧ s.size ≤ 100 ∧ Tp w' T ∧ w.grownBy w' (some T)

/-- Some value, drawn, its numbers Go's. -/
def DrawnO2 (w : World) (T : Nat) (e : Ending) (w' : World) : Prop :=
  ∃ (k i : Int) (s : ByteArray), e = .returned (.agg #[.int .i64 k, .int .i64 i, .string s]) ∧ (s.size ≤ 100 ∧ I64 k ∧ I64 i) ∧ Tp w' T ∧ w.grownBy w' (some T)
theorem validB_k2 {k i : Int} {s : ByteArray} (h : validB k i s = true) : I64 k := by
  unfold validB at h
  unfold I64
  split at h
  · omega
  · split at h
    · omega
    · split at h
      · omega
      · split at h
        · omega
        · cases h
theorem i64_wrap64 (x : Int) : I64 (wrap64 x) := by
  unfold I64 wrap64
  omega

/-- The state of Odd's walk: the value's box V, the result's box R. -/
structure OddSt (w : World) (T V R : Nat) (wr : World) (k i : Int) (s : ByteArray) : Prop where
  bv : Blk wr V 57 #[.int .i64 k, .int .i64 i, .string s]
  br : Blk wr R 57 #[.int .i64 0, .int .i64 0, .string ⟨#[]⟩]
  tp : Tp wr T
  gr : w.grownBy wr (some T)
  hi : I64 i
  hs : s.size ≤ 100

theorem OddSt.grown {w : World} {T V R : Nat} {wr w' : World} {k i : Int} {s : ByteArray} (h : OddSt w T V R wr k i s) (hV : T < V) (hR : T < R) (t : Tp w' T) (g : wr.grownBy w' (some T)) : OddSt w T V R w' k i s :=
  ⟨h.bv.grown g (by intro e; injection e with e; omega), h.br.grown g (by intro e; injection e with e; omega), t, only_trans h.gr g, h.hi, h.hs⟩

theorem OddSt.drew {w : World} {T V R : Nat} {wr : World} {k i : Int} {s : ByteArray} (h : OddSt w T V R wr k i s) : OddSt w T V R wr.drew k i s := ⟨h.bv, h.br, h.tp, only_drew h.gr, h.hi, h.hs⟩
theorem drawnO_mk {w w1 : World} {T g : Nat} {k i : Int} {s : ByteArray} (hk : I64 k) (hi : I64 i) (hs : s.size ≤ 100) (t1 : Tp w1 T) (hTg : T < g) (g1 : w.grownBy w1 (some T)) (hg : w.heap.size ≤ g) :
    DrawnO2 w T (.returned (.agg #[.int .i64 k, .int .i64 i, .string s])) (((w1.setCell ⟨g, 0, none⟩ (.int .i64 k)).setCell ⟨g, 1, none⟩ (.int .i64 i)).setCell ⟨g, 2, none⟩ (.string s)) :=
  ⟨k, i, s, rfl, ⟨hs, hk, hi⟩, tp_set3 t1 hTg _ _ _, only_set3 g1 hg _ _ _⟩

theorem DrawnO2.alloc {w w' : World} {T : Nat} {e : Ending} (h : DrawnO2 w T e w') (o : Obj) : DrawnO2 w T e (w'.alloc o) := by
  obtain ⟨k, i, s, h1, h2, h3, h4⟩ := h
  exact ⟨k, i, s, h1, h2, h3.alloc o, only_alloc h4 o⟩
theorem conv1 (W : World) (x : Int) : (convert 108 9 (.slice (some ⟨W.heap.size, 0, none⟩) 1 1)).run Tryd.prog (W.alloc (.cells #[.int .u8 x] 5)) = .ok (.string (strOfNums [x])) (W.alloc (.cells #[.int .u8 x] 5)) :=
  run_convert_bytes_arg _ _ _ Tryd.underlying108 Tryd.underlying5 W.heap.size 0 1 1 [x] rfl (fun i hi => by
    obtain rfl : i = 0 := by omega
    exact (Blk.new W 5 #[.int .u8 x]).cell 0) _ Tryd.underlying9

set_option maxHeartbeats 2000000 in
theorem odd2_any (T : Nat) (w : World) (ht : Tp w T) (hw : Wds w) (hT : 1 < T) :
    Calls Tryd.prog 36 #[.pointer (some ⟨T, 0, none⟩)] w fun e w' => DrawnO2 w T e w' := by
  have hlt := ht.lt
  have B0 := Blk.new w 57 #[.int .i64 0, .int .i64 0, .string ⟨#[]⟩]
  have t0 := ht.alloc (.cells #[.int .i64 0, .int .i64 0, .string ⟨#[]⟩] 57)
  have g0 : w.grownBy (w.alloc (.cells #[.int .i64 0, .int .i64 0, .string ⟨#[]⟩] 57)) (some T) := only_alloc (World.grownBy.refl _ _) _
  have w0 : Wds (w.alloc (.cells #[.int .i64 0, .int .i64 0, .string ⟨#[]⟩] 57)) := hw.grown g0 (by intro e; injection e with e; omega)
  go_enter Tryd.func36, Tryd.ntmps36
  go_wp2_with fail
  refine (value_any T _ t0 w0 hT).mono ?_
  rintro e w1 ⟨k, i, s, rfl, hv, hs, hi, t1, _, g1⟩
  have B1 := B0.grown g1 (by intro e; injection e with e; omega)
  have V1 := Blk.new w1 57 #[.int .i64 k, .int .i64 i, .string s]
  have R1 := B1.alloc (.cells #[.int .i64 k, .int .i64 i, .string s] 57)
  have t2 := t1.alloc (.cells #[.int .i64 k, .int .i64 i, .string s] 57)
  have g2 := only_alloc (only_trans g0 g1) (.cells #[.int .i64 k, .int .i64 i, .string s] 57)
  have hRV : w.heap.size < w1.heap.size := B1.lt
  have HK := hid (validB_k2 hv)
  have HI := hid hi
  clear hv w0 t0 B0 g0 g1 B1 t1
  go_wp2_with fail
  refine (next_any T 5 _ t2 (by omega) (by omega)).mono ?_
  rintro e w2 ⟨x, rfl, x0, x1, t3, g3⟩
  have hTV : T < w1.heap.size := by omega
  have V2 := V1.grown g3 (by intro e; injection e with e; omega)
  have R2 := R1.grown g3 (by intro e; injection e with e; omega)
  have g4 := only_trans g2 g3
  have ST : OddSt w T w1.heap.size w.heap.size w2 k i s := ⟨V2, R2, t3, g4, hi, by omega⟩
  clear V1 R1 t2 g2 g3 V2 R2 t3 g4
  obtain ⟨V, hV⟩ : ∃ V, V = w1.heap.size := ⟨_, rfl⟩
  rw [← hV] at ST hRV hTV ⊢
  clear hV
  have hcase : x = 0 ∨ x = 1 ∨ x = 2 ∨ x = 3 ∨ x = 4 := by omega
  rcases hcase with rfl | rfl | rfl | rfl | rfl
  · go_wp2_with fail
    refine (next_any T 7 _ ST.tp (by omega) (by omega)).mono ?_
    rintro e w3 ⟨y, rfl, y0, y1, t3, g3⟩
    have S3 := ST.grown hTV hlt t3 g3
    obtain ⟨c0, c1, c2, cl⟩ := S3.bv.c3
    obtain ⟨r0, r1, r2, rl⟩ := S3.br.c3
    have f0 := S3.bv.frozen 0; have f1 := S3.bv.frozen 1; have f2 := S3.bv.frozen 2
    have q0 := S3.br.frozen 0; have q1 := S3.br.frozen 1; have q2 := S3.br.frozen 2
    go_wp2
    exact bodyPost_ret (v := .agg #[.int .i64 (y - 2), .int .i64 i, .string s]) (by simp [results, Tryd.results36, go_sem, c0, c1, c2, r0, r1, r2]) rfl (drawnO_mk (by unfold I64; omega) HI.out S3.hs (Tp.setCell (p := ⟨V, 0, none⟩) S3.tp hTV _) hlt (only_setCell (p := ⟨V, 0, none⟩) S3.gr (.inr (Nat.le_of_lt hRV)) _) (Nat.le_refl _))
  · obtain ⟨c0, c1, c2, cl⟩ := ST.bv.c3
    obtain ⟨r0, r1, r2, rl⟩ := ST.br.c3
    have f0 := ST.bv.frozen 0; have f1 := ST.bv.frozen 1; have f2 := ST.bv.frozen 2
    have q0 := ST.br.frozen 0; have q1 := ST.br.frozen 1; have q2 := ST.br.frozen 2
    go_wp2
    have HJ := hid (i64_wrap64 (i + 1))
    generalize wrap64 (i + 1) = j at HJ ⊢
    exact bodyPost_ret (v := .agg #[.int .i64 k, .int .i64 j, .string s]) (by simp [results, Tryd.results36, go_sem, c0, c1, c2, r0, r1, r2]) rfl (drawnO_mk HK.out HJ.out ST.hs (Tp.setCell (p := ⟨V, 1, none⟩) ST.tp hTV _) hlt (only_setCell (p := ⟨V, 1, none⟩) ST.gr (.inr (Nat.le_of_lt hRV)) _) (Nat.le_refl _))
  · obtain ⟨c0, c1, c2, cl⟩ := ST.bv.c3
    obtain ⟨r0, r1, r2, rl⟩ := ST.br.c3
    have f0 := ST.bv.frozen 0; have f1 := ST.bv.frozen 1; have f2 := ST.bv.frozen 2
    have q0 := ST.br.frozen 0; have q1 := ST.br.frozen 1; have q2 := ST.br.frozen 2
    go_wp2_with fail
    have kc := conv1
    have hsz := ST.hs
    have hsb : ∀ y : Int, (s ++ strOfNums [y]).size ≤ 100 := fun y => by
      rw [ByteArray.size_append, strOfNums_size]; simp only [List.length_cons, List.length_nil]; omega
    have hss : ∀ x, (strOfNums [x]).size = 1 := fun x => strOfNums_size [x]
    go_region_with (first
      | (go_at_call 24; refine (next_any T 256 _ (Tp.drew ST.tp) (by omega) (by omega)).mono ?_; rintro e w3 ⟨y, rfl, y0, y1, t3, g3⟩; have S3 := OddSt.grown (OddSt.drew ST) hTV hlt t3 g3; obtain ⟨c30, c31, c32, c3l⟩ := S3.bv.c3; obtain ⟨r30, r31, r32, r3l⟩ := S3.br.c3; have f30 := S3.bv.frozen 2; have q30 := S3.br.frozen 0; have q31 := S3.br.frozen 1; have q32 := S3.br.frozen 2))
    all_goals
      go_wp2
      refine bodyPost_ret (v := .agg #[.int .i64 k, .int .i64 i, .string (s ++ strOfNums [y])]) (by simp [results, Tryd.results36, go_sem, c30, c31, c32, r30, r31, r32, c3l, r3l]) rfl ?_
      refine DrawnO2.alloc ?_ _
      exact drawnO_mk HK.out HI.out (hsb y) (Tp.setCell (p := ⟨V, 2, none⟩) S3.tp hTV _) hlt (only_setCell (p := ⟨V, 2, none⟩) S3.gr (.inr (Nat.le_of_lt hRV)) _) (Nat.le_refl _)
  · obtain ⟨c0, c1, c2, cl⟩ := ST.bv.c3
    obtain ⟨r0, r1, r2, rl⟩ := ST.br.c3
    have f0 := ST.bv.frozen 0; have f1 := ST.bv.frozen 1; have f2 := ST.bv.frozen 2
    have q0 := ST.br.frozen 0; have q1 := ST.br.frozen 1; have q2 := ST.br.frozen 2
    go_wp2_with fail
    have g5 := only_set3 ST.gr (Nat.le_of_lt hRV) (.int .i64 3) (.int .i64 0) (.string ⟨#[]⟩)
    have bv5 : Blk (((w2.setCell ⟨V, 0, none⟩ (.int .i64 3)).setCell ⟨V, 1, none⟩ (.int .i64 0)).setCell ⟨V, 2, none⟩ (.string ⟨#[]⟩)) V 57 #[.int .i64 3, .int .i64 0, .string ⟨#[]⟩] := by
      have := ((ST.bv.set_ 0 (.int .i64 3)).set_ 1 (.int .i64 0)).set_ 2 (.string ⟨#[]⟩)
      simpa using this
    have br5 : Blk (((w2.setCell ⟨V, 0, none⟩ (.int .i64 3)).setCell ⟨V, 1, none⟩ (.int .i64 0)).setCell ⟨V, 2, none⟩ (.string ⟨#[]⟩)) w.heap.size 57 #[.int .i64 0, .int .i64 0, .string ⟨#[]⟩] :=
      Blk.far (p := ⟨V, 2, none⟩) (Blk.far (p := ⟨V, 1, none⟩) (Blk.far (p := ⟨V, 0, none⟩) ST.br (Nat.ne_of_lt hRV) _) (Nat.ne_of_lt hRV) _) (Nat.ne_of_lt hRV) _
    have S5 : OddSt w T V w.heap.size _ 3 0 ⟨#[]⟩ := ⟨bv5, br5, tp_set3 ST.tp hTV _ _ _, g5, by unfold I64; omega, by decide⟩
    refine (next_any T 8 _ S5.tp (by omega) (by omega)).mono ?_
    rintro e w3 ⟨y, rfl, y0, y1, t3, g3⟩
    have S6 := OddSt.grown S5 hTV hlt t3 g3
    clear S5 bv5 br5 g5 c0 c1 c2 cl r0 r1 r2 rl f0 f1 f2 q0 q1 q2 ST g3 t3 hi
    go_wp2_with fail
    go_loopw [4] (fun j wr => ∃ (n : Nat) (s : ByteArray), j = .int .i64 n ∧ s.size + n ≤ 67 ∧ OddSt w T V w.heap.size wr 3 0 s) (fun j _ => (intOf j).toNat)
    case atStart => exact ⟨(60 + y).toNat, ⟨#[]⟩, by congr 1; omega, by simp [ByteArray.size]; omega, S6⟩
    case round =>
      obtain ⟨n, s, rfl, hsn, SS⟩ := hrel
      obtain ⟨c0, c1, c2, cl⟩ := SS.bv.c3
      obtain ⟨r0, r1, r2, rl⟩ := SS.br.c3
      have f0 := SS.bv.frozen 0; have f1 := SS.bv.frozen 1; have f2 := SS.bv.frozen 2
      have q0 := SS.br.frozen 0; have q1 := SS.br.frozen 1; have q2 := SS.br.frozen 2
      by_cases hn : 0 < n
      · obtain ⟨m, rfl⟩ : ∃ m, n = m + 1 := ⟨n - 1, by omega⟩
        have hbv := SS.bv.set_ 2 (.string (s ++ ⟨#[120]⟩))
        have hbr := SS.br.far (p := ⟨V, 2, none⟩) (Nat.ne_of_lt hRV) (.string (s ++ ⟨#[120]⟩))
        have hsz : (s ++ ⟨#[120]⟩ : ByteArray).size = s.size + 1 := by rw [ByteArray.size_append]; rfl
        have hS := hid (OddSt.mk (w := w) (T := T) (V := V) (R := w.heap.size) (k := 3) (i := 0) (s := s ++ ⟨#[120]⟩) (by simpa using hbv) hbr (Tp.setCell (p := ⟨V, 2, none⟩) SS.tp hTV _) (only_setCell (p := ⟨V, 2, none⟩) SS.gr (.inr (Nat.le_of_lt hRV)) _) SS.hi (by omega))
        have HZ := hid hsz
        clear hbv hbr hsz
        go_wp2_with fail
        refine ⟨⟨m, s ++ ⟨#[120]⟩, rfl, by have := HZ.out; omega, hS.out⟩, by simp [intOf]⟩
      · obtain rfl : n = 0 := by omega
        go_wp2
        refine bodyPost_ret (v := .agg #[.int .i64 3, .int .i64 0, .string s]) (by simp [results, Tryd.results36, go_sem, c0, c1, c2, r0, r1, r2]) rfl ?_
        exact drawnO_mk (by unfold I64; omega) (by unfold I64; omega) SS.hs SS.tp hlt SS.gr (Nat.le_refl _)
  · obtain ⟨c0, c1, c2, cl⟩ := ST.bv.c3
    obtain ⟨r0, r1, r2, rl⟩ := ST.br.c3
    have f0 := ST.bv.frozen 0; have f1 := ST.bv.frozen 1; have f2 := ST.bv.frozen 2
    have q0 := ST.br.frozen 0; have q1 := ST.br.frozen 1; have q2 := ST.br.frozen 2
    go_wp2
    exact bodyPost_ret (v := .agg #[.int .i64 k, .int .i64 i, .string s]) (by simp [results, Tryd.results36, go_sem, c0, c1, c2, r0, r1, r2]) rfl (drawnO_mk HK.out HI.out ST.hs ST.tp hlt ST.gr (Nat.le_refl _))
theorem odd_any (T : Nat) (w : World) (ht : Tp w T) (hw : Wds w) (hT : 1 < T) :
    Calls Tryd.prog 36 #[.pointer (some ⟨T, 0, none⟩)] w fun e w' => DrawnO w T e w' :=
  (odd2_any T w ht hw hT).mono fun e w' ⟨k, i, s, h1, h2, h3, h4⟩ => ⟨k, i, s, h1, h2.1, h3, h4⟩
end Go.Proofs.YtmopojjhlbjhnaaDoor

namespace Go.Proofs.YtmopojjhlbjhnaaDoor
open Go.RowKit
set_option linter.unusedVariables false
set_option linter.unusedSimpArgs false

set_option maxHeartbeats 400000 in
theorem rnumber_any (n : Int) : Gives 37 #[.int .i64 n] (.agg #[.int .i64 1, .int .i64 n, .string ⟨#[]⟩]) := by
  intro w
  go_enter Tryd.func37, Tryd.ntmps37
  go_wp2
  refine bodyPost_ret (v := .agg #[.int .i64 1, .int .i64 n, .string ⟨#[]⟩]) (by simp [results, Tryd.results37, go_sem]) rfl ⟨rfl, ?_⟩
  exact (Below.refl _ _).alloc (Nat.le_refl _) _

theorem six_ {w : World} {a b : Nat} {t : TypeId} {x0 x1 x2 y0 y1 y2 : Value} (ha : Blk w a t #[x0, x1, x2]) (hb : Blk w b t #[y0, y1, y2]) :
    w.cell? ⟨a, 0, none⟩ = some x0 ∧ w.cell? ⟨a, 1, none⟩ = some x1 ∧ w.cell? ⟨a, 2, none⟩ = some x2 ∧ w.cell? ⟨b, 0, none⟩ = some y0 ∧ w.cell? ⟨b, 1, none⟩ = some y1 ∧ w.cell? ⟨b, 2, none⟩ = some y2 :=
  ⟨ha.cell 0, ha.cell 1, ha.cell 2, hb.cell 0, hb.cell 1, hb.cell 2⟩
theorem Wds.ro {w : World} {M : Nat → Prop} (h : Wds w) (hM : ¬ M 1) : Ro w M Wds := fun w2 _ h2 => h.keep (h2 _ h.lt hM)

/-- n values lie in block g, one behind the other, each with a text that fits. -/
def ValsAt (g n : Nat) (w : World) : Prop := ∀ k, k < n → ∃ (x i : Int) (s : ByteArray), s.size ≤ maxLen ∧ w.cell? ⟨g, k * 3, none⟩ = some (.int .i64 x) ∧ w.cell? ⟨g, k * 3 + 1, none⟩ = some (.int .i64 i) ∧ w.cell? ⟨g, k * 3 + 2, none⟩ = some (.string s)
theorem valsAt_8 {w : World} {g : Nat} {t : TypeId} {x0 x1 x2 x3 x4 x5 x6 x7 i0 i1 i2 i3 i4 i5 i6 i7 : Int} {s0 s1 s2 s3 s4 s5 s6 s7 : ByteArray}
    (h0 : s0.size ≤ maxLen) (h1 : s1.size ≤ maxLen) (h2 : s2.size ≤ maxLen) (h3 : s3.size ≤ maxLen) (h4 : s4.size ≤ maxLen) (h5 : s5.size ≤ maxLen) (h6 : s6.size ≤ maxLen) (h7 : s7.size ≤ maxLen)
    (h : w.heap[g]? = some (.cells #[.int .i64 x0, .int .i64 i0, .string s0, .int .i64 x1, .int .i64 i1, .string s1, .int .i64 x2, .int .i64 i2, .string s2, .int .i64 x3, .int .i64 i3, .string s3, .int .i64 x4, .int .i64 i4, .string s4, .int .i64 x5, .int .i64 i5, .string s5, .int .i64 x6, .int .i64 i6, .string s6, .int .i64 x7, .int .i64 i7, .string s7] t (0, 0))) : ValsAt g 8 w := by
  have hb : Blk w g t _ := h
  intro k hk
  obtain rfl | rfl | rfl | rfl | rfl | rfl | rfl | rfl : k = 0 ∨ k = 1 ∨ k = 2 ∨ k = 3 ∨ k = 4 ∨ k = 5 ∨ k = 6 ∨ k = 7 := by omega
  · exact ⟨_, _, _, h0, hb.cell 0, hb.cell 1, hb.cell 2⟩
  · exact ⟨_, _, _, h1, hb.cell 3, hb.cell 4, hb.cell 5⟩
  · exact ⟨_, _, _, h2, hb.cell 6, hb.cell 7, hb.cell 8⟩
  · exact ⟨_, _, _, h3, hb.cell 9, hb.cell 10, hb.cell 11⟩
  · exact ⟨_, _, _, h4, hb.cell 12, hb.cell 13, hb.cell 14⟩
  · exact ⟨_, _, _, h5, hb.cell 15, hb.cell 16, hb.cell 17⟩
  · exact ⟨_, _, _, h6, hb.cell 18, hb.cell 19, hb.cell 20⟩
  · exact ⟨_, _, _, h7, hb.cell 21, hb.cell 22, hb.cell 23⟩

set_option maxHeartbeats 4000000 in
theorem forms_walk (ka ia kb ib : Int) (sa sb : ByteArray) (ha : sa.size ≤ maxLen) (hb : sb.size ≤ maxLen) (A : Option Addr) (n c : Nat) (zs : List Int) (w : World) (hr : Rd w w.heap.size 1 A n (zs.map (Value.int .i64))) (hz : Ints zs) (hn : n ≤ c) (hc : c ≤ 9223372036854775807) (hw : Wds w) :
    Calls Tryd.prog 7 #[.agg #[.int .i64 ka, .int .i64 ia, .string sa], .agg #[.int .i64 kb, .int .i64 ib, .string sb], .slice A n c] w fun e w' => e = .returned (.bool true) ∧ Below w.heap.size w w' := by
  have hwl := hw.lt
  have K0 := Hold.begin_ w
  go_enter Tryd.func7, Tryd.ntmps7
  go_wp2_with fail
  refine (new_any A n c zs _ (((hr.alloc (Nat.le_refl _) _).alloc (by simp) _).more (by simp; omega)) hz hn hc).mono ?_
  rintro e w1 ⟨T, rfl, hT, t1, b1⟩
  have K1 := Hold.newTape ((K0.alloc_cst _ _).alloc_cst _ _) b1 t1 hT (by simp [Mut, None_, Hp.foot])
  have wd0 : Wds w1 := (hw.below (ext2 w _ _) hwl).below b1 (by simp)
  have hT1 : 1 < T := by simp at hT; omega
  have K2 := K1.add (wd0.ro (by simp [Mut, None_, Hp.foot]; omega))
  clear K1 K0 wd0 t1 b1 hw hr
  simp only [World.size_alloc] at K2
  go_wp2_with fail
  go_region_held3 (fun w' => w'.cell? ⟨w.heap.size, 0, none⟩ = some (.int .i64 ka) ∧ w'.cell? ⟨w.heap.size, 1, none⟩ = some (.int .i64 ia) ∧ w'.cell? ⟨w.heap.size, 2, none⟩ = some (.string sa) ∧ w'.cell? ⟨w.heap.size + 1, 0, none⟩ = some (.int .i64 kb) ∧ w'.cell? ⟨w.heap.size + 1, 1, none⟩ = some (.int .i64 ib) ∧ w'.cell? ⟨w.heap.size + 1, 2, none⟩ = some (.string sb))
    (first | exact six_ (K2.cst_ 3 rfl) (K2.cst_ 2 rfl) | exact six_ (K3.cst_ 3 rfl) (K3.cst_ 2 rfl) | exact six_ (K4.cst_ 3 rfl) (K4.cst_ 2 rfl) | exact six_ (K5.cst_ 3 rfl) (K5.cst_ 2 rfl) | exact six_ (K6.cst_ 3 rfl) (K6.cst_ 2 rfl) | exact six_ (K7.cst_ 3 rfl) (K7.cst_ 2 rfl) | exact six_ (K8.cst_ 3 rfl) (K8.cst_ 2 rfl) | exact six_ ((K8.cst_ 3 rfl).alloc _) ((K8.cst_ 2 rfl).alloc _))
    (first
      | (go_at_call 34; ((with_reducible refine (rtr_t _).mono ?_); rintro e w3 ⟨rfl, b3⟩; have K3 := Hold.call K2.drew b3))
      | (go_at_call 34; ((with_reducible refine (rtr_f _).mono ?_); rintro e w4 ⟨rfl, b4⟩; have K4 := Hold.call K3 b4))
      | (go_at_call 35; refine (value_any T _ (K4.tp_ 1 rfl) (K4.ro 0 rfl).now hT1).mono ?_; rintro e w5 ⟨k5, i5, s5, rfl, v5, z5, y5, t5, d5, g5⟩; have K5 := Hold.callT K4 1 rfl g5 t5)
      | (go_at_call 36; refine (odd_any T _ (K5.tp_ 1 rfl) (K5.ro 0 rfl).now hT1).mono ?_; rintro e w6 ⟨k6, i6, s6, rfl, z6, t6, g6⟩; have K6 := Hold.callT K5 1 rfl g6 t6)
      | (go_at_call 38; refine (number_any T _ (K6.tp_ 1 rfl)).mono ?_; rintro e w7 ⟨x7, rfl, y7, t7, g7⟩; have K7 := Hold.callT K6 1 rfl g7 t7)
      | (go_at_call 37; refine (rnumber_any _ _).mono ?_; rintro e w8 ⟨rfl, b8⟩; have K8 := Hold.call K7 b8))
  have K9 := K8.alloc_cst #[.int .i64 ka, .int .i64 ia, .string sa, .int .i64 kb, .int .i64 ib, .string sb, .int .i64 0, .int .i64 0, .string ⟨#[]⟩, .int .i64 2, .int .i64 1, .string ⟨#[]⟩, .int .i64 2, .int .i64 0, .string ⟨#[]⟩, .int .i64 k5, .int .i64 i5, .string s5, .int .i64 k6, .int .i64 i6, .string s6, .int .i64 1, .int .i64 x7, .string ⟨#[]⟩] 57
  have hP := (show Ro _ _ (fun w => w.heap[w8.heap.size]? = some (.cells #[.int .i64 ka, .int .i64 ia, .string sa, .int .i64 kb, .int .i64 ib, .string sb, .int .i64 0, .int .i64 0, .string ⟨#[]⟩, .int .i64 2, .int .i64 1, .string ⟨#[]⟩, .int .i64 2, .int .i64 0, .string ⟨#[]⟩, .int .i64 k5, .int .i64 i5, .string s5, .int .i64 k6, .int .i64 i6, .string s6, .int .i64 1, .int .i64 x7, .string ⟨#[]⟩] 57 (0, 0))) from K9.get 0 rfl).imp (fun _ => valsAt_8 ha hb size0 size0 size0 (by unfold maxLen; omega) (by unfold maxLen; omega) size0)
  have KP := (K9.add hP).drop (L' := [.ro (ValsAt w8.heap.size 8)]) (List.singleton_sublist.2 (List.mem_cons_self ..))
  clear K9 K8 K7 K6 K5 K4 K3 K2 hP
  go_wp2_with fail
  go_loopw [30] (fun i wr => ∃ k : Nat, k ≤ 8 ∧ i = .int .i64 k ∧ Hold None_ none w wr [.ro (ValsAt w8.heap.size 8)]) (fun i _ => 8 - (intOf i).toNat)
  case atStart => exact ⟨0, by omega, rfl, KP⟩
  case round =>
    obtain ⟨k, hk, rfl, H⟩ := hrel
    by_cases hlt : k < 8
    · obtain ⟨x, i, s, hs, c0, c1, c2⟩ := (H.ro 0 rfl).now k hlt
      have hd : decide ((k : Int) < 8) = true := by simp; omega
      go_wp2_with fail
      have KA := H.alloc_cst #[.int .i64 x, .int .i64 i, .string s] 57
      go_loopw [6, 12, 36] (fun _ _ j wq => ∃ m : Nat, m ≤ 8 ∧ j = .int .i64 m ∧ Hold None_ none w wq [.cst wr.heap.size 57 #[.int .i64 x, .int .i64 i, .string s], .ro (ValsAt w8.heap.size 8)]) (fun _ _ j _ => 8 - (intOf j).toNat)
      case atStart => exact ⟨0, by omega, rfl, KA⟩
      case round =>
        obtain ⟨m, hm, rfl, H2⟩ := hrel
        by_cases hlt2 : m < 8
        · obtain ⟨y, i', s', hs', d0, d1, d2⟩ := (H2.ro 1 rfl).now m hlt2
          have KB := H2.alloc_cst #[.int .i64 y, .int .i64 i', .string s'] 57
          have F2 := H2.facts
          simp only [factsL, cellsF, List.toList_toArray, and_true, true_and] at F2
          go_wp2_with fail
          refine (alike_any x i y i' s s' hs hs' _).mono ?_
          rintro e w10 ⟨rfl, b10⟩
          have KC := (Hold.call KB b10).drop (L' := [.cst _ 57 #[.int .i64 x, .int .i64 i, .string s], .ro (ValsAt w8.heap.size 8)]) (List.sublist_cons_self _ _)
          clear KB b10 F2 H2
          go_wp2_with fail
          go_roundw
          case rel => exact ⟨m + 1, by omega, by go_num, KC⟩
          case measure => simp [intOf]; omega
        · go_wp2_with fail
          go_roundw
          case rel => exact ⟨k + 1, by omega, by go_num, H2.drop (List.sublist_cons_self _ _)⟩
          case measure => simp [intOf]; omega
    · go_wp2_with fail
      refine (known2 _).mono ?_
      rintro e w10 ⟨rfl, b10⟩
      go_wp2_with fail
      go_ret
      exact ⟨rfl, (H.call b10).below⟩
end Go.Proofs.YtmopojjhlbjhnaaDoor

namespace Go.Proofs.YtmopojjhlbjhnaaDoor
open Go.ChangeShapes Go.WideShapes Go.ChangeAt Go.RowKit
set_option linter.unusedVariables false
set_option linter.unusedSimpArgs false

namespace LawLogicForms
set_option maxRecDepth 100000 in
theorem contract (H : Type) (enc : TypeId × Value → H) (W : World) (base : Nat) (args : Array Value) (ds gs : List (DataW H)) (before : List MemPlace)
    (hval0 : ∀ (j : Nat) t v, Tryd.f7.params[j]? = some t → args[j]? = some v → Value.okWide Tryd.prog W .any base t v)
    (hsz0 : (DataW.weightsEach Tryd.prog (Tryd.f7.params.toList ++ Rows.logicFormsSpec.plain.varTypes Tryd.prog) (ds ++ gs)).all (· ≤ reachBytes) = true)
    (hW : DataW.Whole enc Tryd.prog Tryd.f7.params.toList Rows.logicFormsSpec.vars false W args.toList ds gs before) (hL : laidMetH Tryd.prog Rows.logicFormsRow.laid W) :
    Calls Tryd.prog 7 args W fun e W' => ∃ v, e = .returned v ∧ Rows.logicFormsSpec.post enc Tryd.prog Tryd.f7 false true false false W args v W' := by
  have hsz : (DataW.weightsEach Tryd.prog (Tryd.f7.params.toList ++ Rows.logicFormsSpec.plain.varTypes Tryd.prog) (ds ++ gs)).all (· ≤ reachBytes) = true := hsz0
  have hval : ∀ (j : Nat) t v, Tryd.f7.params[j]? = some t → args[j]? = some v → Value.okWide Tryd.prog W .any base t v := hval0
  have hW' := hW
  obtain ⟨p, q, hA0, hV, rfl, hfz, hnd⟩ := hW
  have hA : DataW.TrodAll enc Tryd.prog W 0 (fun _ => true) true Tryd.f7.params.toList args.toList ds p := hA0
  rw [Tryd.params7] at hA hval hsz
  obtain ⟨v0, vs0, d0, ds0, p0, q0, hargs, rfl, rfl, h0, r0⟩ := trodAll_cons hA
  obtain ⟨v1, vs1, d1, ds1, p1, q1, rfl, rfl, rfl, h1, r1⟩ := trodAll_cons r0
  obtain ⟨v2, vs2, d2, ds2, p2, q2, rfl, rfl, rfl, h2, r2⟩ := trodAll_cons r1
  obtain ⟨rfl, rfl, rfl⟩ := trodAll_nil r2
  obtain rfl : args = #[v0, v1, v2] := by cases args; simp_all
  obtain ⟨rfl, rfl⟩ := trodVars_none hV
  obtain ⟨ka0, ia0, sa0, rfl, wk0, wi0, ws0⟩ := open_vl Tryd.underlying57 (by kernel_rfl) (by kernel_rfl) Tryd.underlying3 Tryd.underlying2 Tryd.underlying9 (hval 0 57 v0 rfl rfl) h0
  obtain ⟨ka1, ia1, sa1, rfl, wk1, wi1, ws1⟩ := open_vl Tryd.underlying57 (by kernel_rfl) (by kernel_rfl) Tryd.underlying3 Tryd.underlying2 Tryd.underlying9 (hval 1 57 v1 rfl rfl) h1
  obtain ⟨A2, n2, c2, zs2, rfl, k2, z2, l2, m2, e2⟩ := open_i64s Tryd.underlying23 Tryd.underlying3 (by kernel_rfl) (hval 2 23 v2 rfl rfl) h2
  refine (forms_walk ka0 ia0 ka1 ia1 sa0 sa1 ws0 ws1 A2 n2 c2 zs2 W k2 z2 l2 (by unfold maxLen at m2; omega) (wds_of_laid (rest := []) hL)).mono fun e W' ⟨he, hb⟩ => ?_
  exact ⟨_, he, law_post rfl laidOut (by kernel_rfl) (by kernel_rfl) Tryd.underlying4 rfl hW' hb⟩

theorem laid_met (os : Os) : laidMet Tryd.prog Rows.logicFormsRow.laid ((wordsWorld os).forCall (fun _ _ => 0) ⟨#[], #[.agg #[.int .i64 0, .int .i64 0, .string ⟨#[]⟩], .agg #[.int .i64 0, .int .i64 0, .string ⟨#[]⟩], .slice none 0 0], []⟩).memory :=
  laidMet_of_run' 16 (by kernel_rfl) (by kernel_rfl)
theorem reads (os : Os) {H : Type} (enc : TypeId × Value → H) : ∃ places, DataW.whole enc Tryd.prog ((wordsWorld os).forCall (fun _ _ => 0) ⟨#[], #[.agg #[.int .i64 0, .int .i64 0, .string ⟨#[]⟩], .agg #[.int .i64 0, .int .i64 0, .string ⟨#[]⟩], .slice none 0 0], []⟩).memory Tryd.f7.params.toList Rows.logicFormsSpec.vars false #[.agg #[.int .i64 0, .int .i64 0, .string ⟨#[]⟩], .agg #[.int .i64 0, .int .i64 0, .string ⟨#[]⟩], .slice none 0 0].toList 8 = some ([.agg [.lit (.int .i64 0), .lit (.int .i64 0), .lit (.string [])], .agg [.lit (.int .i64 0), .lit (.int .i64 0), .lit (.string [])], .nil], [], places) :=
  ⟨[], by kernel_rfl⟩

set_option maxRecDepth 100000 in
theorem lifted (os : Os) (started : os.Started) (H : Type) (enc : TypeId × Value → H) (F : Stop.Interp) :
    ReturnsInHanded {} Tryd.checked os 7 .any ((OpenSpec.ofChange Rows.logicFormsSpec).preRow enc Tryd.prog Tryd.f7 Rows.logicFormsRow.domain false Rows.logicFormsRow.laid) (((OpenSpec.ofChange Rows.logicFormsSpec).at F).post enc Tryd.prog Tryd.f7 false true false false) := by
  obtain ⟨places, hx⟩ := reads os enc
  refine returnsInHanded_of_row (C := Tryd.checked) (s := OpenSpec.ofChange Rows.logicFormsSpec) own started (by kernel_rfl) Tryd.func7
    (witness_row_at (enc := enc) (C := Tryd.checked) false (wordsWorld os) #[.agg #[.int .i64 0, .int .i64 0, .string ⟨#[]⟩], .agg #[.int .i64 0, .int .i64 0, .string ⟨#[]⟩], .slice none 0 0] rfl (by kernel_rfl) (by kernel_rfl) (by kernel_rfl)
      (OpenSpec.preRow_of_cond 8 hx (by kernel_rfl) (fun k hk => by cases hk) (by kernel_rfl) (laid_met os))) ?_
  intro W base args ds gs before hval hW _ _ hsz0 hL _ _
  exact contract H enc W base args ds gs before hval hsz0 hW hL

theorem said : Rows.LogicFormsSaid :=
  OpenClaim.holds_of_cond 7 Tryd.f7 rfl rfl rfl rfl rfl rfl rfl ⟨rfl, rfl, rfl, rfl, rfl⟩ rfl rfl rfl rfl rfl (by kernel_rfl) Tryd.func7 (by kernel_rfl)
    (of_decide_eq_true (by kernel_rfl)) (by unfold Func.isWrapper; first | (rw [if_pos (by decide +kernel)]; kernel_rfl) | (rw [if_neg (by decide +kernel)]; exact ⟨rfl, rfl⟩))
    (fun os started H enc _ F => by rw [OpenClaim.pre_eq_preRow]; exact lifted os started H enc F)

theorem plain (f : FuncId) (fn : Func) (hf : Tryd.pinned.checked.prog.funcNamed "triggerstore/triggerstorelaw2.LogicForms" = some f) (hfn : Tryd.pinned.checked.prog.funcs[f]? = some fn) :
    false = Tryd.pinned.checked.prog.looks [] ∧ ∀ (j : Nat) t, fn.params[j]? = some t → Tryd.pinned.checked.prog.wantsStandIn t = false := by
  obtain rfl : f = 7 := Option.some.inj ((show Tryd.prog.funcNamed "triggerstore/triggerstorelaw2.LogicForms" = some 7 by kernel_rfl).symm.trans hf) |>.symm
  obtain rfl : fn = Tryd.f7 := (Option.some.inj (Tryd.func7.symm.trans hfn)).symm
  refine ⟨by kernel_rfl, fun j t ht => ?_⟩
  rw [Tryd.params7] at ht
  have hm := Array.mem_of_getElem? ht
  simp only [List.mem_toArray, List.mem_cons, List.not_mem_nil, or_false] at hm
  rcases hm with rfl | rfl | rfl
  · exact (show Tryd.prog.wantsStandIn 57 = false by kernel_rfl)
  · exact (show Tryd.prog.wantsStandIn 57 = false by kernel_rfl)
  · exact (show Tryd.prog.wantsStandIn 23 = false by kernel_rfl)
end LawLogicForms

theorem logicForms_holds : Rows.LogicFormsCardSaid :=
  Claim7.holds_tied_plain_at .later [] _ _ _ _ LawLogicForms.said (fun _ h => by cases h) (by kernel_rfl) (fun _ h => by cases h) logicForms_row_tie rfl ⟨rfl, rfl⟩ (by kernel_rfl) rfl LawLogicForms.plain (by kernel_rfl)
#print axioms logicForms_holds
end Go.Proofs.YtmopojjhlbjhnaaDoor

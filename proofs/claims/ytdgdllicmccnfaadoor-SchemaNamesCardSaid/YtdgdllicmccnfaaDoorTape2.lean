/- The contracts of the tape's draws of bools, words and values. -/
import Derived.Test.YtdgdllicmccnfaaDoorTape
import Derived.Test.YtdgdllicmccnfaaDoorVal
import Derived.Test.YtdgdllicmccnfaaDoorBoxes
import Derived.Deep.RegionHeld3
namespace Go.Proofs.YtdgdllicmccnfaaDoor
open Go.RowKit
set_option linter.unusedVariables false
set_option linter.unusedSimpArgs false

def DrawnB (w : World) (T : Nat) (e : Ending) (w' : World) : Prop :=
  ∃ b : Bool, e = .returned (.bool b) ∧ Tp w' T ∧ w.grownBy w' (some T)

set_option maxHeartbeats 400000 in
theorem bool_any (T : Nat) (n : Int) (w : World) (ht : Tp w T) (h0 : 0 < n) (h1 : n ≤ 9223372036854775807) :
    Calls Tryd.prog 19 #[.pointer (some ⟨T, 0, none⟩), .int .i64 n] w fun e w' => DrawnB w T e w' := by
  go_enter Tryd.func19, Tryd.ntmps19
  go_wp2_with fail
  refine (next_any T n _ ht h0 h1).mono ?_
  rintro e w1 ⟨r, rfl, r0, r1, t1, g1⟩
  go_wp2
  go_ret
  exact ⟨_, rfl, t1, g1⟩

/-- The table of words: six texts that are valid. -/
def Wds (w : World) : Prop := ∀ j, j < 6 → ∃ s : ByteArray, w.cell? ⟨1, j, none⟩ = some (.string s) ∧ plainB s = true ∧ s.size ≤ 4
theorem Wds.keep {w w' : World} (h : Wds w) (hk : w'.heap[1]? = w.heap[1]?) : Wds w' := fun j hj => by
  obtain ⟨s, h1, h2⟩ := h j hj
  exact ⟨s, (World.cell?_of_block (w := w) (a := ⟨1, j, none⟩) hk).trans h1, h2⟩
theorem Wds.below {w w' : World} {B : Nat} (h : Wds w) (hb : Below B w w') (hB : 1 < B) : Wds w' := h.keep (hb.block _ hB)
theorem Wds.lt {w : World} (h : Wds w) : 1 < w.heap.size := by
  obtain ⟨s, h1, _⟩ := h 0 (by omega)
  exact World.block_lt_of_cell? w ⟨1, 0, none⟩ h1
theorem Wds.grown {w w' : World} {row : Option Nat} (h : Wds w) (hg : w.grownBy w' row) (hr : some 1 ≠ row) : Wds w' := h.keep (hg.block _ h.lt hr)

def DrawnS (w : World) (T : Nat) (e : Ending) (w' : World) : Prop :=
  ∃ s : ByteArray, e = .returned (.string s) ∧ plainB s = true ∧ s.size ≤ 4 ∧ Tp w' T ∧ w.grownBy w' (some T)

set_option maxHeartbeats 400000 in
theorem word_any (T : Nat) (w : World) (ht : Tp w T) (hw : Wds w) (hT : 1 < T) :
    Calls Tryd.prog 42 #[.pointer (some ⟨T, 0, none⟩)] w fun e w' => DrawnS w T e w' := by
  go_enter Tryd.func42, Tryd.ntmps42
  go_wp2_with fail
  refine (next_any T 6 _ ht (by omega) (by omega)).mono ?_
  rintro e w1 ⟨r, rfl, r0, r1, t1, g1⟩
  have hw1 := hw.grown g1 (by intro e; injection e with e; omega)
  obtain ⟨r, rfl⟩ := Int.eq_ofNat_of_zero_le r0
  obtain ⟨s, hs, hp, hl⟩ := hw1 r (by omega)
  have HP := hid hp; clear hp hw1 hw
  go_wp2
  go_ret
  exact ⟨s, rfl, HP.out, hl, t1, g1⟩

/-- A value drawn: of the kind asked for, valid. -/
def DrawnV (w : World) (T : Nat) (K : Int → Int → ByteArray → Prop) (e : Ending) (w' : World) : Prop :=
  ∃ (k i : Int) (s : ByteArray), e = .returned (.agg #[.int .i64 k, .int .i64 i, .string s]) ∧ K k i s ∧ s.size ≤ 80 ∧ I64 i ∧ Tp w' T ∧ Wds w' ∧ w.grownBy w' (some T)
/-- valid, and of the kind 'kind' where that is 1, 2 or 3; else null -/
def OfKind (kind k i : Int) (s : ByteArray) : Prop := validB k i s = true ∧ ((kind = 1 ∨ kind = 2 ∨ kind = 3) → k = kind) ∧ (¬ (kind = 1 ∨ kind = 2 ∨ kind = 3) → k = 0)

theorem empty_toList : (⟨#[]⟩ : ByteArray).toList = [] := by kernel_rfl
theorem blk_new1 (w : World) (t : TypeId) (cs : Array Value) : Blk (w.alloc (.cells cs t)) w.heap.size t cs := Blk.new w t cs

theorem tp_set3 {w : World} {T g : Nat} (h : Tp w T) (hg : T < g) (x y z : Value) : Tp (((w.setCell ⟨g, 0, none⟩ x).setCell ⟨g, 1, none⟩ y).setCell ⟨g, 2, none⟩ z) T :=
  Tp.setCell (p := ⟨g, 2, none⟩) (Tp.setCell (p := ⟨g, 1, none⟩) (Tp.setCell (p := ⟨g, 0, none⟩) h hg x) hg y) hg z
theorem only_set3 {a w : World} {T g : Nat} (h : a.grownBy w (some T)) (hg : a.heap.size ≤ g) (x y z : Value) : a.grownBy (((w.setCell ⟨g, 0, none⟩ x).setCell ⟨g, 1, none⟩ y).setCell ⟨g, 2, none⟩ z) (some T) :=
  only_setCell (p := ⟨g, 2, none⟩) (only_setCell (p := ⟨g, 1, none⟩) (only_setCell (p := ⟨g, 0, none⟩) h (.inr hg) x) (.inr hg) y) (.inr hg) z
theorem drawnV_mk {w w1 : World} {T g : Nat} {K : Int → Int → ByteArray → Prop} {k i : Int} {s : ByteArray} (hK : K k i s) (hs : s.size ≤ 80) (hi : I64 i) (t1 : Tp w1 T) (hTw : T < w.heap.size) (hw : Wds w) (hT : 1 < T)
    (g1 : w.grownBy w1 (some T)) (hg : w.heap.size ≤ g) : DrawnV w T K (.returned (.agg #[.int .i64 k, .int .i64 i, .string s])) (((w1.setCell ⟨g, 0, none⟩ (.int .i64 k)).setCell ⟨g, 1, none⟩ (.int .i64 i)).setCell ⟨g, 2, none⟩ (.string s)) := by
  have g2 := only_set3 g1 hg (.int .i64 k) (.int .i64 i) (.string s)
  exact ⟨k, i, s, rfl, hK, hs, hi, tp_set3 t1 (by omega) _ _ _, hw.grown g2 (by intro e; injection e with e; omega), g2⟩
theorem kind_null {kind : Int} (h : ¬ (kind = 1 ∨ kind = 2 ∨ kind = 3)) : OfKind kind 0 0 ⟨#[]⟩ := ⟨by kernel_rfl, fun k => absurd k h, fun _ => rfl⟩
theorem kind_int (x : Int) : OfKind 1 1 x ⟨#[]⟩ := ⟨by simp [validB, empty_toList], fun _ => rfl, fun h => absurd (.inl rfl) h⟩
theorem kind_bool {x : Int} (h0 : 0 ≤ x) (h1 : x < 2) : OfKind 2 2 x ⟨#[]⟩ := ⟨by
  obtain rfl | rfl : x = 0 ∨ x = 1 := by omega
  all_goals simp [validB, empty_toList], fun _ => rfl, fun h => absurd (.inr (.inl rfl)) h⟩
theorem kind_text {s : ByteArray} (h : plainB s = true) : OfKind 3 3 0 s := ⟨by simp [validB, h], fun _ => rfl, fun h => absurd (.inr (.inr rfl)) h⟩

set_option maxHeartbeats 1000000 in
theorem typed_any (T : Nat) (kind : Int) (w : World) (ht : Tp w T) (hw : Wds w) (hT : 1 < T) :
    Calls Tryd.prog 22 #[.pointer (some ⟨T, 0, none⟩), .int .i64 kind] w fun e w' => DrawnV w T (OfKind kind) e w' := by
  have hlt := ht.lt
  have B0 := Blk.new w 39 #[.int .i64 0, .int .i64 0, .string ⟨#[]⟩]
  have t0 := ht.alloc (.cells #[.int .i64 0, .int .i64 0, .string ⟨#[]⟩] 39)
  have g0 : w.grownBy (w.alloc (.cells #[.int .i64 0, .int .i64 0, .string ⟨#[]⟩] 39)) (some T) := only_alloc (World.grownBy.refl _ _) _
  have w0 : Wds (w.alloc (.cells #[.int .i64 0, .int .i64 0, .string ⟨#[]⟩] 39)) := hw.grown g0 (by intro e; injection e with e; omega)
  have hI0 : I64 0 := by unfold I64; omega
  by_cases h1 : kind = 1
  · subst h1
    go_enter Tryd.func22, Tryd.ntmps22
    go_wp2_with fail
    refine (number_any T _ t0).mono ?_
    rintro e w1 ⟨x, rfl, hx, t1, g1⟩
    have B1 := B0.grown g1 (by intro e; injection e with e; omega)
    have g2 := only_trans g0 g1
    obtain ⟨c0, c1, c2, cl⟩ := B1.c3
    have f0 := B1.frozen 0; have f1 := B1.frozen 1; have f2 := B1.frozen 2
    clear t0 g0 B0 w0 g1
    go_wp2
    exact bodyPost_ret (v := .agg #[.int .i64 1, .int .i64 x, .string ⟨#[]⟩]) (by simp [results, Tryd.results22, go_sem, c0, c1, c2]) rfl (drawnV_mk (kind_int x) (by decide) hx t1 hlt hw hT g2 (Nat.le_refl _))
  by_cases h2 : kind = 2
  · subst h2
    go_enter Tryd.func22, Tryd.ntmps22
    go_wp2_with fail
    refine (next_any T 2 _ t0 (by omega) (by omega)).mono ?_
    rintro e w1 ⟨x, rfl, x0, x1, t1, g1⟩
    have B1 := B0.grown g1 (by intro e; injection e with e; omega)
    have g2 := only_trans g0 g1
    obtain ⟨c0, c1, c2, cl⟩ := B1.c3
    have f0 := B1.frozen 0; have f1 := B1.frozen 1; have f2 := B1.frozen 2
    clear t0 g0 B0 w0 g1
    go_wp2
    exact bodyPost_ret (v := .agg #[.int .i64 2, .int .i64 x, .string ⟨#[]⟩]) (by simp [results, Tryd.results22, go_sem, c0, c1, c2]) rfl (drawnV_mk (kind_bool x0 x1) (by decide) (by unfold I64; omega) t1 hlt hw hT g2 (Nat.le_refl _))
  by_cases h3 : kind = 3
  · subst h3
    go_enter Tryd.func22, Tryd.ntmps22
    go_wp2_with fail
    refine (word_any T _ t0 w0 hT).mono ?_
    rintro e w1 ⟨s, rfl, hp, hs, t1, g1⟩
    have B1 := B0.grown g1 (by intro e; injection e with e; omega)
    have g2 := only_trans g0 g1
    obtain ⟨c0, c1, c2, cl⟩ := B1.c3
    have f0 := B1.frozen 0; have f1 := B1.frozen 1; have f2 := B1.frozen 2
    clear t0 g0 B0 w0 g1
    go_wp2
    exact bodyPost_ret (v := .agg #[.int .i64 3, .int .i64 0, .string s]) (by simp [results, Tryd.results22, go_sem, c0, c1, c2]) rfl (drawnV_mk (kind_text hp) (by omega) hI0 t1 hlt hw hT g2 (Nat.le_refl _))
  · have k1 : (kind == 1) = false := by simpa using h1
    have k2 : (kind == 2) = false := by simpa using h2
    have k3 : (kind == 3) = false := by simpa using h3
    have hn : ¬ (kind = 1 ∨ kind = 2 ∨ kind = 3) := by omega
    have HN := hid (kind_null hn); clear hn
    go_enter Tryd.func22, Tryd.ntmps22
    clear h1 h2 h3
    go_wp2
    refine bodyPost_ret (v := .agg #[.int .i64 0, .int .i64 0, .string ⟨#[]⟩]) (by simp [results, Tryd.results22, go_sem]) rfl ?_
    exact ⟨0, 0, ⟨#[]⟩, rfl, HN.out, by decide, hI0, t0, w0, g0⟩

set_option maxHeartbeats 1000000 in
theorem value_any (T : Nat) (w : World) (ht : Tp w T) (hw : Wds w) (hT : 1 < T) :
    Calls Tryd.prog 20 #[.pointer (some ⟨T, 0, none⟩)] w fun e w' => DrawnV w T (fun k i s => validB k i s = true) e w' := by
  have hlt := ht.lt
  have B0 := Blk.new w 39 #[.int .i64 0, .int .i64 0, .string ⟨#[]⟩]
  have t0 := ht.alloc (.cells #[.int .i64 0, .int .i64 0, .string ⟨#[]⟩] 39)
  have g0 : w.grownBy (w.alloc (.cells #[.int .i64 0, .int .i64 0, .string ⟨#[]⟩] 39)) (some T) := only_alloc (World.grownBy.refl _ _) _
  have w0 : Wds (w.alloc (.cells #[.int .i64 0, .int .i64 0, .string ⟨#[]⟩] 39)) := hw.grown g0 (by intro e; injection e with e; omega)
  go_enter Tryd.func20, Tryd.ntmps20
  go_wp2_with fail
  refine (next_any T 4 _ t0 (by omega) (by omega)).mono ?_
  rintro e w1 ⟨x, rfl, x0, x1, t1, g1⟩
  have w1' := w0.grown g1 (by intro e; injection e with e; omega)
  have B1 := B0.grown g1 (by intro e; injection e with e; omega)
  go_wp2_with fail
  refine (typed_any T x _ t1 w1' hT).mono ?_
  rintro e w2 ⟨k, i, s, rfl, ⟨hv, _, _⟩, hs, hi, t2, _, g2⟩
  have B2 := B1.grown g2 (by intro e; injection e with e; omega)
  have g3 := only_trans (only_trans g0 g1) g2
  obtain ⟨c0, c1, c2, cl⟩ := B2.c3
  have f0 := B2.frozen 0; have f1 := B2.frozen 1; have f2 := B2.frozen 2
  have HV := hid hv
  clear t0 g0 B0 w0 g1 B1 g2 w1' t1 hv
  go_wp2
  exact bodyPost_ret (v := .agg #[.int .i64 k, .int .i64 i, .string s]) (by simp [results, Tryd.results20, go_sem, c0, c1, c2]) rfl (drawnV_mk HV.out hs hi t2 hlt hw hT g3 (Nat.le_refl _))
end Go.Proofs.YtdgdllicmccnfaaDoor

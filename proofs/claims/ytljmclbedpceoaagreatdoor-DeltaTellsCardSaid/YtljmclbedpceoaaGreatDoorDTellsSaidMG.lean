/- DChg: the columns that a difference changes: delta.Changed, ref8.Differs, ref8.Changed; Equal over texts. -/
import Derived.Test.YtljmclbedpceoaaGreatDoorDTellsSaidMF
import Derived.Test.YtljmclbedpceoaaGreatDoorDTellsSaidMA
import Derived.WalkSpells
import Derived.Test.YtljmclbedpceoaaGreatDoorDTellsSaidMB
import Derived.Sort.Statements
import Derived.Shelf.SlSortCmp.Insertion
import Derived.Test.YtljmclbedpceoaaGreatDoorDTellsSaidMD
import Derived.Laws.CopyOwn
import Derived.Test.YtljmclbedpceoaaGreatDoorDTellsSaidME
import Derived.Test.YtljmclbedpceoaaGreatDoorDTellsSaidMC
import Derived.OrdersHeld
import Derived.Deep.LoopGhost
namespace Go.Proofs.YtljmclbedpceoaaGreatDoor
open Go.RowKit Go.Sort
set_option linter.unusedVariables false
set_option linter.unusedSimpArgs false

set_option maxHeartbeats 1000000 in
theorem vcompare_gr (k1 i1 : Int) (s1 : ByteArray) (k2 i2 : Int) (s2 : ByteArray) (w : World) :
    Calls Tryz.prog 139 #[.agg #[.int .i64 k1, .int .i64 i1, .string s1], .agg #[.int .i64 k2, .int .i64 i2, .string s2]] w fun e w' => e = .returned (.int .i64 (cmpV k1 i1 s1 k2 i2 s2)) ∧ Gr w w' := by
  obtain ⟨x, hx⟩ : ∃ x, x = cmpI k1 k2 := ⟨_, rfl⟩
  obtain ⟨y, hy⟩ : ∃ y, y = cmpI i1 i2 := ⟨_, rfl⟩
  obtain ⟨z, hz⟩ : ∃ z, z = cmpS s1 s2 := ⟨_, rfl⟩
  have c1 := fun w => cmp_int k1 k2 w
  have c2 := fun w => cmp_int64 i1 i2 w
  have c3 := fun w => cmp_string s1 s2 w
  rw [← hx] at c1
  rw [← hy] at c2
  rw [← hz] at c3
  have HF : Hid (cmpV k1 i1 s1 k2 i2 s2 = firstNZ [x, y, z]) := by unfold Hid cmpV; rw [hx, hy, hz]
  have C1 := hid c1; have C2 := hid c2; have C3 := hid c3
  clear c1 c2 c3 hx hy hz
  have B0 := (Blk.new w 86 #[.int .i64 k1, .int .i64 i1, .string s1]).alloc (.cells #[.int .i64 k2, .int .i64 i2, .string s2] 86)
  have B1 : Blk ((w.alloc (.cells #[.int .i64 k1, .int .i64 i1, .string s1] 86)).alloc (.cells #[.int .i64 k2, .int .i64 i2, .string s2] 86)) (w.heap.size + 1) 86 #[.int .i64 k2, .int .i64 i2, .string s2] := by
    have := Blk.new (w.alloc (.cells #[.int .i64 k1, .int .i64 i1, .string s1] 86)) 86 #[.int .i64 k2, .int .i64 i2, .string s2]
    simpa using this
  have RO : Rd (((w.alloc (.cells #[.int .i64 k1, .int .i64 i1, .string s1] 86)).alloc (.cells #[.int .i64 k2, .int .i64 i2, .string s2] 86)).alloc (.cells #[.int .i64 x, .int .i64 y, .int .i64 z] 3)) (w.heap.size + 1 + 1 + 1) 1 (some ⟨w.heap.size + 1 + 1, 0, none⟩) 3 ([x, y, z].map (Value.int .i64)) := by
    have := Rd.lit ((w.alloc (.cells #[.int .i64 k1, .int .i64 i1, .string s1] 86)).alloc (.cells #[.int .i64 k2, .int .i64 i2, .string s2] 86)) #[.int .i64 x, .int .i64 y, .int .i64 z] 3 (size := 1) (n := 3) (xs := [x, y, z].map (Value.int .i64)) rfl rfl
    simpa using this
  go_enter Tryz.func139, Tryz.ntmps139
  go_wp2_with fail
  go_region_held3 (fun w' => w'.cell? ⟨w.heap.size, 0, none⟩ = some (.int .i64 k1) ∧ w'.cell? ⟨w.heap.size, 1, none⟩ = some (.int .i64 i1) ∧ w'.cell? ⟨w.heap.size, 2, none⟩ = some (.string s1) ∧ w'.cell? ⟨w.heap.size + 1, 0, none⟩ = some (.int .i64 k2) ∧ w'.cell? ⟨w.heap.size + 1, 1, none⟩ = some (.int .i64 i2) ∧ w'.cell? ⟨w.heap.size + 1, 2, none⟩ = some (.string s2))
    (first | exact six B0 B1 | exact six (B0.alloc _) (B1.alloc _))
    (first
      | (go_at_call 115; ((with_reducible refine (C1.out _).mono ?_); rintro e w3 ⟨rfl, rfl⟩))
      | (go_at_call 167; ((with_reducible refine (C2.out _).mono ?_); rintro e w3 ⟨rfl, rfl⟩))
      | (go_at_call 168; ((with_reducible refine (C3.out _).mono ?_); rintro e w3 ⟨rfl, rfl⟩))
      | (go_at_call 166; ((with_reducible refine (or_int _ 3 3 [x, y, z] _ _ (Rd.drew RO) (by omega)).mono ?_); rintro e w4 ⟨rfl, rfl⟩)))
  go_wp2_with fail
  go_ret
  exact ⟨by rw [HF.out]; rfl, (((Gr.alloc _ _).trans (Gr.alloc _ _)).trans (Gr.alloc _ _)).trans (Gr.drew _)⟩

/-- the order of values, of rows -/
def cmpVl (x y : Vl) : Int := cmpV x.k x.i x.s y.k y.i y.s
def rowC : List Vl → List Vl → Int
  | [], [] => 0
  | [], _ :: _ => -1
  | _ :: _, [] => 1
  | x :: xs, y :: ys => if cmpVl x y = 0 then rowC xs ys else cmpVl x y
theorem rowC_go {xs ys : List Vl} {k : Nat} {x y : Vl} (hx : xs[k]? = some x) (hy : ys[k]? = some y) (h : cmpVl x y = 0) : rowC (xs.drop k) (ys.drop k) = rowC (xs.drop (k + 1)) (ys.drop (k + 1)) := by
  rw [drop_cons hx, drop_cons hy, rowC, if_pos h]
theorem rowC_stop {xs ys : List Vl} {k : Nat} {x y : Vl} (hx : xs[k]? = some x) (hy : ys[k]? = some y) (h : cmpVl x y ≠ 0) : rowC (xs.drop k) (ys.drop k) = cmpVl x y := by
  rw [drop_cons hx, drop_cons hy, rowC, if_neg h]
theorem rowC_end {xs ys : List Vl} {k n m : Nat} (hn : xs.length = n) (hm : ys.length = m) (hk : k = min n m) : rowC (xs.drop k) (ys.drop k) = cmpI n m := by
  unfold cmpI
  rcases Nat.lt_trichotomy n m with h | h | h
  · have hk2 : k < ys.length := by omega
    rw [List.drop_of_length_le (show xs.length ≤ k by omega), List.drop_eq_getElem_cons hk2, rowC, if_pos (by omega)]
  · rw [List.drop_of_length_le (show xs.length ≤ k by omega), List.drop_of_length_le (show ys.length ≤ k by omega), rowC, if_neg (by omega), if_neg (by omega)]
  · have hk2 : k < xs.length := by omega
    rw [List.drop_of_length_le (show ys.length ≤ k by omega), List.drop_eq_getElem_cons hk2, rowC, if_neg (by omega), if_pos (by omega)]
set_option maxHeartbeats 4000000 in
set_option maxRecDepth 100000 in
theorem vcmprows_gr (w : World) (A : Option Addr) (n c : Nat) (xs : List Vl) (B : Option Addr) (m d : Nat) (ys : List Vl) (hD : Ro w None_ (VlsIn A n xs)) (hE : Ro w None_ (VlsIn B m ys)) (hn : n ≤ 9223372036854775807) (hm : m ≤ 9223372036854775807) :
    Calls Tryz.prog 102 #[.slice A n c, .slice B m d] w fun e w' => e = .returned (.int .i64 (rowC xs ys)) ∧ Gr w w' := by
  have HX := hid (show xs.length = n from hD.now.len)
  have HY := hid (show ys.length = m from hE.now.len)
  have HD := hid hD
  have HE := hid hE
  have mixed : Tryz.prog.follows .mixedOrders = true := by kernel_rfl
  clear hD hE
  obtain ⟨r, hr⟩ : ∃ r, r = rowC xs ys := ⟨_, rfl⟩
  rw [← hr]
  have HR := hid hr
  clear hr
  by_cases hnm : n ≤ m
  · have z1 : (n : Int) ≤ (m : Int) := by omega
    go_enter Tryz.func102, Tryz.ntmps102
    go_wp2_with fail
    go_loopw [12] (fun iv wr => ∃ k : Nat, k ≤ n ∧ iv = .int .i64 k ∧ Hid (r = rowC (xs.drop k) (ys.drop k)) ∧ Hid (Gr w wr)) (fun iv _ => n - (intOf iv).toNat)
    case atStart => exact ⟨0, by omega, rfl, hid (by rw [HR.out]; rfl), hid (Gr.refl w)⟩
    case round =>
      obtain ⟨k, hk, rfl, HK, HG⟩ := hrel
      by_cases hlt : k < n
      · have hd : decide ((k : Int) < (n : Int)) = true := by simp; omega
        have i0 : (0 : Int) ≤ (k : Int) := by omega
        have i1 : (k : Int) < (n : Int) := by omega
        have i2 : (k : Int) < (m : Int) := by omega
        obtain ⟨x, hx⟩ := get_of HX.out (show k < n by omega)
        obtain ⟨y, hy⟩ := get_of HY.out (show k < m by omega)
        have h1 := (HG.out.ro HD.out).now
        have h2 := (HG.out.ro HE.out).now
        obtain ⟨b, o, rfl, hb, c0, c1, c2⟩ := h1.at_ hx
        obtain ⟨b', o', rfl, hb', e0, e1, e2⟩ := h2.at_ hy
        clear h1 h2
        have g0 := fun p os => cell_grown (a := ⟨b, o + k * 3, none⟩) hb c0 p os
        have g1 := fun p os => cell_grown (a := ⟨b, o + k * 3 + 1, none⟩) hb c1 p os
        have g2 := fun p os => cell_grown (a := ⟨b, o + k * 3 + 2, none⟩) hb c2 p os
        have g3 := fun p os => cell_grown (a := ⟨b', o' + k * 3, none⟩) hb' e0 p os
        have g4 := fun p os => cell_grown (a := ⟨b', o' + k * 3 + 1, none⟩) hb' e1 p os
        have g5 := fun p os => cell_grown (a := ⟨b', o' + k * 3 + 2, none⟩) hb' e2 p os
        have HV := hid (fun W => vcompare_gr x.k x.i x.s y.k y.i y.s W)
        obtain ⟨cv, hcv⟩ : ∃ cv, cv = cmpVl x y := ⟨_, rfl⟩
        have HV2 : Hid (∀ W, Calls Tryz.prog 139 #[.agg #[.int .i64 x.k, .int .i64 x.i, .string x.s], .agg #[.int .i64 y.k, .int .i64 y.i, .string y.s]] W fun e w' => e = .returned (.int .i64 cv) ∧ ∃ q os', w' = grow (W.drewN q) os') := hid fun W => by rw [hcv]; exact HV.out W
        have HXK := hid hx
        have HYK := hid hy
        have HCV := hid hcv
        clear hx hy hcv HV c0 c1 c2 e0 e1 e2
        go_wp2_with fail
        go_quiet_grown (first | (go_at_call 139; refine Calls.grown_of (HV2.out _)))
        have HG2 := hid (HG.out.trans (show Gr wr (grow (wr.drewN nq) osq) from ⟨nq, osq, rfl⟩))
        clear g0 g1 g2 g3 g4 g5
        by_cases hz : cv = 0
        · have hb0 : (cv != 0) = false := by simp [hz]
          have HN := hid (show r = rowC (xs.drop (k + 1)) (ys.drop (k + 1)) by rw [HK.out]; exact rowC_go HXK.out HYK.out (by rw [← HCV.out, hz]))
          clear hz
          go_wp2_with fail
          go_roundw
          case rel => exact ⟨k + 1, by omega, by go_num, HN, HG2⟩
          case measure => simp [intOf]; omega
        · have hb0 : (cv != 0) = true := by simpa using hz
          have HN := hid (show r = cv by rw [HK.out, rowC_stop HXK.out HYK.out (by rw [← HCV.out]; exact hz), HCV.out])
          clear hz
          go_wp2_with fail
          go_ret
          exact ⟨by rw [HN.out] <;> rfl, HG2.out⟩
      · obtain rfl : n = k := by omega
        have hd : decide ((n : Int) < (n : Int)) = false := by simp
        have HN := hid (show r = cmpI n m by rw [HK.out]; exact rowC_end HX.out HY.out (by omega))
        go_wp2_with fail
        refine (cmp_int _ _ _).mono ?_
        rintro e w1 ⟨rfl, rfl⟩
        go_wp2_with fail
        go_ret
        exact ⟨by rw [HN.out] <;> rfl, HG.out⟩
  · have z1 : ¬ (n : Int) ≤ (m : Int) := by omega
    have z2 : (m : Int) ≤ (n : Int) := by omega
    have z3 : (m : Int) < (n : Int) := by omega
    go_enter Tryz.func102, Tryz.ntmps102
    go_wp2_with fail
    go_loopw [12] (fun iv wr => ∃ k : Nat, k ≤ m ∧ iv = .int .i64 k ∧ Hid (r = rowC (xs.drop k) (ys.drop k)) ∧ Hid (Gr w wr)) (fun iv _ => m - (intOf iv).toNat)
    case atStart => exact ⟨0, by omega, rfl, hid (by rw [HR.out]; rfl), hid (Gr.refl w)⟩
    case round =>
      obtain ⟨k, hk, rfl, HK, HG⟩ := hrel
      by_cases hlt : k < m
      · have hd : decide ((k : Int) < (m : Int)) = true := by simp; omega
        have i0 : (0 : Int) ≤ (k : Int) := by omega
        have i1 : (k : Int) < (n : Int) := by omega
        have i2 : (k : Int) < (m : Int) := by omega
        obtain ⟨x, hx⟩ := get_of HX.out (show k < n by omega)
        obtain ⟨y, hy⟩ := get_of HY.out (show k < m by omega)
        have h1 := (HG.out.ro HD.out).now
        have h2 := (HG.out.ro HE.out).now
        obtain ⟨b, o, rfl, hb, c0, c1, c2⟩ := h1.at_ hx
        obtain ⟨b', o', rfl, hb', e0, e1, e2⟩ := h2.at_ hy
        clear h1 h2
        have g0 := fun p os => cell_grown (a := ⟨b, o + k * 3, none⟩) hb c0 p os
        have g1 := fun p os => cell_grown (a := ⟨b, o + k * 3 + 1, none⟩) hb c1 p os
        have g2 := fun p os => cell_grown (a := ⟨b, o + k * 3 + 2, none⟩) hb c2 p os
        have g3 := fun p os => cell_grown (a := ⟨b', o' + k * 3, none⟩) hb' e0 p os
        have g4 := fun p os => cell_grown (a := ⟨b', o' + k * 3 + 1, none⟩) hb' e1 p os
        have g5 := fun p os => cell_grown (a := ⟨b', o' + k * 3 + 2, none⟩) hb' e2 p os
        have HV := hid (fun W => vcompare_gr x.k x.i x.s y.k y.i y.s W)
        obtain ⟨cv, hcv⟩ : ∃ cv, cv = cmpVl x y := ⟨_, rfl⟩
        have HV2 : Hid (∀ W, Calls Tryz.prog 139 #[.agg #[.int .i64 x.k, .int .i64 x.i, .string x.s], .agg #[.int .i64 y.k, .int .i64 y.i, .string y.s]] W fun e w' => e = .returned (.int .i64 cv) ∧ ∃ q os', w' = grow (W.drewN q) os') := hid fun W => by rw [hcv]; exact HV.out W
        have HXK := hid hx
        have HYK := hid hy
        have HCV := hid hcv
        clear hx hy hcv HV c0 c1 c2 e0 e1 e2
        go_wp2_with fail
        go_quiet_grown (first | (go_at_call 139; refine Calls.grown_of (HV2.out _)))
        have HG2 := hid (HG.out.trans (show Gr wr (grow (wr.drewN nq) osq) from ⟨nq, osq, rfl⟩))
        clear g0 g1 g2 g3 g4 g5
        by_cases hz : cv = 0
        · have hb0 : (cv != 0) = false := by simp [hz]
          have HN := hid (show r = rowC (xs.drop (k + 1)) (ys.drop (k + 1)) by rw [HK.out]; exact rowC_go HXK.out HYK.out (by rw [← HCV.out, hz]))
          clear hz
          go_wp2_with fail
          go_roundw
          case rel => exact ⟨k + 1, by omega, by go_num, HN, HG2⟩
          case measure => simp [intOf]; omega
        · have hb0 : (cv != 0) = true := by simpa using hz
          have HN := hid (show r = cv by rw [HK.out, rowC_stop HXK.out HYK.out (by rw [← HCV.out]; exact hz), HCV.out])
          clear hz
          go_wp2_with fail
          go_ret
          exact ⟨by rw [HN.out] <;> rfl, HG2.out⟩
      · obtain rfl : m = k := by omega
        have hd : decide ((m : Int) < (m : Int)) = false := by simp
        have HN := hid (show r = cmpI n m by rw [HK.out]; exact rowC_end HX.out HY.out (by omega))
        go_wp2_with fail
        refine (cmp_int _ _ _).mono ?_
        rintro e w1 ⟨rfl, rfl⟩
        go_wp2_with fail
        go_ret
        exact ⟨by rw [HN.out] <;> rfl, HG.out⟩
end Go.Proofs.YtljmclbedpceoaaGreatDoor

namespace Go.Proofs.YtljmclbedpceoaaGreatDoor
open Go.RowKit
set_option linter.unusedVariables false
set_option linter.unusedSimpArgs false

theorem less_asymm : ∀ x y : List UInt8, Op.bytesLess x y = true → Op.bytesLess y x = false ∧ x ≠ y
  | _, [], h => by simp [Op.bytesLess] at h
  | [], b :: y, _ => ⟨by simp [Op.bytesLess], by simp⟩
  | a :: x, b :: y, h => by
    simp only [Op.bytesLess, Bool.or_eq_true, decide_eq_true_eq, Bool.and_eq_true, beq_iff_eq] at h
    rcases h with h | ⟨rfl, h⟩
    · have h1 : ¬ (b < a) := by
        intro k
        have h' : a.toNat < b.toNat := h
        have k' : b.toNat < a.toNat := k
        omega
      have h2 : a ≠ b := by
        rintro rfl
        have h' : a.toNat < a.toNat := h
        omega
      refine ⟨?_, fun e => h2 (by injection e)⟩
      simp only [Op.bytesLess, Bool.or_eq_false_iff, decide_eq_false_iff_not, Bool.and_eq_false_imp, beq_iff_eq]
      exact ⟨h1, fun e => absurd e.symm h2⟩
    · obtain ⟨i1, i2⟩ := less_asymm x y h
      have h1 : ¬ (a < a) := by
        intro k
        have k' : a.toNat < a.toNat := k
        omega
      refine ⟨?_, fun e => i2 (by injection e)⟩
      simp only [Op.bytesLess, Bool.or_eq_false_iff, decide_eq_false_iff_not, Bool.and_eq_false_imp, beq_iff_eq]
      exact ⟨h1, fun _ => i1⟩
theorem less_tri : ∀ x y : List UInt8, Op.bytesLess x y = false → Op.bytesLess y x = false → x = y
  | [], [], _, _ => rfl
  | [], b :: y, h, _ => by simp [Op.bytesLess] at h
  | a :: x, [], _, h => by simp [Op.bytesLess] at h
  | a :: x, b :: y, h, k => by
    simp only [Op.bytesLess, Bool.or_eq_false_iff, decide_eq_false_iff_not, Bool.and_eq_false_imp, beq_iff_eq] at h k
    have hab : a = b := by
      have h' : ¬ a.toNat < b.toNat := h.1
      have k' : ¬ b.toNat < a.toNat := k.1
      exact UInt8.toNat_inj.1 (by omega)
    subst hab
    rw [less_tri x y (h.2 rfl) (k.2 rfl)]

end Go.Proofs.YtljmclbedpceoaaGreatDoor

namespace Go.Proofs.YtljmclbedpceoaaGreatDoor
open Go.RowKit
set_option linter.unusedVariables false
set_option linter.unusedSimpArgs false

theorem less_trans_ : ∀ x y z : List UInt8, Op.bytesLess x y = true → Op.bytesLess y z = true → Op.bytesLess x z = true
  | [], [], _, h, _ => by simp [Op.bytesLess] at h
  | [], _ :: _, [], _, h => by simp [Op.bytesLess] at h
  | [], _ :: _, _ :: _, _, _ => by simp [Op.bytesLess]
  | _ :: _, [], _, h, _ => by simp [Op.bytesLess] at h
  | _ :: _, _ :: _, [], _, h => by simp [Op.bytesLess] at h
  | a :: x, b :: y, c :: z, h1, h2 => by
    simp only [Op.bytesLess, Bool.or_eq_true, Bool.and_eq_true, decide_eq_true_eq, beq_iff_eq] at h1 h2 ⊢
    rcases h1 with h1 | ⟨rfl, h1⟩ <;> rcases h2 with h2 | ⟨rfl, h2⟩
    · exact .inl (by rw [UInt8.lt_iff_toNat_lt] at *; omega)
    · exact .inl h1
    · exact .inl h2
    · exact .inr ⟨rfl, less_trans_ x y z h1 h2⟩
end Go.Proofs.YtljmclbedpceoaaGreatDoor

namespace Go.Proofs.YtljmclbedpceoaaGreatDoor
open Go.RowKit
set_option linter.unusedVariables false
set_option linter.unusedSimpArgs false

/-- a comparison that is a linear order -/
structure LinC {α : Type} (c : α → α → Int) : Prop where
  eq : ∀ x y, c x y = 0 ↔ x = y
  flip : ∀ x y, c x y < 0 ↔ 0 < c y x
  trans : ∀ x y z, c x y < 0 → c y z < 0 → c x z < 0
theorem cmpI_cases (x y : Int) : (x < y ∧ cmpI x y = -1) ∨ (x = y ∧ cmpI x y = 0) ∨ (y < x ∧ cmpI x y = 1) := by
  unfold cmpI
  rcases Int.lt_trichotomy x y with h | h | h
  · exact .inl ⟨h, if_pos h⟩
  · exact .inr (.inl ⟨h, by rw [if_neg (by omega), if_neg (by omega)]⟩)
  · exact .inr (.inr ⟨h, by rw [if_neg (by omega), if_pos h]⟩)
theorem linI : LinC cmpI where
  eq x y := by rcases cmpI_cases x y with h | h | h <;> omega
  flip x y := by rcases cmpI_cases x y with h | h | h <;> rcases cmpI_cases y x with k | k | k <;> omega
  trans x y z h k := by rcases cmpI_cases x y with a | a | a <;> rcases cmpI_cases y z with b | b | b <;> rcases cmpI_cases x z with c | c | c <;> omega
theorem linS : LinC cmpS where
  eq x y := by
    unfold cmpS
    cases h1 : Op.bytesLess x.toList y.toList
    · by_cases h2 : x = y
      · subst h2; simp
      · have h3 : (x.toList == y.toList) = false := by rw [beq_eq_false_iff_ne]; exact fun h => h2 (bytesEq h)
        simp [h3, h2]
    · have h2 := (less_asymm _ _ h1).2
      have : x ≠ y := fun e => h2 (by rw [e])
      simp [this]
  flip x y := by
    unfold cmpS
    cases h1 : Op.bytesLess x.toList y.toList
    · cases h2 : Op.bytesLess y.toList x.toList
      · have h3 := less_tri _ _ h1 h2
        simp [h3]
      · have h3 := (less_asymm _ _ h2).2
        have h4 : (x.toList == y.toList) = false := by rw [beq_eq_false_iff_ne]; exact fun h => h3 h.symm
        simp [h4]
    · have h2 := less_asymm _ _ h1
      have h4 : (y.toList == x.toList) = false := by rw [beq_eq_false_iff_ne]; exact fun h => h2.2 h.symm
      simp [h2.1, h4]
  trans x y z h k := by
    have lt : ∀ a b : ByteArray, cmpS a b < 0 ↔ Op.bytesLess a.toList b.toList = true := fun a b => by
      unfold cmpS
      cases h1 : Op.bytesLess a.toList b.toList
      · simp only [Bool.false_eq_true, if_false, iff_false]
        split <;> omega
      · simp
    rw [lt] at h k ⊢
    exact less_trans_ _ _ _ h k
/-- the first decides, else the second -/
def thenC (a b : Int) : Int := if a = 0 then b else a
theorem linThen {α β γ : Type} {c : β → β → Int} {e : γ → γ → Int} (hc : LinC c) (he : LinC e) (f : α → β) (g : α → γ) (hi : ∀ x y, f x = f y → g x = g y → x = y) : LinC fun x y : α => thenC (c (f x) (f y)) (e (g x) (g y)) where
  eq x y := by
    show thenC _ _ = 0 ↔ _
    unfold thenC
    constructor
    · intro h
      by_cases h1 : c (f x) (f y) = 0
      · rw [if_pos h1] at h
        exact hi x y ((hc.eq _ _).1 h1) ((he.eq _ _).1 h)
      · rw [if_neg h1] at h; exact absurd h h1
    · rintro rfl
      rw [if_pos ((hc.eq _ _).2 rfl)]
      exact (he.eq _ _).2 rfl
  flip x y := by
    show thenC _ _ < 0 ↔ 0 < thenC _ _
    unfold thenC
    by_cases h1 : f x = f y
    · rw [if_pos ((hc.eq _ _).2 h1), if_pos ((hc.eq _ _).2 h1.symm)]
      exact he.flip _ _
    · rw [if_neg (fun h => h1 ((hc.eq _ _).1 h)), if_neg (fun h => h1 ((hc.eq _ _).1 h).symm)]
      exact hc.flip _ _
  trans x y z h k := by
    replace h : thenC (c (f x) (f y)) (e (g x) (g y)) < 0 := h
    replace k : thenC (c (f y) (f z)) (e (g y) (g z)) < 0 := k
    show thenC (c (f x) (f z)) (e (g x) (g z)) < 0
    unfold thenC at h k ⊢
    by_cases h1 : f x = f y
    · rw [if_pos ((hc.eq _ _).2 h1)] at h
      rw [h1]
      by_cases h2 : f y = f z
      · rw [if_pos ((hc.eq _ _).2 h2)] at k ⊢
        exact he.trans _ _ _ h k
      · rw [if_neg (fun h => h2 ((hc.eq _ _).1 h))] at k ⊢
        exact k
    · rw [if_neg (fun h => h1 ((hc.eq _ _).1 h))] at h
      by_cases h2 : f y = f z
      · rw [← h2, if_neg (fun h => h1 ((hc.eq _ _).1 h))]
        exact h
      · rw [if_neg (fun h => h2 ((hc.eq _ _).1 h))] at k
        have h3 := hc.trans _ _ _ h k
        rw [if_neg (by omega)]
        exact h3
theorem linVl : LinC cmpVl := by
  have h2 := linThen (α := Vl) linI linS Vl.i Vl.s
  have h3 : LinC fun x y : Int × ByteArray => thenC (cmpI x.1 y.1) (cmpS x.2 y.2) := linThen linI linS Prod.fst Prod.snd fun x y h k => Prod.ext h k
  have h4 := linThen (α := Vl) linI h3 Vl.k (fun v => (v.i, v.s)) fun x y h k => by
    cases x; cases y
    simp only [Prod.mk.injEq] at k
    simp only at h
    rw [h, k.1, k.2]
  have : cmpVl = fun x y : Vl => thenC (cmpI x.k y.k) (thenC (cmpI x.i y.i) (cmpS x.s y.s)) := by
    funext x y
    unfold cmpVl cmpV thenC
    simp only [firstNZ]
    by_cases h1 : cmpI x.k y.k = 0 <;> by_cases h2 : cmpI x.i y.i = 0 <;> by_cases h3 : cmpS x.s y.s = 0 <;> simp [h1, h2, h3]
  rw [this]
  exact h4
theorem rowC_eq : ∀ xs ys : List Vl, rowC xs ys = 0 ↔ xs = ys
  | [], [] => by simp [rowC]
  | [], y :: ys => by simp [rowC]
  | x :: xs, [] => by simp [rowC]
  | x :: xs, y :: ys => by
    rw [rowC]
    by_cases h : cmpVl x y = 0
    · rw [if_pos h, rowC_eq xs ys, (linVl.eq _ _).1 h]; simp
    · rw [if_neg h]
      have : x ≠ y := fun e => h ((linVl.eq _ _).2 e)
      simp [h, this]
theorem rowC_flip : ∀ xs ys : List Vl, rowC xs ys < 0 ↔ 0 < rowC ys xs
  | [], [] => by simp [rowC]
  | [], y :: ys => by simp [rowC]
  | x :: xs, [] => by simp [rowC]
  | x :: xs, y :: ys => by
    rw [rowC, rowC]
    by_cases h : x = y
    · subst h
      rw [if_pos ((linVl.eq _ _).2 rfl), if_pos ((linVl.eq _ _).2 rfl)]
      exact rowC_flip xs ys
    · rw [if_neg (fun e => h ((linVl.eq _ _).1 e)), if_neg (fun e => h ((linVl.eq _ _).1 e).symm)]
      exact linVl.flip _ _
theorem rowC_trans : ∀ xs ys zs : List Vl, rowC xs ys < 0 → rowC ys zs < 0 → rowC xs zs < 0
  | [], [], zs, h, k => by simp [rowC] at h
  | [], y :: ys, [], h, k => by simp [rowC] at k
  | [], y :: ys, z :: zs, h, k => by simp [rowC]
  | x :: xs, [], zs, h, k => by simp [rowC] at h
  | x :: xs, y :: ys, [], h, k => by simp [rowC] at k
  | x :: xs, y :: ys, z :: zs, h, k => by
    rw [rowC] at h k ⊢
    by_cases h1 : x = y
    · subst h1
      rw [if_pos ((linVl.eq _ _).2 rfl)] at h
      by_cases h2 : x = z
      · subst h2
        rw [if_pos ((linVl.eq _ _).2 rfl)] at k ⊢
        exact rowC_trans xs ys zs h k
      · rw [if_neg (fun e => h2 ((linVl.eq _ _).1 e))] at k ⊢
        exact k
    · rw [if_neg (fun e => h1 ((linVl.eq _ _).1 e))] at h
      by_cases h2 : y = z
      · subst h2
        rw [if_neg (fun e => h1 ((linVl.eq _ _).1 e))]
        exact h
      · rw [if_neg (fun e => h2 ((linVl.eq _ _).1 e))] at k
        have h3 := linVl.trans _ _ _ h k
        rw [if_neg (by omega)]
        exact h3
theorem swoRow {α : Type} (f : α → List Vl) : Go.Sort.SWO (ltOf fun x y : α => rowC (f x) (f y)) where
  irrefl x := by
    have := (rowC_eq (f x) (f x)).2 rfl
    simp [ltOf, this]
  trans x y z h k := by
    simp only [ltOf, decide_eq_true_eq] at h k ⊢
    exact rowC_trans _ _ _ h k
  ntrans x y z h k := by
    simp only [ltOf, decide_eq_false_iff_not] at h k ⊢
    intro hxz
    by_cases e : f x = f y
    · rw [e] at hxz; exact k hxz
    · have h1 : rowC (f x) (f y) ≠ 0 := fun h => e ((rowC_eq _ _).1 h)
      have h2 : rowC (f y) (f x) < 0 := (rowC_flip _ _).2 (by omega)
      exact k (rowC_trans _ _ _ h2 hxz)
end Go.Proofs.YtljmclbedpceoaaGreatDoor

namespace Go.Proofs.YtljmclbedpceoaaGreatDoor
open Go.RowKit
set_option linter.unusedVariables false
set_option linter.unusedSimpArgs false

/-- rows that stand whatever becomes of block g -/
abbrev RowsAt (w : World) (g : Nat) : Type := { s : Sl // Ro w (fun b => b = g) (VlsIn s.A s.n s.vs) ∧ s.n ≤ 9223372036854775807 }
instance rowsAtInh (w : World) (g : Nat) : Inhabited (RowsAt w g) := ⟨⟨⟨none, 0, 0, []⟩, fun _ _ _ => Rd.none_, Nat.zero_le _⟩⟩
def encRow {w : World} {g : Nat} (x : RowsAt w g) : Value := .slice x.1.A x.1.n x.1.c
theorem slCells_at {l : List Sl} {j : Nat} {s : Sl} (h : l[j]? = some s) : (slCells l)[j]? = some (.slice s.A s.n s.c) := by
  have := flat_get Sl.cells 1 (fun _ => rfl) l j 0 s (by omega) h
  unfold slCells
  simpa [Sl.cells] using this
theorem sortWorld_heap {α : Type} [Inhabited α] (enc : α → Value) (w : World) (g m : Nat) (d : Array α) (os : Array Obj) {b : Nat} (hb : b < w.heap.size) (hne : b ≠ g) : (sortWorld enc w g 0 m d os).heap[b]? = w.heap[b]? := by
  show ((w.heap.modify g _) ++ os)[b]? = _
  rw [Array.getElem?_append, if_pos (by simpa using hb), Array.getElem?_modify, if_neg (fun e => hne e.symm)]
theorem sortWorld_size {α : Type} [Inhabited α] (enc : α → Value) (w : World) (g m : Nat) (d : Array α) (os : Array Obj) : w.heap.size ≤ (sortWorld enc w g 0 m d os).heap.size := by
  show _ ≤ ((w.heap.modify g _) ++ os).size
  simp
theorem sortWorld_at {α : Type} [Inhabited α] (enc : α → Value) (w : World) (g m : Nat) (d : Array α) (os : Array Obj) {cs : Array Value} {t : TypeId} (h : w.heap[g]? = some (.cells cs t (0, 0))) : (sortWorld enc w g 0 m d os).heap[g]? = some (.cells (Go.Sort.putCells enc 0 d cs) t (0, 0)) := by
  have hb : g < w.heap.size := (Array.getElem?_eq_some_iff.1 h).1
  show ((w.heap.modify g _) ++ os)[g]? = _
  rw [Array.getElem?_append, if_pos (by simpa using hb), Array.getElem?_modify, if_pos rfl, h]
  rfl
set_option maxHeartbeats 2000000 in
theorem sortfn_any {M : Nat → Prop} {row : Option Nat} {w0 w : World} {L : List Hp} (K : Hold M row w0 w L) (i : Nat) {g q cap : Nat} {lo : List Sl} (hi : L[i]? = some (.own 87 1 (.slice (some ⟨g, 0, none⟩) q cap) q (slCells lo))) (hv : Ro w (Mut M L) (SlVals lo)) (hn : ∀ s ∈ lo, s.n ≤ 9223372036854775807) (hq : q < 4611686018427387904) :
    Calls Tryz.prog 101 #[.slice (some ⟨g, 0, none⟩) q cap, .func (.func 102) #[] #[]] w fun e w' => e = .returned (.tuple #[]) ∧ ∃ lo' : List Sl, lo'.Perm lo ∧ lo'.Pairwise (fun a b => ¬ rowC b.vs a.vs < 0) ∧ Hold M row w0 w' (L.set i (.own 87 1 (.slice (some ⟨g, 0, none⟩) q cap) q (slCells lo'))) := by
  have ho : w.ownsRow w0.heap.size 87 1 (.slice (some ⟨g, 0, none⟩) q cap) q (slCells lo) := K.get i hi
  have hg : g < w.heap.size := (K.fresh _ (List.mem_of_getElem? hi) g rfl).2
  have hgM : Mut M L g := .inr ⟨_, List.mem_of_getElem? hi, rfl⟩
  have hlen : lo.length = q := by have := ho.1; rw [slCells_len] at this; omega
  have hgood : ∀ s ∈ lo, Ro w (fun b => b = g) (VlsIn s.A s.n s.vs) ∧ s.n ≤ 9223372036854775807 := fun s hs => ⟨(hv.imp fun w2 h2 => h2 s hs).less fun b hb => by rw [hb]; exact hgM, hn s hs⟩
  obtain ⟨dl, hdl⟩ : ∃ dl : List (RowsAt w g), dl.map (·.1) = lo := ⟨lo.attach.map fun s => ⟨s.1, hgood s.1 s.2⟩, by rw [List.map_map]; exact List.attach_map_subtype_val lo⟩
  have hdn : dl.toArray.size = q := by rw [← hlen, ← hdl]; simp
  have hget : ∀ j, j < q → ∃ x : RowsAt w g, dl.toArray[j]! = x ∧ lo[j]? = some x.1 := fun j hj => by
    have hj2 : j < dl.length := by have := hdn; simp at this; omega
    exact ⟨dl[j], by rw [getElem!_pos _ _ (by simpa using hj2)]; rfl, by rw [← hdl, List.getElem?_map, List.getElem?_eq_getElem hj2]; rfl⟩
  have hH : Go.Sort.Holds encRow w g 0 dl.toArray := fun j hj => by
    rw [hdn] at hj
    obtain ⟨x, h1, h2⟩ := hget j hj
    rw [h1, Nat.zero_add]
    exact ⟨(ho.cellAt j (by omega)).trans (slCells_at h2), ho.frozenAt j⟩
  have hcmp : CmpLays1 Tryz.prog 102 #[] encRow (fun x y : RowsAt w g => rowC x.1.vs y.1.vs) g 0 dl.toArray.size w := fun m os dk hs x y => by
    have hx : ∀ z : RowsAt w g, Ro (sortWorld encRow w g 0 m dk os) None_ (VlsIn z.1.A z.1.n z.1.vs) := fun z w2 h1 h2 => z.2.1 w2 (Nat.le_trans (sortWorld_size _ _ _ _ _ _) h1) fun b hb hne => (h2 b (Nat.lt_of_lt_of_le hb (sortWorld_size _ _ _ _ _ _)) (by simp [None_])).trans (sortWorld_heap _ _ _ _ _ _ hb hne)
    exact vcmprows_gr _ x.1.A x.1.n x.1.c x.1.vs y.1.A y.1.n y.1.c y.1.vs (hx x) (hx y) x.2.2 y.2.2
  have hcon := Any.slices_SortFunc Tryz.sortRows encRow (fun _ => rfl) (fun x y : RowsAt w g => rowC x.1.vs y.1.vs) (swoRow fun x : RowsAt w g => x.1.vs) 102 #[] g 0 cap dl.toArray w (enters_of Tryz.func102 (by kernel_rfl) rfl) hcmp hH hg (by omega)
  rw [hdn] at hcon
  change Calls Tryz.prog 101 _ _ _ at hcon
  refine hcon.mono ?_
  rintro e w' ⟨rfl, d', n, os, ⟨p1, p2, p3⟩, hs, rfl⟩
  rw [hdn] at p1
  have hall : d'.extract 0 q = d' := by rw [← p1]; simp
  have hall2 : dl.toArray.extract 0 q = dl.toArray := by rw [← hdn]; simp
  rw [hall, hall2] at p3
  have hl' : (d'.toList.map (·.1)).length = q := by simp [p1]
  have hat : ∀ j, j < q → (d'.toList.map (·.1))[j]? = some ((d'[j]!).1) := fun j hj => by
    have hj2 : j < d'.size := by omega
    rw [List.getElem?_map, getElem!_pos d' j hj2, Array.getElem?_toList, Array.getElem?_eq_getElem hj2]
    rfl
  refine ⟨rfl, d'.toList.map (·.1), ?_, ?_, ?_⟩
  · have := p3.map (·.1)
    rwa [show (dl.toArray.toList.map (·.1)) = lo by simpa using hdl] at this
  · rw [List.pairwise_iff_getElem]
    intro a b ha hb hab
    have ha2 := hat a (by omega)
    have hb2 := hat b (by omega)
    rw [List.getElem?_eq_getElem ha] at ha2
    rw [List.getElem?_eq_getElem hb] at hb2
    injection ha2 with ha2
    injection hb2 with hb2
    have h1 := hs a b (Nat.zero_le _) hab (by omega)
    unfold ltOf at h1
    rw [decide_eq_false_iff_not] at h1
    rw [ha2, hb2]
    exact h1
  · refine K.append (w' := sortWorld encRow w g 0 n d' os) i hi (ys := slCells (d'.toList.map (·.1))) ?_ ⟨rfl, rfl, rfl, sortWorld_size _ _ _ _ _ _, fun b hb hne => sortWorld_heap _ _ _ _ _ _ hb fun e => hne (by rw [e]; rfl)⟩ (.inl rfl) (Nat.lt_of_lt_of_le hg (sortWorld_size _ _ _ _ _ _))
    obtain ⟨hlen2, ⟨hv0, _⟩ | ⟨g', cap', cur, hveq, hbase, hcell, hqc, hcm, hcs, htk⟩⟩ := ho
    · cases hv0
    · injection hveq with e1 e2 e3
      injection e1 with e1
      injection e1 with e1
      subst e1; subst e3
      refine ⟨by rw [slCells_len, hl']; omega, .inr ⟨g, cap, _, rfl, hbase, sortWorld_at _ _ _ _ _ _ hcell, hqc, hcm, ?_, ?_⟩⟩
      · rw [← hcs]
        show (cur.mapIdx _).size = _
        simp
      · refine List.ext_getElem? fun j => ?_
        by_cases hj : j < q
        · rw [List.getElem?_take, if_pos (by omega), slCells_at (hat j hj)]
          have hjc : j < cur.size := by omega
          show ((cur.mapIdx fun k x => if 0 ≤ k ∧ k < 0 + d'.size then encRow d'[k - 0]! else x).toList)[j]? = _
          rw [Array.getElem?_toList, Array.getElem?_mapIdx, Array.getElem?_eq_getElem hjc]
          simp only [Option.map_some, Nat.zero_add, Nat.sub_zero, Nat.zero_le, true_and]
          rw [if_pos (by omega)]
          rfl
        · rw [List.getElem?_eq_none (by rw [List.length_take]; omega), List.getElem?_eq_none (by rw [slCells_len, hl']; omega)]
end Go.Proofs.YtljmclbedpceoaaGreatDoor

namespace Go.Proofs.YtljmclbedpceoaaGreatDoor
open Go.RowKit
set_option linter.unusedVariables false
set_option linter.unusedSimpArgs false

def SortedV (l : List (List Vl)) : Prop := l.Pairwise fun a b => ¬ rowC b a < 0
def insV (x : List Vl) : List (List Vl) → List (List Vl)
  | [] => [x]
  | y :: l => if rowC x y < 0 then x :: y :: l else y :: insV x l
def sortV (l : List (List Vl)) : List (List Vl) := l.foldr insV []
theorem rowC_le_trans {a b c : List Vl} (h : ¬ rowC b a < 0) (k : ¬ rowC c b < 0) : ¬ rowC c a < 0 := (swoRow (α := List Vl) id).ntrans c b a (by simpa [ltOf] using k) (by simpa [ltOf] using h) |> fun h => by simpa [ltOf] using h
theorem insV_perm (x : List Vl) : ∀ l, (insV x l).Perm (x :: l)
  | [] => List.Perm.refl _
  | y :: l => by
    rw [insV]
    split
    · exact List.Perm.refl _
    · exact ((insV_perm x l).cons y).trans (List.Perm.swap x y l)
theorem insV_sorted (x : List Vl) : ∀ {l}, SortedV l → SortedV (insV x l)
  | [], _ => List.pairwise_singleton _ _
  | y :: l, h => by
    have h2 := h
    unfold SortedV at h2
    rw [List.pairwise_cons] at h2
    rw [insV]
    split
    · rename_i hlt
      unfold SortedV
      rw [List.pairwise_cons]
      refine ⟨fun z hz => ?_, h⟩
      have h3 : ¬ rowC y x < 0 := fun e => by have := (rowC_flip _ _).1 hlt; omega
      rcases List.mem_cons.1 hz with rfl | hz
      · exact h3
      · exact rowC_le_trans h3 (h2.1 z hz)
    · rename_i hlt
      unfold SortedV
      rw [List.pairwise_cons]
      refine ⟨fun z hz => ?_, insV_sorted x h2.2⟩
      rcases List.mem_cons.1 ((insV_perm x l).mem_iff.1 hz) with rfl | hz
      · exact hlt
      · exact h2.1 z hz
theorem sortV_perm : ∀ l, (sortV l).Perm l
  | [] => List.Perm.refl _
  | x :: l => (insV_perm x (sortV l)).trans ((sortV_perm l).cons x)
theorem sortV_sorted : ∀ l, SortedV (sortV l)
  | [] => List.Pairwise.nil
  | x :: l => insV_sorted x (sortV_sorted l)
theorem sorted_uniq : ∀ {l l' : List (List Vl)}, l.Perm l' → SortedV l → SortedV l' → l = l'
  | [], l', h, _, _ => (List.Perm.nil_eq h)
  | a :: l, [], h, _, _ => absurd h.length_eq (by simp)
  | a :: l, b :: l', h, h1, h2 => by
    unfold SortedV at h1 h2
    rw [List.pairwise_cons] at h1 h2
    have hab : a = b := by
      have ha := h.mem_iff.1 (List.mem_cons_self (a := a) (l := l))
      have hb := h.mem_iff.2 (List.mem_cons_self (a := b) (l := l'))
      rcases List.mem_cons.1 ha with e | ha
      · exact e
      · rcases List.mem_cons.1 hb with e | hb
        · exact e.symm
        · have k1 := h2.1 a ha
          have k2 := h1.1 b hb
          have k3 : ¬ 0 < rowC b a := fun h => k1 ((rowC_flip _ _).2 h)
          exact ((rowC_eq b a).1 (by omega)).symm
    subst hab
    rw [sorted_uniq ((List.perm_cons a).1 h) h1.2 h2.2]
theorem sortV_of {l l' : List (List Vl)} (h : l'.Perm l) (hs : SortedV l') : l' = sortV l := sorted_uniq (h.trans (sortV_perm l).symm) hs (sortV_sorted l)
theorem sortV_len (l : List (List Vl)) : (sortV l).length = l.length := (sortV_perm l).length_eq
end Go.Proofs.YtljmclbedpceoaaGreatDoor

namespace Go.Proofs.YtljmclbedpceoaaGreatDoor
open Go.RowKit
set_option linter.unusedVariables false
set_option linter.unusedSimpArgs false

/-- rows handed back -/
def SlsRet (w : World) (M : Nat → Prop) (L : List (List Vl)) (e : Ending) (w' : World) : Prop := ∃ (A : Option Addr) (n c : Nat) (l : List Sl), e = .returned (.slice A n c) ∧ n ≤ c ∧ c ≤ 9223372036854775807 ∧ Ro w' M (SlsIn A n l) ∧ (∀ s ∈ l, s.ok) ∧ (∀ s ∈ l, s.n ≤ 4398046511104) ∧ l.map Sl.vs = L ∧ Below w.heap.size w w'
set_option maxHeartbeats 4000000 in
set_option maxRecDepth 100000 in
theorem tsort_any (M : Nat → Prop) (w : World) (hM : ∀ b, M b → b < w.heap.size) (A : Option Addr) (n c : Nat) (l : List Sl) (hD : Ro w M (SlsIn A n l)) (hn : n ≤ 4398046511104) (hr : ∀ s ∈ l, s.n ≤ 4398046511104) (hok : ∀ s ∈ l, s.ok) :
    Calls Tryz.prog 58 #[.slice A n c] w fun e w' => SlsRet w M (sortV (l.map Sl.vs)) e w' := by
  have HL := hid hD.now.len
  have HR := hid hr
  have HOK := hid hok
  have K0 := (((Hold.start M w hM).add (hD.less (by simp [Mut]))).add (show Ro w _ (SlVals []) from fun _ _ _ r hr => nomatch hr)).nil 87 1
  clear hD hr hok
  go_enter Tryz.func58, Tryz.ntmps58
  go_wp2_with fail
  go_loopw [3, 8] (fun ov iv wr => ∃ (k cap : Nat) (C : Option Addr) (lo : List Sl), k ≤ n ∧ ov = .slice C k cap ∧ iv = .int .i64 k ∧ Hid (lo.map Sl.vs = (l.map Sl.vs).take k) ∧ Hid (∀ s ∈ lo, s.ok) ∧ Hid (∀ s ∈ lo, s.n ≤ 4398046511104) ∧ Hold M none w wr [.own 87 1 (.slice C k cap) k (slCells lo), .ro (SlVals lo), .ro (SlsIn A n l)]) (fun _ iv _ => n - (intOf iv).toNat)
  case atStart => exact ⟨0, 0, none, [], by omega, rfl, rfl, hid (by simp), hid (fun s hs => nomatch hs), hid (fun s hs => nomatch hs), K0⟩
  case round =>
    clear K0
    obtain ⟨k, cap, C, lo, hk, rfl, rfl, HLO, HOO, HNO, H⟩ := hrel
    by_cases hlt : k < n
    · have hd : decide ((k : Int) < (n : Int)) = true := by simp; omega
      have i0 : (0 : Int) ≤ (k : Int) := by omega
      have i1 : (k : Int) < (n : Int) := by omega
      obtain ⟨x, hx⟩ := get_of HL.out hlt
      obtain ⟨b, o, rfl, hb, c0, _⟩ := (H.ro 2 rfl).now.at_ hx
      have hxv : Ro wr _ (VlsIn x.A x.n x.vs) := (H.ro 2 rfl).imp fun w2 h2 => h2.2 x (List.mem_of_getElem? hx)
      have hxn := HR.out x (List.mem_of_getElem? hx)
      have HXO := hid (HOK.out x (List.mem_of_getElem? hx))
      have HX := hid (show (l.map Sl.vs)[k]? = some x.vs by rw [List.getElem?_map, hx]; rfl)
      clear hx
      go_wp2_with fail
      refine (cloneVls_any _ wr H.mutLt x.A x.n x.c x.vs hxv hxn).mono ?_
      rintro e w2 ⟨zA, zn, zc, rfl, h1, h2, h3, r2, b2⟩
      have K1 := (H.call b2).add (show Ro w2 _ (VlsIn zA zn x.vs) from r2)
      have hzn : x.vs.length = x.n := hxv.now.len
      have HZ := hid (And.intro h1 (And.intro h2 h3))
      clear H hxv b2 r2 h1 h2 h3 c0
      have HCE := hid (show slCells lo ++ (#[Value.slice zA zn zc]).toList = slCells (lo ++ [⟨zA, zn, zc, x.vs⟩]) by simp [slCells, Sl.cells])
      have FA := K1.facts
      simp only [World.size_alloc, World.size_drew, factsL, cellsF, Nat.reduceAdd, List.toList_toArray, List.set_cons_zero, List.set_cons_succ, List.setIfInBounds_toArray, and_true, true_and] at FA
      go_wp2_with (at_builtin; go_must (refine wpList_appH K1 1 rfl Tryz.elSlc #[.slice zA zn zc] rfl (.tmp 12) (.tmp 15) rfl rfl w2.heap.size (by first | rfl | simp) rfl rfl (by intro u hu; simp at hu; rcases hu with rfl; rfl) (by omega) (by omega) ?_); intro g9 cap9 w9 hc9 hm9 KB; rw [HCE.out] at KB; simp only [List.set_cons_zero, List.set_cons_succ] at KB)
      have KC := (KB.swapRo 2 rfl (sls_snoc (r := ⟨zA, zn, zc, x.vs⟩) (KB.ro 2 rfl) (KB.ro 0 rfl))).drop (List.sublist_cons_self _ _)
      have HN := hid (show (lo ++ [(⟨zA, zn, zc, x.vs⟩ : Sl)]).map Sl.vs = (l.map Sl.vs).take (k + 1) by rw [List.map_append, HLO.out, List.take_add_one, HX.out]; rfl)
      have HN2 := hid (okSnoc (P := Sl.ok) (x := (⟨zA, zn, zc, x.vs⟩ : Sl)) HOO.out ⟨HZ.out.2.1, HZ.out.2.2, HXO.out.vs⟩)
      have HN3 := hid (okSnoc (P := fun s : Sl => s.n ≤ 4398046511104) (x := (⟨zA, zn, zc, x.vs⟩ : Sl)) HNO.out (by have := HZ.out.1; show zn ≤ _; omega))
      go_roundw
      case rel => exact ⟨k + 1, cap9, _, _, by omega, by first | rfl | go_num, by first | rfl | go_num, HN, HN2, HN3, KC⟩
      case measure => simp [intOf]; omega
    · obtain rfl : n = k := by omega
      have hd : decide ((n : Int) < (n : Int)) = false := by simp
      have HLV := hid (show lo.map Sl.vs = l.map Sl.vs by
        have h := HLO.out
        rwa [List.take_of_length_le (by rw [List.length_map, HL.out]; exact Nat.le_refl _)] at h)
      clear HLO
      obtain ⟨hc1, hc2, _⟩ := own_caps (H.get 0 rfl)
      rcases own_addr (H.get 0 rfl) with ⟨rfl, rfl, rfl⟩ | ⟨g, rfl, hg⟩
      · have hcon := AnyF.slices_SortFunc_none (P := Tryz.prog) (ρ := Tryz.sortRows_ren) { Tryz.sortRows with } none 0 (.func (.func 102) #[] #[])
        have HCN := hid (show ∀ W, Calls Tryz.prog 101 #[.slice none 0 0, .func (.func 102) #[] #[]] W fun e w' => e = .returned (.tuple #[]) ∧ w' = W from hcon)
        clear hcon
        have HEM := hid (show sortV (l.map Sl.vs) = lo.map Sl.vs by
          have h0 : l = [] := List.eq_nil_of_length_eq_zero HL.out
          have h1 := HLV.out
          rw [h0] at h1 ⊢
          rw [h1]; rfl)
        have KS := H.sealRow 0 rfl
        simp only [List.set_cons_zero] at KS
        have r1 := (KS.roOut 0 rfl).and (KS.roOut 1 rfl)
        go_wp2_with fail
        refine (HCN.out _).mono ?_
        rintro e w2 ⟨rfl, rfl⟩
        go_wp2_with fail
        go_ret
        exact ⟨none, 0, 0, lo, rfl, by omega, by omega, r1, HOO.out, HNO.out, HEM.out.symm, KS.below⟩
      · have hsf := sortfn_any H 0 rfl (H.ro 1 rfl) (fun s hs => by have := HNO.out s hs; omega) (by omega)
        have HSF := hid hsf
        clear hsf
        go_wp2_with fail
        refine HSF.out.mono ?_
        rintro e w2 ⟨rfl, lo', hp, hs, K2⟩
        simp only [List.set_cons_zero] at K2
        have HEM := hid (show lo'.map Sl.vs = sortV (l.map Sl.vs) by
          rw [← HLV.out]
          exact sortV_of (hp.map _) (List.pairwise_map.2 (hs.imp fun h => by omega)))
        have HP := hid hp
        clear H hp hs
        have KV := K2.add (show Ro w2 _ (SlVals lo') from (K2.ro 1 rfl).imp fun w3 h3 s hs => h3 s (HP.out.mem_iff.1 hs))
        have KS := KV.sealRow 1 rfl
        simp only [List.set_cons_zero, List.set_cons_succ] at KS
        have r1 := (KS.roOut 1 rfl).and (KS.roOut 0 rfl)
        go_wp2_with fail
        go_ret
        exact ⟨_, n, cap, lo', rfl, hc1, hc2, r1, fun s hs => HOO.out s (HP.out.mem_iff.1 hs), fun s hs => HNO.out s (HP.out.mem_iff.1 hs), HEM.out, KS.below⟩
end Go.Proofs.YtljmclbedpceoaaGreatDoor

namespace Go.Proofs.YtljmclbedpceoaaGreatDoor
open Go.RowKit
set_option linter.unusedVariables false
set_option linter.unusedSimpArgs false

section
variable {M : Nat → Prop} {row : Option Nat} {w0 w : World} {L : List Hp} {P : Program}
theorem Hold.setRow_ (K : Hold M row w0 w L) (i : Nat) {e : TypeId} {n cap g : Nat} {xs : List Value} (hi : L[i]? = some (.own e 1 (.slice (some ⟨g, 0, none⟩) n cap) n xs)) {cur : Array Value} {t : TypeId} (hg : w.heap[g]? = some (.cells cur t (0, 0))) (d : Nat) (cs : List Value) (hd : d + cs.length ≤ n) :
    Hold M row w0 (w.setRow g (cur.toList.take d ++ (cs ++ cur.toList.drop (d + cs.length))).toArray) (L.set i (.own e 1 (.slice (some ⟨g, 0, none⟩) n cap) n (xs.take d ++ (cs ++ xs.drop (d + cs.length))))) := by
  have hkm := List.mem_of_getElem? hi
  have hs : w.ownsRow w0.heap.size e 1 (.slice (some ⟨g, 0, none⟩) n cap) n xs := K.sat _ hkm
  obtain ⟨hl, ⟨h', _⟩ | ⟨g', cap', cur', h', hb, hg', hnc, hcm, hcs, htake⟩⟩ := hs
  · cases h'
  · simp only [Value.slice.injEq, Option.some.injEq, Addr.mk.injEq, and_true, true_and] at h'
    obtain ⟨rfl, rfl⟩ := h'
    rw [hg] at hg'
    injection hg' with hg'
    injection hg' with e1 e2
    subst e1 e2
    rw [Nat.mul_one] at hl htake hcs
    have hcl : cur.toList.length = cap := by simpa using hcs
    refine K.turn i hi (by simp [World.setRow]) ⟨rfl, rfl, rfl⟩ (fun b _ hne => setRow_other w g b _ fun e => hne (by rw [e]; rfl)) (fun b hf => ?_) ?_ (fun T hT => by cases hT)
    · have : some g = some b := hf
      injection this with this
      subst this
      exact ⟨.inl rfl, by simpa [World.setRow] using Blk.lt (t := t) (cs := cur) hg⟩
    · show World.ownsRow _ _ t 1 (.slice (some ⟨g, 0, none⟩) n cap) n _
      refine ⟨by simp; omega, .inr ⟨g, cap, _, rfl, hb, setRow_heap w g _ _ _ _ hg, hnc, hcm, by simp; omega, ?_⟩⟩
      rw [Nat.mul_one, List.toList_toArray]
      have e1 : cur.toList.take d = xs.take d := by rw [← htake, List.take_take, Nat.min_eq_left (by omega)]
      have e2 : cur.toList.drop (d + cs.length) = xs.drop (d + cs.length) ++ cur.toList.drop n := by
        have h := List.drop_append (l₁ := cur.toList.take n) (l₂ := cur.toList.drop n) (i := d + cs.length)
        rw [List.take_append_drop, htake] at h
        rw [h, show d + cs.length - xs.length = 0 by omega, List.drop_zero]
      rw [e1, e2, ← List.append_assoc cs, ← List.append_assoc (xs.take d), List.take_append_of_le_length (by simp; omega), List.take_of_length_le (by simp; omega)]
theorem wpList_copyH (K : Hold M row w0 w L) (i : Nat) {e : TypeId} {n cap g : Nat} {xs : List Value} (hi : L[i]? = some (.own e 1 (.slice (some ⟨g, 0, none⟩) n cap) n xs)) {ops : Array Oper} {rest : List Oper} {o : Oper} {a : Act} {Q : Exit → Act → World → Prop} (hgd : o.guard = none) (dO sO : Operand) (dT sT : TypeId)
    (ho : o.op = .call { callee := .builtin .copy, args := #[dO, sO], argTypes := #[dT, sT] }) (elem : TypeId) (hu : P.underlying dT = some (.slice elem)) (hsz : (P.info? elem).map (·.size) = some 1)
    (d s dLen dCap sLen sCap m : Nat) (hd : a.eval dO = .slice (some ⟨g, d, none⟩) dLen dCap) (hs : a.eval sO = .slice (some ⟨g, s, none⟩) sLen sCap) (hm : m = Nat.min sLen dLen) (hsm : s + m ≤ n) (hdm : d + m ≤ n) (h1 : ∀ u ∈ xs, u.oneCell' = true)
    (h : ∀ w', Hold M row w0 w' (L.set i (.own e 1 (.slice (some ⟨g, 0, none⟩) n cap) n (xs.take d ++ ((xs.drop s).take m ++ xs.drop (d + m))))) → wpList P ops Q rest (a.put o.dst (goInt m)) w') : wpList P ops Q (o :: rest) a w := by
  have hown : w.ownsRow w0.heap.size e 1 (.slice (some ⟨g, 0, none⟩) n cap) n xs := K.sat _ (List.mem_of_getElem? hi)
  have hcell := hown.cellAt
  obtain ⟨hl, ⟨h', _⟩ | ⟨g', cap', cur, h', hb, hg, hnc, hcm, hcs, htake⟩⟩ := hown
  · cases h'
  · simp only [Value.slice.injEq, Option.some.injEq, Addr.mk.injEq, and_true, true_and] at h'
    obtain ⟨rfl, rfl⟩ := h'
    rw [Nat.mul_one] at hl
    have hml : ((xs.drop s).take m).length = m := by simp; omega
    have hw := h _ (by have h2 := K.setRow_ i hi hg d ((xs.drop s).take m) (by rw [hml]; exact hdm); rw [hml] at h2; exact h2)
    refine wpList_copy_own hgd dO sO dT sT ho elem hu hsz g d dLen dCap ⟨g, s, none⟩ sLen sCap hd hs cur e hg ((xs.drop s).take m) (by rw [hml]; exact hm) (fun j v hv => ?_) ?_ (fun v hv => h1 v (List.mem_of_mem_drop (List.mem_of_mem_take hv))) (by rw [hml]; exact hw)
    · have hj : j < m := by have := (List.getElem?_eq_some_iff.1 hv).1; omega
      rw [List.getElem?_take, if_pos hj, List.getElem?_drop] at hv
      rw [← hv]
      have h3 := hcell (s + j) (by omega)
      rw [Go.WideShapes.add_plain]
      exact h3
    · have : cur.size = cap := by simpa using hcs
      rw [hml]; omega
end
/-- a list with one inserted at place j -/
def putAt {α : Type} (l : List α) (j : Nat) (x : α) : List α := l.take j ++ x :: l.drop j
theorem putAt_perm {α : Type} (l : List α) (j : Nat) (x : α) : (putAt l j x).Perm (x :: l) := by
  have h := List.perm_middle (a := x) (l₁ := l.take j) (l₂ := l.drop j)
  rwa [List.take_append_drop] at h
theorem putAt_mem {α : Type} {l : List α} {j : Nat} {x y : α} : y ∈ putAt l j x ↔ y = x ∨ y ∈ l := by rw [(putAt_perm l j x).mem_iff, List.mem_cons]
theorem putAt_map {α β : Type} (f : α → β) (l : List α) (j : Nat) (x : α) : (putAt l j x).map f = putAt (l.map f) j (f x) := by simp [putAt, List.map_take, List.map_drop]
/-- shifting up by one and storing -/
theorem shift_put {α : Type} (l : List α) (z x : α) (j : Nat) (hj : j ≤ l.length) :
    (((l ++ [z]).take (j + 1) ++ (((l ++ [z]).drop j).take (l.length - j) ++ (l ++ [z]).drop (j + 1 + (l.length - j)))).set j x) = putAt l j x := by
  have e1 : ((l ++ [z]).drop j).take (l.length - j) = l.drop j := by
    rw [List.drop_append_of_le_length hj, List.take_append_of_le_length (by simp), List.take_of_length_le (by simp)]
  have e2 : (l ++ [z]).drop (j + 1 + (l.length - j)) = [] := List.drop_of_length_le (by simp; omega)
  rw [e1, e2, List.append_nil]
  have e3 : ((l ++ [z]).take (j + 1)) = l.take j ++ ((l ++ [z]).drop j).take 1 := by
    rw [List.take_add, List.take_append_of_le_length hj]
  rw [e3]
  have e4 : (((l ++ [z]).drop j).take 1).length = 1 := by simp; omega
  obtain ⟨y, hy⟩ : ∃ y, ((l ++ [z]).drop j).take 1 = [y] := List.length_eq_one_iff.1 e4
  rw [hy, List.append_assoc, List.set_append_right _ _ (by rw [List.length_take]; exact Nat.min_le_left _ _), List.length_take, Nat.min_eq_left hj, Nat.sub_self]
  rfl
theorem push_put {α : Type} (l : List α) (z x : α) : (l ++ [z]).set l.length x = putAt l l.length x := by
  rw [List.set_append_right _ _ (Nat.le_refl _), Nat.sub_self, putAt, List.take_length, List.drop_length]; rfl
theorem putAt_slCells (l : List Sl) (j : Nat) (z : Sl) : slCells (putAt l j z) = putAt (slCells l) j (.slice z.A z.n z.c) := by
  have h : ∀ l : List Sl, slCells l = l.map fun s => .slice s.A s.n s.c := fun l => by
    induction l with
    | nil => rfl
    | cons a l ih => simp [slCells, Sl.cells] at ih ⊢; simpa using ih
  rw [h, h, putAt_map]
theorem sorted_insert {L : List (List Vl)} {x : List Vl} {j : Nat} (hs : SortedV L) (h1 : ∀ i b, j ≤ i → L[i]? = some b → 0 < rowC b x) (h2 : j = 0 ∨ ∃ a, L[j - 1]? = some a ∧ ¬ 0 < rowC a x) : SortedV (putAt L j x) := by
  have hs' := hs
  unfold SortedV at hs hs' ⊢
  unfold putAt
  rw [← List.take_append_drop j L, List.pairwise_append] at hs
  rw [List.pairwise_append, List.pairwise_cons]
  refine ⟨hs.1, ⟨fun b hb => ?_, hs.2.1⟩, fun a ha b hb => ?_⟩
  · obtain ⟨i, hi⟩ := List.mem_iff_getElem?.1 hb
    rw [List.getElem?_drop] at hi
    have := h1 (j + i) b (by omega) hi
    omega
  · rcases List.mem_cons.1 hb with rfl | hb
    · rcases h2 with rfl | ⟨c, hc, hcx⟩
      · simp at ha
      · have hxc : ¬ rowC b c < 0 := fun h => hcx ((rowC_flip _ _).1 h)
        obtain ⟨i, hi⟩ := List.mem_iff_getElem?.1 ha
        have hij : i < j := by have := (List.getElem?_eq_some_iff.1 hi).1; simp at this; omega
        rw [List.getElem?_take, if_pos hij] at hi
        by_cases e : i = j - 1
        · subst e; rw [hc] at hi; injection hi with hi; subst hi; exact hxc
        · have hca : ¬ rowC c a < 0 := by
            rw [List.pairwise_iff_getElem] at hs'
            obtain ⟨l1, g1⟩ := List.getElem?_eq_some_iff.1 hi
            obtain ⟨l2, g2⟩ := List.getElem?_eq_some_iff.1 hc
            have := hs' i (j - 1) l1 l2 (by omega)
            rwa [g1, g2] at this
          exact rowC_le_trans hca hxc
    · exact hs.2.2 a ha b hb
end Go.Proofs.YtljmclbedpceoaaGreatDoor

namespace Go.Proofs.YtljmclbedpceoaaGreatDoor
open Go.RowKit
set_option linter.unusedVariables false
set_option linter.unusedSimpArgs false

theorem cb_eq : ∀ x y : List UInt8, Lib.compareBytes x y = if Op.bytesLess x y then -1 else if x == y then 0 else 1
  | [], [] => by simp [Lib.compareBytes, Op.bytesLess]
  | [], b :: y => by simp [Lib.compareBytes, Op.bytesLess]
  | a :: x, [] => by simp [Lib.compareBytes, Op.bytesLess]
  | a :: x, b :: y => by
    simp only [Lib.compareBytes, Op.bytesLess]
    by_cases h1 : a < b
    · simp [h1]
    · by_cases h2 : b < a
      · have hne : a ≠ b := by
          rintro rfl
          exact h1 h2
        simp [h1, h2, hne]
      · have he : a = b := by
          have h1' : ¬ a.toNat < b.toNat := h1
          have h2' : ¬ b.toNat < a.toNat := h2
          exact UInt8.toNat_inj.1 (by omega)
        subst he
        have := cb_eq x y
        simp [h1, this]
theorem toList_data (s : ByteArray) : s.toList = s.data.toList := by
  rw [ByteArray.toList_eq]
theorem scompare_any (a b : ByteArray) (w : World) : Calls Tryz.prog 136 #[.string a, .string b] w fun e w' => e = .returned (.int .i64 (cmpS a b)) ∧ w = w' := by
  have h := Any.strings_Compare Tryz.lays106 a b w
  change Calls Tryz.prog 136 _ _ _ at h
  refine h.mono ?_
  rintro e w' ⟨rfl, rfl⟩
  exact ⟨by rw [cb_eq]; unfold cmpS; rw [toList_data, toList_data], rfl⟩
set_option maxHeartbeats 1000000 in
theorem rcompare_ex (x y : Vl) (w : World) : Calls Tryz.prog 100 #[.agg #[.int .i64 x.k, .int .i64 x.i, .string x.s], .agg #[.int .i64 y.k, .int .i64 y.i, .string y.s]] w fun e w' => e = .returned (.int .i64 (cmpVl x y)) ∧ Below w.heap.size w w' := by
  obtain ⟨xk, xi, xs⟩ := x
  obtain ⟨yk, yi, ys⟩ := y
  dsimp only
  have K0 := ((Hold.begin_ w).alloc_cst #[.int .i64 xk, .int .i64 xi, .string xs] 86).alloc_cst #[.int .i64 yk, .int .i64 yi, .string ys] 86
  rw [World.size_alloc] at K0
  have F0 := K0.facts
  simp only [World.size_alloc, World.size_drew, factsL, cellsF, Nat.reduceAdd, List.toList_toArray, List.set_cons_zero, List.set_cons_succ, List.setIfInBounds_toArray, and_true, true_and] at F0
  by_cases hk : xk = yk
  · subst hk
    have hb : (xk != xk) = false := by simp
    by_cases hi : xi = yi
    · subst hi
      have hb2 : (xi != xi) = false := by simp
      go_enter Tryz.func100, Tryz.ntmps100
      go_wp2_with fail
      have HN := hid (show cmpVl ⟨xk, xi, xs⟩ ⟨xk, xi, ys⟩ = cmpS xs ys by
        have h1 := (linI.eq xk xk).2 rfl
        have h2 := (linI.eq xi xi).2 rfl
        by_cases h3 : cmpS xs ys = 0 <;> simp [cmpVl, cmpV, firstNZ, h1, h2, h3])
      refine (scompare_any xs ys _).mono ?_
      rintro e w1 ⟨rfl, rfl⟩
      go_wp2_with fail
      go_ret
      exact ⟨by rw [HN.out] <;> rfl, K0.below⟩
    · have hb2 : (xi != yi) = true := by simpa using hi
      have HI := hid hi
      rcases Int.lt_or_le xi yi with hl | hl
      · have hd : decide (xi < yi) = true := by simpa using hl
        have HN := hid (show cmpVl ⟨xk, xi, xs⟩ ⟨xk, yi, ys⟩ = -1 by
          have h1 := (linI.eq xk xk).2 rfl
          have h2 : cmpI xi yi = -1 := by rcases cmpI_cases xi yi with h | h | h <;> omega
          simp [cmpVl, cmpV, firstNZ, h2, h1])
        clear hi hl
        go_enter Tryz.func100, Tryz.ntmps100
        go_wp2_with fail
        go_ret
        exact ⟨by rw [HN.out] <;> rfl, K0.below⟩
      · have hd : decide (xi < yi) = false := by rw [decide_eq_false_iff_not]; omega
        have HN := hid (show cmpVl ⟨xk, xi, xs⟩ ⟨xk, yi, ys⟩ = 1 by
          have h1 := (linI.eq xk xk).2 rfl
          have h2 : cmpI xi yi = 1 := by rcases cmpI_cases xi yi with h | h | h <;> omega
          simp [cmpVl, cmpV, firstNZ, h2, h1])
        clear hi hl
        go_enter Tryz.func100, Tryz.ntmps100
        go_wp2_with fail
        go_ret
        exact ⟨by rw [HN.out] <;> rfl, K0.below⟩
  · have hb : (xk != yk) = true := by simpa using hk
    have HI := hid hk
    rcases Int.lt_or_le xk yk with hl | hl
    · have hd : decide (xk < yk) = true := by simpa using hl
      have HN := hid (show cmpVl ⟨xk, xi, xs⟩ ⟨yk, yi, ys⟩ = -1 by
        have h2 : cmpI xk yk = -1 := by rcases cmpI_cases xk yk with h | h | h <;> omega
        simp [cmpVl, cmpV, firstNZ, h2])
      clear hk hl
      go_enter Tryz.func100, Tryz.ntmps100
      go_wp2_with fail
      go_ret
      exact ⟨by rw [HN.out] <;> rfl, K0.below⟩
    · have hd : decide (xk < yk) = false := by rw [decide_eq_false_iff_not]; omega
      have HN := hid (show cmpVl ⟨xk, xi, xs⟩ ⟨yk, yi, ys⟩ = 1 by
        have h2 : cmpI xk yk = 1 := by rcases cmpI_cases xk yk with h | h | h <;> omega
        simp [cmpVl, cmpV, firstNZ, h2])
      clear hk hl
      go_enter Tryz.func100, Tryz.ntmps100
      go_wp2_with fail
      go_ret
      exact ⟨by rw [HN.out] <;> rfl, K0.below⟩
set_option maxHeartbeats 4000000 in
set_option maxRecDepth 100000 in
theorem rcmprows_ex (M : Nat → Prop) (w : World) (hM : ∀ b, M b → b < w.heap.size) (A : Option Addr) (n c : Nat) (xs : List Vl) (B : Option Addr) (m d : Nat) (ys : List Vl) (hD : Ro w M (VlsIn A n xs)) (hE : Ro w M (VlsIn B m ys)) (hn : n ≤ 9223372036854775807) (hm : m ≤ 9223372036854775807) :
    Calls Tryz.prog 56 #[.slice A n c, .slice B m d] w fun e w' => e = .returned (.int .i64 (rowC xs ys)) ∧ Below w.heap.size w w' := by
  have HX := hid hD.now.len
  have HY := hid hE.now.len
  have K0 := ((Hold.start M w hM).add (hE.less (by simp [Mut]))).add (hD.less (by simp [Mut, Hp.foot]))
  clear hD hE
  go_enter Tryz.func56, Tryz.ntmps56
  go_wp2_with fail
  go_loopw [5] (fun iv wr => ∃ k : Nat, k ≤ n ∧ k ≤ m ∧ iv = .int .i64 k ∧ Hid (rowC xs ys = rowC (xs.drop k) (ys.drop k)) ∧ Hold M none w wr [.ro (VlsIn A n xs), .ro (VlsIn B m ys)]) (fun iv _ => n - (intOf iv).toNat)
  case atStart => exact ⟨0, by omega, by omega, rfl, hid rfl, K0⟩
  case round =>
    clear K0
    obtain ⟨k, hk, hkm, rfl, HT, H⟩ := hrel
    by_cases hlt : k < n
    · have hd : decide ((k : Int) < (n : Int)) = true := by simp; omega
      by_cases hltm : k < m
      · have hdm : decide ((k : Int) < (m : Int)) = true := by simp; omega
        have k0 : (0 : Int) ≤ (k : Int) := by omega
        have k1 : (k : Int) < (n : Int) := by omega
        have k2 : (k : Int) < (m : Int) := by omega
        obtain ⟨x, hx⟩ := get_of HX.out hlt
        obtain ⟨y, hy⟩ := get_of HY.out hltm
        obtain ⟨b1, o1, rfl, r1⟩ := (H.ro 0 rfl).vlsAt hx
        obtain ⟨b2, o2, rfl, r2⟩ := (H.ro 1 rfl).vlsAt hy
        have HXX := hid hx
        have HYY := hid hy
        clear hx hy
        have K1 := (H.add r1).add (r2.less (mut_none rfl))
        clear r1 r2
        obtain ⟨KL, hKL, K2⟩ := K1.name
        clear K1
        have HF : Hid (∀ wv, Hold M none w wv KL → (b2 < wv.heap.size ∧ wv.cell? ⟨b2, o2 + k * 3, none⟩ = some (.int .i64 y.k) ∧ wv.cell? ⟨b2, o2 + k * 3 + 1, none⟩ = some (.int .i64 y.i) ∧ wv.cell? ⟨b2, o2 + k * 3 + 2, none⟩ = some (.string y.s)) ∧ b1 < wv.heap.size ∧ wv.cell? ⟨b1, o1 + k * 3, none⟩ = some (.int .i64 x.k) ∧ wv.cell? ⟨b1, o1 + k * 3 + 1, none⟩ = some (.int .i64 x.i) ∧ wv.cell? ⟨b1, o1 + k * 3 + 2, none⟩ = some (.string x.s)) := hid fun wv HC => by
          rw [hKL] at HC
          exact ⟨(HC.ro 0 rfl).now, (HC.ro 1 rfl).now⟩
        have HKL := hid hKL
        clear hKL
        go_wp2_with fail
        refine wp_region_any (by kernel_rfl) ?_
        refine wpAny_hold 10 41 (KL) (spL [(27, fun u _ => u = .int .i64 (cmpVl x y))]) (by kernel_rfl) (by kernel_rfl) (by kernel_rfl) rfl ?_ (K2.drew) ?_
        · exact stays_cons (fun _ _ _ _ h => h) (stays_nil _)
        simp only [List.take_succ_cons, List.take_zero, List.drop_succ_cons, List.drop_zero, Act.put, List.getElem_toArray, List.getElem_cons_zero, List.getElem_cons_succ, List.setIfInBounds_toArray, List.set_cons_succ, List.set_cons_zero]
        refine dw_val rfl rfl rfl ?_; apply Exists.intro; refine ⟨fun wv HC => ?_, ?_⟩
        ·  go_simp <;> rfl
        simp only [Act.put, List.setIfInBounds_toArray, List.set_cons_succ, List.set_cons_zero]
        refine dw_val rfl rfl rfl ?_; apply Exists.intro; refine ⟨fun wv HC => ?_, ?_⟩
        ·  go_simp <;> rfl
        simp only [Act.put, List.setIfInBounds_toArray, List.set_cons_succ, List.set_cons_zero]
        refine dw_val rfl rfl rfl ?_; apply Exists.intro; refine ⟨fun wv HC => ?_, ?_⟩
        ·  go_simp <;> rfl
        simp only [Act.put, List.setIfInBounds_toArray, List.set_cons_succ, List.set_cons_zero]
        refine dw_val rfl rfl rfl ?_; apply Exists.intro; refine ⟨fun wv HC => ?_, ?_⟩
        · obtain ⟨⟨f0, f1, f2, f3⟩, f4, f5, f6, f7⟩ := HF.out _ HC; go_simp <;> rfl
        simp only [Act.put, List.setIfInBounds_toArray, List.set_cons_succ, List.set_cons_zero]
        refine dw_val rfl rfl rfl ?_; apply Exists.intro; refine ⟨fun wv HC => ?_, ?_⟩
        ·  go_simp <;> rfl
        simp only [Act.put, List.setIfInBounds_toArray, List.set_cons_succ, List.set_cons_zero]
        refine dw_val rfl rfl rfl ?_; apply Exists.intro; refine ⟨fun wv HC => ?_, ?_⟩
        ·  go_simp <;> rfl
        simp only [Act.put, List.setIfInBounds_toArray, List.set_cons_succ, List.set_cons_zero]
        refine dw_val rfl rfl rfl ?_; apply Exists.intro; refine ⟨fun wv HC => ?_, ?_⟩
        ·  go_simp <;> rfl
        simp only [Act.put, List.setIfInBounds_toArray, List.set_cons_succ, List.set_cons_zero]
        refine dw_val rfl rfl rfl ?_; apply Exists.intro; refine ⟨fun wv HC => ?_, ?_⟩
        · obtain ⟨⟨f0, f1, f2, f3⟩, f4, f5, f6, f7⟩ := HF.out _ HC; go_simp <;> rfl
        simp only [Act.put, List.setIfInBounds_toArray, List.set_cons_succ, List.set_cons_zero]
        refine dw_callR 27 (fun u _ => u = .int .i64 (cmpVl x y)) (f := 100) (args := #[.agg #[.int .i64 x.k, .int .i64 x.i, .string x.s], .agg #[.int .i64 y.k, .int .i64 y.i, .string y.s]]) rfl rfl rfl rfl (fun wv => ?_) (fun wv HC hrm hD => ?_) ?_
        · go_simp <;> rfl
        · refine (rcompare_ex x y wv).mono ?_
          rintro e w5 ⟨rfl, b5⟩
          exact ⟨_, rfl, rfl, HC.call b5, RM.below b5⟩
        rintro u wx HCx rfl
        clear HCx
        obtain ⟨r, hr⟩ : ∃ r, r = cmpVl x y := ⟨_, rfl⟩
        rw [← hr]
        have HR := hid hr
        clear hr
        simp only [Act.put, List.setIfInBounds_toArray, List.set_cons_succ, List.set_cons_zero]
        refine dw_val rfl rfl rfl ?_; apply Exists.intro; refine ⟨fun wv HC => ?_, ?_⟩
        ·  go_simp <;> rfl
        simp only [Act.put, List.setIfInBounds_toArray, List.set_cons_succ, List.set_cons_zero]
        refine rel_nil ?_
        rintro wx2 HX2
        rintro _hrm _HG
        rw [HKL.out] at HX2
        clear _hrm _HG
        have K3 := HX2.drop (List.Sublist.cons _ (List.sublist_cons_self _ _))
        by_cases hr0 : r = 0
        · have hb : (r != 0) = false := by simp [hr0]
          have HN := hid (show rowC xs ys = rowC (xs.drop (k + 1)) (ys.drop (k + 1)) by rw [HT.out]; exact rowC_go HXX.out HYY.out (by rw [← HR.out, hr0]))
          clear hr0
          go_wp2_with fail
          go_roundw
          case rel => exact ⟨k + 1, by omega, by omega, by go_num, HN, K3⟩
          case measure => simp [intOf]; omega
        · have hb : (r != 0) = true := by simpa using hr0
          have HN := hid (show rowC xs ys = r by rw [HT.out, rowC_stop HXX.out HYY.out (by rw [← HR.out]; exact hr0), HR.out])
          clear hr0
          go_wp2_with fail
          go_ret
          exact ⟨by rw [HN.out] <;> rfl, K3.below⟩
      · obtain rfl : k = m := by omega
        have hdm : decide ((k : Int) < (k : Int)) = false := by simp
        have hd2 : decide ((n : Int) < (k : Int)) = false := by rw [decide_eq_false_iff_not]; omega
        have hd3 : decide ((k : Int) < (n : Int)) = true := by simp; omega
        have hd4 : decide ((n : Int) > (k : Int)) = true := by simp; omega
        have HN := hid (show rowC xs ys = 1 by rw [HT.out, rowC_end HX.out HY.out (show k = min n k by omega)]; rcases cmpI_cases (n : Int) (k : Int) with h | h | h <;> omega)
        go_wp2_with fail
        go_ret
        exact ⟨by rw [HN.out] <;> rfl, H.below⟩
    · obtain rfl : k = n := by omega
      have hd : decide ((k : Int) < (k : Int)) = false := by simp
      by_cases hkm2 : k = m
      · subst hkm2
        have hd4 : decide ((k : Int) > (k : Int)) = false := by simp
        have HN := hid (show rowC xs ys = 0 by rw [HT.out, rowC_end HX.out HY.out (show k = min k k by omega)]; rcases cmpI_cases (k : Int) (k : Int) with h | h | h <;> omega)
        go_wp2_with fail
        go_ret
        exact ⟨by rw [HN.out] <;> rfl, H.below⟩
      · have hd2 : decide ((k : Int) < (m : Int)) = true := by simp; omega
        have HN := hid (show rowC xs ys = -1 by rw [HT.out, rowC_end HX.out HY.out (show k = min k m by omega)]; rcases cmpI_cases (k : Int) (m : Int) with h | h | h <;> omega)
        have hkm3 : k < m := by omega
        clear hkm2
        go_wp2_with fail
        go_ret
        exact ⟨by rw [HN.out] <;> rfl, H.below⟩
end Go.Proofs.YtljmclbedpceoaaGreatDoor

namespace Go.Proofs.YtljmclbedpceoaaGreatDoor
open Go.RowKit
set_option linter.unusedVariables false
set_option linter.unusedSimpArgs false

theorem slNil_one (l : List Sl) : ∀ u ∈ slCells l ++ [Value.slice none 0 0], u.oneCell' = true := fun u hu => by
  rcases List.mem_append.1 hu with h | h
  · obtain ⟨s, hs, hu'⟩ := List.mem_flatMap.1 h
    simp [Sl.cells] at hu'
    subst hu'
    rfl
  · simp at h; subst h; rfl
theorem min_shift1 {k j : Nat} : k - j = Nat.min (k + 1 - j) (k - j) := (Nat.min_eq_right (by omega)).symm
theorem perm_snoc {a b : List (List Vl)} {j : Nat} {x : List Vl} (h : a.Perm b) : (putAt a j x).Perm (b ++ [x]) := (putAt_perm a j x).trans ((h.cons x).trans (List.perm_append_singleton x b).symm)
theorem slVals_put {lo : List Sl} {j : Nat} {z : Sl} {w : World} (h : SlVals lo w) (k : VlsIn z.A z.n z.vs w) : SlVals (putAt lo j z) w := fun r hr => by
  rcases putAt_mem.1 hr with rfl | hr
  · exact k
  · exact h r hr
theorem putAt_all {α : Type} {P : α → Prop} {lo : List α} {j : Nat} {z : α} (h : ∀ s ∈ lo, P s) (k : P z) : ∀ s ∈ putAt lo j z, P s := fun r hr => by
  rcases putAt_mem.1 hr with rfl | hr
  · exact k
  · exact h r hr
theorem sorted_put {L : List (List Vl)} {x : List Vl} {j : Nat} (hs : SortedV L) (h1 : ∀ i b, j ≤ i → L[i]? = some b → 0 < rowC b x) (h2 : j = 0 ∨ ∃ a, L[j - 1]? = some a ∧ rowC a x ≤ 0) : SortedV (putAt L j x) :=
  sorted_insert hs h1 (h2.imp id fun ⟨a, e, h⟩ => ⟨a, e, by omega⟩)
theorem cells_shift {lo : List Sl} {k j : Nat} {A : Option Addr} {n c : Nat} {vs : List Vl} (hl : lo.length = k) (hj : j ≤ k) :
    (((slCells lo ++ [Value.slice none 0 0]).take (j + 1) ++ (((slCells lo ++ [Value.slice none 0 0]).drop j).take (k - j) ++ (slCells lo ++ [Value.slice none 0 0]).drop (j + 1 + (k - j)))).set j (.slice A n c)) = slCells (putAt lo j ⟨A, n, c, vs⟩) := by
  have h := shift_put (slCells lo) (Value.slice none 0 0) (.slice A n c) j (by rw [slCells_len]; omega)
  rw [slCells_len, hl] at h
  rw [putAt_slCells, h]
theorem cells_push {lo : List Sl} {j : Nat} {A : Option Addr} {n c : Nat} {vs : List Vl} (hl : lo.length = j) : (slCells lo ++ [Value.slice none 0 0]).set j (.slice A n c) = slCells (putAt lo j ⟨A, n, c, vs⟩) := by
  have h := push_put (slCells lo) (Value.slice none 0 0) (.slice A n c)
  rw [slCells_len, hl] at h
  rw [putAt_slCells, h]
set_option maxHeartbeats 4000000 in
set_option maxRecDepth 100000 in
theorem rsort_any (M : Nat → Prop) (w : World) (hM : ∀ b, M b → b < w.heap.size) (A : Option Addr) (n c : Nat) (l : List Sl) (hD : Ro w M (SlsIn A n l)) (hn : n ≤ 4398046511104) (hr : ∀ s ∈ l, s.n ≤ 4398046511104) (hok : ∀ s ∈ l, s.ok) :
    Calls Tryz.prog 59 #[.slice A n c] w fun e w' => SlsRet w M (sortV (l.map Sl.vs)) e w' := by
  have HL := hid hD.now.len
  have HR := hid hr
  have HOK := hid hok
  have K0 := (((Hold.start M w hM).add (hD.less (by simp [Mut]))).add (show Ro w _ (SlVals []) from fun _ _ _ r hr => nomatch hr)).nil 87 1
  clear hD hr hok
  go_enter Tryz.func59, Tryz.ntmps59
  go_wp2_with fail
  go_loopw [3, 9] (fun ov iv wr => ∃ (k cap : Nat) (C : Option Addr) (lo : List Sl), k ≤ n ∧ ov = .slice C k cap ∧ iv = .int .i64 k ∧ Hid ((lo.map Sl.vs).Perm ((l.map Sl.vs).take k)) ∧ Hid (SortedV (lo.map Sl.vs)) ∧ Hid (∀ s ∈ lo, s.ok) ∧ Hid (∀ s ∈ lo, s.n ≤ 4398046511104) ∧ Hold M none w wr [.own 87 1 (.slice C k cap) k (slCells lo), .ro (SlVals lo), .ro (SlsIn A n l)]) (fun _ iv _ => n - (intOf iv).toNat)
  case atStart => exact ⟨0, 0, none, [], by omega, rfl, rfl, hid (by simp), hid List.Pairwise.nil, hid (fun s hs => nomatch hs), hid (fun s hs => nomatch hs), K0⟩
  case round =>
    clear K0
    obtain ⟨k, cap, C, lo, hk, rfl, rfl, HLO, HSO, HOO, HNO, H⟩ := hrel
    have HLK := hid (show lo.length = k by have := (H.get 0 rfl).1; rw [slCells_len] at this; omega)
    by_cases hlt : k < n
    · have hd : decide ((k : Int) < (n : Int)) = true := by simp; omega
      have i0 : (0 : Int) ≤ (k : Int) := by omega
      have i1 : (k : Int) < (n : Int) := by omega
      obtain ⟨x, hx⟩ := get_of HL.out hlt
      obtain ⟨b, o, rfl, hb, c0, _⟩ := (H.ro 2 rfl).now.at_ hx
      have HXM := hid (List.mem_of_getElem? hx)
      have HXN := hid (HR.out x HXM.out)
      have HXL := hid (show x.vs.length = x.n from ((H.ro 2 rfl).now.2 x HXM.out).len)
      have HXO := hid (HOK.out x HXM.out)
      have HX := hid (show (l.map Sl.vs)[k]? = some x.vs by rw [List.getElem?_map, hx]; rfl)
      clear hx
      go_wp2_with fail
      clear c0
      go_loopw [6] (fun av wq => ∃ (j : Nat), j ≤ k ∧ av = .int .i64 j ∧ Hid (∀ i b, j ≤ i → (lo.map Sl.vs)[i]? = some b → 0 < rowC b x.vs) ∧ Hold M none w wq [.own 87 1 (.slice C k cap) k (slCells lo), .ro (SlVals lo), .ro (SlsIn (some ⟨b, o, none⟩) n l)]) (fun av _ => (intOf av).toNat)
      case atStart => exact ⟨k, by omega, rfl, hid (fun i b hi hb => by have h := (List.getElem?_eq_some_iff.1 hb).1; rw [List.length_map, HLK.out] at h; omega), H⟩
      case round =>
        clear H
        obtain ⟨j, hj, rfl, HBG, H⟩ := hrel
        by_cases h0 : 0 < j
        · obtain ⟨i, rfl⟩ : ∃ i, j = i + 1 := ⟨j - 1, by omega⟩
          have z0 : decide (((i + 1 : Nat) : Int) > 0) = true := by rw [decide_eq_true_iff]; omega
          have hiw : IntKind.i64.wrap (((i + 1 : Nat) : Int) - 1) = (i : Int) := by rw [IntWalk.i64_in _ (by omega)]; omega
          have i2 : (0 : Int) ≤ (i : Int) := by omega
          have i3 : (i : Int) < (k : Int) := by omega
          obtain ⟨s, hs⟩ := get_of HLK.out (show i < k by omega)
          obtain ⟨g, rfl⟩ : ∃ g, C = some ⟨g, 0, none⟩ := by
            rcases own_addr (H.get 0 rfl) with ⟨_, h, _⟩ | ⟨g, h, _⟩
            · omega
            · exact ⟨g, h⟩
          have c1 : wr.cell? ⟨g, i, none⟩ = some (.slice s.A s.n s.c) := ((H.get 0 rfl).cellAt i (by omega)).trans (slCells_at hs)
          have c2 : g < wr.heap.size := (H.fresh _ (List.mem_of_getElem? (i := 0) rfl) g rfl).2
          have HSN := hid (HNO.out s (List.mem_of_getElem? hs))
          have HSS := hid (show (lo.map Sl.vs)[i]? = some s.vs by simp [hs])
          have hcmp := rcmprows_ex _ wr H.mutLt s.A s.n s.c s.vs x.A x.n x.c x.vs ((H.ro 1 rfl).imp fun w2 h2 => h2 s (List.mem_of_getElem? hs)) ((H.ro 2 rfl).imp fun w2 h2 => h2.2 x HXM.out) (by have := HSN.out; omega) (by have := HXN.out; omega)
          obtain ⟨r, hr0⟩ : ∃ r, r = rowC s.vs x.vs := ⟨_, rfl⟩
          rw [← hr0] at hcmp
          have HRR := hid hr0
          have HCM := hid hcmp
          clear hr0 hcmp hs
          by_cases hlt2 : 0 < r
          · have z2 : decide (0 < r) = true := by rw [decide_eq_true_iff]; exact hlt2
            have HBG2 := hid (show ∀ i' b, i ≤ i' → (lo.map Sl.vs)[i']? = some b → 0 < rowC b x.vs from fun i' b hi' hb' => by
              by_cases e : i' = i
              · subst e; rw [HSS.out] at hb'; injection hb' with hb'; subst hb'; rw [← HRR.out]; exact hlt2
              · exact HBG.out i' b (by omega) hb')
            clear hlt2
            go_wp2_with fail
            refine HCM.out.mono ?_
            rintro e w5 ⟨rfl, b5⟩
            have H2 := H.call b5
            clear H b5 c1 c2
            go_wp2_with fail
            go_roundw
            case rel => exact ⟨i, by omega, by first | rfl | (simp <;> omega), HBG2, H2⟩
            case measure => simp [intOf] <;> omega
          · have z2 : decide (0 < r) = false := by rw [decide_eq_false_iff_not]; exact hlt2
            have HNL := hid hlt2
            clear hlt2
            go_wp2_with fail
            refine HCM.out.mono ?_
            rintro e w5 ⟨rfl, b5⟩
            have H2 := H.call b5
            clear H b5 c1 c2
            obtain ⟨j, hjd⟩ : ∃ j, j = i + 1 := ⟨_, rfl⟩
            have hjj : ((i + 1 : Nat) : Int) = (j : Int) := by omega
            rw [show ((i : Int) + 1) = (j : Int) by omega]
            rw [← hjd] at HBG hj
            have HJD := hid hjd
            clear z0 hiw i2 i3 hjj hd i0 i1 hjd
            have HPL := hid (show j = 0 ∨ ∃ a, (lo.map Sl.vs)[j - 1]? = some a ∧ rowC a x.vs ≤ 0 from .inr ⟨s.vs, by rw [HJD.out]; exact HSS.out, by rw [← HRR.out]; have := HNL.out; omega⟩)
            have hlk : lo.length = k := HLK.out
            go_wp2_with (at_builtin; go_must (refine wpList_appH H2 0 rfl Tryz.elSlc #[.slice none 0 0] rfl (.tmp 29) (.tmp 30) rfl rfl _ (by first | rfl | simp) rfl rfl (by intro u hu; simp at hu; rcases hu with rfl; rfl) (by omega) (by omega) ?_); intro g9 cap9 w9 hc9 hm9 KB)
            simp only [List.set_cons_zero, List.set_cons_succ] at KB
            obtain ⟨KL, hKL, KN⟩ := KB.name
            have HKL := hid hKL
            clear hKL KB H2
            have hj0 : (0 : Int) ≤ (j : Int) := by omega
            have hj1 : (j : Int) ≤ (k : Int) + 1 := by omega
            have hj2 : (0 : Int) ≤ (j : Int) + 1 := by omega
            have hj3 : (j : Int) + 1 ≤ (k : Int) + 1 := by omega
            have hjw : IntKind.i64.wrap ((j : Int) + 1) = (j : Int) + 1 := IntWalk.i64_in _ (by omega)
            have hjt : ((j : Int) + 1).toNat = j + 1 := by omega
            have hjc : ¬ cap9 = j := by omega
            by_cases hjk : j < k
            · have hcp : ¬ cap9 = j + 1 := by omega
              refine wp_region_any (by kernel_rfl) ?_
              refine wpAny_hold 7 47 (KL) (spL []) (by kernel_rfl) (by kernel_rfl) (by kernel_rfl) rfl ?_ (KN.drew) ?_
              · exact stays_nil _
              simp only [List.take_succ_cons, List.take_zero, List.drop_succ_cons, List.drop_zero, Act.put, List.getElem_toArray, List.getElem_cons_zero, List.getElem_cons_succ, List.setIfInBounds_toArray, List.set_cons_succ, List.set_cons_zero]
              refine dw_val rfl rfl rfl ?_; apply Exists.intro; refine ⟨fun wv HC => ?_, ?_⟩
              ·  go_simp <;> rfl
              simp only [Act.put, List.setIfInBounds_toArray, List.set_cons_succ, List.set_cons_zero]
              refine dw_val rfl rfl rfl ?_; apply Exists.intro; refine ⟨fun wv HC => ?_, ?_⟩
              ·  go_simp <;> rfl
              simp only [Act.put, List.setIfInBounds_toArray, List.set_cons_succ, List.set_cons_zero]
              refine dw_val rfl rfl rfl ?_; apply Exists.intro; refine ⟨fun wv HC => ?_, ?_⟩
              ·  go_simp <;> rfl
              simp only [Act.put, List.setIfInBounds_toArray, List.set_cons_succ, List.set_cons_zero]
              refine dw_val rfl rfl rfl ?_; apply Exists.intro; refine ⟨fun wv HC => ?_, ?_⟩
              ·  go_simp <;> rfl
              simp only [Act.put, List.setIfInBounds_toArray, List.set_cons_succ, List.set_cons_zero]
              refine dw_val rfl rfl rfl ?_; apply Exists.intro; refine ⟨fun wv HC => ?_, ?_⟩
              ·  go_simp <;> rfl
              simp only [Act.put, List.setIfInBounds_toArray, List.set_cons_succ, List.set_cons_zero]
              refine dw_val rfl rfl rfl ?_; apply Exists.intro; refine ⟨fun wv HC => ?_, ?_⟩
              ·  go_simp <;> rfl
              simp only [Act.put, List.setIfInBounds_toArray, List.set_cons_succ, List.set_cons_zero]
              refine dw_val rfl rfl rfl ?_; apply Exists.intro; refine ⟨fun wv HC => ?_, ?_⟩
              ·  go_simp <;> rfl
              simp only [Act.put, List.setIfInBounds_toArray, List.set_cons_succ, List.set_cons_zero]
              refine rel_nil ?_
              rintro wx9 HX9
              rintro _hrm _HG
              clear _hrm _HG
              rw [HKL.out] at HX9
              clear HKL KN
              refine wpList_copyH HX9 0 rfl rfl (.tmp 35) (.tmp 38) _ _ rfl 87 Tryz.underlying43 (by kernel_rfl) (j + 1) j _ _ _ _ (k - j) rfl rfl (show k - j = Nat.min (k + 1 - j) (k - j) from min_shift1) (by omega) (by omega) (slNil_one lo) ?_
              intro w10 KD
              simp only [List.set_cons_zero, List.set_cons_succ] at KD
              go_wp2_with fail
              refine (copyVls_any _ _ KD.mutLt x.A x.n x.c x.vs ((KD.ro 2 rfl).imp fun w2 h2 => h2.2 x HXM.out) (by have := HXN.out; omega)).mono ?_
              rintro e w11 ⟨zA, zn, zc, rfl, z1, z2, z3, rz, bz⟩
              have KE := (KD.call bz).add (show Ro w11 _ (VlsIn zA zn x.vs) from rz)
              have HZ := hid (And.intro z1 (And.intro z2 z3))
              clear KD bz rz z1 z2 z3
              obtain ⟨uj, huj⟩ : ∃ u, w11.cell? ⟨g9, j, none⟩ = some u := ⟨_, ((KE.get 1 rfl).cellAt j (by omega)).trans (List.getElem?_eq_getElem (by have := (KE.get 1 rfl).1; omega))⟩
              have hfj : w11.frozen? ⟨g9, j, none⟩ = false := (KE.get 1 rfl).frozenAt j
              have hgj : g9 < w11.heap.size := (KE.fresh _ (List.mem_of_getElem? (i := 1) rfl) g9 rfl).2
              have KF := KE.put_ 1 rfl j (.slice zA zn zc)
              simp only [List.set_cons_zero, List.set_cons_succ] at KF
              rw [cells_shift (vs := x.vs) HLK.out (by omega)] at KF
              have KG := (KF.swapRo 2 rfl (((KF.ro 2 rfl).and (KF.ro 0 rfl)).imp fun w2 h => slVals_put (j := j) (z := ⟨zA, zn, zc, x.vs⟩) h.1 h.2)).drop (List.sublist_cons_self _ _)
              simp only [List.set_cons_zero, List.set_cons_succ] at KG
              clear KE KF
              have HP1 := hid (show ((putAt lo j ⟨zA, zn, zc, x.vs⟩).map Sl.vs).Perm ((l.map Sl.vs).take (k + 1)) by rw [putAt_map, List.take_add_one, HX.out]; exact perm_snoc HLO.out)
              have HP2 := hid (show SortedV ((putAt lo j ⟨zA, zn, zc, x.vs⟩).map Sl.vs) by rw [putAt_map]; exact sorted_put HSO.out HBG.out HPL.out)
              have HP3 := hid (putAt_all (P := Sl.ok) (j := j) (z := (⟨zA, zn, zc, x.vs⟩ : Sl)) HOO.out ⟨HZ.out.2.1, HZ.out.2.2, HXO.out.vs⟩)
              have HP4 := hid (putAt_all (P := fun s : Sl => s.n ≤ 4398046511104) (j := j) (z := (⟨zA, zn, zc, x.vs⟩ : Sl)) HNO.out (by have h1 := HZ.out.1; have h2 := HXN.out; have h3 := HXL.out; show zn ≤ _; omega))
              go_wp2_with fail
              go_roundw
              case rel => exact ⟨k + 1, _, some ⟨g9, 0, none⟩, _, by omega, by first | rfl | go_num, by first | rfl | go_num, HP1, HP2, HP3, HP4, KG⟩
              case measure => simp [intOf]; omega
            · obtain rfl : j = k := by omega
              by_cases hcp : cap9 = j + 1
              · subst hcp
                refine wp_region_any (by kernel_rfl) ?_
                refine wpAny_hold 7 47 (KL) (spL []) (by kernel_rfl) (by kernel_rfl) (by kernel_rfl) rfl ?_ (KN.drew) ?_
                · exact stays_nil _
                simp only [List.take_succ_cons, List.take_zero, List.drop_succ_cons, List.drop_zero, Act.put, List.getElem_toArray, List.getElem_cons_zero, List.getElem_cons_succ, List.setIfInBounds_toArray, List.set_cons_succ, List.set_cons_zero]
                refine dw_val rfl rfl rfl ?_; apply Exists.intro; refine ⟨fun wv HC => ?_, ?_⟩
                ·  go_simp <;> rfl
                simp only [Act.put, List.setIfInBounds_toArray, List.set_cons_succ, List.set_cons_zero]
                refine dw_val rfl rfl rfl ?_; apply Exists.intro; refine ⟨fun wv HC => ?_, ?_⟩
                ·  go_simp <;> rfl
                simp only [Act.put, List.setIfInBounds_toArray, List.set_cons_succ, List.set_cons_zero]
                refine dw_val rfl rfl rfl ?_; apply Exists.intro; refine ⟨fun wv HC => ?_, ?_⟩
                ·  go_simp <;> rfl
                simp only [Act.put, List.setIfInBounds_toArray, List.set_cons_succ, List.set_cons_zero]
                refine dw_val rfl rfl rfl ?_; apply Exists.intro; refine ⟨fun wv HC => ?_, ?_⟩
                ·  go_simp <;> rfl
                simp only [Act.put, List.setIfInBounds_toArray, List.set_cons_succ, List.set_cons_zero]
                refine dw_val rfl rfl rfl ?_; apply Exists.intro; refine ⟨fun wv HC => ?_, ?_⟩
                ·  go_simp <;> rfl
                simp only [Act.put, List.setIfInBounds_toArray, List.set_cons_succ, List.set_cons_zero]
                refine dw_val rfl rfl rfl ?_; apply Exists.intro; refine ⟨fun wv HC => ?_, ?_⟩
                ·  go_simp <;> rfl
                simp only [Act.put, List.setIfInBounds_toArray, List.set_cons_succ, List.set_cons_zero]
                refine dw_val rfl rfl rfl ?_; apply Exists.intro; refine ⟨fun wv HC => ?_, ?_⟩
                ·  go_simp <;> rfl
                simp only [Act.put, List.setIfInBounds_toArray, List.set_cons_succ, List.set_cons_zero]
                refine rel_nil ?_
                rintro wx9 HX9
                rintro _hrm _HG
                clear _hrm _HG
                rw [HKL.out] at HX9
                clear HKL KN
                refine wpList_copy_nothing rfl (.tmp 35) (.tmp 38) _ _ rfl 87 Tryz.underlying43 (by kernel_rfl) _ _ _ _ _ _ rfl rfl (by simp) ?_
                go_wp2_with fail
                have KD := HX9
                refine (copyVls_any _ _ KD.mutLt x.A x.n x.c x.vs ((KD.ro 2 rfl).imp fun w2 h2 => h2.2 x HXM.out) (by have := HXN.out; omega)).mono ?_
                rintro e w11 ⟨zA, zn, zc, rfl, z1, z2, z3, rz, bz⟩
                have KE := (KD.call bz).add (show Ro w11 _ (VlsIn zA zn x.vs) from rz)
                have HZ := hid (And.intro z1 (And.intro z2 z3))
                clear KD bz rz z1 z2 z3
                obtain ⟨uj, huj⟩ : ∃ u, w11.cell? ⟨g9, j, none⟩ = some u := ⟨_, ((KE.get 1 rfl).cellAt j (by omega)).trans (List.getElem?_eq_getElem (by have := (KE.get 1 rfl).1; omega))⟩
                have hfj : w11.frozen? ⟨g9, j, none⟩ = false := (KE.get 1 rfl).frozenAt j
                have hgj : g9 < w11.heap.size := (KE.fresh _ (List.mem_of_getElem? (i := 1) rfl) g9 rfl).2
                have KF := KE.put_ 1 rfl j (.slice zA zn zc)
                simp only [List.set_cons_zero, List.set_cons_succ] at KF
                rw [cells_push (vs := x.vs) HLK.out] at KF
                have KG := (KF.swapRo 2 rfl (((KF.ro 2 rfl).and (KF.ro 0 rfl)).imp fun w2 h => slVals_put (j := j) (z := ⟨zA, zn, zc, x.vs⟩) h.1 h.2)).drop (List.sublist_cons_self _ _)
                simp only [List.set_cons_zero, List.set_cons_succ] at KG
                clear KE KF
                have HP1 := hid (show ((putAt lo j ⟨zA, zn, zc, x.vs⟩).map Sl.vs).Perm ((l.map Sl.vs).take (j + 1)) by rw [putAt_map, List.take_add_one, HX.out]; exact perm_snoc HLO.out)
                have HP2 := hid (show SortedV ((putAt lo j ⟨zA, zn, zc, x.vs⟩).map Sl.vs) by rw [putAt_map]; exact sorted_put HSO.out HBG.out HPL.out)
                have HP3 := hid (putAt_all (P := Sl.ok) (j := j) (z := (⟨zA, zn, zc, x.vs⟩ : Sl)) HOO.out ⟨HZ.out.2.1, HZ.out.2.2, HXO.out.vs⟩)
                have HP4 := hid (putAt_all (P := fun s : Sl => s.n ≤ 4398046511104) (j := j) (z := (⟨zA, zn, zc, x.vs⟩ : Sl)) HNO.out (by have h1 := HZ.out.1; have h2 := HXN.out; have h3 := HXL.out; show zn ≤ _; omega))
                go_wp2_with fail
                go_roundw
                case rel => exact ⟨j + 1, _, some ⟨g9, 0, none⟩, _, by omega, by first | rfl | go_num, by first | rfl | go_num, HP1, HP2, HP3, HP4, KG⟩
                case measure => simp [intOf]; omega
              · skip
                refine wp_region_any (by kernel_rfl) ?_
                refine wpAny_hold 7 47 (KL) (spL []) (by kernel_rfl) (by kernel_rfl) (by kernel_rfl) rfl ?_ (KN.drew) ?_
                · exact stays_nil _
                simp only [List.take_succ_cons, List.take_zero, List.drop_succ_cons, List.drop_zero, Act.put, List.getElem_toArray, List.getElem_cons_zero, List.getElem_cons_succ, List.setIfInBounds_toArray, List.set_cons_succ, List.set_cons_zero]
                refine dw_val rfl rfl rfl ?_; apply Exists.intro; refine ⟨fun wv HC => ?_, ?_⟩
                ·  go_simp <;> rfl
                simp only [Act.put, List.setIfInBounds_toArray, List.set_cons_succ, List.set_cons_zero]
                refine dw_val rfl rfl rfl ?_; apply Exists.intro; refine ⟨fun wv HC => ?_, ?_⟩
                ·  go_simp <;> rfl
                simp only [Act.put, List.setIfInBounds_toArray, List.set_cons_succ, List.set_cons_zero]
                refine dw_val rfl rfl rfl ?_; apply Exists.intro; refine ⟨fun wv HC => ?_, ?_⟩
                ·  go_simp <;> rfl
                simp only [Act.put, List.setIfInBounds_toArray, List.set_cons_succ, List.set_cons_zero]
                refine dw_val rfl rfl rfl ?_; apply Exists.intro; refine ⟨fun wv HC => ?_, ?_⟩
                ·  go_simp <;> rfl
                simp only [Act.put, List.setIfInBounds_toArray, List.set_cons_succ, List.set_cons_zero]
                refine dw_val rfl rfl rfl ?_; apply Exists.intro; refine ⟨fun wv HC => ?_, ?_⟩
                ·  go_simp <;> rfl
                simp only [Act.put, List.setIfInBounds_toArray, List.set_cons_succ, List.set_cons_zero]
                refine dw_val rfl rfl rfl ?_; apply Exists.intro; refine ⟨fun wv HC => ?_, ?_⟩
                ·  go_simp <;> rfl
                simp only [Act.put, List.setIfInBounds_toArray, List.set_cons_succ, List.set_cons_zero]
                refine dw_val rfl rfl rfl ?_; apply Exists.intro; refine ⟨fun wv HC => ?_, ?_⟩
                ·  go_simp <;> rfl
                simp only [Act.put, List.setIfInBounds_toArray, List.set_cons_succ, List.set_cons_zero]
                refine rel_nil ?_
                rintro wx9 HX9
                rintro _hrm _HG
                clear _hrm _HG
                rw [HKL.out] at HX9
                clear HKL KN
                refine wpList_copy_nothing rfl (.tmp 35) (.tmp 38) _ _ rfl 87 Tryz.underlying43 (by kernel_rfl) _ _ _ _ _ _ rfl rfl (by simp) ?_
                go_wp2_with fail
                have KD := HX9
                refine (copyVls_any _ _ KD.mutLt x.A x.n x.c x.vs ((KD.ro 2 rfl).imp fun w2 h2 => h2.2 x HXM.out) (by have := HXN.out; omega)).mono ?_
                rintro e w11 ⟨zA, zn, zc, rfl, z1, z2, z3, rz, bz⟩
                have KE := (KD.call bz).add (show Ro w11 _ (VlsIn zA zn x.vs) from rz)
                have HZ := hid (And.intro z1 (And.intro z2 z3))
                clear KD bz rz z1 z2 z3
                obtain ⟨uj, huj⟩ : ∃ u, w11.cell? ⟨g9, j, none⟩ = some u := ⟨_, ((KE.get 1 rfl).cellAt j (by omega)).trans (List.getElem?_eq_getElem (by have := (KE.get 1 rfl).1; omega))⟩
                have hfj : w11.frozen? ⟨g9, j, none⟩ = false := (KE.get 1 rfl).frozenAt j
                have hgj : g9 < w11.heap.size := (KE.fresh _ (List.mem_of_getElem? (i := 1) rfl) g9 rfl).2
                have KF := KE.put_ 1 rfl j (.slice zA zn zc)
                simp only [List.set_cons_zero, List.set_cons_succ] at KF
                rw [cells_push (vs := x.vs) HLK.out] at KF
                have KG := (KF.swapRo 2 rfl (((KF.ro 2 rfl).and (KF.ro 0 rfl)).imp fun w2 h => slVals_put (j := j) (z := ⟨zA, zn, zc, x.vs⟩) h.1 h.2)).drop (List.sublist_cons_self _ _)
                simp only [List.set_cons_zero, List.set_cons_succ] at KG
                clear KE KF
                have HP1 := hid (show ((putAt lo j ⟨zA, zn, zc, x.vs⟩).map Sl.vs).Perm ((l.map Sl.vs).take (j + 1)) by rw [putAt_map, List.take_add_one, HX.out]; exact perm_snoc HLO.out)
                have HP2 := hid (show SortedV ((putAt lo j ⟨zA, zn, zc, x.vs⟩).map Sl.vs) by rw [putAt_map]; exact sorted_put HSO.out HBG.out HPL.out)
                have HP3 := hid (putAt_all (P := Sl.ok) (j := j) (z := (⟨zA, zn, zc, x.vs⟩ : Sl)) HOO.out ⟨HZ.out.2.1, HZ.out.2.2, HXO.out.vs⟩)
                have HP4 := hid (putAt_all (P := fun s : Sl => s.n ≤ 4398046511104) (j := j) (z := (⟨zA, zn, zc, x.vs⟩ : Sl)) HNO.out (by have h1 := HZ.out.1; have h2 := HXN.out; have h3 := HXL.out; show zn ≤ _; omega))
                go_wp2_with fail
                go_roundw
                case rel => exact ⟨j + 1, _, some ⟨g9, 0, none⟩, _, by omega, by first | rfl | go_num, by first | rfl | go_num, HP1, HP2, HP3, HP4, KG⟩
                case measure => simp [intOf]; omega
        · have z0 : decide ((j : Int) > 0) = false := by rw [decide_eq_false_iff_not]; omega
          clear hd i0 i1
          have HPL := hid (show j = 0 ∨ ∃ a, (lo.map Sl.vs)[j - 1]? = some a ∧ rowC a x.vs ≤ 0 from .inl (by omega))
          have hlk : lo.length = k := HLK.out
          go_wp2_with (at_builtin; go_must (refine wpList_appH H 0 rfl Tryz.elSlc #[.slice none 0 0] rfl (.tmp 29) (.tmp 30) rfl rfl _ (by first | rfl | simp) rfl rfl (by intro u hu; simp at hu; rcases hu with rfl; rfl) (by omega) (by omega) ?_); intro g9 cap9 w9 hc9 hm9 KB)
          simp only [List.set_cons_zero, List.set_cons_succ] at KB
          obtain ⟨KL, hKL, KN⟩ := KB.name
          have HKL := hid hKL
          clear hKL KB H
          have hj0 : (0 : Int) ≤ (j : Int) := by omega
          have hj1 : (j : Int) ≤ (k : Int) + 1 := by omega
          have hj2 : (0 : Int) ≤ (j : Int) + 1 := by omega
          have hj3 : (j : Int) + 1 ≤ (k : Int) + 1 := by omega
          have hjw : IntKind.i64.wrap ((j : Int) + 1) = (j : Int) + 1 := IntWalk.i64_in _ (by omega)
          have hjt : ((j : Int) + 1).toNat = j + 1 := by omega
          have hjc : ¬ cap9 = j := by omega
          by_cases hjk : j < k
          · have hcp : ¬ cap9 = j + 1 := by omega
            refine wp_region_any (by kernel_rfl) ?_
            refine wpAny_hold 7 47 (KL) (spL []) (by kernel_rfl) (by kernel_rfl) (by kernel_rfl) rfl ?_ (KN.drew) ?_
            · exact stays_nil _
            simp only [List.take_succ_cons, List.take_zero, List.drop_succ_cons, List.drop_zero, Act.put, List.getElem_toArray, List.getElem_cons_zero, List.getElem_cons_succ, List.setIfInBounds_toArray, List.set_cons_succ, List.set_cons_zero]
            refine dw_val rfl rfl rfl ?_; apply Exists.intro; refine ⟨fun wv HC => ?_, ?_⟩
            ·  go_simp <;> rfl
            simp only [Act.put, List.setIfInBounds_toArray, List.set_cons_succ, List.set_cons_zero]
            refine dw_val rfl rfl rfl ?_; apply Exists.intro; refine ⟨fun wv HC => ?_, ?_⟩
            ·  go_simp <;> rfl
            simp only [Act.put, List.setIfInBounds_toArray, List.set_cons_succ, List.set_cons_zero]
            refine dw_val rfl rfl rfl ?_; apply Exists.intro; refine ⟨fun wv HC => ?_, ?_⟩
            ·  go_simp <;> rfl
            simp only [Act.put, List.setIfInBounds_toArray, List.set_cons_succ, List.set_cons_zero]
            refine dw_val rfl rfl rfl ?_; apply Exists.intro; refine ⟨fun wv HC => ?_, ?_⟩
            ·  go_simp <;> rfl
            simp only [Act.put, List.setIfInBounds_toArray, List.set_cons_succ, List.set_cons_zero]
            refine dw_val rfl rfl rfl ?_; apply Exists.intro; refine ⟨fun wv HC => ?_, ?_⟩
            ·  go_simp <;> rfl
            simp only [Act.put, List.setIfInBounds_toArray, List.set_cons_succ, List.set_cons_zero]
            refine dw_val rfl rfl rfl ?_; apply Exists.intro; refine ⟨fun wv HC => ?_, ?_⟩
            ·  go_simp <;> rfl
            simp only [Act.put, List.setIfInBounds_toArray, List.set_cons_succ, List.set_cons_zero]
            refine dw_val rfl rfl rfl ?_; apply Exists.intro; refine ⟨fun wv HC => ?_, ?_⟩
            ·  go_simp <;> rfl
            simp only [Act.put, List.setIfInBounds_toArray, List.set_cons_succ, List.set_cons_zero]
            refine rel_nil ?_
            rintro wx9 HX9
            rintro _hrm _HG
            clear _hrm _HG
            rw [HKL.out] at HX9
            clear HKL KN
            refine wpList_copyH HX9 0 rfl rfl (.tmp 35) (.tmp 38) _ _ rfl 87 Tryz.underlying43 (by kernel_rfl) (j + 1) j _ _ _ _ (k - j) rfl rfl (show k - j = Nat.min (k + 1 - j) (k - j) from min_shift1) (by omega) (by omega) (slNil_one lo) ?_
            intro w10 KD
            simp only [List.set_cons_zero, List.set_cons_succ] at KD
            go_wp2_with fail
            refine (copyVls_any _ _ KD.mutLt x.A x.n x.c x.vs ((KD.ro 2 rfl).imp fun w2 h2 => h2.2 x HXM.out) (by have := HXN.out; omega)).mono ?_
            rintro e w11 ⟨zA, zn, zc, rfl, z1, z2, z3, rz, bz⟩
            have KE := (KD.call bz).add (show Ro w11 _ (VlsIn zA zn x.vs) from rz)
            have HZ := hid (And.intro z1 (And.intro z2 z3))
            clear KD bz rz z1 z2 z3
            obtain ⟨uj, huj⟩ : ∃ u, w11.cell? ⟨g9, j, none⟩ = some u := ⟨_, ((KE.get 1 rfl).cellAt j (by omega)).trans (List.getElem?_eq_getElem (by have := (KE.get 1 rfl).1; omega))⟩
            have hfj : w11.frozen? ⟨g9, j, none⟩ = false := (KE.get 1 rfl).frozenAt j
            have hgj : g9 < w11.heap.size := (KE.fresh _ (List.mem_of_getElem? (i := 1) rfl) g9 rfl).2
            have KF := KE.put_ 1 rfl j (.slice zA zn zc)
            simp only [List.set_cons_zero, List.set_cons_succ] at KF
            rw [cells_shift (vs := x.vs) HLK.out (by omega)] at KF
            have KG := (KF.swapRo 2 rfl (((KF.ro 2 rfl).and (KF.ro 0 rfl)).imp fun w2 h => slVals_put (j := j) (z := ⟨zA, zn, zc, x.vs⟩) h.1 h.2)).drop (List.sublist_cons_self _ _)
            simp only [List.set_cons_zero, List.set_cons_succ] at KG
            clear KE KF
            have HP1 := hid (show ((putAt lo j ⟨zA, zn, zc, x.vs⟩).map Sl.vs).Perm ((l.map Sl.vs).take (k + 1)) by rw [putAt_map, List.take_add_one, HX.out]; exact perm_snoc HLO.out)
            have HP2 := hid (show SortedV ((putAt lo j ⟨zA, zn, zc, x.vs⟩).map Sl.vs) by rw [putAt_map]; exact sorted_put HSO.out HBG.out HPL.out)
            have HP3 := hid (putAt_all (P := Sl.ok) (j := j) (z := (⟨zA, zn, zc, x.vs⟩ : Sl)) HOO.out ⟨HZ.out.2.1, HZ.out.2.2, HXO.out.vs⟩)
            have HP4 := hid (putAt_all (P := fun s : Sl => s.n ≤ 4398046511104) (j := j) (z := (⟨zA, zn, zc, x.vs⟩ : Sl)) HNO.out (by have h1 := HZ.out.1; have h2 := HXN.out; have h3 := HXL.out; show zn ≤ _; omega))
            go_wp2_with fail
            go_roundw
            case rel => exact ⟨k + 1, _, some ⟨g9, 0, none⟩, _, by omega, by first | rfl | go_num, by first | rfl | go_num, HP1, HP2, HP3, HP4, KG⟩
            case measure => simp [intOf]; omega
          · obtain rfl : j = k := by omega
            by_cases hcp : cap9 = j + 1
            · subst hcp
              refine wp_region_any (by kernel_rfl) ?_
              refine wpAny_hold 7 47 (KL) (spL []) (by kernel_rfl) (by kernel_rfl) (by kernel_rfl) rfl ?_ (KN.drew) ?_
              · exact stays_nil _
              simp only [List.take_succ_cons, List.take_zero, List.drop_succ_cons, List.drop_zero, Act.put, List.getElem_toArray, List.getElem_cons_zero, List.getElem_cons_succ, List.setIfInBounds_toArray, List.set_cons_succ, List.set_cons_zero]
              refine dw_val rfl rfl rfl ?_; apply Exists.intro; refine ⟨fun wv HC => ?_, ?_⟩
              ·  go_simp <;> rfl
              simp only [Act.put, List.setIfInBounds_toArray, List.set_cons_succ, List.set_cons_zero]
              refine dw_val rfl rfl rfl ?_; apply Exists.intro; refine ⟨fun wv HC => ?_, ?_⟩
              ·  go_simp <;> rfl
              simp only [Act.put, List.setIfInBounds_toArray, List.set_cons_succ, List.set_cons_zero]
              refine dw_val rfl rfl rfl ?_; apply Exists.intro; refine ⟨fun wv HC => ?_, ?_⟩
              ·  go_simp <;> rfl
              simp only [Act.put, List.setIfInBounds_toArray, List.set_cons_succ, List.set_cons_zero]
              refine dw_val rfl rfl rfl ?_; apply Exists.intro; refine ⟨fun wv HC => ?_, ?_⟩
              ·  go_simp <;> rfl
              simp only [Act.put, List.setIfInBounds_toArray, List.set_cons_succ, List.set_cons_zero]
              refine dw_val rfl rfl rfl ?_; apply Exists.intro; refine ⟨fun wv HC => ?_, ?_⟩
              ·  go_simp <;> rfl
              simp only [Act.put, List.setIfInBounds_toArray, List.set_cons_succ, List.set_cons_zero]
              refine dw_val rfl rfl rfl ?_; apply Exists.intro; refine ⟨fun wv HC => ?_, ?_⟩
              ·  go_simp <;> rfl
              simp only [Act.put, List.setIfInBounds_toArray, List.set_cons_succ, List.set_cons_zero]
              refine dw_val rfl rfl rfl ?_; apply Exists.intro; refine ⟨fun wv HC => ?_, ?_⟩
              ·  go_simp <;> rfl
              simp only [Act.put, List.setIfInBounds_toArray, List.set_cons_succ, List.set_cons_zero]
              refine rel_nil ?_
              rintro wx9 HX9
              rintro _hrm _HG
              clear _hrm _HG
              rw [HKL.out] at HX9
              clear HKL KN
              refine wpList_copy_nothing rfl (.tmp 35) (.tmp 38) _ _ rfl 87 Tryz.underlying43 (by kernel_rfl) _ _ _ _ _ _ rfl rfl (by simp) ?_
              go_wp2_with fail
              have KD := HX9
              refine (copyVls_any _ _ KD.mutLt x.A x.n x.c x.vs ((KD.ro 2 rfl).imp fun w2 h2 => h2.2 x HXM.out) (by have := HXN.out; omega)).mono ?_
              rintro e w11 ⟨zA, zn, zc, rfl, z1, z2, z3, rz, bz⟩
              have KE := (KD.call bz).add (show Ro w11 _ (VlsIn zA zn x.vs) from rz)
              have HZ := hid (And.intro z1 (And.intro z2 z3))
              clear KD bz rz z1 z2 z3
              obtain ⟨uj, huj⟩ : ∃ u, w11.cell? ⟨g9, j, none⟩ = some u := ⟨_, ((KE.get 1 rfl).cellAt j (by omega)).trans (List.getElem?_eq_getElem (by have := (KE.get 1 rfl).1; omega))⟩
              have hfj : w11.frozen? ⟨g9, j, none⟩ = false := (KE.get 1 rfl).frozenAt j
              have hgj : g9 < w11.heap.size := (KE.fresh _ (List.mem_of_getElem? (i := 1) rfl) g9 rfl).2
              have KF := KE.put_ 1 rfl j (.slice zA zn zc)
              simp only [List.set_cons_zero, List.set_cons_succ] at KF
              rw [cells_push (vs := x.vs) HLK.out] at KF
              have KG := (KF.swapRo 2 rfl (((KF.ro 2 rfl).and (KF.ro 0 rfl)).imp fun w2 h => slVals_put (j := j) (z := ⟨zA, zn, zc, x.vs⟩) h.1 h.2)).drop (List.sublist_cons_self _ _)
              simp only [List.set_cons_zero, List.set_cons_succ] at KG
              clear KE KF
              have HP1 := hid (show ((putAt lo j ⟨zA, zn, zc, x.vs⟩).map Sl.vs).Perm ((l.map Sl.vs).take (j + 1)) by rw [putAt_map, List.take_add_one, HX.out]; exact perm_snoc HLO.out)
              have HP2 := hid (show SortedV ((putAt lo j ⟨zA, zn, zc, x.vs⟩).map Sl.vs) by rw [putAt_map]; exact sorted_put HSO.out HBG.out HPL.out)
              have HP3 := hid (putAt_all (P := Sl.ok) (j := j) (z := (⟨zA, zn, zc, x.vs⟩ : Sl)) HOO.out ⟨HZ.out.2.1, HZ.out.2.2, HXO.out.vs⟩)
              have HP4 := hid (putAt_all (P := fun s : Sl => s.n ≤ 4398046511104) (j := j) (z := (⟨zA, zn, zc, x.vs⟩ : Sl)) HNO.out (by have h1 := HZ.out.1; have h2 := HXN.out; have h3 := HXL.out; show zn ≤ _; omega))
              go_wp2_with fail
              go_roundw
              case rel => exact ⟨j + 1, _, some ⟨g9, 0, none⟩, _, by omega, by first | rfl | go_num, by first | rfl | go_num, HP1, HP2, HP3, HP4, KG⟩
              case measure => simp [intOf]; omega
            · skip
              refine wp_region_any (by kernel_rfl) ?_
              refine wpAny_hold 7 47 (KL) (spL []) (by kernel_rfl) (by kernel_rfl) (by kernel_rfl) rfl ?_ (KN.drew) ?_
              · exact stays_nil _
              simp only [List.take_succ_cons, List.take_zero, List.drop_succ_cons, List.drop_zero, Act.put, List.getElem_toArray, List.getElem_cons_zero, List.getElem_cons_succ, List.setIfInBounds_toArray, List.set_cons_succ, List.set_cons_zero]
              refine dw_val rfl rfl rfl ?_; apply Exists.intro; refine ⟨fun wv HC => ?_, ?_⟩
              ·  go_simp <;> rfl
              simp only [Act.put, List.setIfInBounds_toArray, List.set_cons_succ, List.set_cons_zero]
              refine dw_val rfl rfl rfl ?_; apply Exists.intro; refine ⟨fun wv HC => ?_, ?_⟩
              ·  go_simp <;> rfl
              simp only [Act.put, List.setIfInBounds_toArray, List.set_cons_succ, List.set_cons_zero]
              refine dw_val rfl rfl rfl ?_; apply Exists.intro; refine ⟨fun wv HC => ?_, ?_⟩
              ·  go_simp <;> rfl
              simp only [Act.put, List.setIfInBounds_toArray, List.set_cons_succ, List.set_cons_zero]
              refine dw_val rfl rfl rfl ?_; apply Exists.intro; refine ⟨fun wv HC => ?_, ?_⟩
              ·  go_simp <;> rfl
              simp only [Act.put, List.setIfInBounds_toArray, List.set_cons_succ, List.set_cons_zero]
              refine dw_val rfl rfl rfl ?_; apply Exists.intro; refine ⟨fun wv HC => ?_, ?_⟩
              ·  go_simp <;> rfl
              simp only [Act.put, List.setIfInBounds_toArray, List.set_cons_succ, List.set_cons_zero]
              refine dw_val rfl rfl rfl ?_; apply Exists.intro; refine ⟨fun wv HC => ?_, ?_⟩
              ·  go_simp <;> rfl
              simp only [Act.put, List.setIfInBounds_toArray, List.set_cons_succ, List.set_cons_zero]
              refine dw_val rfl rfl rfl ?_; apply Exists.intro; refine ⟨fun wv HC => ?_, ?_⟩
              ·  go_simp <;> rfl
              simp only [Act.put, List.setIfInBounds_toArray, List.set_cons_succ, List.set_cons_zero]
              refine rel_nil ?_
              rintro wx9 HX9
              rintro _hrm _HG
              clear _hrm _HG
              rw [HKL.out] at HX9
              clear HKL KN
              refine wpList_copy_nothing rfl (.tmp 35) (.tmp 38) _ _ rfl 87 Tryz.underlying43 (by kernel_rfl) _ _ _ _ _ _ rfl rfl (by simp) ?_
              go_wp2_with fail
              have KD := HX9
              refine (copyVls_any _ _ KD.mutLt x.A x.n x.c x.vs ((KD.ro 2 rfl).imp fun w2 h2 => h2.2 x HXM.out) (by have := HXN.out; omega)).mono ?_
              rintro e w11 ⟨zA, zn, zc, rfl, z1, z2, z3, rz, bz⟩
              have KE := (KD.call bz).add (show Ro w11 _ (VlsIn zA zn x.vs) from rz)
              have HZ := hid (And.intro z1 (And.intro z2 z3))
              clear KD bz rz z1 z2 z3
              obtain ⟨uj, huj⟩ : ∃ u, w11.cell? ⟨g9, j, none⟩ = some u := ⟨_, ((KE.get 1 rfl).cellAt j (by omega)).trans (List.getElem?_eq_getElem (by have := (KE.get 1 rfl).1; omega))⟩
              have hfj : w11.frozen? ⟨g9, j, none⟩ = false := (KE.get 1 rfl).frozenAt j
              have hgj : g9 < w11.heap.size := (KE.fresh _ (List.mem_of_getElem? (i := 1) rfl) g9 rfl).2
              have KF := KE.put_ 1 rfl j (.slice zA zn zc)
              simp only [List.set_cons_zero, List.set_cons_succ] at KF
              rw [cells_push (vs := x.vs) HLK.out] at KF
              have KG := (KF.swapRo 2 rfl (((KF.ro 2 rfl).and (KF.ro 0 rfl)).imp fun w2 h => slVals_put (j := j) (z := ⟨zA, zn, zc, x.vs⟩) h.1 h.2)).drop (List.sublist_cons_self _ _)
              simp only [List.set_cons_zero, List.set_cons_succ] at KG
              clear KE KF
              have HP1 := hid (show ((putAt lo j ⟨zA, zn, zc, x.vs⟩).map Sl.vs).Perm ((l.map Sl.vs).take (j + 1)) by rw [putAt_map, List.take_add_one, HX.out]; exact perm_snoc HLO.out)
              have HP2 := hid (show SortedV ((putAt lo j ⟨zA, zn, zc, x.vs⟩).map Sl.vs) by rw [putAt_map]; exact sorted_put HSO.out HBG.out HPL.out)
              have HP3 := hid (putAt_all (P := Sl.ok) (j := j) (z := (⟨zA, zn, zc, x.vs⟩ : Sl)) HOO.out ⟨HZ.out.2.1, HZ.out.2.2, HXO.out.vs⟩)
              have HP4 := hid (putAt_all (P := fun s : Sl => s.n ≤ 4398046511104) (j := j) (z := (⟨zA, zn, zc, x.vs⟩ : Sl)) HNO.out (by have h1 := HZ.out.1; have h2 := HXN.out; have h3 := HXL.out; show zn ≤ _; omega))
              go_wp2_with fail
              go_roundw
              case rel => exact ⟨j + 1, _, some ⟨g9, 0, none⟩, _, by omega, by first | rfl | go_num, by first | rfl | go_num, HP1, HP2, HP3, HP4, KG⟩
              case measure => simp [intOf]; omega
    · obtain rfl : n = k := by omega
      have hd : decide ((n : Int) < (n : Int)) = false := by simp
      have HPF := hid (show (lo.map Sl.vs).Perm (l.map Sl.vs) by
        have h := HLO.out
        rwa [List.take_of_length_le (by rw [List.length_map, HL.out]; exact Nat.le_refl _)] at h)
      obtain ⟨hc1, hc2, _⟩ := own_caps (H.get 0 rfl)
      have KS := H.sealRow 0 rfl
      simp only [List.set_cons_zero] at KS
      have r1 := (KS.roOut 0 rfl).and (KS.roOut 1 rfl)
      have HFF := hid (sortV_of HPF.out HSO.out)
      go_wp2_with fail
      go_ret
      exact ⟨C, n, cap, lo, rfl, hc1, hc2, r1, HOO.out, HNO.out, HFF.out, KS.below⟩
end Go.Proofs.YtljmclbedpceoaaGreatDoor

namespace Go.Proofs.YtljmclbedpceoaaGreatDoor
open Go.RowKit
set_option linter.unusedVariables false
set_option linter.unusedSimpArgs false

/-- a row without its number -/
def Rw.sl (r : Rw) : Sl := ⟨r.A, r.n, r.c, r.vs⟩
theorem slv_of_rws {w : World} {B : Option Addr} {m : Nat} {l : List Rw} (h : RwsIn B m l w) : SlVals (l.map Rw.sl) w := fun s hs => by
  obtain ⟨r, hr, rfl⟩ := List.mem_map.1 hs
  exact h.2 r hr
theorem rw_sl_ok {r : Rw} (h : r.ok) : r.sl.ok := ⟨h.nc, h.c, h.vs⟩
end Go.Proofs.YtljmclbedpceoaaGreatDoor

namespace Go.Proofs.YtljmclbedpceoaaGreatDoor
open Go.RowKit
set_option linter.unusedVariables false
set_option linter.unusedSimpArgs false

section
variable {P : Program} {M : Nat → Prop} {row : Option Nat} {w0 w : World} {L : List Hp} {ops : Array Oper} {Q : Exit → Act → World → Prop} {Kn : Act → World → Prop} {a : Act}
theorem wpOp_newH {i : Nat} {o : Oper} (hi : ops[i]? = some o) (hw : Region.wanted o (yielded ops a.tmps) = true) (K : Hold M row w0 w L) (cs : Array Value) (t : TypeId) (mk : Nat → Value)
    (hrun : ∀ w, (execOp a.eval o).run P w = .ok (.value (mk w.heap.size)) (w.alloc (.cells cs t))) (h : ∀ g w', Hold M row w0 w' (.cst g t cs :: L) → Kn (a.put o.dst (mk g)) w') : wpOp P ops Q i Kn a w := by
  unfold wpOp
  simp only [hi, hw, if_true, Oper.wp, hrun, Oper.upon]
  exact .inl (h _ _ (K.alloc_cst cs t))
theorem run_appH (K : Hold M row w0 w L) (i : Nat) {t e ty : TypeId} {size bytes q cap : Nat} {C : Option Addr} {xs : List Value} {z : Value} (hi : L[i]? = some (.own e size (.slice C q cap) q xs)) (hE : ElemT P t e size bytes z)
    {A : Option Addr} {m c : Nat} {ys : List Value} (hr : SlR size A m ys w) (h1 : ∀ u ∈ ys, u.oneCell' = true) (hq : q + m < 140737488355328) (hb : (q + m) * bytes ≤ 140737488355328) :
    ∃ C' cap' w', (Builtin.append_ #[t, t] ty #[.slice C q cap, .slice A m c]).run P w = .ok (.slice C' (q + m) cap') w' ∧ q + m ≤ cap' ∧ cap' ≤ 9223372036854775807 ∧ Hold M row w0 w' (L.set i (.own e size (.slice C' (q + m) cap') (q + m) (xs ++ ys))) := by
  obtain ⟨i0, hi1, hi2, hi3, hi4⟩ := info_parts hE.hi
  have hown := K.get i hi
  have hz : A = none → m = 0 := fun hA => by
    rcases Nat.eq_zero_or_pos m with h0 | h0
    · exact h0
    · obtain ⟨b, o, h, _⟩ := hr.2 h0
      rw [hA] at h; cases h
  rcases A with _ | ad
  · obtain rfl := hz rfl
    have hn : ys = [] := List.eq_nil_of_length_eq_zero (by simpa using hr.1)
    subst hn
    have hc := own_caps hown
    have e : L.set i (.own e size (.slice C (q + 0) cap) (q + 0) (xs ++ [])) = L := by
      rw [Nat.add_zero, List.append_nil]
      apply List.ext_getElem?
      intro j
      rw [List.getElem?_set]
      split
      · subst i; split
        · exact hi.symm
        · rw [List.getElem?_eq_none (by omega)]
      · rfl
    exact ⟨C, cap, w, run_append_self w _ t _ _ i0 size hE.ht hi1 _ _ _ hown c, hc.1, hc.2.1, by rw [e]; exact K⟩
  · have hcells : ∀ j u, ys[j]? = some u → w.cell? (ad.add j) = some u := by
      intro j u hu
      have hpos : 0 < m := by
        rcases Nat.eq_zero_or_pos m with h0 | h0
        · have hn : ys = [] := List.eq_nil_of_length_eq_zero (by have := hr.1; rw [h0] at this; simpa using this)
          rw [hn] at hu; simp at hu
        · exact h0
      obtain ⟨b, o', hA, _, hc⟩ := hr.2 hpos
      injection hA with hA
      subst hA
      have := hc j u hu
      rwa [Addr.add_lit]
    obtain ⟨v', w', hrun, h2, h3, _, h5⟩ := run_append_own_at (P := P) w w0.heap.size t ty e i0 z size bytes hE.ht hi1 hi2 hi3 hi4 hE.hzs hE.hsz _ q xs hown ad m c ys hr.1 hcells h1 (by unfold maxLen; omega) hb K.grow.size
    obtain ⟨C', cap', rfl⟩ := own_form h2
    have hc := own_caps h2
    refine ⟨C', cap', w', hrun, hc.1, hc.2.1, ?_⟩
    refine K.turn i hi h3.size ⟨h3.os, h3.tape, h3.output⟩ (fun b hl hne => h3.block b hl fun e => hne e.symm) (fun b hf => ?_) h2 (fun T hT => by cases hT)
    have hlt := (h2.lt b hf).2
    refine ⟨?_, hlt⟩
    have hf' : Value.ownBlock (.slice C' (q + m) cap') = some b := hf
    rcases h5 with h5 | h5
    · left; rw [h5] at hf'; exact hf'
    · right; rw [h5] at hf'; injection hf' with hf'; omega
theorem wpOp_appH {k : Nat} {o : Oper} (hk : ops[k]? = some o) (hw : Region.wanted o (yielded ops a.tmps) = true) (K : Hold M row w0 w L) (i : Nat) {t e : TypeId} {size bytes q cap : Nat} {C : Option Addr} {xs : List Value} {z : Value} (hi : L[i]? = some (.own e size (.slice C q cap) q xs)) (hE : ElemT P t e size bytes z)
    {A : Option Addr} {m c : Nat} {ys : List Value} (hr : SlR size A m ys w) (s x : Operand) (ho : o.op = .call { callee := .builtin .append, args := #[s, x], argTypes := #[t, t] })
    (hs : a.eval s = .slice C q cap) (hx : a.eval x = .slice A m c) (h1 : ∀ u ∈ ys, u.oneCell' = true) (hq : q + m < 140737488355328) (hb : (q + m) * bytes ≤ 140737488355328)
    (h : ∀ C' cap' w', q + m ≤ cap' → cap' ≤ 9223372036854775807 → Hold M row w0 w' (L.set i (.own e size (.slice C' (q + m) cap') (q + m) (xs ++ ys))) → Kn (a.put o.dst (.slice C' (q + m) cap')) w') :
    wpOp P ops Q k Kn a w := by
  obtain ⟨C', cap', w', hr', c1, c2, hK⟩ := run_appH (ty := o.type) (c := c) K i hi hE hr h1 hq hb
  unfold wpOp
  simp only [hk, hw, if_true, Oper.wp]
  left
  unfold execOp
  simp only [ho, resolve, invoke, builtin, Sem.run_bind, Sem.run_pure, Result.andThen_ok, List.map_toArray, List.map_cons, List.map_nil, hs, hx, hr', Oper.upon]
  exact h _ _ _ c1 c2 hK
end
end Go.Proofs.YtljmclbedpceoaaGreatDoor

namespace Go.Proofs.YtljmclbedpceoaaGreatDoor
open Go.RowKit
set_option linter.unusedVariables false
set_option linter.unusedSimpArgs false

def Pr.osl (p : Pr) : Sl := ⟨p.oA, p.on, p.oc, p.old⟩
def Pr.nsl (p : Pr) : Sl := ⟨p.nA, p.nn, p.nc, p.new⟩
theorem slv_of_prsO {w : World} {B : Option Addr} {m : Nat} {l : List Pr} (h : PrsIn B m l w) : SlVals (l.map Pr.osl) w := fun s hs => by
  obtain ⟨r, hr, rfl⟩ := List.mem_map.1 hs
  exact (h.2 r hr).1
theorem slv_of_prsN {w : World} {B : Option Addr} {m : Nat} {l : List Pr} (h : PrsIn B m l w) : SlVals (l.map Pr.nsl) w := fun s hs => by
  obtain ⟨r, hr, rfl⟩ := List.mem_map.1 hs
  exact (h.2 r hr).2
theorem slVals_app {w : World} {a b : List Sl} (h : SlVals a w) (k : SlVals b w) : SlVals (a ++ b) w := fun s hs => (List.mem_append.1 hs).elim (h s) (k s)
/-- two lists handed back -/
def BagsRet (w : World) (M : Nat → Prop) (L1 L2 : List (List Vl)) (e : Ending) (w' : World) : Prop := ∃ (A : Option Addr) (n c : Nat) (l : List Sl) (A' : Option Addr) (n' c' : Nat) (l' : List Sl), e = .returned (.tuple #[.slice A n c, .slice A' n' c']) ∧ (n ≤ c ∧ c ≤ 9223372036854775807) ∧ (n' ≤ c' ∧ c' ≤ 9223372036854775807) ∧ Ro w' M (SlsIn A n l) ∧ Ro w' M (SlsIn A' n' l') ∧ (∀ s ∈ l, s.ok) ∧ (∀ s ∈ l', s.ok) ∧ (∀ s ∈ l, s.n ≤ 4398046511104) ∧ (∀ s ∈ l', s.n ≤ 4398046511104) ∧ l.map Sl.vs = L1 ∧ l'.map Sl.vs = L2 ∧ Below w.heap.size w w'
set_option maxHeartbeats 8000000 in
set_option maxRecDepth 100000 in
theorem dbags_any (M : Nat → Prop) (w : World) (hM : ∀ b, M b → b < w.heap.size) (s : ByteArray) (I : Option Addr) (ni ci : Nat) (D : Option Addr) (nd cd : Nat) (U : Option Addr) (nu cu : Nat) (li ld : List Rw) (lu : List Pr) (hI : Ro w M (RwsIn I ni li)) (hD : Ro w M (RwsIn D nd ld)) (hU : Ro w M (PrsIn U nu lu)) (bi : ni ≤ 1000000) (bd : nd ≤ 1000000) (bu : nu ≤ 1000000)
    (oi : ∀ r ∈ li, r.ok ∧ r.n ≤ 4398046511104) (od : ∀ r ∈ ld, r.ok ∧ r.n ≤ 4398046511104) (ou : ∀ p ∈ lu, p.ok ∧ p.on ≤ 4398046511104 ∧ p.nn ≤ 4398046511104) :
    Calls Tryz.prog 15 #[.agg #[.string s, .slice I ni ci, .slice D nd cd, .slice U nu cu]] w fun e w' => BagsRet w M (sortV (ld.map Rw.vs ++ lu.map Pr.old)) (sortV (li.map Rw.vs ++ lu.map Pr.new)) e w' := by
  have HLI := hid hI.now.len
  have HLD := hid hD.now.len
  have HLU := hid hU.now.len
  have HQ := hid (And.intro oi (And.intro od ou))
  clear oi od ou
  have K0 := (((((((Hold.start M w hM).add (hU.less (by simp [Mut]))).add (hD.less (by simp [Mut, Hp.foot]))).add (hI.less (by simp [Mut, Hp.foot]))).alloc_cst #[.string s, .slice I ni ci, .slice D nd cd, .slice U nu cu] 25).nil 87 1).nil 87 1)
  clear hI hD hU
  have F0 := K0.facts
  simp only [World.size_alloc, World.size_drew, factsL, cellsF, Nat.reduceAdd, List.toList_toArray, List.set_cons_zero, List.set_cons_succ, List.setIfInBounds_toArray, and_true, true_and] at F0
  go_enter Tryz.func15, Tryz.ntmps15
  go_wp2_with fail
  clear F0
  go_loopw [4, 15] (fun ov iv wr => ∃ (k cap : Nat) (C : Option Addr), k ≤ nd ∧ ov = .slice C k cap ∧ iv = .int .i64 k ∧ Hold M none w wr [.own 87 1 (.slice C k cap) (k) (slCells ((ld.map Rw.sl).take k)), .own 87 1 (.slice none 0 0) (0) (slCells ([])), .cst w.heap.size 25 #[.string s, .slice I ni ci, .slice D nd cd, .slice U nu cu], .ro (RwsIn I ni li), .ro (RwsIn D nd ld), .ro (PrsIn U nu lu)]) (fun _ iv _ => nd - (intOf iv).toNat)
  case atStart => exact ⟨0, 0, none, by omega, rfl, rfl, K0⟩
  case round =>
    clear K0
    obtain ⟨k, cap, C, hk, rfl, rfl, H⟩ := hrel
    by_cases hlt : k < nd
    · skip
      have hdd : decide ((k : Int) < (nd : Int)) = true := by simp; omega
      have j0 : (0 : Int) ≤ (k : Int) := by omega
      have j1 : (k : Int) < (nd : Int) := by omega
      obtain ⟨x, hx⟩ := get_of HLD.out hlt
      obtain ⟨g, o, rfl, hgb, c0, c1, hvi⟩ := (H.ro 4 rfl).now.at_ hx
      have K2 := H.alloc_cst #[.int .i64 x.id, .slice x.A x.n x.c] 89
      have HCE := hid (show slCells ((ld.map Rw.sl).take k) ++ (#[Value.slice x.A x.n x.c]).toList = slCells ((ld.map Rw.sl).take (k + 1)) by rw [List.take_add_one, List.getElem?_map, hx]; simp [slCells, Sl.cells, Rw.sl])
      clear hx hvi
      have FA := K2.facts
      simp only [World.size_alloc, World.size_drew, factsL, cellsF, Nat.reduceAdd, List.toList_toArray, List.set_cons_zero, List.set_cons_succ, List.setIfInBounds_toArray, and_true, true_and] at FA
      go_wp2_with (at_builtin; go_must (refine wpList_appH K2 1 rfl Tryz.elSlc #[.slice x.A x.n x.c] rfl (.tmp 19) (.tmp 22) rfl rfl _ (by first | rfl | simp) rfl rfl (by intro u hu; simp at hu; rcases hu with rfl; rfl) (by omega) (by omega) ?_); intro g9 cap9 w9 hc9 hm9 KB; rw [HCE.out] at KB; simp only [List.set_cons_zero, List.set_cons_succ] at KB)
      have KC := KB.drop (List.sublist_cons_self _ _)
      go_roundw
      case rel => exact ⟨k + 1, cap9, _, by omega, by first | rfl | go_num, by first | rfl | go_num, KC⟩
      case measure => simp [intOf]; omega
    · skip
      obtain rfl : nd = k := by omega
      have hdd : decide ((nd : Int) < (nd : Int)) = false := by simp
      have HTD := hid (show (ld.map Rw.sl).take nd = ld.map Rw.sl from List.take_of_length_le (by rw [List.length_map, HLD.out]; exact Nat.le_refl _))
      rw [HTD.out] at H
      have FH := H.facts
      simp only [World.size_alloc, World.size_drew, factsL, cellsF, Nat.reduceAdd, List.toList_toArray, List.set_cons_zero, List.set_cons_succ, List.setIfInBounds_toArray, and_true, true_and] at FH
      go_wp2_with fail
      clear FH
      go_loopw [5, 28] (fun ov iv wr => ∃ (k cp : Nat) (E : Option Addr), k ≤ ni ∧ ov = .slice E k cp ∧ iv = .int .i64 k ∧ Hold M none w wr [.own 87 1 (.slice C nd cap) (nd) (slCells (ld.map Rw.sl)), .own 87 1 (.slice E k cp) (k) (slCells ((li.map Rw.sl).take k)), .cst w.heap.size 25 #[.string s, .slice I ni ci, .slice D nd cd, .slice U nu cu], .ro (RwsIn I ni li), .ro (RwsIn D nd ld), .ro (PrsIn U nu lu)]) (fun _ iv _ => ni - (intOf iv).toNat)
      case atStart => exact ⟨0, 0, none, by omega, rfl, rfl, H⟩
      case round =>
        clear H hlt hk
        obtain ⟨k, cp, E, hk, rfl, rfl, H⟩ := hrel
        by_cases hlt : k < ni
        · skip
          have hdd : decide ((k : Int) < (ni : Int)) = true := by simp; omega
          have j0 : (0 : Int) ≤ (k : Int) := by omega
          have j1 : (k : Int) < (ni : Int) := by omega
          obtain ⟨x, hx⟩ := get_of HLI.out hlt
          obtain ⟨g, o, rfl, hgb, c0, c1, hvi⟩ := (H.ro 3 rfl).now.at_ hx
          have K2 := H.alloc_cst #[.int .i64 x.id, .slice x.A x.n x.c] 89
          have HCE := hid (show slCells ((li.map Rw.sl).take k) ++ (#[Value.slice x.A x.n x.c]).toList = slCells ((li.map Rw.sl).take (k + 1)) by rw [List.take_add_one, List.getElem?_map, hx]; simp [slCells, Sl.cells, Rw.sl])
          clear hx hvi
          have FA := K2.facts
          simp only [World.size_alloc, World.size_drew, factsL, cellsF, Nat.reduceAdd, List.toList_toArray, List.set_cons_zero, List.set_cons_succ, List.setIfInBounds_toArray, and_true, true_and] at FA
          go_wp2_with (at_builtin; go_must (refine wpList_appH K2 2 rfl Tryz.elSlc #[.slice x.A x.n x.c] rfl (.tmp 32) (.tmp 35) rfl rfl _ (by first | rfl | simp) rfl rfl (by intro u hu; simp at hu; rcases hu with rfl; rfl) (by omega) (by omega) ?_); intro g9 cap9 w9 hc9 hm9 KB; rw [HCE.out] at KB; simp only [List.set_cons_zero, List.set_cons_succ] at KB)
          have KC := KB.drop (List.sublist_cons_self _ _)
          go_roundw
          case rel => exact ⟨k + 1, cap9, _, by omega, by first | rfl | go_num, by first | rfl | go_num, KC⟩
          case measure => simp [intOf]; omega
        · skip
          obtain rfl : ni = k := by omega
          have hdi : decide ((ni : Int) < (ni : Int)) = false := by simp
          have HTI := hid (show (li.map Rw.sl).take ni = li.map Rw.sl from List.take_of_length_le (by rw [List.length_map, HLI.out]; exact Nat.le_refl _))
          rw [HTI.out] at H
          have FH := H.facts
          simp only [World.size_alloc, World.size_drew, factsL, cellsF, Nat.reduceAdd, List.toList_toArray, List.set_cons_zero, List.set_cons_succ, List.setIfInBounds_toArray, and_true, true_and] at FH
          go_wp2_with fail
          clear FH
          have H9 : Hold M none w wr [.own 87 1 (.slice C (nd + 0) cap) (nd + 0) (slCells (ld.map Rw.sl ++ (lu.map Pr.osl).take 0)), .own 87 1 (.slice E (ni + 0) cp) (ni + 0) (slCells (li.map Rw.sl ++ (lu.map Pr.nsl).take 0)), .cst w.heap.size 25 #[.string s, .slice I ni ci, .slice D nd cd, .slice U nu cu], .ro (RwsIn I ni li), .ro (RwsIn D nd ld), .ro (PrsIn U nu lu)] := by rw [List.take_zero, List.take_zero, List.append_nil, List.append_nil]; exact H
          go_loopw [4, 5, 41] (fun ov nv iv wr => ∃ (k cap1 cap2 : Nat) (C1 C2 : Option Addr), k ≤ nu ∧ ov = .slice C1 (nd + k) cap1 ∧ nv = .slice C2 (ni + k) cap2 ∧ iv = .int .i64 k ∧ Hold M none w wr [.own 87 1 (.slice C1 (nd + k) cap1) (nd + k) (slCells (ld.map Rw.sl ++ (lu.map Pr.osl).take k)), .own 87 1 (.slice C2 (ni + k) cap2) (ni + k) (slCells (li.map Rw.sl ++ (lu.map Pr.nsl).take k)), .cst w.heap.size 25 #[.string s, .slice I ni ci, .slice D nd cd, .slice U nu cu], .ro (RwsIn I ni li), .ro (RwsIn D nd ld), .ro (PrsIn U nu lu)]) (fun _ _ iv _ => nu - (intOf iv).toNat)
          case atStart => exact ⟨0, cap, cp, C, E, by omega, rfl, rfl, rfl, H9⟩
          case round =>
            clear H H9 hlt hk
            obtain ⟨k, cap1, cap2, C1, C2, hk, rfl, rfl, rfl, H⟩ := hrel
            by_cases hlt : k < nu
            · skip
              have hdd : decide ((k : Int) < (nu : Int)) = true := by simp; omega
              have j0 : (0 : Int) ≤ (k : Int) := by omega
              have j1 : (k : Int) < (nu : Int) := by omega
              obtain ⟨x, hx⟩ := get_of HLU.out hlt
              obtain ⟨g, o, rfl, hgb, c0, c1, c2, hv1, hv2⟩ := (H.ro 5 rfl).now.at_ hx
              have K2 := H.alloc_cst #[.int .i64 x.id, .slice x.oA x.on x.oc, .slice x.nA x.nn x.nc] 106
              have HCE1 := hid (show slCells (ld.map Rw.sl ++ (lu.map Pr.osl).take k) ++ (#[Value.slice x.oA x.on x.oc]).toList = slCells (ld.map Rw.sl ++ (lu.map Pr.osl).take (k + 1)) by rw [List.take_add_one, List.getElem?_map, hx]; simp [slCells, Sl.cells, Pr.osl])
              have HCE2 := hid (show slCells (li.map Rw.sl ++ (lu.map Pr.nsl).take k) ++ (#[Value.slice x.nA x.nn x.nc]).toList = slCells (li.map Rw.sl ++ (lu.map Pr.nsl).take (k + 1)) by rw [List.take_add_one, List.getElem?_map, hx]; simp [slCells, Sl.cells, Pr.nsl])
              clear hx hv1 hv2
              have FA := K2.facts
              simp only [World.size_alloc, World.size_drew, factsL, cellsF, Nat.reduceAdd, List.toList_toArray, List.set_cons_zero, List.set_cons_succ, List.setIfInBounds_toArray, and_true, true_and] at FA
              go_wp2_with fail
              obtain ⟨gb, hgb0⟩ : ∃ g, g = wr.heap.size := ⟨_, rfl⟩
              rw [← hgb0] at K2 ⊢
              clear hgb0 FA
              generalize World.alloc wr _ = w1 at K2 ⊢
              refine wp_region_held (S := fun w' => w'.cell? ⟨gb, 1, none⟩ = some (.slice x.oA x.on x.oc) ∧ w'.cell? ⟨gb, 2, none⟩ = some (.slice x.nA x.nn x.nc) ∧ gb < w'.heap.size) (by kernel_rfl) ?_
              have K50 : Hold M none w w1.drew _ := (K2.perm ((List.Perm.swap _ _ _).trans (List.Perm.cons _ (List.Perm.swap _ _ _)))).drew
              clear K2
              have HS0 : w1.drew.cell? ⟨gb, 1, none⟩ = some (.slice x.oA x.on x.oc) ∧ w1.drew.cell? ⟨gb, 2, none⟩ = some (.slice x.nA x.nn x.nc) ∧ gb < w1.drew.heap.size := ⟨cell_of_row _ _ 1 _ _ _ (K50.cst_ 2 rfl), cell_of_row _ _ 2 _ _ _ (K50.cst_ 2 rfl), Blk.lt (K50.cst_ 2 rfl)⟩
              refine wpAnyH_take (i := 0) (v := .slice C1 (nd + k) cap1) rfl (by kernel_rfl) (by kernel_rfl) (by kernel_rfl) (fun _ _ _ h => h) (.inl ⟨by rfl, fun wv HS => ?_⟩) HS0 ?_
              · obtain ⟨f0, f1, f2⟩ := HS; go_simp <;> rfl
              simp only [Act.put, List.getElem_toArray, List.getElem_cons_zero, List.getElem_cons_succ, List.setIfInBounds_toArray, List.set_cons_succ, List.set_cons_zero]
              refine wpAnyH_take (i := 1) (v := .pointer (some ⟨gb, 1, none⟩)) rfl (by kernel_rfl) (by kernel_rfl) (by kernel_rfl) (fun _ _ _ h => h) (.inl ⟨by rfl, fun wv HS => ?_⟩) HS0 ?_
              · obtain ⟨f0, f1, f2⟩ := HS; go_simp <;> rfl
              simp only [Act.put, List.getElem_toArray, List.getElem_cons_zero, List.getElem_cons_succ, List.setIfInBounds_toArray, List.set_cons_succ, List.set_cons_zero]
              refine wpAnyH_take (i := 2) (v := .slice x.oA x.on x.oc) rfl (by kernel_rfl) (by kernel_rfl) (by kernel_rfl) (fun _ _ _ h => h) (.inl ⟨by rfl, fun wv HS => ?_⟩) HS0 ?_
              · obtain ⟨f0, f1, f2⟩ := HS; go_simp <;> rfl
              simp only [Act.put, List.getElem_toArray, List.getElem_cons_zero, List.getElem_cons_succ, List.setIfInBounds_toArray, List.set_cons_succ, List.set_cons_zero]
              refine wpAnyH_take (i := 5) (v := .slice C2 (ni + k) cap2) rfl (by kernel_rfl) (by kernel_rfl) (by kernel_rfl) (fun _ _ _ h => h) (.inl ⟨by rfl, fun wv HS => ?_⟩) HS0 ?_
              · obtain ⟨f0, f1, f2⟩ := HS; go_simp <;> rfl
              simp only [Act.put, List.getElem_toArray, List.getElem_cons_zero, List.getElem_cons_succ, List.setIfInBounds_toArray, List.set_cons_succ, List.set_cons_zero]
              refine wpAnyH_take (i := 6) (v := .pointer (some ⟨gb, 2, none⟩)) rfl (by kernel_rfl) (by kernel_rfl) (by kernel_rfl) (fun _ _ _ h => h) (.inl ⟨by rfl, fun wv HS => ?_⟩) HS0 ?_
              · obtain ⟨f0, f1, f2⟩ := HS; go_simp <;> rfl
              simp only [Act.put, List.getElem_toArray, List.getElem_cons_zero, List.getElem_cons_succ, List.setIfInBounds_toArray, List.set_cons_succ, List.set_cons_zero]
              refine wpAnyH_take (i := 7) (v := .slice x.nA x.nn x.nc) rfl (by kernel_rfl) (by kernel_rfl) (by kernel_rfl) (fun _ _ _ h => h) (.inl ⟨by rfl, fun wv HS => ?_⟩) HS0 ?_
              · obtain ⟨f0, f1, f2⟩ := HS; go_simp <;> rfl
              simp only [Act.put, List.getElem_toArray, List.getElem_cons_zero, List.getElem_cons_succ, List.setIfInBounds_toArray, List.set_cons_succ, List.set_cons_zero]
              refine wpAnyH_all (rs := [3, 8]) (by kernel_rfl) (by simp) (fun ii hii => ?_)
              simp only [List.mem_cons, List.not_mem_nil, or_false] at hii
              rcases hii with rfl | rfl
              · skip
                refine wpOp_newH rfl rfl K50 #[.slice x.oA x.on x.oc] 87 (fun g => .slice (some ⟨g, 0, none⟩) 1 1) (fun wv => ?_) ?_
                · go_simp <;> rfl
                intro gA wK101 K101
                simp only [Act.put, List.getElem_toArray, List.getElem_cons_zero, List.getElem_cons_succ, List.setIfInBounds_toArray, List.set_cons_succ, List.set_cons_zero]
                refine ⟨⟨cell_of_row _ _ 1 _ _ _ (K101.cst_ 3 rfl), cell_of_row _ _ 2 _ _ _ (K101.cst_ 3 rfl), Blk.lt (K101.cst_ 3 rfl)⟩, ?_⟩
                refine wpAnyH_all (rs := [4, 8]) (by kernel_rfl) (by simp) (fun ii hii => ?_)
                simp only [List.mem_cons, List.not_mem_nil, or_false] at hii
                rcases hii with rfl | rfl
                · skip
                  refine wpOp_appH (A := some ⟨gA, 0, none⟩) (m := 1) (c := 1) (ys := [.slice x.oA x.on x.oc]) rfl rfl K101 1 rfl Tryz.elSlc (ro_block (size := 1) (n := 1) (K101.get 0 rfl) rfl).now (.tmp 45) (.tmp 48) rfl rfl rfl (by intro u hu; simp at hu; subst hu; rfl) (by omega) (by omega) ?_
                  intro Cl cpl wK102 hK1021 hK1022 K102a
                  simp only [List.set_cons_zero, List.set_cons_succ] at K102a
                  have K102 := K102a.drop (List.sublist_cons_self _ _)
                  clear K102a
                  simp only [Act.put, List.getElem_toArray, List.getElem_cons_zero, List.getElem_cons_succ, List.setIfInBounds_toArray, List.set_cons_succ, List.set_cons_zero]
                  refine ⟨⟨cell_of_row _ _ 1 _ _ _ (K102.cst_ 2 rfl), cell_of_row _ _ 2 _ _ _ (K102.cst_ 2 rfl), Blk.lt (K102.cst_ 2 rfl)⟩, ?_⟩
                  refine wpAnyH_all (rs := [8]) (by kernel_rfl) (by simp) (fun ii hii => ?_)
                  simp only [List.mem_cons, List.not_mem_nil, or_false] at hii
                  subst hii
                  · skip
                    refine wpOp_newH rfl rfl K102 #[.slice x.nA x.nn x.nc] 87 (fun g => .slice (some ⟨g, 0, none⟩) 1 1) (fun wv => ?_) ?_
                    · go_simp <;> rfl
                    intro gB wK103 K103
                    simp only [Act.put, List.getElem_toArray, List.getElem_cons_zero, List.getElem_cons_succ, List.setIfInBounds_toArray, List.set_cons_succ, List.set_cons_zero]
                    refine ⟨⟨cell_of_row _ _ 1 _ _ _ (K103.cst_ 3 rfl), cell_of_row _ _ 2 _ _ _ (K103.cst_ 3 rfl), Blk.lt (K103.cst_ 3 rfl)⟩, ?_⟩
                    refine wpAnyH_all (rs := [9]) (by kernel_rfl) (by simp) (fun ii hii => ?_)
                    simp only [List.mem_cons, List.not_mem_nil, or_false] at hii
                    subst hii
                    · skip
                      refine wpOp_appH (A := some ⟨gB, 0, none⟩) (m := 1) (c := 1) (ys := [.slice x.nA x.nn x.nc]) rfl rfl K103 2 rfl Tryz.elSlc (ro_block (size := 1) (n := 1) (K103.get 0 rfl) rfl).now (.tmp 50) (.tmp 53) rfl rfl rfl (by intro u hu; simp at hu; subst hu; rfl) (by omega) (by omega) ?_
                      intro Cr cpr wK104 hK1041 hK1042 K104a
                      simp only [List.set_cons_zero, List.set_cons_succ] at K104a
                      have K104 := K104a.drop (List.sublist_cons_self _ _)
                      clear K104a
                      simp only [Act.put, List.getElem_toArray, List.getElem_cons_zero, List.getElem_cons_succ, List.setIfInBounds_toArray, List.set_cons_succ, List.set_cons_zero]
                      refine ⟨⟨cell_of_row _ _ 1 _ _ _ (K104.cst_ 2 rfl), cell_of_row _ _ 2 _ _ _ (K104.cst_ 2 rfl), Blk.lt (K104.cst_ 2 rfl)⟩, ?_⟩
                      refine wpAnyH_take (i := 10) (v := .slice Cl (nd + k + 1) cpl) rfl (by kernel_rfl) (by kernel_rfl) (by kernel_rfl) (fun _ _ _ h => h) (.inl ⟨by rfl, fun wv HS => ?_⟩) ⟨cell_of_row _ _ 1 _ _ _ (K104.cst_ 2 rfl), cell_of_row _ _ 2 _ _ _ (K104.cst_ 2 rfl), Blk.lt (K104.cst_ 2 rfl)⟩ ?_
                      · go_simp <;> rfl
                      simp only [Act.put, List.getElem_toArray, List.getElem_cons_zero, List.getElem_cons_succ, List.setIfInBounds_toArray, List.set_cons_succ, List.set_cons_zero]
                      refine wpAnyH_take (i := 11) (v := .slice Cr (ni + k + 1) cpr) rfl (by kernel_rfl) (by kernel_rfl) (by kernel_rfl) (fun _ _ _ h => h) (.inl ⟨by rfl, fun wv HS => ?_⟩) ⟨cell_of_row _ _ 1 _ _ _ (K104.cst_ 2 rfl), cell_of_row _ _ 2 _ _ _ (K104.cst_ 2 rfl), Blk.lt (K104.cst_ 2 rfl)⟩ ?_
                      · go_simp <;> rfl
                      simp only [Act.put, List.getElem_toArray, List.getElem_cons_zero, List.getElem_cons_succ, List.setIfInBounds_toArray, List.set_cons_succ, List.set_cons_zero]
                      refine wpAnyH_done (by kernel_rfl) ?_ _
                      rw [HCE1.out, HCE2.out] at K104
                      go_wp2_with fail
                      go_roundw
                      case rel => exact ⟨k + 1, cpl, cpr, Cl, Cr, by omega, by first | rfl | go_num, by first | rfl | go_num, by first | rfl | go_num, K104.drop (List.Sublist.cons_cons _ (List.Sublist.cons_cons _ (List.sublist_cons_self _ _)))⟩
                      case measure => simp [intOf]; omega
                · skip
                  refine wpOp_newH rfl rfl K101 #[.slice x.nA x.nn x.nc] 87 (fun g => .slice (some ⟨g, 0, none⟩) 1 1) (fun wv => ?_) ?_
                  · go_simp <;> rfl
                  intro gB wK105 K105
                  simp only [Act.put, List.getElem_toArray, List.getElem_cons_zero, List.getElem_cons_succ, List.setIfInBounds_toArray, List.set_cons_succ, List.set_cons_zero]
                  refine ⟨⟨cell_of_row _ _ 1 _ _ _ (K105.cst_ 4 rfl), cell_of_row _ _ 2 _ _ _ (K105.cst_ 4 rfl), Blk.lt (K105.cst_ 4 rfl)⟩, ?_⟩
                  refine wpAnyH_all (rs := [4]) (by kernel_rfl) (by simp) (fun ii hii => ?_)
                  simp only [List.mem_cons, List.not_mem_nil, or_false] at hii
                  subst hii
                  · skip
                    refine wpOp_appH (A := some ⟨gA, 0, none⟩) (m := 1) (c := 1) (ys := [.slice x.oA x.on x.oc]) rfl rfl K105 2 rfl Tryz.elSlc (ro_block (size := 1) (n := 1) (K105.get 1 rfl) rfl).now (.tmp 45) (.tmp 48) rfl rfl rfl (by intro u hu; simp at hu; subst hu; rfl) (by omega) (by omega) ?_
                    intro Cl cpl wK106 hK1061 hK1062 K106a
                    simp only [List.set_cons_zero, List.set_cons_succ] at K106a
                    have K106 := K106a.drop (List.Sublist.cons_cons _ (List.sublist_cons_self _ _))
                    clear K106a
                    simp only [Act.put, List.getElem_toArray, List.getElem_cons_zero, List.getElem_cons_succ, List.setIfInBounds_toArray, List.set_cons_succ, List.set_cons_zero]
                    refine ⟨⟨cell_of_row _ _ 1 _ _ _ (K106.cst_ 3 rfl), cell_of_row _ _ 2 _ _ _ (K106.cst_ 3 rfl), Blk.lt (K106.cst_ 3 rfl)⟩, ?_⟩
                    refine wpAnyH_all (rs := [9]) (by kernel_rfl) (by simp) (fun ii hii => ?_)
                    simp only [List.mem_cons, List.not_mem_nil, or_false] at hii
                    subst hii
                    · skip
                      refine wpOp_appH (A := some ⟨gB, 0, none⟩) (m := 1) (c := 1) (ys := [.slice x.nA x.nn x.nc]) rfl rfl K106 2 rfl Tryz.elSlc (ro_block (size := 1) (n := 1) (K106.get 0 rfl) rfl).now (.tmp 50) (.tmp 53) rfl rfl rfl (by intro u hu; simp at hu; subst hu; rfl) (by omega) (by omega) ?_
                      intro Cr cpr wK107 hK1071 hK1072 K107a
                      simp only [List.set_cons_zero, List.set_cons_succ] at K107a
                      have K107 := K107a.drop (List.sublist_cons_self _ _)
                      clear K107a
                      simp only [Act.put, List.getElem_toArray, List.getElem_cons_zero, List.getElem_cons_succ, List.setIfInBounds_toArray, List.set_cons_succ, List.set_cons_zero]
                      refine ⟨⟨cell_of_row _ _ 1 _ _ _ (K107.cst_ 2 rfl), cell_of_row _ _ 2 _ _ _ (K107.cst_ 2 rfl), Blk.lt (K107.cst_ 2 rfl)⟩, ?_⟩
                      refine wpAnyH_take (i := 10) (v := .slice Cl (nd + k + 1) cpl) rfl (by kernel_rfl) (by kernel_rfl) (by kernel_rfl) (fun _ _ _ h => h) (.inl ⟨by rfl, fun wv HS => ?_⟩) ⟨cell_of_row _ _ 1 _ _ _ (K107.cst_ 2 rfl), cell_of_row _ _ 2 _ _ _ (K107.cst_ 2 rfl), Blk.lt (K107.cst_ 2 rfl)⟩ ?_
                      · go_simp <;> rfl
                      simp only [Act.put, List.getElem_toArray, List.getElem_cons_zero, List.getElem_cons_succ, List.setIfInBounds_toArray, List.set_cons_succ, List.set_cons_zero]
                      refine wpAnyH_take (i := 11) (v := .slice Cr (ni + k + 1) cpr) rfl (by kernel_rfl) (by kernel_rfl) (by kernel_rfl) (fun _ _ _ h => h) (.inl ⟨by rfl, fun wv HS => ?_⟩) ⟨cell_of_row _ _ 1 _ _ _ (K107.cst_ 2 rfl), cell_of_row _ _ 2 _ _ _ (K107.cst_ 2 rfl), Blk.lt (K107.cst_ 2 rfl)⟩ ?_
                      · go_simp <;> rfl
                      simp only [Act.put, List.getElem_toArray, List.getElem_cons_zero, List.getElem_cons_succ, List.setIfInBounds_toArray, List.set_cons_succ, List.set_cons_zero]
                      refine wpAnyH_done (by kernel_rfl) ?_ _
                      rw [HCE1.out, HCE2.out] at K107
                      go_wp2_with fail
                      go_roundw
                      case rel => exact ⟨k + 1, cpl, cpr, Cl, Cr, by omega, by first | rfl | go_num, by first | rfl | go_num, by first | rfl | go_num, K107.drop (List.Sublist.cons_cons _ (List.Sublist.cons_cons _ (List.sublist_cons_self _ _)))⟩
                      case measure => simp [intOf]; omega
              · skip
                refine wpOp_newH rfl rfl K50 #[.slice x.nA x.nn x.nc] 87 (fun g => .slice (some ⟨g, 0, none⟩) 1 1) (fun wv => ?_) ?_
                · go_simp <;> rfl
                intro gB wK108 K108
                simp only [Act.put, List.getElem_toArray, List.getElem_cons_zero, List.getElem_cons_succ, List.setIfInBounds_toArray, List.set_cons_succ, List.set_cons_zero]
                refine ⟨⟨cell_of_row _ _ 1 _ _ _ (K108.cst_ 3 rfl), cell_of_row _ _ 2 _ _ _ (K108.cst_ 3 rfl), Blk.lt (K108.cst_ 3 rfl)⟩, ?_⟩
                refine wpAnyH_all (rs := [3]) (by kernel_rfl) (by simp) (fun ii hii => ?_)
                simp only [List.mem_cons, List.not_mem_nil, or_false] at hii
                subst hii
                · skip
                  refine wpOp_newH rfl rfl K108 #[.slice x.oA x.on x.oc] 87 (fun g => .slice (some ⟨g, 0, none⟩) 1 1) (fun wv => ?_) ?_
                  · go_simp <;> rfl
                  intro gA wK109 K109
                  simp only [Act.put, List.getElem_toArray, List.getElem_cons_zero, List.getElem_cons_succ, List.setIfInBounds_toArray, List.set_cons_succ, List.set_cons_zero]
                  refine ⟨⟨cell_of_row _ _ 1 _ _ _ (K109.cst_ 4 rfl), cell_of_row _ _ 2 _ _ _ (K109.cst_ 4 rfl), Blk.lt (K109.cst_ 4 rfl)⟩, ?_⟩
                  refine wpAnyH_all (rs := [4]) (by kernel_rfl) (by simp) (fun ii hii => ?_)
                  simp only [List.mem_cons, List.not_mem_nil, or_false] at hii
                  subst hii
                  · skip
                    refine wpOp_appH (A := some ⟨gA, 0, none⟩) (m := 1) (c := 1) (ys := [.slice x.oA x.on x.oc]) rfl rfl K109 2 rfl Tryz.elSlc (ro_block (size := 1) (n := 1) (K109.get 0 rfl) rfl).now (.tmp 45) (.tmp 48) rfl rfl rfl (by intro u hu; simp at hu; subst hu; rfl) (by omega) (by omega) ?_
                    intro Cl cpl wK110 hK1101 hK1102 K110a
                    simp only [List.set_cons_zero, List.set_cons_succ] at K110a
                    have K110 := K110a.drop (List.sublist_cons_self _ _)
                    clear K110a
                    simp only [Act.put, List.getElem_toArray, List.getElem_cons_zero, List.getElem_cons_succ, List.setIfInBounds_toArray, List.set_cons_succ, List.set_cons_zero]
                    refine ⟨⟨cell_of_row _ _ 1 _ _ _ (K110.cst_ 3 rfl), cell_of_row _ _ 2 _ _ _ (K110.cst_ 3 rfl), Blk.lt (K110.cst_ 3 rfl)⟩, ?_⟩
                    refine wpAnyH_all (rs := [9]) (by kernel_rfl) (by simp) (fun ii hii => ?_)
                    simp only [List.mem_cons, List.not_mem_nil, or_false] at hii
                    subst hii
                    · skip
                      refine wpOp_appH (A := some ⟨gB, 0, none⟩) (m := 1) (c := 1) (ys := [.slice x.nA x.nn x.nc]) rfl rfl K110 2 rfl Tryz.elSlc (ro_block (size := 1) (n := 1) (K110.get 0 rfl) rfl).now (.tmp 50) (.tmp 53) rfl rfl rfl (by intro u hu; simp at hu; subst hu; rfl) (by omega) (by omega) ?_
                      intro Cr cpr wK111 hK1111 hK1112 K111a
                      simp only [List.set_cons_zero, List.set_cons_succ] at K111a
                      have K111 := K111a.drop (List.sublist_cons_self _ _)
                      clear K111a
                      simp only [Act.put, List.getElem_toArray, List.getElem_cons_zero, List.getElem_cons_succ, List.setIfInBounds_toArray, List.set_cons_succ, List.set_cons_zero]
                      refine ⟨⟨cell_of_row _ _ 1 _ _ _ (K111.cst_ 2 rfl), cell_of_row _ _ 2 _ _ _ (K111.cst_ 2 rfl), Blk.lt (K111.cst_ 2 rfl)⟩, ?_⟩
                      refine wpAnyH_take (i := 10) (v := .slice Cl (nd + k + 1) cpl) rfl (by kernel_rfl) (by kernel_rfl) (by kernel_rfl) (fun _ _ _ h => h) (.inl ⟨by rfl, fun wv HS => ?_⟩) ⟨cell_of_row _ _ 1 _ _ _ (K111.cst_ 2 rfl), cell_of_row _ _ 2 _ _ _ (K111.cst_ 2 rfl), Blk.lt (K111.cst_ 2 rfl)⟩ ?_
                      · go_simp <;> rfl
                      simp only [Act.put, List.getElem_toArray, List.getElem_cons_zero, List.getElem_cons_succ, List.setIfInBounds_toArray, List.set_cons_succ, List.set_cons_zero]
                      refine wpAnyH_take (i := 11) (v := .slice Cr (ni + k + 1) cpr) rfl (by kernel_rfl) (by kernel_rfl) (by kernel_rfl) (fun _ _ _ h => h) (.inl ⟨by rfl, fun wv HS => ?_⟩) ⟨cell_of_row _ _ 1 _ _ _ (K111.cst_ 2 rfl), cell_of_row _ _ 2 _ _ _ (K111.cst_ 2 rfl), Blk.lt (K111.cst_ 2 rfl)⟩ ?_
                      · go_simp <;> rfl
                      simp only [Act.put, List.getElem_toArray, List.getElem_cons_zero, List.getElem_cons_succ, List.setIfInBounds_toArray, List.set_cons_succ, List.set_cons_zero]
                      refine wpAnyH_done (by kernel_rfl) ?_ _
                      rw [HCE1.out, HCE2.out] at K111
                      go_wp2_with fail
                      go_roundw
                      case rel => exact ⟨k + 1, cpl, cpr, Cl, Cr, by omega, by first | rfl | go_num, by first | rfl | go_num, by first | rfl | go_num, K111.drop (List.Sublist.cons_cons _ (List.Sublist.cons_cons _ (List.sublist_cons_self _ _)))⟩
                      case measure => simp [intOf]; omega
            · skip
              obtain rfl : nu = k := by omega
              have hdu : decide ((nu : Int) < (nu : Int)) = false := by simp
              obtain ⟨hc1, hc2, _⟩ := own_caps (H.get 0 rfl)
              obtain ⟨hc3, hc4, _⟩ := own_caps (H.get 1 rfl)
              have HT1 := hid (show (lu.map Pr.osl).take nu = lu.map Pr.osl from List.take_of_length_le (by rw [List.length_map, HLU.out]; exact Nat.le_refl _))
              have HT2 := hid (show (lu.map Pr.nsl).take nu = lu.map Pr.nsl from List.take_of_length_le (by rw [List.length_map, HLU.out]; exact Nat.le_refl _))
              rw [HT1.out, HT2.out] at H
              have KS0 := H.sealRow 0 rfl
              simp only [List.set_cons_zero] at KS0
              have KS := KS0.sealRow 1 rfl
              simp only [List.set_cons_zero, List.set_cons_succ] at KS
              have KV0 := KS.swapRo 0 rfl (((KS.ro 0 rfl).and ((KS.ro 4 rfl).and (KS.ro 5 rfl))).imp fun w2 h => (⟨h.1, slVals_app (slv_of_rws h.2.1) (slv_of_prsO h.2.2)⟩ : SlsIn C1 (nd + nu) (ld.map Rw.sl ++ lu.map Pr.osl) w2))
              simp only [List.set_cons_zero] at KV0
              have KV := KV0.swapRo 1 rfl (((KV0.ro 1 rfl).and ((KV0.ro 3 rfl).and (KV0.ro 5 rfl))).imp fun w2 h => (⟨h.1, slVals_app (slv_of_rws h.2.1) (slv_of_prsN h.2.2)⟩ : SlsIn C2 (ni + nu) (li.map Rw.sl ++ lu.map Pr.nsl) w2))
              simp only [List.set_cons_zero, List.set_cons_succ] at KV
              clear H KS KS0 KV0 hlt hk
              have HB1 := hid (show ∀ s ∈ ld.map Rw.sl ++ lu.map Pr.osl, s.n ≤ 4398046511104 ∧ s.ok from fun s hs => by
                rcases List.mem_append.1 hs with hs | hs
                · obtain ⟨r, hr, rfl⟩ := List.mem_map.1 hs; exact ⟨(HQ.out.2.1 r hr).2, rw_sl_ok (HQ.out.2.1 r hr).1⟩
                · obtain ⟨r, hr, rfl⟩ := List.mem_map.1 hs; have h := HQ.out.2.2 r hr; exact ⟨h.2.1, ⟨h.1.oc, h.1.oc2, h.1.old⟩⟩)
              have HB2 := hid (show ∀ s ∈ li.map Rw.sl ++ lu.map Pr.nsl, s.n ≤ 4398046511104 ∧ s.ok from fun s hs => by
                rcases List.mem_append.1 hs with hs | hs
                · obtain ⟨r, hr, rfl⟩ := List.mem_map.1 hs; exact ⟨(HQ.out.1 r hr).2, rw_sl_ok (HQ.out.1 r hr).1⟩
                · obtain ⟨r, hr, rfl⟩ := List.mem_map.1 hs; have h := HQ.out.2.2 r hr; exact ⟨h.2.2, ⟨h.1.nc, h.1.nc2, h.1.new⟩⟩)
              go_wp2_with fail
              refine (tsort_any _ _ KV.mutLt C1 (nd + nu) cap1 _ (KV.ro 0 rfl) (by omega) (fun s hs => (HB1.out s hs).1) (fun s hs => (HB1.out s hs).2)).mono ?_
              rintro e w3 ⟨A3, n3, c3, l3, rfl, h31, h32, r3, o3, m3, e3, b3⟩
              have K5 := (KV.call b3).add r3
              have HE3 := hid (And.intro o3 (And.intro m3 e3))
              clear KV b3 r3 o3 m3 e3
              go_wp2_with fail
              refine (tsort_any _ _ K5.mutLt C2 (ni + nu) cap2 _ (K5.ro 2 rfl) (by omega) (fun s hs => (HB2.out s hs).1) (fun s hs => (HB2.out s hs).2)).mono ?_
              rintro e w4 ⟨A4, n4, c4, l4, rfl, h41, h42, r4, o4, m4, e4, b4⟩
              have K6 := (K5.call b4).add r4
              have HE4 := hid (And.intro o4 (And.intro m4 e4))
              clear K5 b4 r4 o4 m4 e4
              have q1 := K6.roOut 0 rfl
              have q2 := K6.roOut 1 rfl
              have q3 := K6.below
              clear K6
              go_wp2_with fail
              go_ret2
              exact ⟨A3, n3, c3, l3, A4, n4, c4, l4, rfl, ⟨h31, h32⟩, ⟨h41, h42⟩, q2, q1, HE3.out.1, HE4.out.1, HE3.out.2.1, HE4.out.2.1, by rw [HE3.out.2.2, List.map_append, List.map_map, List.map_map]; rfl, by rw [HE4.out.2.2, List.map_append, List.map_map, List.map_map]; rfl, q3⟩
set_option maxHeartbeats 8000000 in
set_option maxRecDepth 100000 in
theorem rbags_any (M : Nat → Prop) (w : World) (hM : ∀ b, M b → b < w.heap.size) (s : ByteArray) (I : Option Addr) (ni ci : Nat) (D : Option Addr) (nd cd : Nat) (U : Option Addr) (nu cu : Nat) (li ld : List Rw) (lu : List Pr) (hI : Ro w M (RwsIn I ni li)) (hD : Ro w M (RwsIn D nd ld)) (hU : Ro w M (PrsIn U nu lu)) (bi : ni ≤ 1000000) (bd : nd ≤ 1000000) (bu : nu ≤ 1000000)
    (oi : ∀ r ∈ li, r.ok ∧ r.n ≤ 4398046511104) (od : ∀ r ∈ ld, r.ok ∧ r.n ≤ 4398046511104) (ou : ∀ p ∈ lu, p.ok ∧ p.on ≤ 4398046511104 ∧ p.nn ≤ 4398046511104) :
    Calls Tryz.prog 16 #[.agg #[.string s, .slice I ni ci, .slice D nd cd, .slice U nu cu]] w fun e w' => BagsRet w M (sortV (ld.map Rw.vs ++ lu.map Pr.old)) (sortV (li.map Rw.vs ++ lu.map Pr.new)) e w' := by
  have HLI := hid hI.now.len
  have HLD := hid hD.now.len
  have HLU := hid hU.now.len
  have HQ := hid (And.intro oi (And.intro od ou))
  clear oi od ou
  have K0 := (((((((Hold.start M w hM).add (hU.less (by simp [Mut]))).add (hD.less (by simp [Mut, Hp.foot]))).add (hI.less (by simp [Mut, Hp.foot]))).alloc_cst #[.string s, .slice I ni ci, .slice D nd cd, .slice U nu cu] 25).nil 87 1).nil 87 1)
  clear hI hD hU
  have F0 := K0.facts
  simp only [World.size_alloc, World.size_drew, factsL, cellsF, Nat.reduceAdd, List.toList_toArray, List.set_cons_zero, List.set_cons_succ, List.setIfInBounds_toArray, and_true, true_and] at F0
  go_enter Tryz.func16, Tryz.ntmps16
  go_wp2_with fail
  clear F0
  go_loopw [4, 15] (fun ov iv wr => ∃ (k cap : Nat) (C : Option Addr), k ≤ nd ∧ ov = .slice C k cap ∧ iv = .int .i64 k ∧ Hold M none w wr [.own 87 1 (.slice C k cap) (k) (slCells ((ld.map Rw.sl).take k)), .own 87 1 (.slice none 0 0) (0) (slCells ([])), .cst w.heap.size 25 #[.string s, .slice I ni ci, .slice D nd cd, .slice U nu cu], .ro (RwsIn I ni li), .ro (RwsIn D nd ld), .ro (PrsIn U nu lu)]) (fun _ iv _ => nd - (intOf iv).toNat)
  case atStart => exact ⟨0, 0, none, by omega, rfl, rfl, K0⟩
  case round =>
    clear K0
    obtain ⟨k, cap, C, hk, rfl, rfl, H⟩ := hrel
    by_cases hlt : k < nd
    · skip
      have hdd : decide ((k : Int) < (nd : Int)) = true := by simp; omega
      have j0 : (0 : Int) ≤ (k : Int) := by omega
      have j1 : (k : Int) < (nd : Int) := by omega
      obtain ⟨x, hx⟩ := get_of HLD.out hlt
      obtain ⟨g, o, rfl, hgb, c0, c1, hvi⟩ := (H.ro 4 rfl).now.at_ hx
      have K2 := H.alloc_cst #[.int .i64 x.id, .slice x.A x.n x.c] 89
      have HCE := hid (show slCells ((ld.map Rw.sl).take k) ++ (#[Value.slice x.A x.n x.c]).toList = slCells ((ld.map Rw.sl).take (k + 1)) by rw [List.take_add_one, List.getElem?_map, hx]; simp [slCells, Sl.cells, Rw.sl])
      clear hx hvi
      have FA := K2.facts
      simp only [World.size_alloc, World.size_drew, factsL, cellsF, Nat.reduceAdd, List.toList_toArray, List.set_cons_zero, List.set_cons_succ, List.setIfInBounds_toArray, and_true, true_and] at FA
      go_wp2_with (at_builtin; go_must (refine wpList_appH K2 1 rfl Tryz.elSlc #[.slice x.A x.n x.c] rfl (.tmp 19) (.tmp 22) rfl rfl _ (by first | rfl | simp) rfl rfl (by intro u hu; simp at hu; rcases hu with rfl; rfl) (by omega) (by omega) ?_); intro g9 cap9 w9 hc9 hm9 KB; rw [HCE.out] at KB; simp only [List.set_cons_zero, List.set_cons_succ] at KB)
      have KC := KB.drop (List.sublist_cons_self _ _)
      go_roundw
      case rel => exact ⟨k + 1, cap9, _, by omega, by first | rfl | go_num, by first | rfl | go_num, KC⟩
      case measure => simp [intOf]; omega
    · skip
      obtain rfl : nd = k := by omega
      have hdd : decide ((nd : Int) < (nd : Int)) = false := by simp
      have HTD := hid (show (ld.map Rw.sl).take nd = ld.map Rw.sl from List.take_of_length_le (by rw [List.length_map, HLD.out]; exact Nat.le_refl _))
      rw [HTD.out] at H
      have FH := H.facts
      simp only [World.size_alloc, World.size_drew, factsL, cellsF, Nat.reduceAdd, List.toList_toArray, List.set_cons_zero, List.set_cons_succ, List.setIfInBounds_toArray, and_true, true_and] at FH
      go_wp2_with fail
      clear FH
      go_loopw [5, 28] (fun ov iv wr => ∃ (k cp : Nat) (E : Option Addr), k ≤ ni ∧ ov = .slice E k cp ∧ iv = .int .i64 k ∧ Hold M none w wr [.own 87 1 (.slice C nd cap) (nd) (slCells (ld.map Rw.sl)), .own 87 1 (.slice E k cp) (k) (slCells ((li.map Rw.sl).take k)), .cst w.heap.size 25 #[.string s, .slice I ni ci, .slice D nd cd, .slice U nu cu], .ro (RwsIn I ni li), .ro (RwsIn D nd ld), .ro (PrsIn U nu lu)]) (fun _ iv _ => ni - (intOf iv).toNat)
      case atStart => exact ⟨0, 0, none, by omega, rfl, rfl, H⟩
      case round =>
        clear H hlt hk
        obtain ⟨k, cp, E, hk, rfl, rfl, H⟩ := hrel
        by_cases hlt : k < ni
        · skip
          have hdd : decide ((k : Int) < (ni : Int)) = true := by simp; omega
          have j0 : (0 : Int) ≤ (k : Int) := by omega
          have j1 : (k : Int) < (ni : Int) := by omega
          obtain ⟨x, hx⟩ := get_of HLI.out hlt
          obtain ⟨g, o, rfl, hgb, c0, c1, hvi⟩ := (H.ro 3 rfl).now.at_ hx
          have K2 := H.alloc_cst #[.int .i64 x.id, .slice x.A x.n x.c] 89
          have HCE := hid (show slCells ((li.map Rw.sl).take k) ++ (#[Value.slice x.A x.n x.c]).toList = slCells ((li.map Rw.sl).take (k + 1)) by rw [List.take_add_one, List.getElem?_map, hx]; simp [slCells, Sl.cells, Rw.sl])
          clear hx hvi
          have FA := K2.facts
          simp only [World.size_alloc, World.size_drew, factsL, cellsF, Nat.reduceAdd, List.toList_toArray, List.set_cons_zero, List.set_cons_succ, List.setIfInBounds_toArray, and_true, true_and] at FA
          go_wp2_with (at_builtin; go_must (refine wpList_appH K2 2 rfl Tryz.elSlc #[.slice x.A x.n x.c] rfl (.tmp 32) (.tmp 35) rfl rfl _ (by first | rfl | simp) rfl rfl (by intro u hu; simp at hu; rcases hu with rfl; rfl) (by omega) (by omega) ?_); intro g9 cap9 w9 hc9 hm9 KB; rw [HCE.out] at KB; simp only [List.set_cons_zero, List.set_cons_succ] at KB)
          have KC := KB.drop (List.sublist_cons_self _ _)
          go_roundw
          case rel => exact ⟨k + 1, cap9, _, by omega, by first | rfl | go_num, by first | rfl | go_num, KC⟩
          case measure => simp [intOf]; omega
        · skip
          obtain rfl : ni = k := by omega
          have hdi : decide ((ni : Int) < (ni : Int)) = false := by simp
          have HTI := hid (show (li.map Rw.sl).take ni = li.map Rw.sl from List.take_of_length_le (by rw [List.length_map, HLI.out]; exact Nat.le_refl _))
          rw [HTI.out] at H
          have FH := H.facts
          simp only [World.size_alloc, World.size_drew, factsL, cellsF, Nat.reduceAdd, List.toList_toArray, List.set_cons_zero, List.set_cons_succ, List.setIfInBounds_toArray, and_true, true_and] at FH
          go_wp2_with fail
          clear FH
          have H9 : Hold M none w wr [.own 87 1 (.slice C (nd + 0) cap) (nd + 0) (slCells (ld.map Rw.sl ++ (lu.map Pr.osl).take 0)), .own 87 1 (.slice E (ni + 0) cp) (ni + 0) (slCells (li.map Rw.sl ++ (lu.map Pr.nsl).take 0)), .cst w.heap.size 25 #[.string s, .slice I ni ci, .slice D nd cd, .slice U nu cu], .ro (RwsIn I ni li), .ro (RwsIn D nd ld), .ro (PrsIn U nu lu)] := by rw [List.take_zero, List.take_zero, List.append_nil, List.append_nil]; exact H
          go_loopw [4, 5, 41] (fun ov nv iv wr => ∃ (k cap1 cap2 : Nat) (C1 C2 : Option Addr), k ≤ nu ∧ ov = .slice C1 (nd + k) cap1 ∧ nv = .slice C2 (ni + k) cap2 ∧ iv = .int .i64 k ∧ Hold M none w wr [.own 87 1 (.slice C1 (nd + k) cap1) (nd + k) (slCells (ld.map Rw.sl ++ (lu.map Pr.osl).take k)), .own 87 1 (.slice C2 (ni + k) cap2) (ni + k) (slCells (li.map Rw.sl ++ (lu.map Pr.nsl).take k)), .cst w.heap.size 25 #[.string s, .slice I ni ci, .slice D nd cd, .slice U nu cu], .ro (RwsIn I ni li), .ro (RwsIn D nd ld), .ro (PrsIn U nu lu)]) (fun _ _ iv _ => nu - (intOf iv).toNat)
          case atStart => exact ⟨0, cap, cp, C, E, by omega, rfl, rfl, rfl, H9⟩
          case round =>
            clear H H9 hlt hk
            obtain ⟨k, cap1, cap2, C1, C2, hk, rfl, rfl, rfl, H⟩ := hrel
            by_cases hlt : k < nu
            · skip
              have hdd : decide ((k : Int) < (nu : Int)) = true := by simp; omega
              have j0 : (0 : Int) ≤ (k : Int) := by omega
              have j1 : (k : Int) < (nu : Int) := by omega
              obtain ⟨x, hx⟩ := get_of HLU.out hlt
              obtain ⟨g, o, rfl, hgb, c0, c1, c2, hv1, hv2⟩ := (H.ro 5 rfl).now.at_ hx
              have K2 := H.alloc_cst #[.int .i64 x.id, .slice x.oA x.on x.oc, .slice x.nA x.nn x.nc] 106
              have HCE1 := hid (show slCells (ld.map Rw.sl ++ (lu.map Pr.osl).take k) ++ (#[Value.slice x.oA x.on x.oc]).toList = slCells (ld.map Rw.sl ++ (lu.map Pr.osl).take (k + 1)) by rw [List.take_add_one, List.getElem?_map, hx]; simp [slCells, Sl.cells, Pr.osl])
              have HCE2 := hid (show slCells (li.map Rw.sl ++ (lu.map Pr.nsl).take k) ++ (#[Value.slice x.nA x.nn x.nc]).toList = slCells (li.map Rw.sl ++ (lu.map Pr.nsl).take (k + 1)) by rw [List.take_add_one, List.getElem?_map, hx]; simp [slCells, Sl.cells, Pr.nsl])
              clear hx hv1 hv2
              have FA := K2.facts
              simp only [World.size_alloc, World.size_drew, factsL, cellsF, Nat.reduceAdd, List.toList_toArray, List.set_cons_zero, List.set_cons_succ, List.setIfInBounds_toArray, and_true, true_and] at FA
              go_wp2_with (at_builtin; go_must (refine wpList_appH K2 1 rfl Tryz.elSlc #[.slice x.oA x.on x.oc] rfl (.tmp 45) (.tmp 48) rfl rfl _ (by first | rfl | simp) rfl rfl (by intro u hu; simp at hu; rcases hu with rfl; rfl) (by omega) (by omega) ?_); intro Cl cpl w9 hc9 hm9 KB; rw [HCE1.out] at KB; simp only [List.set_cons_zero, List.set_cons_succ] at KB; (have FB := KB.facts); (simp only [World.size_alloc, World.size_drew, factsL, cellsF, Nat.reduceAdd, List.toList_toArray, List.set_cons_zero, List.set_cons_succ, List.setIfInBounds_toArray, and_true, true_and] at FB); go_wp2_with (at_builtin; go_must (refine wpList_appH KB 2 rfl Tryz.elSlc #[.slice x.nA x.nn x.nc] rfl (.tmp 50) (.tmp 53) rfl rfl _ (by first | rfl | simp) rfl rfl (by intro u hu; simp at hu; rcases hu with rfl; rfl) (by omega) (by omega) ?_); intro Cr cpr w8 hc8 hm8 KD; rw [HCE2.out] at KD; simp only [List.set_cons_zero, List.set_cons_succ] at KD))
              have KC := KD.drop (List.sublist_cons_self _ _)
              go_roundw
              case rel => exact ⟨k + 1, cpl, cpr, _, _, by omega, by first | rfl | go_num, by first | rfl | go_num, by first | rfl | go_num, KC⟩
              case measure => simp [intOf]; omega
            · skip
              obtain rfl : nu = k := by omega
              have hdu : decide ((nu : Int) < (nu : Int)) = false := by simp
              obtain ⟨hc1, hc2, _⟩ := own_caps (H.get 0 rfl)
              obtain ⟨hc3, hc4, _⟩ := own_caps (H.get 1 rfl)
              have HT1 := hid (show (lu.map Pr.osl).take nu = lu.map Pr.osl from List.take_of_length_le (by rw [List.length_map, HLU.out]; exact Nat.le_refl _))
              have HT2 := hid (show (lu.map Pr.nsl).take nu = lu.map Pr.nsl from List.take_of_length_le (by rw [List.length_map, HLU.out]; exact Nat.le_refl _))
              rw [HT1.out, HT2.out] at H
              have KS0 := H.sealRow 0 rfl
              simp only [List.set_cons_zero] at KS0
              have KS := KS0.sealRow 1 rfl
              simp only [List.set_cons_zero, List.set_cons_succ] at KS
              have KV0 := KS.swapRo 0 rfl (((KS.ro 0 rfl).and ((KS.ro 4 rfl).and (KS.ro 5 rfl))).imp fun w2 h => (⟨h.1, slVals_app (slv_of_rws h.2.1) (slv_of_prsO h.2.2)⟩ : SlsIn C1 (nd + nu) (ld.map Rw.sl ++ lu.map Pr.osl) w2))
              simp only [List.set_cons_zero] at KV0
              have KV := KV0.swapRo 1 rfl (((KV0.ro 1 rfl).and ((KV0.ro 3 rfl).and (KV0.ro 5 rfl))).imp fun w2 h => (⟨h.1, slVals_app (slv_of_rws h.2.1) (slv_of_prsN h.2.2)⟩ : SlsIn C2 (ni + nu) (li.map Rw.sl ++ lu.map Pr.nsl) w2))
              simp only [List.set_cons_zero, List.set_cons_succ] at KV
              clear H KS KS0 KV0 hlt hk
              have HB1 := hid (show ∀ s ∈ ld.map Rw.sl ++ lu.map Pr.osl, s.n ≤ 4398046511104 ∧ s.ok from fun s hs => by
                rcases List.mem_append.1 hs with hs | hs
                · obtain ⟨r, hr, rfl⟩ := List.mem_map.1 hs; exact ⟨(HQ.out.2.1 r hr).2, rw_sl_ok (HQ.out.2.1 r hr).1⟩
                · obtain ⟨r, hr, rfl⟩ := List.mem_map.1 hs; have h := HQ.out.2.2 r hr; exact ⟨h.2.1, ⟨h.1.oc, h.1.oc2, h.1.old⟩⟩)
              have HB2 := hid (show ∀ s ∈ li.map Rw.sl ++ lu.map Pr.nsl, s.n ≤ 4398046511104 ∧ s.ok from fun s hs => by
                rcases List.mem_append.1 hs with hs | hs
                · obtain ⟨r, hr, rfl⟩ := List.mem_map.1 hs; exact ⟨(HQ.out.1 r hr).2, rw_sl_ok (HQ.out.1 r hr).1⟩
                · obtain ⟨r, hr, rfl⟩ := List.mem_map.1 hs; have h := HQ.out.2.2 r hr; exact ⟨h.2.2, ⟨h.1.nc, h.1.nc2, h.1.new⟩⟩)
              go_wp2_with fail
              refine (rsort_any _ _ KV.mutLt C1 (nd + nu) cap1 _ (KV.ro 0 rfl) (by omega) (fun s hs => (HB1.out s hs).1) (fun s hs => (HB1.out s hs).2)).mono ?_
              rintro e w3 ⟨A3, n3, c3, l3, rfl, h31, h32, r3, o3, m3, e3, b3⟩
              have K5 := (KV.call b3).add r3
              have HE3 := hid (And.intro o3 (And.intro m3 e3))
              clear KV b3 r3 o3 m3 e3
              go_wp2_with fail
              refine (rsort_any _ _ K5.mutLt C2 (ni + nu) cap2 _ (K5.ro 2 rfl) (by omega) (fun s hs => (HB2.out s hs).1) (fun s hs => (HB2.out s hs).2)).mono ?_
              rintro e w4 ⟨A4, n4, c4, l4, rfl, h41, h42, r4, o4, m4, e4, b4⟩
              have K6 := (K5.call b4).add r4
              have HE4 := hid (And.intro o4 (And.intro m4 e4))
              clear K5 b4 r4 o4 m4 e4
              have q1 := K6.roOut 0 rfl
              have q2 := K6.roOut 1 rfl
              have q3 := K6.below
              clear K6
              go_wp2_with fail
              go_ret2
              exact ⟨A3, n3, c3, l3, A4, n4, c4, l4, rfl, ⟨h31, h32⟩, ⟨h41, h42⟩, q2, q1, HE3.out.1, HE4.out.1, HE3.out.2.1, HE4.out.2.1, by rw [HE3.out.2.2, List.map_append, List.map_map, List.map_map]; rfl, by rw [HE4.out.2.2, List.map_append, List.map_map, List.map_map]; rfl, q3⟩
end Go.Proofs.YtljmclbedpceoaaGreatDoor

namespace Go.Proofs.YtljmclbedpceoaaGreatDoor
open Go.RowKit
set_option linter.unusedVariables false
set_option linter.unusedSimpArgs false

/-- do an update's rows differ in a column that both have? -/
def difU (i : Nat) (u : Upd) : Bool := match u.2.1[i]?, u.2.2[i]? with
  | some a, some b => decide (a ≠ b)
  | _, _ => false
theorem difU_left {i : Nat} {u : Upd} (h : u.2.1.length ≤ i) : difU i u = false := by unfold difU; rw [List.getElem?_eq_none h]
theorem difU_right {i : Nat} {u : Upd} (h : u.2.2.length ≤ i) : difU i u = false := by
  unfold difU; rw [List.getElem?_eq_none h]
  split <;> simp_all
theorem difU_both {i : Nat} {u : Upd} {a b : Vl} (h1 : u.2.1[i]? = some a) (h2 : u.2.2[i]? = some b) : difU i u = decide (a ≠ b) := by unfold difU; rw [h1, h2]
/-- the names of the columns that updates change, from column i on -/
def chgF (us : List Upd) : Nat → List Col → List ByteArray
  | _, [] => []
  | i, c :: cs => (if us.any (difU i) then [c.name] else []) ++ chgF us (i + 1) cs
theorem chgF_app (us : List Upd) (c : Col) : ∀ (l : List Col) (i : Nat), chgF us i (l ++ [c]) = chgF us i l ++ (if us.any (difU (i + l.length)) then [c.name] else [])
  | [], i => by simp [chgF]
  | x :: l, i => by
    rw [List.cons_append, chgF, chgF, chgF_app us c l (i + 1), List.append_assoc, List.length_cons, show i + 1 + l.length = i + (l.length + 1) from by omega]
theorem chgF_take {us : List Upd} {cs : List Col} {k : Nat} {c : Col} (hc : cs[k]? = some c) : chgF us 0 (cs.take (k + 1)) = chgF us 0 (cs.take k) ++ (if us.any (difU k) then [c.name] else []) := by
  have hk := (List.getElem?_eq_some_iff.1 hc).1
  rw [List.take_add_one, hc]
  simp only [Option.toList_some]
  rw [chgF_app, List.length_take, Nat.min_eq_left (by omega), Nat.zero_add]
theorem chgF_hit {us : List Upd} {cs : List Col} {k : Nat} {c : Col} (hc : cs[k]? = some c) (h : us.any (difU k) = true) : chgF us 0 (cs.take (k + 1)) = chgF us 0 (cs.take k) ++ [c.name] := by rw [chgF_take hc, h, if_pos rfl]
theorem chgF_miss {us : List Upd} {cs : List Col} {k : Nat} {c : Col} (hc : cs[k]? = some c) (h : us.any (difU k) = false) : chgF us 0 (cs.take (k + 1)) = chgF us 0 (cs.take k) := by rw [chgF_take hc, h]; simp
theorem chgF_len (us : List Upd) : ∀ (l : List Col) (i : Nat), (chgF us i l).length ≤ l.length
  | [], _ => by simp [chgF]
  | x :: l, i => by
    rw [chgF, List.length_append, List.length_cons]
    have := chgF_len us l (i + 1)
    split <;> simp <;> omega
theorem chgF_take_len (us : List Upd) (cs : List Col) (k : Nat) : (chgF us 0 (cs.take k)).length ≤ k := Nat.le_trans (chgF_len us _ 0) (List.length_take_le _ _)
theorem any_take_next {us : List Upd} {i p : Nat} {u : Upd} (hu : us[p]? = some u) (h : (us.take p).any (difU i) = false) (hd : difU i u = false) : (us.take (p + 1)).any (difU i) = false := by
  rw [List.take_add_one, hu, List.any_append, h]; simp [hd]
theorem any_hit {us : List Upd} {i p : Nat} {u : Upd} (hu : us[p]? = some u) (hd : difU i u = true) : us.any (difU i) = true := List.any_eq_true.2 ⟨u, List.mem_of_getElem? hu, hd⟩
theorem any_none {us : List Upd} {i p : Nat} (hp : us.length ≤ p) (h : (us.take p).any (difU i) = false) : us.any (difU i) = false := by rwa [List.take_of_length_le hp] at h
/-- texts in memory -/
def txCells (l : List ByteArray) : List Value := l.map Value.string
def StrsIn (A : Option Addr) (n : Nat) (l : List ByteArray) : World → Prop := SlR 1 A n (txCells l)
theorem StrsIn.len {w : World} {A : Option Addr} {n : Nat} {l : List ByteArray} (h : StrsIn A n l w) : l.length = n := by
  have := (show Rd w w.heap.size 1 A n (txCells l) from h).1
  rw [txCells, List.length_map] at this
  omega
theorem StrsIn.at_ {w : World} {A : Option Addr} {n : Nat} {l : List ByteArray} (h : StrsIn A n l w) {k : Nat} {x : ByteArray} (hx : l[k]? = some x) : ∃ b o, A = some ⟨b, o, none⟩ ∧ b < w.heap.size ∧ w.cell? ⟨b, o + k, none⟩ = some (.string x) := by
  have hk : k < n := by rw [← h.len]; exact (List.getElem?_eq_some_iff.1 hx).1
  obtain ⟨b, o, e, hb, hc⟩ := (show Rd w w.heap.size 1 A n (txCells l) from h).2 (by omega)
  exact ⟨b, o, e, hb, hc k _ (by rw [txCells, List.getElem?_map, hx]; rfl)⟩
def StrsRet (w : World) (M : Nat → Prop) (ss : List ByteArray) (e : Ending) (w' : World) : Prop :=
  ∃ (A : Option Addr) (n c : Nat), e = .returned (.slice A n c) ∧ n = ss.length ∧ n ≤ c ∧ c ≤ 9223372036854775807 ∧ Ro w' M (StrsIn A n ss) ∧ Below w.heap.size w w'
theorem Tryz.elStr : ElemT Tryz.prog 51 9 1 16 (.string ⟨#[]⟩) := ⟨Tryz.underlying51, by kernel_rfl, rfl, by omega⟩
set_option maxHeartbeats 4000000 in
set_option maxRecDepth 100000 in
theorem eqStrs_any (w : World) (A : Option Addr) (n c : Nat) (xs : List ByteArray) (B : Option Addr) (m d : Nat) (ys : List ByteArray) (hD : StrsIn A n xs w) (hE : StrsIn B m ys w) (hn : n ≤ 17592186044416) :
    Calls Tryz.prog 23 #[.slice A n c, .slice B m d] w fun e w' => e = .returned (.bool (decide (xs = ys))) ∧ ∃ q, w' = w.drewN q := by
  have HL := hid (show xs.length = n from hD.len)
  have HK := hid (show ys.length = m from hE.len)
  by_cases hnm : n = m
  · subst hnm
    have hb : ((n : Int) != (n : Int)) = false := by simp
    go_enter Tryz.func23, Tryz.ntmps23
    go_wp2_with fail
    go_loopw [13] (fun i wr => ∃ (k q : Nat), k ≤ n ∧ i = .int .i64 k ∧ wr = w.drewN q ∧ Hid (xs.take k = ys.take k)) (fun i _ => n - (intOf i).toNat)
    case atStart => exact ⟨0, 0, by omega, rfl, rfl, hid (by simp)⟩
    case round =>
      obtain ⟨k, q, hk, rfl, rfl, HTK⟩ := hrel
      by_cases hlt : k < n
      · have hd : decide ((k : Int) < (n : Int)) = true := by simp; omega
        have i0 : (0 : Int) ≤ (k : Int) := by omega
        have i1 : (k : Int) < (n : Int) := by omega
        obtain ⟨x, hx⟩ := get_of HL.out hlt
        obtain ⟨y, hy⟩ := get_of HK.out hlt
        obtain ⟨g, o, rfl, hbx, x0⟩ := hD.at_ hx
        obtain ⟨g', o', rfl, hby, y0⟩ := hE.at_ hy
        have HX := hid hx; have HY := hid hy; clear hx hy
        by_cases h2 : x = y
        · have e2 : (x.toList == y.toList) = true := by simp [h2]
          have e3 : (x.toList != y.toList) = false := by simp [h2]
          have HXY := hid h2
          clear h2
          go_wp2_with fail
          go_quiet (fail)
          go_wp2_with fail
          go_roundw
          case rel => exact ⟨k + 1, q + nq, by omega, by go_num, by first | rfl | exact World.drewN_drewN .., hid (takeEq_succ HX.out HY.out HTK.out HXY.out)⟩
          case measure => simp [intOf]; omega
        · have e2 : (x.toList == y.toList) = false := by rw [beq_eq_false_iff_ne]; exact fun h => h2 (bytesEq h)
          have e3 : (x.toList != y.toList) = true := by rw [bne_iff_ne]; exact fun h => h2 (bytesEq h)
          have HN := hid (beqL_no HX.out HY.out h2)
          clear h2
          go_wp2_with fail
          go_quiet (fail)
          go_wp2_with fail
          go_ret
          exact ⟨by rw [HN.out] <;> rfl, q + nq, World.drewN_drewN ..⟩
      · obtain rfl : n = k := by omega
        have hd : decide ((n : Int) < (n : Int)) = false := by simp
        have HE := hid (show decide (xs = ys) = true by
          have h := HTK.out
          rw [List.take_of_length_le (by rw [HL.out]; exact Nat.le_refl _), List.take_of_length_le (by rw [HK.out]; exact Nat.le_refl _)] at h
          simp [h])
        go_wp2_with fail
        go_ret
        exact ⟨by rw [HE.out] <;> rfl, q, rfl⟩
  · have hb : ((n : Int) != (m : Int)) = true := by simp; omega
    have HB := hid (show decide (xs = ys) = false by
      rw [decide_eq_false_iff_not]; rintro rfl; have := HL.out; have := HK.out; omega)
    go_enter Tryz.func23, Tryz.ntmps23
    go_wp2_with fail
    go_ret
    exact ⟨by rw [HB.out] <;> rfl, 0, rfl⟩
set_option maxHeartbeats 4000000 in
set_option maxRecDepth 100000 in
theorem rdiffers_any (M : Nat → Prop) (w : World) (hM : ∀ b, M b → b < w.heap.size) (x : Pr) (k : Nat) (h1 : Ro w M (VlsIn x.oA x.on x.old)) (h2 : Ro w M (VlsIn x.nA x.nn x.new)) :
    Calls Tryz.prog 62 #[.agg #[.int .i64 x.id, .slice x.oA x.on x.oc, .slice x.nA x.nn x.nc], .int .i64 k] w fun e w' => e = .returned (.bool (difU k x.upd)) ∧ Below w.heap.size w w' := by
  obtain ⟨xid, xA, xn, xc, xo, yA, yn, yc, yo⟩ := x
  dsimp only [Pr.upd] at *
  have K0 := ((Hold.start M w hM).add (h2.less (by simp [Mut]))).add (h1.less (by simp [Mut, Hp.foot])) |>.alloc_cst #[.int .i64 xid, .slice xA xn xc, .slice yA yn yc] 106
  have F0 := K0.facts
  simp only [World.size_alloc, World.size_drew, factsL, cellsF, Nat.reduceAdd, List.toList_toArray, List.set_cons_zero, List.set_cons_succ, List.setIfInBounds_toArray, and_true, true_and] at F0
  clear h1 h2
  have k0 : (0 : Int) ≤ (k : Int) := by omega
  go_enter Tryz.func62, Tryz.ntmps62
  go_wp2_with fail
  obtain ⟨gx, hgx⟩ : ∃ gx, gx = w.heap.size := ⟨_, rfl⟩
  rw [← hgx] at K0 F0 ⊢
  clear hgx
  generalize w.alloc _ = w3 at K0 F0 ⊢
  have hv1 : VlsIn xA xn xo w3 := (K0.ro 1 rfl).now
  have hv2 : VlsIn yA yn yo w3 := (K0.ro 2 rfl).now
  by_cases hk1 : k < xn
  · have e1 : decide ((k : Int) < (xn : Int)) = true := by simp; omega
    have e1' : decide (k < xn) = true := by simp; omega
    have j1 : (k : Int) < (xn : Int) := by omega
    by_cases hk2 : k < yn
    · have e2 : decide ((k : Int) < (yn : Int)) = true := by simp; omega
      have e2' : decide (k < yn) = true := by simp; omega
      have j2 : (k : Int) < (yn : Int) := by omega
      obtain ⟨a, ha⟩ := get_of hv1.len hk1
      obtain ⟨b, hb⟩ := get_of hv2.len hk2
      obtain ⟨ga, oa, rfl, hga, a0, a1, a2⟩ := hv1.at_ ha
      obtain ⟨gb, ob, rfl, hgb, b0, b1, b2⟩ := hv2.at_ hb
      have HAB := hid (show difU k (xid, xo, yo) = decide (a ≠ b) from difU_both ha hb)
      clear ha hb hv1 hv2
      by_cases h0 : a.k = b.k
      · have q0 : (a.k == b.k) = true := by simp [h0]
        have q0' : (a.k != b.k) = false := by simp [h0]
        by_cases h1 : a.i = b.i
        · have q1 : (a.i == b.i) = true := by simp [h1]
          by_cases h2 : a.s = b.s
          · have q2 : (a.s.toList == b.s.toList) = true := by simp [h2]
            have HD := hid (show difU k (xid, xo, yo) = false by rw [HAB.out]; simpa using vl_ext h0 h1 h2)
            clear h0 h1 h2 hk1 hk2
            go_quiet (fail)
            go_wp2_with fail
            go_ret
            exact ⟨by rw [HD.out] <;> rfl, (K0.drewN nq).below⟩
          · have q2 : (a.s.toList == b.s.toList) = false := by rw [beq_eq_false_iff_ne]; exact fun h => h2 (bytesEq h)
            have HD := hid (show difU k (xid, xo, yo) = true by rw [HAB.out]; simpa using fun h => h2 (by rw [h]))
            clear h0 h1 h2 hk1 hk2
            go_quiet (fail)
            go_wp2_with fail
            go_ret
            exact ⟨by rw [HD.out] <;> rfl, (K0.drewN nq).below⟩
        · have q1 : (a.i == b.i) = false := by simpa using h1
          have HD := hid (show difU k (xid, xo, yo) = true by rw [HAB.out]; simpa using fun h => h1 (by rw [h]))
          clear h0 h1 hk1 hk2
          go_quiet (fail)
          go_wp2_with fail
          go_ret
          exact ⟨by rw [HD.out] <;> rfl, (K0.drewN nq).below⟩
      · have q0 : (a.k == b.k) = false := by simpa using h0
        have HD := hid (show difU k (xid, xo, yo) = true by rw [HAB.out]; simpa using fun h => h0 (by rw [h]))
        clear h0 hk1 hk2
        go_quiet (fail)
        go_wp2_with fail
        go_ret
        exact ⟨by rw [HD.out] <;> rfl, (K0.drewN nq).below⟩
    · have e2 : decide ((k : Int) < (yn : Int)) = false := by simp; omega
      have e2' : decide (k < yn) = false := by simp; omega
      have HD := hid (show difU k (xid, xo, yo) = false from difU_right (by have := hv2.len; dsimp only; omega))
      clear hk1 hk2 hv1 hv2
      go_quiet (fail)
      go_wp2_with fail
      go_ret
      exact ⟨by rw [HD.out] <;> rfl, (K0.drewN nq).below⟩
  · have e1 : decide ((k : Int) < (xn : Int)) = false := by simp; omega
    have e1' : decide (k < xn) = false := by simp; omega
    have HD := hid (show difU k (xid, xo, yo) = false from difU_left (by have := hv1.len; dsimp only; omega))
    clear hk1 hv1 hv2
    go_quiet (fail)
    go_wp2_with fail
    go_ret
    exact ⟨by rw [HD.out] <;> rfl, (K0.drewN nq).below⟩
set_option maxHeartbeats 8000000 in
set_option maxRecDepth 100000 in
theorem dchanged_any (M : Nat → Prop) (w : World) (hM : ∀ b, M b → b < w.heap.size) (s : ByteArray) (I : Option Addr) (ni ci : Nat) (D : Option Addr) (nd cd : Nat) (U : Option Addr) (nu cu : Nat) (lu : List Pr) (nm : ByteArray) (A : Option Addr) (n c : Nat) (cs : List Col) (hU : Ro w M (PrsIn U nu lu)) (hC : Ro w M (ColsIn A n cs)) (bu : nu ≤ 4611686018427387904) (bn : n ≤ 4398046511104) :
    Calls Tryz.prog 24 #[.agg #[.string s, .slice I ni ci, .slice D nd cd, .slice U nu cu], .agg #[.string nm, .slice A n c]] w fun e w' => StrsRet w M (chgF (lu.map Pr.upd) 0 cs) e w' := by
  have HLU := hid hU.now.len
  have HLC := hid (show cs.length = n from cols_n hC.now)
  have K0 := ((((Hold.start M w hM).add (hU.less (by simp [Mut]))).add (hC.less (by simp [Mut, Hp.foot]))).alloc_cst #[.string s, .slice I ni ci, .slice D nd cd, .slice U nu cu] 25).alloc_cst #[.string nm, .slice A n c] 28 |>.nil 9 1
  rw [World.size_alloc] at K0
  have F0 := K0.facts
  simp only [World.size_alloc, World.size_drew, factsL, cellsF, Nat.reduceAdd, List.toList_toArray, List.set_cons_zero, List.set_cons_succ, List.setIfInBounds_toArray, and_true, true_and] at F0
  clear hU hC
  go_enter Tryz.func24, Tryz.ntmps24
  go_wp2_with fail
  go_step3
  go_wp2_with fail
  go_step3
  go_wp2_with fail
  clear F0
  go_loopg [5, 13] n (fun gh ov iv wr => ∃ (k q cap : Nat) (C : Option Addr), k + gh = n ∧ ov = .slice C q cap ∧ iv = .int .i64 k ∧ Hid (q = (chgF (lu.map Pr.upd) 0 (cs.take k)).length) ∧ Hold M none w wr [.own 9 1 (.slice C q cap) q (txCells (chgF (lu.map Pr.upd) 0 (cs.take k))), .cst (w.heap.size + 1) 28 #[.string nm, .slice A n c], .cst w.heap.size 25 #[.string s, .slice I ni ci, .slice D nd cd, .slice U nu cu], .ro (ColsIn A n cs), .ro (PrsIn U nu lu)])
  case atStart => exact ⟨0, 0, 0, none, by omega, rfl, rfl, hid rfl, K0⟩
  case round =>
    clear K0
    obtain ⟨k, q, cap, C, hk, rfl, rfl, HQ, H⟩ := hrel
    obtain ⟨wo, rfl⟩ : ∃ wo : World, wo = wr := ⟨_, rfl⟩
    have hqk : q ≤ k := by have h1 := HQ.out; have h2 := chgF_take_len (lu.map Pr.upd) cs k; omega
    cases gk with
    | succ go =>
      have hlt : k < n := by omega
      have hdd : decide ((k : Int) < (n : Int)) = true := by simp; omega
      have k0 : (0 : Int) ≤ (k : Int) := by omega
      have k1 : (k : Int) < (n : Int) := by omega
      obtain ⟨cl, hcl⟩ := get_of HLC.out hlt
      obtain ⟨g, o, rfl, hgc, c0, c1, c2, c3⟩ := (RdC.of_sl (H.ro 3 rfl).now).at_ hcl
      have HCL := hid hcl
      clear hcl
      have KA := H.alloc_cst #[.string cl.name, .int .i64 cl.ty, .bool cl.nn, .bool cl.key] 94
      clear H
      have FA := KA.facts
      simp only [World.size_alloc, World.size_drew, factsL, cellsF, Nat.reduceAdd, List.toList_toArray, List.set_cons_zero, List.set_cons_succ, List.setIfInBounds_toArray, and_true, true_and] at FA
      go_wp2_with fail
      obtain ⟨gc, hgcc⟩ : ∃ gc, gc = wo.heap.size := ⟨_, rfl⟩
      rw [← hgcc] at KA FA ⊢
      have HGC := hid hgcc
      clear hgcc c0 c1 c2 c3
      generalize World.alloc wo _ = w2 at KA FA ⊢
      clear FA
      go_loopg [5, 21] nu (fun gh ov iv wq => ∃ p : Nat, p + gh = nu ∧ ov = .slice C q cap ∧ iv = .int .i64 p ∧ Hid (((lu.map Pr.upd).take p).any (difU k) = false) ∧ Hold M none w wq [.cst gc 94 #[.string cl.name, .int .i64 cl.ty, .bool cl.nn, .bool cl.key], .own 9 1 (.slice C q cap) q (txCells (chgF (lu.map Pr.upd) 0 (cs.take k))), .cst (w.heap.size + 1) 28 #[.string nm, .slice (some ⟨g, o, none⟩) n c], .cst w.heap.size 25 #[.string s, .slice I ni ci, .slice D nd cd, .slice U nu cu], .ro (ColsIn (some ⟨g, o, none⟩) n cs), .ro (PrsIn U nu lu)])
      case atStart => exact ⟨0, by omega, rfl, rfl, hid (by simp), KA⟩
      case round =>
        clear KA
        obtain ⟨p, hp, rfl, rfl, HM, H2⟩ := hrel
        obtain ⟨wq, rfl⟩ : ∃ wq : World, wq = wr := ⟨_, rfl⟩
        cases gk with
        | succ gi =>
          have hlt2 : p < nu := by omega
          have hd2 : decide ((p : Int) < (nu : Int)) = true := by simp; omega
          have p0 : (0 : Int) ≤ (p : Int) := by omega
          have p1 : (p : Int) < (nu : Int) := by omega
          obtain ⟨x, hx⟩ := get_of HLU.out hlt2
          obtain ⟨g2, o2, rfl, hg2, c0, c1, c2, -, -⟩ := (H2.ro 5 rfl).now.at_ hx
          have HX := hid (show (lu.map Pr.upd)[p]? = some (x.id, x.old, x.new) by rw [List.getElem?_map, hx]; rfl)
          have HXM := hid (List.mem_of_getElem? hx)
          obtain ⟨xid, xA, xn, xc, xo, yA, yn, yc, yo⟩ := x
          dsimp only at *
          clear hx
          have K2 := H2.alloc_cst #[.int .i64 xid, .slice xA xn xc, .slice yA yn yc] 106
          clear H2
          have FA := K2.facts
          simp only [World.size_alloc, World.size_drew, factsL, cellsF, Nat.reduceAdd, List.toList_toArray, List.set_cons_zero, List.set_cons_succ, List.setIfInBounds_toArray, and_true, true_and] at FA
          go_wp2_with fail
          obtain ⟨gx, hgx⟩ : ∃ gx, gx = wq.heap.size := ⟨_, rfl⟩
          rw [← hgx] at K2 FA ⊢
          have HGX := hid hgx
          clear hgx c0 c1 c2
          generalize World.alloc wq _ = w3 at K2 FA ⊢
          have hv := (K2.ro 6 rfl).now.2 ⟨xid, xA, xn, xc, xo, yA, yn, yc, yo⟩ HXM.out
          have hv1 : VlsIn xA xn xo w3 := hv.1
          have hv2 : VlsIn yA yn yo w3 := hv.2
          clear hv
          by_cases hk1 : k < xn
          · have e1 : decide ((k : Int) < (xn : Int)) = true := by simp; omega
            have e1' : decide (k < xn) = true := by simp; omega
            have j1 : (k : Int) < (xn : Int) := by omega
            by_cases hk2 : k < yn
            · have e2 : decide ((k : Int) < (yn : Int)) = true := by simp; omega
              have e2' : decide (k < yn) = true := by simp; omega
              have j2 : (k : Int) < (yn : Int) := by omega
              obtain ⟨a, ha⟩ := get_of hv1.len hk1
              obtain ⟨b, hb⟩ := get_of hv2.len hk2
              obtain ⟨ga, oa, rfl, hga, a0, a1, a2⟩ := hv1.at_ ha
              obtain ⟨gb, ob, rfl, hgb, b0, b1, b2⟩ := hv2.at_ hb
              have HAB := hid (show difU k (xid, xo, yo) = decide (a ≠ b) from difU_both ha hb)
              clear ha hb hv1 hv2
              by_cases h0 : a.k = b.k
              · have q0 : (a.k == b.k) = true := by simp [h0]
                have q0' : (a.k != b.k) = false := by simp [h0]
                by_cases h1 : a.i = b.i
                · have q1 : (a.i == b.i) = true := by simp [h1]
                  by_cases h2 : a.s = b.s
                  · have q2 : (a.s.toList == b.s.toList) = true := by simp [h2]
                    have HD := hid (show difU k (xid, xo, yo) = false by rw [HAB.out]; simpa using vl_ext h0 h1 h2)
                    clear h0 h1 h2 hk1 hk2
                    have HN := hid (any_take_next HX.out HM.out HD.out)
                    go_quiet (fail)
                    have KQ := K2.drewN nq
                    clear FA
                    have FA := KQ.facts
                    simp only [World.size_alloc, World.size_drew, factsL, cellsF, Nat.reduceAdd, List.toList_toArray, List.set_cons_zero, List.set_cons_succ, List.setIfInBounds_toArray, and_true, true_and] at FA
                    go_wp2_with fail
                    go_roundg gi
                    case measure => omega
                    case rel => exact ⟨p + 1, by omega, by first | rfl | go_num, by first | rfl | go_num, HN, KQ.drop (List.sublist_cons_self _ _)⟩
                  · have q2 : (a.s.toList == b.s.toList) = false := by rw [beq_eq_false_iff_ne]; exact fun h => h2 (bytesEq h)
                    have HD := hid (show difU k (xid, xo, yo) = true by rw [HAB.out]; simpa using fun h => h2 (by rw [h]))
                    clear h0 h1 h2 hk1 hk2
                    have HN := hid (chgF_hit HCL.out (any_hit HX.out HD.out))
                    have HCE := hid (show txCells (chgF (lu.map Pr.upd) 0 (cs.take k)) ++ (#[Value.string cl.name]).toList = txCells (chgF (lu.map Pr.upd) 0 (cs.take (k + 1))) by rw [HN.out]; simp [txCells])
                    go_quiet (fail)
                    have KQ := K2.drewN nq
                    clear FA
                    have FA := KQ.facts
                    simp only [World.size_alloc, World.size_drew, factsL, cellsF, Nat.reduceAdd, List.toList_toArray, List.set_cons_zero, List.set_cons_succ, List.setIfInBounds_toArray, and_true, true_and] at FA
                    go_wp2_with (at_builtin; go_must (refine wpList_appH KQ 2 rfl Tryz.elStr #[.string cl.name] rfl (.tmp 50) (.tmp 53) rfl rfl _ (by first | rfl | simp) rfl rfl (by intro u hu; simp at hu; subst hu; rfl) (by omega) (by omega) ?_); intro g9 cap9 w9 hc9 hm9 KB; rw [HCE.out] at KB; simp only [List.set_cons_zero, List.set_cons_succ] at KB)
                    go_roundg go
                    case measure => omega
                    case rel => exact ⟨k + 1, q + 1, cap9, _, by omega, by first | rfl | go_num, by first | rfl | go_num, hid (by rw [HN.out, List.length_append, ← HQ.out]; rfl), (KB.drop (List.sublist_cons_self _ _)).drop (List.sublist_cons_self _ _)⟩
                · have q1 : (a.i == b.i) = false := by simpa using h1
                  have HD := hid (show difU k (xid, xo, yo) = true by rw [HAB.out]; simpa using fun h => h1 (by rw [h]))
                  clear h0 h1 hk1 hk2
                  have HN := hid (chgF_hit HCL.out (any_hit HX.out HD.out))
                  have HCE := hid (show txCells (chgF (lu.map Pr.upd) 0 (cs.take k)) ++ (#[Value.string cl.name]).toList = txCells (chgF (lu.map Pr.upd) 0 (cs.take (k + 1))) by rw [HN.out]; simp [txCells])
                  go_quiet (fail)
                  have KQ := K2.drewN nq
                  clear FA
                  have FA := KQ.facts
                  simp only [World.size_alloc, World.size_drew, factsL, cellsF, Nat.reduceAdd, List.toList_toArray, List.set_cons_zero, List.set_cons_succ, List.setIfInBounds_toArray, and_true, true_and] at FA
                  go_wp2_with (at_builtin; go_must (refine wpList_appH KQ 2 rfl Tryz.elStr #[.string cl.name] rfl (.tmp 50) (.tmp 53) rfl rfl _ (by first | rfl | simp) rfl rfl (by intro u hu; simp at hu; subst hu; rfl) (by omega) (by omega) ?_); intro g9 cap9 w9 hc9 hm9 KB; rw [HCE.out] at KB; simp only [List.set_cons_zero, List.set_cons_succ] at KB)
                  go_roundg go
                  case measure => omega
                  case rel => exact ⟨k + 1, q + 1, cap9, _, by omega, by first | rfl | go_num, by first | rfl | go_num, hid (by rw [HN.out, List.length_append, ← HQ.out]; rfl), (KB.drop (List.sublist_cons_self _ _)).drop (List.sublist_cons_self _ _)⟩
              · have q0 : (a.k == b.k) = false := by simpa using h0
                have HD := hid (show difU k (xid, xo, yo) = true by rw [HAB.out]; simpa using fun h => h0 (by rw [h]))
                clear h0 hk1 hk2
                have HN := hid (chgF_hit HCL.out (any_hit HX.out HD.out))
                have HCE := hid (show txCells (chgF (lu.map Pr.upd) 0 (cs.take k)) ++ (#[Value.string cl.name]).toList = txCells (chgF (lu.map Pr.upd) 0 (cs.take (k + 1))) by rw [HN.out]; simp [txCells])
                go_quiet (fail)
                have KQ := K2.drewN nq
                clear FA
                have FA := KQ.facts
                simp only [World.size_alloc, World.size_drew, factsL, cellsF, Nat.reduceAdd, List.toList_toArray, List.set_cons_zero, List.set_cons_succ, List.setIfInBounds_toArray, and_true, true_and] at FA
                go_wp2_with (at_builtin; go_must (refine wpList_appH KQ 2 rfl Tryz.elStr #[.string cl.name] rfl (.tmp 50) (.tmp 53) rfl rfl _ (by first | rfl | simp) rfl rfl (by intro u hu; simp at hu; subst hu; rfl) (by omega) (by omega) ?_); intro g9 cap9 w9 hc9 hm9 KB; rw [HCE.out] at KB; simp only [List.set_cons_zero, List.set_cons_succ] at KB)
                go_roundg go
                case measure => omega
                case rel => exact ⟨k + 1, q + 1, cap9, _, by omega, by first | rfl | go_num, by first | rfl | go_num, hid (by rw [HN.out, List.length_append, ← HQ.out]; rfl), (KB.drop (List.sublist_cons_self _ _)).drop (List.sublist_cons_self _ _)⟩
            · have e2 : decide ((k : Int) < (yn : Int)) = false := by simp; omega
              have e2' : decide (k < yn) = false := by simp; omega
              have HD := hid (show difU k (xid, xo, yo) = false from difU_right (by have := hv2.len; dsimp only; omega))
              clear hk1 hk2 hv1 hv2
              have HN := hid (any_take_next HX.out HM.out HD.out)
              go_quiet (fail)
              have KQ := K2.drewN nq
              clear FA
              have FA := KQ.facts
              simp only [World.size_alloc, World.size_drew, factsL, cellsF, Nat.reduceAdd, List.toList_toArray, List.set_cons_zero, List.set_cons_succ, List.setIfInBounds_toArray, and_true, true_and] at FA
              go_wp2_with fail
              go_roundg gi
              case measure => omega
              case rel => exact ⟨p + 1, by omega, by first | rfl | go_num, by first | rfl | go_num, HN, KQ.drop (List.sublist_cons_self _ _)⟩
          · have e1 : decide ((k : Int) < (xn : Int)) = false := by simp; omega
            have e1' : decide (k < xn) = false := by simp; omega
            have HD := hid (show difU k (xid, xo, yo) = false from difU_left (by have := hv1.len; dsimp only; omega))
            clear hk1 hv1 hv2
            have HN := hid (any_take_next HX.out HM.out HD.out)
            go_quiet (fail)
            have KQ := K2.drewN nq
            clear FA
            have FA := KQ.facts
            simp only [World.size_alloc, World.size_drew, factsL, cellsF, Nat.reduceAdd, List.toList_toArray, List.set_cons_zero, List.set_cons_succ, List.setIfInBounds_toArray, and_true, true_and] at FA
            go_wp2_with fail
            go_roundg gi
            case measure => omega
            case rel => exact ⟨p + 1, by omega, by first | rfl | go_num, by first | rfl | go_num, HN, KQ.drop (List.sublist_cons_self _ _)⟩
        | zero =>
          obtain rfl : p = nu := by omega
          have hd2 : decide ((p : Int) < (p : Int)) = false := by simp
          have HN := hid (chgF_miss HCL.out (any_none (by rw [List.length_map, HLU.out]; exact Nat.le_refl _) HM.out))
          go_wp2_with fail
          go_roundg go
          case measure => omega
          case rel => exact ⟨k + 1, q, cap, C, by omega, by first | rfl | go_num, by first | rfl | go_num, hid (by rw [HN.out]; exact HQ.out), by rw [HN.out]; exact H2.drop (List.sublist_cons_self _ _)⟩
    | zero =>
      obtain rfl : k = n := by omega
      have hdd : decide ((k : Int) < (k : Int)) = false := by simp
      have HTK := hid (show cs.take k = cs from List.take_of_length_le (by rw [HLC.out]; exact Nat.le_refl _))
      rw [HTK.out] at H HQ
      obtain ⟨hc1, hc2, _⟩ := own_caps (H.get 0 rfl)
      have KS := H.sealRow 0 rfl
      simp only [List.set_cons_zero] at KS
      clear H
      have q1 := KS.roOut 0 rfl
      have q2 := KS.below
      go_wp2_with fail
      (try rw [Exit.noGoto_ret])
      go_ret
      exact ⟨C, q, cap, rfl, HQ.out, hc1, hc2, q1, q2⟩
set_option maxHeartbeats 8000000 in
set_option maxRecDepth 100000 in
theorem rchanged_any (M : Nat → Prop) (w : World) (hM : ∀ b, M b → b < w.heap.size) (s : ByteArray) (I : Option Addr) (ni ci : Nat) (D : Option Addr) (nd cd : Nat) (U : Option Addr) (nu cu : Nat) (lu : List Pr) (nm : ByteArray) (A : Option Addr) (n c : Nat) (cs : List Col) (hU : Ro w M (PrsIn U nu lu)) (hC : Ro w M (ColsIn A n cs)) (bu : nu ≤ 4611686018427387904) (bn : n ≤ 4398046511104) :
    Calls Tryz.prog 25 #[.agg #[.string s, .slice I ni ci, .slice D nd cd, .slice U nu cu], .agg #[.string nm, .slice A n c]] w fun e w' => StrsRet w M (chgF (lu.map Pr.upd) 0 cs) e w' := by
  have HLU := hid hU.now.len
  have HLC := hid (show cs.length = n from cols_n hC.now)
  have K0 := ((((Hold.start M w hM).add (hU.less (by simp [Mut]))).add (hC.less (by simp [Mut, Hp.foot]))).alloc_cst #[.string s, .slice I ni ci, .slice D nd cd, .slice U nu cu] 25).alloc_cst #[.string nm, .slice A n c] 28 |>.nil 9 1
  rw [World.size_alloc] at K0
  have F0 := K0.facts
  simp only [World.size_alloc, World.size_drew, factsL, cellsF, Nat.reduceAdd, List.toList_toArray, List.set_cons_zero, List.set_cons_succ, List.setIfInBounds_toArray, and_true, true_and] at F0
  clear hU hC
  go_enter Tryz.func25, Tryz.ntmps25
  go_wp2_with fail
  clear F0
  go_loopg [5, 13] n (fun gh ov iv wr => ∃ (k q cap : Nat) (C : Option Addr), k + gh = n ∧ ov = .slice C q cap ∧ iv = .int .i64 k ∧ Hid (q = (chgF (lu.map Pr.upd) 0 (cs.take k)).length) ∧ Hold M none w wr [.own 9 1 (.slice C q cap) q (txCells (chgF (lu.map Pr.upd) 0 (cs.take k))), .cst (w.heap.size + 1) 28 #[.string nm, .slice A n c], .cst w.heap.size 25 #[.string s, .slice I ni ci, .slice D nd cd, .slice U nu cu], .ro (ColsIn A n cs), .ro (PrsIn U nu lu)])
  case atStart => exact ⟨0, 0, 0, none, by omega, rfl, rfl, hid rfl, K0⟩
  case round =>
    clear K0
    obtain ⟨k, q, cap, C, hk, rfl, rfl, HQ, H⟩ := hrel
    obtain ⟨wo, rfl⟩ : ∃ wo : World, wo = wr := ⟨_, rfl⟩
    have hqk : q ≤ k := by have h1 := HQ.out; have h2 := chgF_take_len (lu.map Pr.upd) cs k; omega
    cases gk with
    | succ go =>
      have hlt : k < n := by omega
      have hdd : decide ((k : Int) < (n : Int)) = true := by simp; omega
      have k0 : (0 : Int) ≤ (k : Int) := by omega
      have k1 : (k : Int) < (n : Int) := by omega
      obtain ⟨cl, hcl⟩ := get_of HLC.out hlt
      obtain ⟨g, o, rfl, hgc, c0, c1, c2, c3⟩ := (RdC.of_sl (H.ro 3 rfl).now).at_ hcl
      have HCL := hid hcl
      clear hcl
      have KA := H.alloc_cst #[.string cl.name, .int .i64 cl.ty, .bool cl.nn, .bool cl.key] 94
      clear H
      have FA := KA.facts
      simp only [World.size_alloc, World.size_drew, factsL, cellsF, Nat.reduceAdd, List.toList_toArray, List.set_cons_zero, List.set_cons_succ, List.setIfInBounds_toArray, and_true, true_and] at FA
      go_wp2_with fail
      obtain ⟨gc, hgcc⟩ : ∃ gc, gc = wo.heap.size := ⟨_, rfl⟩
      rw [← hgcc] at KA FA ⊢
      have HGC := hid hgcc
      clear hgcc c0 c1 c2 c3
      generalize World.alloc wo _ = w2 at KA FA ⊢
      clear FA
      go_loopg [5, 21] nu (fun gh ov iv wq => ∃ p : Nat, p + gh = nu ∧ ov = .slice C q cap ∧ iv = .int .i64 p ∧ Hid (((lu.map Pr.upd).take p).any (difU k) = false) ∧ Hold M none w wq [.cst gc 94 #[.string cl.name, .int .i64 cl.ty, .bool cl.nn, .bool cl.key], .own 9 1 (.slice C q cap) q (txCells (chgF (lu.map Pr.upd) 0 (cs.take k))), .cst (w.heap.size + 1) 28 #[.string nm, .slice (some ⟨g, o, none⟩) n c], .cst w.heap.size 25 #[.string s, .slice I ni ci, .slice D nd cd, .slice U nu cu], .ro (ColsIn (some ⟨g, o, none⟩) n cs), .ro (PrsIn U nu lu)])
      case atStart => exact ⟨0, by omega, rfl, rfl, hid (by simp), KA⟩
      case round =>
        clear KA
        obtain ⟨p, hp, rfl, rfl, HM, H2⟩ := hrel
        obtain ⟨wq, rfl⟩ : ∃ wq : World, wq = wr := ⟨_, rfl⟩
        cases gk with
        | succ gi =>
          have hlt2 : p < nu := by omega
          have hd2 : decide ((p : Int) < (nu : Int)) = true := by simp; omega
          have p0 : (0 : Int) ≤ (p : Int) := by omega
          have p1 : (p : Int) < (nu : Int) := by omega
          obtain ⟨x, hx⟩ := get_of HLU.out hlt2
          obtain ⟨g2, o2, rfl, hg2, c0, c1, c2, -, -⟩ := (H2.ro 5 rfl).now.at_ hx
          have HX := hid (show (lu.map Pr.upd)[p]? = some (x.id, x.old, x.new) by rw [List.getElem?_map, hx]; rfl)
          have HXM := hid (List.mem_of_getElem? hx)
          obtain ⟨xid, xA, xn, xc, xo, yA, yn, yc, yo⟩ := x
          dsimp only at *
          clear hx
          have K2 := H2.alloc_cst #[.int .i64 xid, .slice xA xn xc, .slice yA yn yc] 106
          clear H2
          have FA := K2.facts
          simp only [World.size_alloc, World.size_drew, factsL, cellsF, Nat.reduceAdd, List.toList_toArray, List.set_cons_zero, List.set_cons_succ, List.setIfInBounds_toArray, and_true, true_and] at FA
          go_wp2_with fail
          have hk := rdiffers_any _ _ K2.mutLt ⟨xid, xA, xn, xc, xo, yA, yn, yc, yo⟩ k ((K2.ro 6 rfl).imp fun w2 h2 => (h2.2 _ HXM.out).1) ((K2.ro 6 rfl).imp fun w2 h2 => (h2.2 _ HXM.out).2)
          dsimp only [Pr.upd] at hk
          cases hdf : difU k (xid, xo, yo) with
          | true =>
            have HD := hid hdf
            rw [hdf] at hk
            clear hdf
            refine hk.mono ?_
            clear hk
            rintro e w3 ⟨rfl, b3⟩
            have KQ := K2.call b3
            clear b3 FA
            have FA := KQ.facts
            simp only [World.size_alloc, World.size_drew, factsL, cellsF, Nat.reduceAdd, List.toList_toArray, List.set_cons_zero, List.set_cons_succ, List.setIfInBounds_toArray, and_true, true_and] at FA
            have HN := hid (chgF_hit HCL.out (any_hit HX.out HD.out))
            have HCE := hid (show txCells (chgF (lu.map Pr.upd) 0 (cs.take k)) ++ (#[Value.string cl.name]).toList = txCells (chgF (lu.map Pr.upd) 0 (cs.take (k + 1))) by rw [HN.out]; simp [txCells])
            go_wp2_with (at_builtin; go_must (refine wpList_appH KQ 2 rfl Tryz.elStr #[.string cl.name] rfl (.tmp 28) (.tmp 31) rfl rfl _ (by first | rfl | simp) rfl rfl (by intro u hu; simp at hu; subst hu; rfl) (by omega) (by omega) ?_); intro g9 cap9 w9 hc9 hm9 KB; rw [HCE.out] at KB; simp only [List.set_cons_zero, List.set_cons_succ] at KB)
            go_roundg go
            case measure => omega
            case rel => exact ⟨k + 1, q + 1, cap9, _, by omega, by first | rfl | go_num, by first | rfl | go_num, hid (by rw [HN.out, List.length_append, ← HQ.out]; rfl), (KB.drop (List.sublist_cons_self _ _)).drop (List.sublist_cons_self _ _)⟩
          | false =>
            have HD := hid hdf
            rw [hdf] at hk
            clear hdf
            refine hk.mono ?_
            clear hk
            rintro e w3 ⟨rfl, b3⟩
            have KQ := K2.call b3
            clear b3 FA
            have FA := KQ.facts
            simp only [World.size_alloc, World.size_drew, factsL, cellsF, Nat.reduceAdd, List.toList_toArray, List.set_cons_zero, List.set_cons_succ, List.setIfInBounds_toArray, and_true, true_and] at FA
            have HN := hid (any_take_next HX.out HM.out HD.out)
            go_wp2_with fail
            go_roundg gi
            case measure => omega
            case rel => exact ⟨p + 1, by omega, by first | rfl | go_num, by first | rfl | go_num, HN, KQ.drop (List.sublist_cons_self _ _)⟩
        | zero =>
          obtain rfl : p = nu := by omega
          have hd2 : decide ((p : Int) < (p : Int)) = false := by simp
          have HN := hid (chgF_miss HCL.out (any_none (by rw [List.length_map, HLU.out]; exact Nat.le_refl _) HM.out))
          go_wp2_with fail
          go_roundg go
          case measure => omega
          case rel => exact ⟨k + 1, q, cap, C, by omega, by first | rfl | go_num, by first | rfl | go_num, hid (by rw [HN.out]; exact HQ.out), by rw [HN.out]; exact H2.drop (List.sublist_cons_self _ _)⟩
    | zero =>
      obtain rfl : k = n := by omega
      have hdd : decide ((k : Int) < (k : Int)) = false := by simp
      have HTK := hid (show cs.take k = cs from List.take_of_length_le (by rw [HLC.out]; exact Nat.le_refl _))
      rw [HTK.out] at H HQ
      obtain ⟨hc1, hc2, _⟩ := own_caps (H.get 0 rfl)
      have KS := H.sealRow 0 rfl
      simp only [List.set_cons_zero] at KS
      clear H
      have q1 := KS.roOut 0 rfl
      have q2 := KS.below
      go_wp2_with fail
      (try rw [Exit.noGoto_ret])
      go_ret
      exact ⟨C, q, cap, rfl, HQ.out, hc1, hc2, q1, q2⟩
end Go.Proofs.YtljmclbedpceoaaGreatDoor

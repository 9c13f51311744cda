/- Plain facts on 64-bit integers for the arithmetic layer: what fits, the cut value, the product that wraps. No program in sight. -/
import Derived.Test.YtaefjgjojflppaaMem
import Derived.IntWalk
import Derived.RowKit
import Derived.Below
namespace Go.Proofs.Ytaefjgjojflppaa
open Go.RowKit
set_option linter.unusedVariables false

def fit (x : Int) : Bool := decide (-9223372036854775808 ≤ x ∧ x ≤ 9223372036854775807)
def nv (x : Int) : Int := if fit x then x else 0
theorem fit_yes {x : Int} (h : -9223372036854775808 ≤ x ∧ x ≤ 9223372036854775807) : fit x = true := by simp [fit, h]
theorem fit_no {x : Int} (h : ¬ (-9223372036854775808 ≤ x ∧ x ≤ 9223372036854775807)) : fit x = false := by simp only [fit, decide_eq_false_iff_not]; exact h
theorem nv_yes {x : Int} (h : -9223372036854775808 ≤ x ∧ x ≤ 9223372036854775807) : nv x = x := by simp [nv, fit_yes h]
theorem nv_no {x : Int} (h : ¬ (-9223372036854775808 ≤ x ∧ x ≤ 9223372036854775807)) : nv x = 0 := by simp [nv, fit_no h]
theorem fit_iff {x : Int} : fit x = true ↔ -9223372036854775808 ≤ x ∧ x ≤ 9223372036854775807 := by simp [fit]
theorem nv_bd (x : Int) : -9223372036854775808 ≤ nv x ∧ nv x ≤ 9223372036854775807 := by
  unfold nv; split
  · rename_i h; exact fit_iff.1 h
  · omega
theorem nv_of_fit {x : Int} (h : fit x = true) : nv x = x := by simp [nv, h]
theorem nv_of_not {x : Int} (h : fit x = false) : nv x = 0 := by simp [nv, h]

/-- The product's test: the wrapped product divided by one factor gives the other one just where nothing wrapped. -/
theorem mul_test {a b : Int} (ha : I64 a) (hb : I64 b) (h0 : b ≠ 0) : (wrap64 (a * b)).tdiv b = a ↔ fit (a * b) = true := by
  obtain ⟨k, hk⟩ : ∃ k : Int, wrap64 (a * b) = a * b - k * 18446744073709551616 := by
    refine ⟨(a * b + 9223372036854775808) / 18446744073709551616, ?_⟩
    unfold wrap64; omega
  have hw : -9223372036854775808 ≤ wrap64 (a * b) ∧ wrap64 (a * b) ≤ 9223372036854775807 := by unfold wrap64; omega
  constructor
  · intro h
    have hm := Int.mul_tdiv_add_tmod (wrap64 (a * b)) b
    rw [h] at hm
    have hn : ((wrap64 (a * b)).tmod b).natAbs < b.natAbs := by
      rw [Int.natAbs_tmod]; exact Nat.mod_lt _ (by omega)
    obtain ⟨hb1, hb2⟩ := hb
    have e : (wrap64 (a * b)).tmod b = - k * 18446744073709551616 := by
      have : b * a = a * b := Int.mul_comm _ _
      rw [hk] at hm ⊢
      rw [this] at hm
      omega
    rw [e] at hn
    have k0 : k = 0 := by omega
    subst k0
    rw [fit_iff]
    have : wrap64 (a * b) = a * b := by rw [hk]; omega
    rw [← this]; exact hw
  · intro h
    rw [fit_iff] at h
    rw [IntWalk.wrap64_in _ h]
    exact Int.mul_tdiv_cancel a h0

theorem mul_test2 {a b : Int} (ha : I64 a) (hb : I64 b) (h0 : b ≠ 0) (h : ¬ (a = -9223372036854775808 ∧ b = -1)) : wrap64 ((wrap64 (a * b)).tdiv b) = a ↔ fit (a * b) = true := by
  rw [← mul_test ha hb h0]
  have hw : I64 (wrap64 (a * b)) := by unfold I64 wrap64; omega
  by_cases e : wrap64 (a * b) = -9223372036854775808 ∧ b = -1
  · obtain ⟨e1, rfl⟩ := e
    obtain ⟨h1, h2⟩ := ha
    exfalso
    apply h
    refine ⟨?_, rfl⟩
    rw [show a * -1 = -a from by omega] at e1
    unfold wrap64 at e1
    omega
  · have hq : I64 ((wrap64 (a * b)).tdiv b) := by
      have h1 := hw.1; have h2 := hw.2
      generalize wrap64 (a * b) = p at *
      have hd : (p.tdiv b).natAbs ≤ p.natAbs := by rw [Int.natAbs_tdiv]; exact Nat.div_le_self _ _
      by_cases e' : p = -9223372036854775808
      · have hb1 : b ≠ -1 := fun e'' => e ⟨e', e''⟩
        by_cases hp : 0 < b
        · have : p.tdiv b ≤ 0 := by
            have e1 : p = -(-p) := by omega
            have e2 := Int.tdiv_nonneg (a := -p) (b := b) (by omega) (by omega)
            rw [e1, Int.neg_tdiv]; omega
          unfold I64; omega
        · have hn : (p.tdiv b).natAbs = p.natAbs / b.natAbs := Int.natAbs_tdiv _ _
          have : p.natAbs / b.natAbs ≤ p.natAbs / 2 := Nat.div_le_div_left (by omega) (by omega)
          unfold I64; omega
      · unfold I64; omega
    rw [IntWalk.wrap64_in _ hq]
end Go.Proofs.Ytaefjgjojflppaa

/- The contract of arith.Sum. -/
import Derived.Test.YtdgdllicmccnfaaArRef
import Derived.Test.YtdgdllicmccnfaaMem
namespace Go.Proofs.Ytdgdllicmccnfaa
open Go.RowKit
set_option linter.unusedVariables false

def isum (l : List Int) : Int := l.foldl (· + ·) 0
theorem isum_snoc (l : List Int) (x : Int) : isum (l ++ [x]) = isum l + x := by simp [isum]
theorem isum_bd (l : List Int) (h : ∀ x ∈ l, I64 x) : -(l.length : Int) * 9223372036854775808 ≤ isum l ∧ isum l ≤ (l.length : Int) * 9223372036854775808 := by
  suffices H : ∀ (l : List Int) (s : Int), (∀ x ∈ l, I64 x) → s - (l.length : Int) * 9223372036854775808 ≤ l.foldl (· + ·) s ∧ l.foldl (· + ·) s ≤ s + (l.length : Int) * 9223372036854775808 by
    have := H l 0 h; unfold isum; omega
  intro l
  induction l with
  | nil => intro s _; simp
  | cons x r ih =>
    intro s hx
    have h1 := hx x (by simp)
    have h2 := ih (s + x) (fun y hy => hx y (by simp [hy]))
    unfold I64 at h1
    simp only [List.foldl_cons, List.length_cons]
    omega

def hiU (S : Int) : Int := S / 18446744073709551616 % 18446744073709551616

theorem hiU_add {S x : Int} (hx : I64 x) : (hiU S + hiU x + (lo S + lo x) / 18446744073709551616) % 18446744073709551616 = hiU (S + x) := by
  unfold hiU lo; omega
theorem lo_add (S x : Int) : (lo S + lo x) % 18446744073709551616 = lo (S + x) := by unfold lo; omega
theorem sum_test {S : Int} (h : -85070591730234615865843651857942052864 ≤ S ∧ S ≤ 85070591730234615865843651857942052864) (e : hiU S = wrap64 (lo S) / 9223372036854775808 % 18446744073709551616) : fit S = true := by
  have hl := lo_bd S
  have hS : S = 18446744073709551616 * (S / 18446744073709551616) + lo S := by unfold lo; omega
  unfold hiU at e
  generalize lo S = l at *
  generalize S / 18446744073709551616 = q at *
  by_cases hb : l < 9223372036854775808
  · have h2 : wrap64 l / 9223372036854775808 = 0 := by unfold wrap64; omega
    rw [h2] at e
    have hq : q = 0 := by omega
    rw [fit_iff]; omega
  · have h2 : wrap64 l / 9223372036854775808 = -1 := by unfold wrap64; omega
    rw [h2] at e
    have hq : q = -1 := by omega
    rw [fit_iff]; omega
theorem val_u64 {a b : Int} (h : a = b) : Value.int .u64 a = Value.int .u64 b := by rw [h]

set_option maxHeartbeats 1000000 in
theorem sum_any (A : Option Addr) (n c : Nat) (zs : List Int) (w : World) (B : Nat) (hr : Rd w B 1 A n (zs.map (Value.int .i64))) (hz : Ints zs) (hn : n ≤ 9223372036854775807) :
    Calls Try.prog 11 #[.slice A n c] w fun e w' => e = .returned (.tuple #[.int .i64 (nv (isum zs)), .bool (fit (isum zs))]) ∧ w = w' := by
  have hl : zs.length = n := by simpa using hr.1
  have HL := hid hl; clear hl
  go_enter Try.func11, Try.ntmps11
  go_wp2_with fail
  go_loop [4, 5, 13] (fun h l i => ∃ k : Nat, k ≤ n ∧ i = .int .i64 k ∧ h = .int .u64 (hiU (isum (zs.take k))) ∧ l = .int .u64 (lo (isum (zs.take k)))) (fun _ _ i => n - (intOf i).toNat)
  case atStart => exact ⟨0, by omega, rfl, rfl, rfl⟩
  case round =>
    obtain ⟨k, hk, rfl, rfl, rfl⟩ := hrel
    by_cases hlt : k < n
    · obtain ⟨b, o, rfl, hb, hc⟩ := hr.at1 hlt
      rw [ints_get _ _ _ (by rw [HL.out]; omega)] at hc
      obtain ⟨x, hx⟩ : ∃ x, x = zs.getD k 0 := ⟨_, rfl⟩
      rw [← hx] at hc
      have bx := hz.at_ k
      rw [← hx] at bx
      obtain ⟨S, hS⟩ : ∃ S, S = isum (zs.take k) := ⟨_, rfl⟩
      rw [← hS]
      have HN : Hid (isum (zs.take (k + 1)) = S + x) := by
        unfold Hid; rw [take_snoc zs k 0 (by rw [HL.out]; omega), isum_snoc, ← hS, ← hx]
      clear hS hx
      have l0 := lo_bd S
      have l1 := lo_bd x
      have u0 : 0 ≤ hiU S ∧ hiU S < 18446744073709551616 := by unfold hiU; omega
      have u1 : 0 ≤ hiU x ∧ hiU x < 18446744073709551616 := by unfold hiU; omega
      have cc : 0 ≤ (lo S + lo x) / 18446744073709551616 ∧ (lo S + lo x) / 18446744073709551616 ≤ 1 := by omega
      have e1 : IntKind.u64.wrap x = lo x := by rw [IntKind.wrap_u64]; rfl
      have e2 : IntKind.u64.wrap (x / 9223372036854775808) = hiU x := by
        rw [IntKind.wrap_u64]; unfold I64 at bx; unfold hiU; omega
      have EH := hid (hiU_add (S := S) bx)
      obtain ⟨bx0, bx1⟩ := bx
      go_wp2_with (first | simp only [add64_0 _ _ l0 l1] | simp only [add64 _ _ _ u0 u1 cc])
      go_round
      case rel => exact ⟨k + 1, by omega, by go_num, by rw [HN.out]; exact val_u64 EH.out, by rw [HN.out]; exact val_u64 (lo_add S x)⟩
      case measure => simp [intOf]; omega
    · obtain rfl : k = n := by omega
      obtain ⟨S, hS⟩ : ∃ S, S = isum (zs.take k) := ⟨_, rfl⟩
      rw [← hS]
      have hSz : Hid (isum zs = S) := by
        unfold Hid; rw [hS, List.take_of_length_le (by rw [HL.out]; omega)]
      have bd := isum_bd zs hz
      rw [hSz.out, HL.out] at bd
      clear hS
      have l0 := lo_bd S
      by_cases f : fit S = true
      · have f' := fit_iff.1 f
        have e1 : (hiU S != IntKind.u64.wrap (wrap64 (lo S) / 9223372036854775808)) = false := by
          rw [bne_eq_false_iff_eq, IntKind.wrap_u64]; unfold hiU wrap64 lo; omega
        have e2 : Hid (wrap64 (lo S) = nv S) := by
          unfold Hid; rw [nv_of_fit f]; unfold wrap64 lo; omega
        clear f'
        have F := hid f; clear f
        go_wp2
        go_ret2
        exact ⟨by rw [hSz.out]; exact ret_two e2.out F.out.symm, rfl⟩
      · have g : fit S = false := by simpa using f
        have e1 : (hiU S != IntKind.u64.wrap (wrap64 (lo S) / 9223372036854775808)) = true := by
          rw [bne_iff_ne, IntKind.wrap_u64]; intro e; exact f (sum_test (by omega) e)
        have F := hid g; clear g f
        go_wp2
        go_ret2
        exact ⟨by rw [hSz.out]; exact ret_two (nv_of_not F.out).symm F.out.symm, rfl⟩
end Go.Proofs.Ytdgdllicmccnfaa

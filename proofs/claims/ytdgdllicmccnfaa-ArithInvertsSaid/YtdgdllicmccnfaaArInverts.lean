/- ArithInverts answers true for every pair of 64-bit numbers: subtraction undoes addition, quotient and remainder give the number back, and the remainder is smaller than the divisor and has the sign of the dividend. No condition. -/
import Derived.Test.YtdgdllicmccnfaaLawBase
import Derived.Test.YtdgdllicmccnfaaArKnown
namespace Go.Proofs.Ytdgdllicmccnfaa
open Go.ChangeShapes Go.WideShapes Go.ChangeAt Go.RowKit
set_option linter.unusedVariables false

/-- A call that gives a number and whether there is one, and leaves the world. -/
def Two (f : FuncId) (args : Array Value) (x : Int) (t : Bool) (w : World) : Prop :=
  Calls Try.prog f args w fun e w' => e = .returned (.tuple #[.int .i64 x, .bool t]) ∧ w = w'

/-- The first half: the sum and the difference. -/
def Half (a b s d : Int) (ok fine : Bool) (w : World) : Prop :=
  Two 14 #[.int .i64 a, .int .i64 b] s ok w ∧ Two 15 #[.int .i64 s, .int .i64 b] d fine w ∧ (ok = false ∨ (fine = true ∧ d = a))

theorem half_any (a b : Int) (w : World) (ha : I64 a) (hb : I64 b) : ∃ s d ok fine, Half a b s d ok fine w := by
  refine ⟨nv (a + b), nv (nv (a + b) - b), fit (a + b), fit (nv (a + b) - b), add_any a b w ha hb, sub_any _ b w (nv_bd _) hb, ?_⟩
  by_cases f : fit (a + b) = true
  · right
    rw [nv_of_fit f, show a + b - b = a from by omega]
    exact ⟨fit_yes ha, nv_yes ha⟩
  · left; simpa using f

set_option maxHeartbeats 2000000 in
/-- Where there is no quotient: the divisor is 0, or the least number is divided by -1. -/
theorem inv_none (a b s d : Int) (ok fine j z : Bool) (w : World) (h : Half a b s d ok fine w) (c3 : Two 16 #[.int .i64 a, .int .i64 b] 0 false w) (c4 : Two 17 #[.int .i64 a, .int .i64 b] 0 j w)
    (hz : (b == 0) = z) (hj : j = !z) (h1 : z = false → (a == -9223372036854775808) = true ∧ (b == -1) = true) :
    Calls Try.prog 4 #[.int .i64 a, .int .i64 b] w fun e w' => e = .returned (.bool true) ∧ Below w.heap.size w w' := by
  obtain ⟨c1, c2, h2⟩ := h
  have C1 := hid c1; have C2 := hid c2; have C3 := hid c3; have C4 := hid c4
  clear c1 c2 c3 c4
  subst hj
  cases z
  · obtain ⟨k1, k2⟩ := h1 rfl
    clear h1
    rcases h2 with rfl | ⟨rfl, rfl⟩
    all_goals
      (try cases ok)
      all_goals
        go_enter Try.func4, Try.ntmps4
        go_wp2_with fail
        refine C1.out.mono ?_
        rintro e w' ⟨rfl, rfl⟩
        go_wp2_with fail
        refine C2.out.mono ?_
        rintro e w' ⟨rfl, rfl⟩
        go_wp2_with fail
        refine C3.out.mono ?_
        rintro e w' ⟨rfl, rfl⟩
        go_wp2_with fail
        refine C4.out.mono ?_
        rintro e w' ⟨rfl, rfl⟩
        go_wp2_with fail
        refine (known3 _).mono ?_
        rintro e w1 ⟨rfl, b1⟩
        go_wp2
        go_ret
        exact ⟨rfl, b1⟩
  · clear h1
    rcases h2 with rfl | ⟨rfl, rfl⟩
    all_goals
      (try cases ok)
      all_goals
        go_enter Try.func4, Try.ntmps4
        go_wp2_with fail
        refine C1.out.mono ?_
        rintro e w' ⟨rfl, rfl⟩
        go_wp2_with fail
        refine C2.out.mono ?_
        rintro e w' ⟨rfl, rfl⟩
        go_wp2_with fail
        refine C3.out.mono ?_
        rintro e w' ⟨rfl, rfl⟩
        go_wp2_with fail
        refine C4.out.mono ?_
        rintro e w' ⟨rfl, rfl⟩
        go_wp2_with fail
        refine (known3 _).mono ?_
        rintro e w1 ⟨rfl, b1⟩
        go_wp2
        go_ret
        exact ⟨rfl, b1⟩

set_option maxHeartbeats 4000000 in
/-- Where there is a quotient. -/
theorem inv_some (a b s d q r p : Int) (ok fine x1 : Bool) (w : World) (h : Half a b s d ok fine w) (c3 : Two 16 #[.int .i64 a, .int .i64 b] q true w) (c4 : Two 17 #[.int .i64 a, .int .i64 b] r true w)
    (c5 : Two 18 #[.int .i64 q, .int .i64 b] p true w) (c6 : Two 14 #[.int .i64 p, .int .i64 r] a true w)
    (hz : (b == 0) = false) (hr : (r == 0) = x1) (hr' : (r != 0) = !x1) (hs : x1 = false → (decide (r < 0) == decide (a < 0)) = true)
    (hb : (b = -9223372036854775808) ∨ (b < 0 ∧ -9223372036854775808 < b ∧ b < r ∧ r < -b ∧ (b == -9223372036854775808) = false) ∨ (¬ b < 0 ∧ b ≤ 9223372036854775807 ∧ -b < r ∧ r < b ∧ (b == -9223372036854775808) = false)) :
    Calls Try.prog 4 #[.int .i64 a, .int .i64 b] w fun e w' => e = .returned (.bool true) ∧ Below w.heap.size w w' := by
  obtain ⟨c1, c2, h2⟩ := h
  have C1 := hid c1; have C2 := hid c2; have C3 := hid c3; have C4 := hid c4; have C5 := hid c5; have C6 := hid c6
  clear c1 c2 c3 c4 c5 c6
  have hd : (d != a) = false ∨ ok = false := by
    rcases h2 with h | ⟨_, h⟩
    · exact .inr h
    · exact .inl (by simpa using h)
  have hf : fine = true ∨ ok = false := by
    rcases h2 with h | ⟨h, _⟩
    · exact .inr h
    · exact .inl h
  clear h2
  cases ok <;> cases fine <;> simp only [Bool.true_eq_false, Bool.false_eq_true, or_false, or_true] at hf hd <;> (try contradiction) <;> rcases hb with rfl | ⟨hb1, hb2, hb3, hb4, hb5⟩ | ⟨hb1, hb2, hb3, hb4, hb5⟩ <;> cases x1 <;> (try (have hs1 := hs rfl)) <;> clear hs
  all_goals
    go_enter Try.func4, Try.ntmps4
    go_wp2_with fail
    refine C1.out.mono ?_
    rintro e w' ⟨rfl, rfl⟩
    go_wp2_with fail
    refine C2.out.mono ?_
    rintro e w' ⟨rfl, rfl⟩
    go_wp2_with fail
    refine C3.out.mono ?_
    rintro e w' ⟨rfl, rfl⟩
    go_wp2_with fail
    refine C4.out.mono ?_
    rintro e w' ⟨rfl, rfl⟩
    go_wp2_with fail
    refine C5.out.mono ?_
    rintro e w' ⟨rfl, rfl⟩
    go_wp2_with fail
    refine C6.out.mono ?_
    rintro e w' ⟨rfl, rfl⟩
    go_wp2_with fail
    refine (known3 _).mono ?_
    rintro e w1 ⟨rfl, b1⟩
    go_wp2
    go_ret
    exact ⟨rfl, b1⟩

theorem tmod_sign {a b : Int} (h : (a.tmod b == 0) = false) : (decide (a.tmod b < 0) == decide (a < 0)) = true := by
  have h' : a.tmod b ≠ 0 := by simpa using h
  by_cases ha : a < 0
  · have h1 := Int.tmod_nonneg b (show 0 ≤ -a by omega)
    rw [Int.neg_tmod] at h1
    have h2 : a.tmod b < 0 := by omega
    simp [ha, h2]
  · have h1 := Int.tmod_nonneg b (show 0 ≤ a by omega)
    have h2 : ¬ a.tmod b < 0 := by omega
    simp [ha, h2]

theorem inverts_walk (a b : Int) (w : World) (ha : I64 a) (hb : I64 b) :
    Calls Try.prog 4 #[.int .i64 a, .int .i64 b] w fun e w' => e = .returned (.bool true) ∧ Below w.heap.size w w' := by
  obtain ⟨s, d, ok, fine, hh⟩ := half_any a b w ha hb
  by_cases h0 : b = 0
  · subst h0
    exact inv_none a 0 s d ok fine false true w hh (div_zero a w) (mod_zero a w) rfl rfl (fun h => by cases h)
  have k0 : (b == 0) = false := by simpa using h0
  have c4 := mod_any a b w hb h0
  by_cases h1 : a = -9223372036854775808 ∧ b = -1
  · obtain ⟨rfl, rfl⟩ := h1
    have c3 := div_any (-9223372036854775808) (-1) w ha hb h0
    rw [show nv (Int.tdiv (-9223372036854775808) (-1)) = 0 from by decide, show fit (Int.tdiv (-9223372036854775808) (-1)) = false from by decide] at c3
    exact inv_none _ _ s d ok fine true false w hh c3 c4 rfl rfl (fun _ => ⟨rfl, rfl⟩)
  have hq := div_fit ha hb h1
  have c3 := div_any a b w ha hb h0
  rw [nv_yes hq, fit_yes hq] at c3
  have e := Int.tdiv_mul_add_tmod a b
  have hm : (a.tmod b).natAbs < b.natAbs := by
    rw [Int.natAbs_tmod]; exact Nat.mod_lt _ (by omega)
  have hp : I64 (a.tdiv b * b) := by
    have h2 : (a.tdiv b * b).natAbs ≤ a.natAbs := by
      rw [Int.natAbs_mul, Int.natAbs_tdiv]; exact Nat.div_mul_le_self _ _
    have h3 : 0 ≤ a → 0 ≤ a.tdiv b * b := fun h => by
      have := Int.tmod_nonneg b h
      have h5 : (a.tmod b).natAbs ≤ a.natAbs := by rw [Int.natAbs_tmod]; exact Nat.mod_le _ _
      omega
    unfold I64 at *; omega
  have c5 := mul_any (a.tdiv b) b w hq hb
  rw [nv_yes hp, fit_yes hp] at c5
  have c6 := add_any (a.tdiv b * b) (a.tmod b) w hp (mod_bd hb h0)
  rw [e, nv_yes ha, fit_yes ha] at c6
  refine inv_some a b s d _ _ _ ok fine _ w hh c3 c4 c5 c6 k0 rfl rfl tmod_sign ?_
  by_cases e1 : b = -9223372036854775808
  · exact .inl e1
  · have k1 : (b == -9223372036854775808) = false := by simpa using e1
    unfold I64 at hb
    by_cases e2 : b < 0
    · exact .inr (.inl ⟨e2, by omega, by omega, by omega, k1⟩)
    · exact .inr (.inr ⟨e2, by omega, by omega, by omega, k1⟩)

set_option maxRecDepth 100000 in
theorem inverts_lifted (os : Os) (started : os.Started) (H : Type) (enc : TypeId × Value → H) :
    ReturnsInHanded {} Try.checked os 4 .any (Rows.arithInvertsSpec.pre6 enc Try.prog Try.f4 Rows.arithInvertsRow.domain false) (Rows.arithInvertsSpec.post enc Try.prog Try.f4 false true false false) := by
  refine returnsInHanded_of_change (C := Try.checked) own started (by kernel_rfl) Try.func4
    (ChangeSpec.witness6 (enc := enc) (C := Try.checked) false ⟨#[], #[.int .i64 0, .int .i64 0], []⟩ 8 (by kernel_rfl) (by kernel_rfl) (by kernel_rfl) (by kernel_rfl)) ?_
  intro W base args ds gs before hval0 hW _ _
  have hval : ∀ (j : Nat) t v, Try.f4.params[j]? = some t → args[j]? = some v → Value.okWide Try.prog W .any base t v := hval0
  have hW' := hW
  obtain ⟨p, q, hA0, hV, rfl, hfz, hnd⟩ := hW
  have hA : DataW.TrodAll enc Try.prog W 0 (fun _ => true) true Try.f4.params.toList args.toList ds p := hA0
  rw [Try.params4] at hA hval
  obtain ⟨v0, vs0, d0, ds0, p0, q0, hargs, rfl, rfl, h0, r0⟩ := trodAll_cons hA
  obtain ⟨v1, vs1, d1, ds1, p1, q1, rfl, rfl, rfl, h1, r1⟩ := trodAll_cons r0
  obtain ⟨rfl, rfl, rfl⟩ := trodAll_nil r1
  obtain rfl : args = #[v0, v1] := by cases args; simp_all
  obtain ⟨rfl, rfl⟩ := trodVars_none hV
  obtain ⟨a0, rfl, rfl, rfl, w0⟩ := open_int Try.underlying2 (hval 0 2 v0 rfl rfl) h0
  obtain ⟨a1, rfl, rfl, rfl, w1⟩ := open_int Try.underlying2 (hval 1 2 v1 rfl rfl) h1
  refine (inverts_walk a0 a1 W (i64_of_wf w0) (i64_of_wf w1)).mono fun e W' ⟨he, hb⟩ => ?_
  exact ⟨_, he, law_post rfl laidOut (by kernel_rfl) (by kernel_rfl) Try.underlying4 rfl hW' hb⟩

theorem inverts_holds : Rows.ArithInvertsSaid :=
  OpenClaim.holds_of_wide 4 Try.f4 rfl rfl rfl rfl rfl rfl rfl ⟨rfl, rfl, rfl, rfl, rfl⟩ rfl rfl rfl rfl rfl (by kernel_rfl) Try.func4 (by kernel_rfl)
    (of_decide_eq_true (by kernel_rfl)) (by unfold Func.isWrapper; first | (rw [if_pos (by decide +kernel)]; kernel_rfl) | (rw [if_neg (by decide +kernel)]; exact ⟨rfl, rfl⟩))
    (fun os started H enc _ => inverts_lifted os started H enc)
#print axioms inverts_holds
end Go.Proofs.Ytdgdllicmccnfaa

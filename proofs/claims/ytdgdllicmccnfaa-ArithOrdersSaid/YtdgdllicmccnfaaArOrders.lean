/- ArithOrders answers true for every pair of 64-bit numbers: sums and products do not depend on the order, and negation is subtraction from 0. No condition. -/
import Derived.Test.YtdgdllicmccnfaaLawBase
import Derived.Test.YtdgdllicmccnfaaArKnown
namespace Go.Proofs.Ytdgdllicmccnfaa
open Go.ChangeShapes Go.WideShapes Go.ChangeAt Go.RowKit
set_option linter.unusedVariables false

set_option maxHeartbeats 1000000 in
theorem orders_walk (a b : Int) (w : World) (ha : I64 a) (hb : I64 b) :
    Calls Try.prog 5 #[.int .i64 a, .int .i64 b] w fun e w' => e = .returned (.bool true) ∧ Below w.heap.size w w' := by
  obtain ⟨s, hs⟩ : ∃ s, a + b = s := ⟨_, rfl⟩
  obtain ⟨p, hp⟩ : ∃ p, a * b = p := ⟨_, rfl⟩
  have c1 := add_any a b w ha hb
  have c2 := add_any b a w hb ha
  have c3 := mul_any a b w ha hb
  have c4 := mul_any b a w hb ha
  have c5 := neg_any a w ha
  have c6 := sub_any 0 a w (by unfold I64; omega) ha
  rw [Int.add_comm b a] at c2
  rw [Int.mul_comm b a] at c4
  rw [Int.zero_sub] at c6
  rw [hs] at c1 c2
  rw [hp] at c3 c4
  obtain ⟨n, hn⟩ : ∃ n, -a = n := ⟨_, rfl⟩
  rw [hn] at c5 c6
  have C1 := hid c1; have C2 := hid c2; have C3 := hid c3; have C4 := hid c4; have C5 := hid c5; have C6 := hid c6
  clear c1 c2 c3 c4 c5 c6 hs hp hn
  go_enter Try.func5, Try.ntmps5
  go_wp2_with fail
  refine C1.out.mono ?_
  rintro e w' ⟨rfl, rfl⟩
  go_wp2_with fail
  refine C2.out.mono ?_
  rintro e w' ⟨rfl, rfl⟩
  go_wp2_with fail
  refine C3.out.mono ?_
  rintro e w' ⟨rfl, rfl⟩
  go_wp2_with fail
  refine C4.out.mono ?_
  rintro e w' ⟨rfl, rfl⟩
  go_wp2_with fail
  refine C5.out.mono ?_
  rintro e w' ⟨rfl, rfl⟩
  go_wp2_with fail
  refine C6.out.mono ?_
  rintro e w' ⟨rfl, rfl⟩
  go_wp2_with fail
  refine (known3 w).mono ?_
  rintro e w1 ⟨rfl, b1⟩
  go_wp2
  go_ret
  exact ⟨rfl, b1⟩

set_option maxRecDepth 100000 in
theorem orders_lifted (os : Os) (started : os.Started) (H : Type) (enc : TypeId × Value → H) :
    ReturnsInHanded {} Try.checked os 5 .any (Rows.arithOrdersSpec.pre6 enc Try.prog Try.f5 Rows.arithOrdersRow.domain false) (Rows.arithOrdersSpec.post enc Try.prog Try.f5 false true false false) := by
  refine returnsInHanded_of_change (C := Try.checked) own started (by kernel_rfl) Try.func5
    (ChangeSpec.witness6 (enc := enc) (C := Try.checked) false ⟨#[], #[.int .i64 0, .int .i64 0], []⟩ 8 (by kernel_rfl) (by kernel_rfl) (by kernel_rfl) (by kernel_rfl)) ?_
  intro W base args ds gs before hval0 hW _ _
  have hval : ∀ (j : Nat) t v, Try.f5.params[j]? = some t → args[j]? = some v → Value.okWide Try.prog W .any base t v := hval0
  have hW' := hW
  obtain ⟨p, q, hA0, hV, rfl, hfz, hnd⟩ := hW
  have hA : DataW.TrodAll enc Try.prog W 0 (fun _ => true) true Try.f5.params.toList args.toList ds p := hA0
  rw [Try.params5] at hA hval
  obtain ⟨v0, vs0, d0, ds0, p0, q0, hargs, rfl, rfl, h0, r0⟩ := trodAll_cons hA
  obtain ⟨v1, vs1, d1, ds1, p1, q1, rfl, rfl, rfl, h1, r1⟩ := trodAll_cons r0
  obtain ⟨rfl, rfl, rfl⟩ := trodAll_nil r1
  obtain rfl : args = #[v0, v1] := by cases args; simp_all
  obtain ⟨rfl, rfl⟩ := trodVars_none hV
  obtain ⟨a0, rfl, rfl, rfl, w0⟩ := open_int Try.underlying2 (hval 0 2 v0 rfl rfl) h0
  obtain ⟨a1, rfl, rfl, rfl, w1⟩ := open_int Try.underlying2 (hval 1 2 v1 rfl rfl) h1
  refine (orders_walk a0 a1 W (i64_of_wf w0) (i64_of_wf w1)).mono fun e W' ⟨he, hb⟩ => ?_
  exact ⟨_, he, law_post rfl laidOut (by kernel_rfl) (by kernel_rfl) Try.underlying4 rfl hW' hb⟩

theorem orders_holds : Rows.ArithOrdersSaid :=
  OpenClaim.holds_of_wide 5 Try.f5 rfl rfl rfl rfl rfl rfl rfl ⟨rfl, rfl, rfl, rfl, rfl⟩ rfl rfl rfl rfl rfl (by kernel_rfl) Try.func5 (by kernel_rfl)
    (of_decide_eq_true (by kernel_rfl)) (by unfold Func.isWrapper; first | (rw [if_pos (by decide +kernel)]; kernel_rfl) | (rw [if_neg (by decide +kernel)]; exact ⟨rfl, rfl⟩))
    (fun os started H enc _ => orders_lifted os started H enc)
#print axioms orders_holds
end Go.Proofs.Ytdgdllicmccnfaa

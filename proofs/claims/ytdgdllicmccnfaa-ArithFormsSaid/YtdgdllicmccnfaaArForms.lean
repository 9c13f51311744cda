/- ArithForms answers true for every pair of 64-bit numbers and every tape: all functions of one and two numbers return what the reference returns. No condition. -/
import Derived.Test.YtdgdllicmccnfaaLawBase
import Derived.Test.YtdgdllicmccnfaaArKnown
import Derived.Test.YtdgdllicmccnfaaArRef3
import Derived.Test.YtdgdllicmccnfaaTape
import Derived.Test.YtdgdllicmccnfaaOpens
namespace Go.Proofs.Ytdgdllicmccnfaa
open Go.ChangeShapes Go.WideShapes Go.ChangeAt Go.RowKit
set_option linter.unusedVariables false

/-- A call that gives a number and whether there is one, and turns nothing that was there. -/
def Pair2 (f : FuncId) (args : Array Value) (x : Int) (t : Bool) : Prop :=
  ∀ w : World, Calls Try.prog f args w fun e w' => e = .returned (.tuple #[.int .i64 x, .bool t]) ∧ Below w.heap.size w w'
theorem pair_same {f : FuncId} {args : Array Value} {x : Int} {t : Bool} (h : ∀ w : World, Calls Try.prog f args w fun e w' => e = .returned (.tuple #[.int .i64 x, .bool t]) ∧ w = w') : Pair2 f args x t :=
  fun w => (h w).mono fun e w' ⟨he, hw⟩ => ⟨he, hw ▸ Below.refl _ _⟩

set_option maxHeartbeats 2000000 in
theorem alike3_core (a b c1 c2 c3 c4 c5 c6 : Int) (t1 t2 t3 t4 t5 t6 : Bool)
    (p1 : Pair2 14 #[.int .i64 a, .int .i64 b] c1 t1) (q1 : Pair2 36 #[.int .i64 a, .int .i64 b] c1 t1)
    (p2 : Pair2 15 #[.int .i64 a, .int .i64 b] c2 t2) (q2 : Pair2 37 #[.int .i64 a, .int .i64 b] c2 t2)
    (p3 : Pair2 18 #[.int .i64 a, .int .i64 b] c3 t3) (q3 : Pair2 38 #[.int .i64 a, .int .i64 b] c3 t3)
    (p4 : Pair2 16 #[.int .i64 a, .int .i64 b] c4 t4) (q4 : Pair2 39 #[.int .i64 a, .int .i64 b] c4 t4)
    (p5 : Pair2 17 #[.int .i64 a, .int .i64 b] c5 t5) (q5 : Pair2 40 #[.int .i64 a, .int .i64 b] c5 t5)
    (p6 : Pair2 19 #[.int .i64 a] c6 t6) (q6 : Pair2 41 #[.int .i64 a] c6 t6) (w : World) :
    Calls Try.prog 25 #[.int .i64 a, .int .i64 b] w fun e w' => e = .returned (.bool true) ∧ Below w.heap.size w w' := by
  go_enter Try.func25, Try.ntmps25
  go_wp2_with fail
  refine (p1 _).mono ?_
  rintro e w1 ⟨rfl, b1⟩
  go_wp2_with fail
  refine (q1 _).mono ?_
  rintro e w2 ⟨rfl, b2⟩
  go_wp2_with fail
  refine (p2 _).mono ?_
  rintro e w3 ⟨rfl, b3⟩
  go_wp2_with fail
  refine (q2 _).mono ?_
  rintro e w4 ⟨rfl, b4⟩
  go_wp2_with fail
  refine (p3 _).mono ?_
  rintro e w5 ⟨rfl, b5⟩
  go_wp2_with fail
  refine (q3 _).mono ?_
  rintro e w6 ⟨rfl, b6⟩
  go_wp2_with fail
  refine (p4 _).mono ?_
  rintro e w7 ⟨rfl, b7⟩
  go_wp2_with fail
  refine (q4 _).mono ?_
  rintro e w8 ⟨rfl, b8⟩
  go_wp2_with fail
  refine (p5 _).mono ?_
  rintro e w9 ⟨rfl, b9⟩
  go_wp2_with fail
  refine (q5 _).mono ?_
  rintro e wa ⟨rfl, ba⟩
  go_wp2_with fail
  refine (p6 _).mono ?_
  rintro e wb ⟨rfl, bb⟩
  go_wp2_with fail
  refine (q6 _).mono ?_
  rintro e wc ⟨rfl, bc⟩
  go_wp2
  go_ret
  have l := Nat.le_refl w.heap.size
  exact ⟨rfl, bnext (bnext (bnext (bnext (bnext (bnext (bnext (bnext (bnext (bnext (bnext b1 b2 l) b3 l) b4 l) b5 l) b6 l) b7 l) b8 l) b9 l) ba l) bb l) bc l⟩

theorem alike3 (a b : Int) (w : World) (ha : I64 a) (hb : I64 b) :
    Calls Try.prog 25 #[.int .i64 a, .int .i64 b] w fun e w' => e = .returned (.bool true) ∧ Below w.heap.size w w' := by
  have p1 := pair_same fun w => add_any a b w ha hb
  have p2 := pair_same fun w => sub_any a b w ha hb
  have p3 := pair_same fun w => mul_any a b w ha hb
  have p6 := pair_same fun w => neg_any a w ha
  by_cases h0 : b = 0
  · subst h0
    exact alike3_core a 0 _ _ _ _ _ _ _ _ _ _ _ _ p1 (fun w => radd_any a 0 w ha hb) p2 (fun w => rsub_any a 0 w ha hb) p3 (fun w => rmul_any a 0 w ha hb) (pair_same fun w => div_zero a w) (pair_same fun w => rdiv_zero a w)
      (pair_same fun w => mod_zero a w) (pair_same fun w => rmod_zero a w) p6 (fun w => rneg_any a w ha) w
  · exact alike3_core a b _ _ _ _ _ _ _ _ _ _ _ _ p1 (fun w => radd_any a b w ha hb) p2 (fun w => rsub_any a b w ha hb) p3 (fun w => rmul_any a b w ha hb) (pair_same fun w => div_any a b w ha hb h0) (fun w => rdiv_any a b w ha hb h0)
      (pair_same fun w => mod_any a b w hb h0) (fun w => rmod_any a b w ha hb h0) p6 (fun w => rneg_any a w ha) w

set_option maxHeartbeats 2000000 in
theorem forms_walk (a b : Int) (ha : I64 a) (hb : I64 b) (A' : Option Addr) (n' c' : Nat) (ts : List Int) (w : World)
    (hr' : Rd w w.heap.size 1 A' n' (ts.map (Value.int .i64))) (hz' : Ints ts) (hn' : n' ≤ c') (hc' : c' ≤ 9223372036854775807) :
    Calls Try.prog 7 #[.int .i64 a, .int .i64 b, .slice A' n' c'] w fun e w' => e = .returned (.bool true) ∧ Below w.heap.size w w' := by
  go_enter Try.func7, Try.ntmps7
  go_wp2_with fail
  refine (new_any A' n' c' ts w hr' hz' hn' hc').mono ?_
  rintro e w1 ⟨T, rfl, hT, t1, b1⟩
  go_wp2_with fail
  refine (number_any T w1 t1).mono ?_
  rintro e w2 ⟨x, rfl, hx, t2, g2⟩
  have b2 : Below w.heap.size w w2 := b1.grown g2 b1.size (fun k h => by cases h; exact hT)
  clear g2 b1 t1
  have HX := hid hx; clear hx
  go_wp2_with fail
  refine (number_any T w2 t2).mono ?_
  rintro e w3 ⟨y, rfl, hy, t3, g3⟩
  have b3 : Below w.heap.size w w3 := b2.grown g3 b2.size (fun k h => by cases h; exact hT)
  clear g3 b2 t2
  have HY := hid hy; clear hy
  go_wp2_with fail
  have rl := Rd.lit (size := 1) (n := 11) w3 #[.int .i64 a, .int .i64 b, .int .i64 (a / 4294967296), .int .i64 (b / 8589934592), .int .i64 x, .int .i64 y, .int .i64 0, .int .i64 1, .int .i64 (-1), .int .i64 (-9223372036854775808), .int .i64 9223372036854775807] 2 (xs := [a, b, a / 4294967296, b / 8589934592, x, y, 0, 1, -1, -9223372036854775808, 9223372036854775807].map (Value.int .i64)) rfl rfl
  have b4 := b3.alloc b3.size (.cells #[.int .i64 a, .int .i64 b, .int .i64 (a / 4294967296), .int .i64 (b / 8589934592), .int .i64 x, .int .i64 y, .int .i64 0, .int .i64 1, .int .i64 (-1), .int .i64 (-9223372036854775808), .int .i64 9223372036854775807] 2)
  have hl : Ints [a, b, a / 4294967296, b / 8589934592, x, y, 0, 1, -1, -9223372036854775808, 9223372036854775807] := by
    have hX := HX.out; have hY := HY.out
    unfold I64 at hX hY ha hb
    intro z hz
    simp only [List.mem_cons, List.not_mem_nil, or_false] at hz
    unfold I64
    rcases hz with rfl | rfl | rfl | rfl | rfl | rfl | rfl | rfl | rfl | rfl | rfl <;> omega
  have hB2 : w3.heap.size + 1 ≤ (w3.alloc (.cells #[.int .i64 a, .int .i64 b, .int .i64 (a / 4294967296), .int .i64 (b / 8589934592), .int .i64 x, .int .i64 y, .int .i64 0, .int .i64 1, .int .i64 (-1), .int .i64 (-9223372036854775808), .int .i64 9223372036854775807] 2)).heap.size := by simp
  generalize w3.alloc (.cells #[.int .i64 a, .int .i64 b, .int .i64 (a / 4294967296), .int .i64 (b / 8589934592), .int .i64 x, .int .i64 y, .int .i64 0, .int .i64 1, .int .i64 (-1), .int .i64 (-9223372036854775808), .int .i64 9223372036854775807] 2) = w4 at *
  generalize [a, b, a / 4294967296, b / 8589934592, x, y, 0, 1, -1, -9223372036854775808, 9223372036854775807] = L at *
  generalize w3.heap.size = B at *
  have hlen : L.length = 11 := by simpa using rl.1
  have HL := hid hlen; have HI := hid hl
  clear hlen hl b3 t3 hr' hz' ha hb HX HY
  go_loopw [28] (fun i wr => ∃ k : Nat, k ≤ 11 ∧ i = .int .i64 k ∧ Below w4.heap.size w4 wr) (fun i _ => 11 - (intOf i).toNat)
  case atStart => exact ⟨0, by omega, rfl, Below.refl _ _⟩
  case round =>
    obtain ⟨k, hk, rfl, br⟩ := hrel
    by_cases hlt : k < 11
    · obtain ⟨bb, o, hA, hbb, hcc⟩ := rl.at1 hlt
      simp only [Option.some.injEq, Addr.mk.injEq] at hA
      obtain ⟨rfl, rfl, _⟩ := hA
      rw [ints_get _ _ _ (by rw [HL.out]; omega), Nat.zero_add] at hcc
      have hcr : wr.cell? ⟨B, k, none⟩ = some (.int .i64 (L.getD k 0)) := (br.cell (p := ⟨B, k, none⟩) (by simp; omega)).trans hcc
      obtain ⟨p, hp⟩ : ∃ p, p = L.getD k 0 := ⟨_, rfl⟩
      have ip : Hid (I64 p) := by rw [hp]; exact HI.out.at_ k
      rw [← hp] at hcr
      clear hp hcc
      have hd : decide ((k : Int) < 11) = true := by simp; omega
      go_wp2_with fail
      obtain ⟨wo, rfl⟩ : ∃ wo : World, wo = wr := ⟨_, rfl⟩
      go_loopw [34] (fun i wr => ∃ j : Nat, j ≤ 11 ∧ i = .int .i64 j ∧ Below w4.heap.size w4 wr) (fun i _ => 11 - (intOf i).toNat)
      case atStart => exact ⟨0, by omega, rfl, br⟩
      case round =>
        obtain ⟨j, hj, rfl, bq⟩ := hrel
        clear br hcr
        by_cases hjt : j < 11
        · obtain ⟨bb, o, hA, hbb, hcc⟩ := rl.at1 hjt
          simp only [Option.some.injEq, Addr.mk.injEq] at hA
          obtain ⟨rfl, rfl, _⟩ := hA
          rw [ints_get _ _ _ (by rw [HL.out]; omega), Nat.zero_add] at hcc
          have hcr : wr.cell? ⟨B, j, none⟩ = some (.int .i64 (L.getD j 0)) := (bq.cell (p := ⟨B, j, none⟩) (by simp; omega)).trans hcc
          obtain ⟨q, hq⟩ : ∃ q, q = L.getD j 0 := ⟨_, rfl⟩
          have iq : Hid (I64 q) := by rw [hq]; exact HI.out.at_ j
          rw [← hq] at hcr
          clear hq hcc
          go_wp2_with fail
          refine (alike3 p q wr ip.out iq.out).mono ?_
          rintro e w7 ⟨rfl, b7⟩
          go_wp2
          go_roundw
          case rel => exact ⟨j + 1, by omega, by go_num, bnext bq b7 (Nat.le_refl _)⟩
          case measure => simp [intOf]; omega
        · go_wp2
          go_roundw
          case rel => exact ⟨k + 1, by omega, by go_num, bq⟩
          case measure => simp [intOf]; omega
    · go_wp2_with fail
      refine (known3 wr).mono ?_
      rintro e w9 ⟨rfl, b9⟩
      go_wp2
      go_ret
      exact ⟨rfl, bnext (bnext b4 br (Nat.le_refl _)) b9 (Nat.le_refl _)⟩

set_option maxRecDepth 100000 in
theorem forms_lifted (os : Os) (started : os.Started) (H : Type) (enc : TypeId × Value → H) :
    ReturnsInHanded {} Try.checked os 7 .any (Rows.arithFormsSpec.pre6 enc Try.prog Try.f7 Rows.arithFormsRow.domain false) (Rows.arithFormsSpec.post enc Try.prog Try.f7 false true false false) := by
  refine returnsInHanded_of_change_sized (C := Try.checked) own started (by kernel_rfl) Try.func7
    (ChangeSpec.witness6 (enc := enc) (C := Try.checked) false ⟨#[], #[.int .i64 0, .int .i64 0, .slice none 0 0], []⟩ 8 (by kernel_rfl) (by kernel_rfl) (by kernel_rfl) (by kernel_rfl)) ?_
  intro W base args ds gs before hval0 hW _ hsz0 _
  have hsz : (DataW.weightsEach Try.prog (Try.f7.params.toList ++ Rows.arithFormsSpec.plain.varTypes Try.prog) (ds ++ gs)).all (· ≤ reachBytes) = true := hsz0
  have hval : ∀ (j : Nat) t v, Try.f7.params[j]? = some t → args[j]? = some v → Value.okWide Try.prog W .any base t v := hval0
  have hW' := hW
  obtain ⟨p, q, hA0, hV, rfl, hfz, hnd⟩ := hW
  have hA : DataW.TrodAll enc Try.prog W 0 (fun _ => true) true Try.f7.params.toList args.toList ds p := hA0
  rw [Try.params7] at hA hval hsz
  obtain ⟨v0, vs0, d0, ds0, p0, q0, hargs, rfl, rfl, h0, r0⟩ := trodAll_cons hA
  obtain ⟨v1, vs1, d1, ds1, p1, q1, rfl, rfl, rfl, h1, r1⟩ := trodAll_cons r0
  obtain ⟨v2, vs2, d2, ds2, p2, q2, rfl, rfl, rfl, h2, r2⟩ := trodAll_cons r1
  obtain ⟨rfl, rfl, rfl⟩ := trodAll_nil r2
  obtain rfl : args = #[v0, v1, v2] := by cases args; simp_all
  obtain ⟨rfl, rfl⟩ := trodVars_none hV
  obtain ⟨a0, rfl, rfl, rfl, w0⟩ := open_int Try.underlying2 (hval 0 2 v0 rfl rfl) h0
  obtain ⟨a1, rfl, rfl, rfl, w1⟩ := open_int Try.underlying2 (hval 1 2 v1 rfl rfl) h1
  obtain ⟨A2, n2, c2, zs2, rfl, k2, z2, l2, m2, e2⟩ := open_i64s Try.underlying23 Try.underlying3 (by kernel_rfl) (hval 2 23 v2 rfl rfl) h2
  have s2 := reach_slice hsz (j := 2) (n := n2) (by_ := 8) rfl rfl Try.underlying23 (by kernel_rfl) e2 l2
  refine (forms_walk a0 a1 (i64_of_wf w0) (i64_of_wf w1) A2 n2 c2 zs2 W k2 z2 l2 m2).mono fun e W' ⟨he, hb⟩ => ?_
  exact ⟨_, he, law_post rfl laidOut (by kernel_rfl) (by kernel_rfl) Try.underlying4 rfl hW' hb⟩

theorem forms_holds : Rows.ArithFormsSaid :=
  OpenClaim.holds_of_wide 7 Try.f7 rfl rfl rfl rfl rfl rfl rfl ⟨rfl, rfl, rfl, rfl, rfl⟩ rfl rfl rfl rfl rfl (by kernel_rfl) Try.func7 (by kernel_rfl)
    (of_decide_eq_true (by kernel_rfl)) (by unfold Func.isWrapper; first | (rw [if_pos (by decide +kernel)]; kernel_rfl) | (rw [if_neg (by decide +kernel)]; exact ⟨rfl, rfl⟩))
    (fun os started H enc _ => forms_lifted os started H enc)
#print axioms forms_holds
end Go.Proofs.Ytdgdllicmccnfaa

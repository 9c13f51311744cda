/- PickOrders answers true, for all items, orders, bounds and tapes. No condition. -/
import Derived.Test.YtaefjgjojflppaaLawBase
import Derived.Test.YtaefjgjojflppaaEqL
import Derived.Test.YtaefjgjojflppaaMade
import Derived.Test.YtaefjgjojflppaaOpens3
namespace Go.Proofs.Ytaefjgjojflppaa
open Go.ChangeShapes Go.WideShapes Go.ChangeAt Go.RowKit
set_option linter.unusedVariables false
set_option linter.unusedSimpArgs false

theorem beq_rfl_ll (l : List (List Int)) : (l == l) = true := by simp
theorem beq_rfl_l (l : List Int) : (l == l) = true := by simp

set_option maxHeartbeats 4000000 in
set_option maxRecDepth 100000 in
theorem pickOrders_walk (A : Option Addr) (n c : Nat) (its : List It) (B : Option Addr) (m d : Nat) (l : List Lk) (most : Int) (C : Option Addr) (q qc : Nat) (ts : List Int) (w : World) (hD : ItsIn A n its w) (hE : LksIn B m l w) (hnc : n ≤ c) (hc : c ≤ 9223372036854775807) (hmd : m ≤ d) (hd : d ≤ 9223372036854775807) (hI : I64 most)
    (hr : Rd w w.heap.size 1 C q (ts.map (Value.int .i64))) (hz : Ints ts) (hq : q ≤ qc) (hqc : qc ≤ 9223372036854775807) :
    Calls Try.prog 6 #[.slice A n c, .slice B m d, .int .i64 most, .slice C q qc] w fun e w' => e = .returned (.bool true) ∧ Below w.heap.size w w' := by
  have hD' : Ro w None_ (ItsIn A n its) := Rd.ro hD (Nat.le_refl _) (fun _ _ h => h)
  have hE' : Ro w None_ (LksIn B m l) := Rd.ro hE (Nat.le_refl _) (fun _ _ h => h)
  by_cases hbig : 6 < n ∨ 20 < m
  · have K0 := Hold.begin_ w
    go_enter Try.func6, Try.ntmps6
    rcases hbig with h | h
    · have h1 : decide ((n : Int) > 6) = true := by simp; omega
      go_wp2_with fail
      refine (known_any w).mono ?_
      rintro e w1 ⟨rfl, b1⟩
      go_wp2_with fail
      go_ret
      exact ⟨rfl, b1⟩
    · by_cases h6 : 6 < n
      · have h1 : decide ((n : Int) > 6) = true := by simp; omega
        go_wp2_with fail
        refine (known_any w).mono ?_
        rintro e w1 ⟨rfl, b1⟩
        go_wp2_with fail
        go_ret
        exact ⟨rfl, b1⟩
      · have h1 : decide ((n : Int) > 6) = false := by simp; omega
        have h2 : decide ((m : Int) > 20) = true := by simp; omega
        go_wp2_with fail
        refine (known_any w).mono ?_
        rintro e w1 ⟨rfl, b1⟩
        go_wp2_with fail
        go_ret
        exact ⟨rfl, b1⟩
  · have hn6 : n ≤ 6 := by omega
    have hm20 : m ≤ 20 := by omega
    have h1 : decide ((n : Int) > 6) = false := by simp; omega
    have h2 : decide ((m : Int) > 20) = false := by simp; omega
    have K0 := ((Hold.begin_ w).add (hE'.less (by simp [Mut]))).add (hD'.less (by simp [Mut, Hp.foot, None_]))
    clear hbig
    go_enter Try.func6, Try.ntmps6
    go_wp2_with fail
    refine (new_any C q qc ts w hr hz hq hqc).mono ?_
    rintro e w1 ⟨T, rfl, hT, t1, b1⟩
    have K1 := K0.newTape b1 t1 hT (by simp [Mut, Hp.foot, None_])
    clear K0 b1 t1 hr hz
    go_wp2_with fail
    refine (made_any _ T 6 w1 K1.mutLt (K1.tp_ 0 rfl) (by simp [Mut, Hp.foot, None_]) (by omega)).mono ?_
    rintro e w2 ⟨A2, n2, c2, its2, B2, m2, d2, l2, rfl, hn2, hc2, hc22, hm2, hd2, hd22, hv2, r2, s2, t2, g2⟩
    have K2 := ((K1.callT 0 rfl g2 t2).add (s2.less (by simp [Mut, Hp.foot, None_]))).add (r2.less (by simp [Mut, Hp.foot, None_]))
    clear K1 r2 s2 t2 g2 hv2 hD' hE' hD hE
    go_wp2_with fail
    refine (wmod_any most 60 w2 hI (by omega) (by omega)).mono ?_
    rintro e w3 ⟨rfl, rfl⟩
    have hm0 : 0 ≤ most % 60 := Int.emod_nonneg _ (by omega)
    have hm1 : most % 60 < 60 := Int.emod_lt_of_pos _ (by omega)
    generalize most % 60 = mo at *
    have hs1 : IntKind.i64.wrap (mo - 2) = mo - 2 := IntWalk.i64_in _ (by omega)
    have hI2 : I64 (mo - 2) := by unfold I64; omega
    go_wp2_with fail
    refine (porders_any _ _ K2.mutLt A n c its B m d l (mo - 2) (K2.ro 3 rfl) (K2.ro 4 rfl) (by omega) (by omega) (by omega) hI2).mono ?_
    rintro e w5 ⟨O5, m5, c5, ovs5, rfl, hm5, hc5, hc52, r5, o5, b5⟩
    have K5 := ((K2.call b5).add o5).add (r5.less (mut_none rfl))
    have H5 := hid hm5
    clear K2 r5 o5 b5 hm5
    go_wp2_with fail
    refine (rorders_any _ _ K5.mutLt A n c its B m d l (mo - 2) (K5.ro 5 rfl) (K5.ro 6 rfl) (by omega) (by omega) (by omega) hI2).mono ?_
    rintro e w6 ⟨O6, m6, c6, ovs6, rfl, hm6, hc6, hc62, r6, o6, b6⟩
    have K6 := ((K5.call b6).add o6).add (r6.less (mut_none rfl))
    have H6 := hid hm6
    clear K5 r6 o6 b6 hm6
    have hlen := ordL_lens (ordF its l) n (mo - 2)
    have hle := ordL_le (ordF its l) n (mo - 2)
    have HLE : Hid (∀ x ∈ ordL (ordF its l) n (mo - 2), x.length ≤ 4398046511104) := hid fun x hx => by rw [hlen x hx]; omega
    have HM5 : Hid (m5 ≤ 4398046511104) := hid (by have := H5.out; omega)
    clear hlen hle
    go_wp2_with fail
    refine (eqFunc_any _ O5 m5 c5 ovs5 _ O6 m6 c6 ovs6 _ (K6.ro 2 rfl).now (K6.ro 3 rfl).now (K6.ro 0 rfl).now (K6.ro 1 rfl).now HLE.out HLE.out HM5.out).mono ?_
    rintro e w7 ⟨rfl, p7, rfl⟩
    rw [beq_rfl_ll]
    have K7 := K6.drewN p7
    clear K6
    generalize w6.drewN p7 = w7 at *
    go_wp2_with fail
    refine (porders_any _ _ K7.mutLt A2 n2 c2 its2 B2 m2 d2 l2 (mo - 2) (K7.ro 4 rfl) (K7.ro 5 rfl) (by omega) (by omega) (by omega) hI2).mono ?_
    rintro e w8 ⟨O8, m8, c8, ovs8, rfl, hm8, hc8, hc82, r8, o8, b8⟩
    have K8 := ((K7.call b8).add o8).add (r8.less (mut_none rfl))
    have H8 := hid hm8
    clear K7 r8 o8 b8 hm8
    go_wp2_with fail
    refine (rorders_any _ _ K8.mutLt A2 n2 c2 its2 B2 m2 d2 l2 (mo - 2) (K8.ro 6 rfl) (K8.ro 7 rfl) (by omega) (by omega) (by omega) hI2).mono ?_
    rintro e w9 ⟨O9, m9, c9, ovs9, rfl, hm9, hc9, hc92, r9, o9, b9⟩
    have K9 := ((K8.call b9).add o9).add (r9.less (mut_none rfl))
    have H9 := hid hm9
    clear K8 r9 o9 b9 hm9 HLE
    have hlen := ordL_lens (ordF its2 l2) n2 (mo - 2)
    have hle := ordL_le (ordF its2 l2) n2 (mo - 2)
    have HLE : Hid (∀ x ∈ ordL (ordF its2 l2) n2 (mo - 2), x.length ≤ 4398046511104) := hid fun x hx => by rw [hlen x hx]; omega
    have HM8 : Hid (m8 ≤ 4398046511104) := hid (by have := H8.out; omega)
    clear hlen hle
    go_wp2_with fail
    refine (eqFunc_any _ O8 m8 c8 ovs8 _ O9 m9 c9 ovs9 _ (K9.ro 2 rfl).now (K9.ro 3 rfl).now (K9.ro 0 rfl).now (K9.ro 1 rfl).now HLE.out HLE.out HM8.out).mono ?_
    rintro e wa ⟨rfl, pa, rfl⟩
    rw [beq_rfl_ll]
    have Ka := K9.drewN pa
    clear K9
    generalize w9.drewN pa = wa at *
    go_wp2_with fail
    refine (known_any wa).mono ?_
    rintro e wb ⟨rfl, bb⟩
    have Kb := Ka.call bb
    go_wp2_with fail
    go_ret
    exact ⟨rfl, Kb.below⟩
set_option maxRecDepth 100000 in
theorem pickOrders_lifted (os : Os) (started : os.Started) (H : Type) (enc : TypeId × Value → H) :
    ReturnsInHanded {} Try.checked os 6 .any (Rows.pickOrdersSpec.pre6 enc Try.prog Try.f6 Rows.pickOrdersRow.domain false) (Rows.pickOrdersSpec.post enc Try.prog Try.f6 false true false false) := by
  refine returnsInHanded_of_change_sized (C := Try.checked) own started (by kernel_rfl) Try.func6
    (ChangeSpec.witness6 (enc := enc) (C := Try.checked) false ⟨#[], #[.slice none 0 0, .slice none 0 0, .int .i64 0, .slice none 0 0], []⟩ 8 (by kernel_rfl) (by kernel_rfl) (by kernel_rfl) (by kernel_rfl)) ?_
  intro W base args ds gs before hval0 hW _ hsz0 _
  have hsz : (DataW.weightsEach Try.prog (Try.f6.params.toList ++ Rows.pickOrdersSpec.plain.varTypes Try.prog) (ds ++ gs)).all (· ≤ reachBytes) = true := hsz0
  have hval : ∀ (j : Nat) t v, Try.f6.params[j]? = some t → args[j]? = some v → Value.okWide Try.prog W .any base t v := hval0
  have hW' := hW
  obtain ⟨p, q, hA0, hV, rfl, hfz, hnd⟩ := hW
  have hA : DataW.TrodAll enc Try.prog W 0 (fun _ => true) true Try.f6.params.toList args.toList ds p := hA0
  rw [Try.params6] at hA hval hsz
  obtain ⟨v0, vs0, d0, ds0, p0, q0, hargs, rfl, rfl, h0, r0⟩ := trodAll_cons hA
  obtain ⟨v1, vs1, d1, ds1, p1, q1, rfl, rfl, rfl, h1, r1⟩ := trodAll_cons r0
  obtain ⟨v2, vs2, d2, ds2, p2, q2, rfl, rfl, rfl, h2, r2⟩ := trodAll_cons r1
  obtain ⟨v3, vs3, d3, ds3, p3, q3, rfl, rfl, rfl, h3, r3⟩ := trodAll_cons r2
  obtain ⟨rfl, rfl, rfl⟩ := trodAll_nil r3
  obtain rfl : args = #[v0, v1, v2, v3] := by cases args; simp_all
  obtain ⟨rfl, rfl⟩ := trodVars_none hV
  obtain ⟨A0, n0, c0, its0, rfl, k0, l0, m0⟩ := open_items Try.underlying23 Try.underlying27 (by kernel_rfl) (by kernel_rfl) Try.underlying9 Try.underlying3 Try.underlying25 Try.underlying25 (hval 0 23 v0 rfl rfl) h0
  obtain ⟨A1, n1, c1, lk1, rfl, k1, l1, m1⟩ := open_links Try.underlying24 Try.underlying30 (by kernel_rfl) (by kernel_rfl) Try.underlying9 Try.underlying9 (hval 1 24 v1 rfl rfl) h1
  obtain ⟨a2, rfl, rfl, rfl, w2⟩ := open_int Try.underlying3 (hval 2 3 v2 rfl rfl) h2
  obtain ⟨A3, n3, c3, zs3, rfl, k3, z3, l3, m3, e3⟩ := open_i64s Try.underlying33 Try.underlying3 (by kernel_rfl) (hval 3 33 v3 rfl rfl) h3
  have s3 := reach_slice hsz (j := 3) (n := n3) (by_ := 8) rfl rfl Try.underlying33 (by kernel_rfl) e3 l3
  refine (pickOrders_walk _ _ _ _ _ _ _ _ _ _ _ _ _ W k0 k1 l0 (by unfold maxLen at m0; omega) l1 (by unfold maxLen at m1; omega) (i64_of_wf w2) k3 z3 l3 m3).mono fun e W' ⟨he, hb⟩ => ?_
  exact ⟨_, he, law_post rfl laidOut (by kernel_rfl) (by kernel_rfl) Try.underlying4 rfl hW' hb⟩

theorem pickOrders_holds : Rows.PickOrdersSaid :=
  OpenClaim.holds_of_wide 6 Try.f6 rfl rfl rfl rfl rfl rfl rfl ⟨rfl, rfl, rfl, rfl, rfl⟩ rfl rfl rfl rfl rfl (by kernel_rfl) Try.func6 (by kernel_rfl)
    (of_decide_eq_true (by kernel_rfl)) (by unfold Func.isWrapper; first | (rw [if_pos (by decide +kernel)]; kernel_rfl) | (rw [if_neg (by decide +kernel)]; exact ⟨rfl, rfl⟩))
    (fun os started H enc _ => pickOrders_lifted os started H enc)
#print axioms pickOrders_holds
end Go.Proofs.Ytaefjgjojflppaa

/- PickForms answers true, for all items, orders, numbers and picks. No condition. -/
import Derived.Test.YtaefjgjojflppaaLawBase
import Derived.Test.YtaefjgjojflppaaEqL
import Derived.Test.YtaefjgjojflppaaMade
import Derived.Test.YtaefjgjojflppaaOpens3
namespace Go.Proofs.Ytaefjgjojflppaa
open Go.ChangeShapes Go.WideShapes Go.ChangeAt Go.RowKit
set_option linter.unusedVariables false
set_option linter.unusedSimpArgs false

def eligI (its : List It) (l : List Lk) : List Int := (eligN its l its.length).map fun (i : Nat) => (i : Int)
theorem eligL_cells (its : List It) (l : List Lk) : eligL its l its.length = iCells (eligI its l) := by simp [eligL, eligI, iCells]
theorem beq_rfl_l' (l : List Int) : (l == l) = true := by simp
theorem eligI_le (its : List It) (l : List Lk) : (eligI its l).length ≤ its.length := by
  unfold eligI eligN
  rw [List.length_map]
  exact Nat.le_trans (List.length_filter_le _ _) (by simp)
theorem chosenL_le (N : Int) (xs : List Int) : (chosenL N xs).length ≤ xs.length := by
  unfold chosenL
  split
  · simp
  · split <;> simp
set_option maxHeartbeats 4000000 in
set_option maxRecDepth 100000 in
theorem pickForms_walk (A : Option Addr) (n c : Nat) (its : List It) (B : Option Addr) (m d : Nat) (l : List Lk) (N : Int) (P : Option Addr) (np pc : Nat) (ps : List Int) (C : Option Addr) (q qc : Nat) (ts : List Int) (w : World) (hD : ItsIn A n its w) (hE : LksIn B m l w) (hnc : n ≤ c) (hc : c ≤ 9223372036854775807) (hmd : m ≤ d) (hd : d ≤ 9223372036854775807) (hI : I64 N)
    (hP : IsIn P np ps w) (hnp : np ≤ pc) (hpc : pc ≤ 9223372036854775807) (hp44 : np ≤ 17592186044416)
    (hr : Rd w w.heap.size 1 C q (ts.map (Value.int .i64))) (hz : Ints ts) (hq : q ≤ qc) (hqc : qc ≤ 9223372036854775807) :
    Calls Try.prog 4 #[.slice A n c, .slice B m d, .int .i64 N, .slice P np pc, .slice C q qc] w fun e w' => e = .returned (.bool true) ∧ Below w.heap.size w w' := by
  have hD' : Ro w None_ (ItsIn A n its) := Rd.ro hD (Nat.le_refl _) (fun _ _ h => h)
  have hE' : Ro w None_ (LksIn B m l) := Rd.ro hE (Nat.le_refl _) (fun _ _ h => h)
  have hP' : Ro w None_ (IsIn P np ps) := Rd.ro hP (Nat.le_refl _) (fun _ _ h => h)
  by_cases hbig : 40 < n ∨ 40 < m
  · have K0 := Hold.begin_ w
    go_enter Try.func4, Try.ntmps4
    by_cases h6 : 40 < n
    · have h1 : decide ((n : Int) > 40) = true := by simp; omega
      go_wp2_with fail
      refine (known_any w).mono ?_
      rintro e w1 ⟨rfl, b1⟩
      go_wp2_with fail
      go_ret
      exact ⟨rfl, b1⟩
    · have h1 : decide ((n : Int) > 40) = false := by simp; omega
      have h2 : decide ((m : Int) > 40) = true := by simp; omega
      go_wp2_with fail
      refine (known_any w).mono ?_
      rintro e w1 ⟨rfl, b1⟩
      go_wp2_with fail
      go_ret
      exact ⟨rfl, b1⟩
  · have hn6 : n ≤ 40 := by omega
    have hm20 : m ≤ 40 := by omega
    have h1 : decide ((n : Int) > 40) = false := by simp; omega
    have h2 : decide ((m : Int) > 40) = false := by simp; omega
    have K0 := (((Hold.begin_ w).add (hP'.less (by simp [Mut]))).add (hE'.less (by simp [Mut, Hp.foot, None_]))).add (hD'.less (by simp [Mut, Hp.foot, None_]))
    clear hbig
    have HPL := hid (show ps.length = np from hP.len)
    go_enter Try.func4, Try.ntmps4
    go_wp2_with fail
    refine (new_any C q qc ts w hr hz hq hqc).mono ?_
    rintro e w1 ⟨T, rfl, hT, t1, b1⟩
    have K1 := K0.newTape b1 t1 hT (by simp [Mut, Hp.foot, None_])
    clear K0 b1 t1 hr hz
    go_wp2_with fail
    refine (made_any _ T 8 w1 K1.mutLt (K1.tp_ 0 rfl) (by simp [Mut, Hp.foot, None_]) (by omega)).mono ?_
    rintro e w2 ⟨A2, n2, c2, its2, B2, m2, d2, l2, rfl, hn2, hc2, hc22, hm2, hd2, hd22, hv2, r2, s2, t2, g2⟩
    have K2 := ((K1.callT 0 rfl g2 t2).add (s2.less (by simp [Mut, Hp.foot, None_]))).add (r2.less (by simp [Mut, Hp.foot, None_]))
    clear K1 r2 s2 t2 g2 hv2 hD' hE' hP' hD hE hP
    go_wp2_with fail
    refine (wmod_any N 9 w2 hI (by omega) (by omega)).mono ?_
    rintro e w3 ⟨rfl, rfl⟩
    have hm0 : 0 ≤ N % 9 := Int.emod_nonneg _ (by omega)
    have hm1 : N % 9 < 9 := Int.emod_lt_of_pos _ (by omega)
    generalize N % 9 = N2 at *
    have hI2 : I64 N2 := by unfold I64; omega
    have K3 := K2.alloc_cst #[.int .i64 N, .int .i64 N2] 3
    obtain ⟨g, hg⟩ : ∃ g, g = w2.heap.size := ⟨_, rfl⟩
    rw [← hg] at K3
    have HG := hid hg
    go_wp2_with fail
    rw [← hg]
    clear K2 hg
    go_loopw [41] (fun i wr => ∃ (k : Nat), k ≤ 2 ∧ i = .int .i64 k ∧ Hold None_ none w wr [.cst g 3 #[.int .i64 N, .int .i64 N2], .ro (ItsIn A2 n2 its2), .ro (LksIn B2 m2 l2), .tp T, .ro (ItsIn A n its), .ro (LksIn B m l), .ro (IsIn P np ps)]) (fun i _ => 2 - (intOf i).toNat)
    case atStart => exact ⟨0, by omega, rfl, K3⟩
    case round =>
      clear K3
      obtain ⟨k, hk, rfl, H⟩ := hrel
      by_cases hlt : k < 2
      · have hd1 : decide ((k : Int) < 2) = true := by simp; omega
        obtain ⟨x, hx, hIx⟩ : ∃ x, wr.cell? ⟨g, k, none⟩ = some (.int .i64 x) ∧ I64 x := by
          have hb := H.cst_ 0 rfl
          rcases (show k = 0 ∨ k = 1 by omega) with rfl | rfl
          · exact ⟨N, cell_of_row _ g 0 _ _ _ hb, hI⟩
          · exact ⟨N2, cell_of_row _ g 1 _ _ _ hb, hI2⟩
        go_wp2_with fail
        refine (choose_any _ wr H.mutLt x hIx P np pc hnp ps (H.ro 6 rfl) hp44).mono ?_
        rintro e w4 ⟨A4, n4, c4, rfl, hn4, _, _, r4, b4⟩
        have K4 := (H.call b4).add r4
        clear H b4 r4 hx
        obtain ⟨y, hy⟩ : ∃ y, y = chosenK x ps := ⟨_, rfl⟩
        rw [← hy]
        have HN4 : Hid (n4 ≤ 17592186044416) := hid (by have := chosenL_le x ps; have := HPL.out; omega)
        clear hn4
        have HY := hid hy; clear hy
        have hyy : (y != y) = false := by simp
        go_wp2_with fail
        refine (rchoose_any _ w4 K4.mutLt x hIx P np pc hnp ps (K4.ro 7 rfl) hp44).mono ?_
        rintro e w5 ⟨A5, n5, c5, rfl, hn5, _, _, r5, b5⟩
        rw [← HY.out]
        have K5 := (K4.call b5).add r5
        clear K4 b5 r5
        have HN5 : Hid (n5 ≤ 17592186044416) := hid (by have := chosenL_le x ps; have := HPL.out; omega)
        clear hn5
        go_wp2_with fail
        refine (eqInts_any _ A4 n4 c4 _ A5 n5 c5 _ (K5.ro 1 rfl).now (K5.ro 0 rfl).now HN4.out HN5.out).mono ?_
        rintro e w6 ⟨rfl, q6, rfl⟩
        rw [beq_rfl_l']
        have K6 := (K5.drewN q6).drop ((List.sublist_cons_self _ _).trans (List.sublist_cons_self _ _))
        clear K5
        generalize w5.drewN q6 = w7 at *
        go_wp2_with fail
        go_roundw
        case rel => exact ⟨k + 1, by omega, by go_num, K6⟩
        case measure => simp [intOf]; omega
      · obtain rfl : k = 2 := by omega
        have hd1 : decide (((2 : Nat) : Int) < 2) = false := by simp
        have HLr := hid (show its.length = n from (H.ro 4 rfl).now.len)
        have HLm := hid (show its2.length = n2 from (H.ro 1 rfl).now.len)
        go_wp2_with fail
        refine (elig_any _ _ H.mutLt A n c its B m d l (H.ro 4 rfl) (H.ro 5 rfl) (by omega) (by omega)).mono ?_
        rintro e wr1x ⟨A1x, n1x, c1x, rfl, hn1x, _, _, r1x, b1x⟩
        rw [eligL_cells] at hn1x r1x
        have K1x := (H.call b1x).add r1x
        clear b1x r1x H
        have HN1x : Hid (n1x ≤ 17592186044416) := hid (by rw [hn1x, iCells_len]; exact Nat.le_trans (eligI_le _ _) (by rw [HLr.out]; omega))
        clear hn1x
        go_wp2_with fail
        refine (rElig_any _ _ K1x.mutLt A n c its B m d l (K1x.ro 5 rfl) (K1x.ro 6 rfl) (by omega) (by omega)).mono ?_
        rintro e wr2x ⟨A2x, n2x, c2x, rfl, hn2x, _, _, r2x, b2x⟩
        rw [eligL_cells] at hn2x r2x
        have K2x := (K1x.call b2x).add r2x
        clear b2x r2x K1x
        have HN2x : Hid (n2x ≤ 17592186044416) := hid (by rw [hn2x, iCells_len]; exact Nat.le_trans (eligI_le _ _) (by rw [HLr.out]; omega))
        clear hn2x
        go_wp2_with fail
        refine (eqInts_any _ A1x n1x c1x _ A2x n2x c2x _ (K2x.ro 1 rfl).now (K2x.ro 0 rfl).now HN1x.out HN2x.out).mono ?_
        rintro e wr3x ⟨rfl, q3x, rfl⟩
        rw [beq_rfl_l']
        have K3x := K2x.drewN q3x
        clear K2x
        generalize wr2x.drewN q3x = wr4x at *
        go_wp2_with fail
        refine (elig_any _ _ K3x.mutLt A2 n2 c2 its2 B2 m2 d2 l2 (K3x.ro 3 rfl) (K3x.ro 4 rfl) (by omega) (by omega)).mono ?_
        rintro e wr1y ⟨A1y, n1y, c1y, rfl, hn1y, _, _, r1y, b1y⟩
        rw [eligL_cells] at hn1y r1y
        have K1y := (K3x.call b1y).add r1y
        clear b1y r1y K3x
        have HN1y : Hid (n1y ≤ 17592186044416) := hid (by rw [hn1y, iCells_len]; exact Nat.le_trans (eligI_le _ _) (by rw [HLm.out]; omega))
        clear hn1y
        go_wp2_with fail
        refine (rElig_any _ _ K1y.mutLt A2 n2 c2 its2 B2 m2 d2 l2 (K1y.ro 4 rfl) (K1y.ro 5 rfl) (by omega) (by omega)).mono ?_
        rintro e wr2y ⟨A2y, n2y, c2y, rfl, hn2y, _, _, r2y, b2y⟩
        rw [eligL_cells] at hn2y r2y
        have K2y := (K1y.call b2y).add r2y
        clear b2y r2y K1y
        have HN2y : Hid (n2y ≤ 17592186044416) := hid (by rw [hn2y, iCells_len]; exact Nat.le_trans (eligI_le _ _) (by rw [HLm.out]; omega))
        clear hn2y
        go_wp2_with fail
        refine (eqInts_any _ A1y n1y c1y _ A2y n2y c2y _ (K2y.ro 1 rfl).now (K2y.ro 0 rfl).now HN1y.out HN2y.out).mono ?_
        rintro e wr3y ⟨rfl, q3y, rfl⟩
        rw [beq_rfl_l']
        have K3y := K2y.drewN q3y
        clear K2y
        generalize wr2y.drewN q3y = wr4y at *
        go_wp2_with fail
        refine (elig_any _ _ K3y.mutLt A2 n2 c2 its2 B m d l (K3y.ro 5 rfl) (K3y.ro 9 rfl) (by omega) (by omega)).mono ?_
        rintro e wr1z ⟨A1z, n1z, c1z, rfl, hn1z, _, _, r1z, b1z⟩
        rw [eligL_cells] at hn1z r1z
        have K1z := (K3y.call b1z).add r1z
        clear b1z r1z K3y
        have HN1z : Hid (n1z ≤ 17592186044416) := hid (by rw [hn1z, iCells_len]; exact Nat.le_trans (eligI_le _ _) (by rw [HLm.out]; omega))
        clear hn1z
        go_wp2_with fail
        refine (rElig_any _ _ K1z.mutLt A2 n2 c2 its2 B m d l (K1z.ro 6 rfl) (K1z.ro 10 rfl) (by omega) (by omega)).mono ?_
        rintro e wr2z ⟨A2z, n2z, c2z, rfl, hn2z, _, _, r2z, b2z⟩
        rw [eligL_cells] at hn2z r2z
        have K2z := (K1z.call b2z).add r2z
        clear b2z r2z K1z
        have HN2z : Hid (n2z ≤ 17592186044416) := hid (by rw [hn2z, iCells_len]; exact Nat.le_trans (eligI_le _ _) (by rw [HLm.out]; omega))
        clear hn2z
        go_wp2_with fail
        refine (eqInts_any _ A1z n1z c1z _ A2z n2z c2z _ (K2z.ro 1 rfl).now (K2z.ro 0 rfl).now HN1z.out HN2z.out).mono ?_
        rintro e wr3z ⟨rfl, q3z, rfl⟩
        rw [beq_rfl_l']
        have K3z := K2z.drewN q3z
        clear K2z
        generalize wr2z.drewN q3z = wr4z at *
        go_wp2_with fail
        refine (known_any _).mono ?_
        rintro e w9 ⟨rfl, b9⟩
        have K9 := K3z.call b9
        go_wp2_with fail
        go_ret
        exact ⟨rfl, K9.below⟩
set_option maxRecDepth 100000 in
theorem pickForms_lifted (os : Os) (started : os.Started) (H : Type) (enc : TypeId × Value → H) :
    ReturnsInHanded {} Try.checked os 4 .any (Rows.pickFormsSpec.pre6 enc Try.prog Try.f4 Rows.pickFormsRow.domain false) (Rows.pickFormsSpec.post enc Try.prog Try.f4 false true false false) := by
  refine returnsInHanded_of_change_sized (C := Try.checked) own started (by kernel_rfl) Try.func4
    (ChangeSpec.witness6 (enc := enc) (C := Try.checked) false ⟨#[], #[.slice none 0 0, .slice none 0 0, .int .i64 0, .slice none 0 0, .slice none 0 0], []⟩ 8 (by kernel_rfl) (by kernel_rfl) (by kernel_rfl) (by kernel_rfl)) ?_
  intro W base args ds gs before hval0 hW _ hsz0 _
  have hsz : (DataW.weightsEach Try.prog (Try.f4.params.toList ++ Rows.pickFormsSpec.plain.varTypes Try.prog) (ds ++ gs)).all (· ≤ reachBytes) = true := hsz0
  have hval : ∀ (j : Nat) t v, Try.f4.params[j]? = some t → args[j]? = some v → Value.okWide Try.prog W .any base t v := hval0
  have hW' := hW
  obtain ⟨p, q, hA0, hV, rfl, hfz, hnd⟩ := hW
  have hA : DataW.TrodAll enc Try.prog W 0 (fun _ => true) true Try.f4.params.toList args.toList ds p := hA0
  rw [Try.params4] at hA hval hsz
  obtain ⟨v0, vs0, d0, ds0, p0, q0, hargs, rfl, rfl, h0, r0⟩ := trodAll_cons hA
  obtain ⟨v1, vs1, d1, ds1, p1, q1, rfl, rfl, rfl, h1, r1⟩ := trodAll_cons r0
  obtain ⟨v2, vs2, d2, ds2, p2, q2, rfl, rfl, rfl, h2, r2⟩ := trodAll_cons r1
  obtain ⟨v3, vs3, d3, ds3, p3, q3, rfl, rfl, rfl, h3, r3⟩ := trodAll_cons r2
  obtain ⟨v4, vs4, d4, ds4, p4, q4, rfl, rfl, rfl, h4, r4⟩ := trodAll_cons r3
  obtain ⟨rfl, rfl, rfl⟩ := trodAll_nil r4
  obtain rfl : args = #[v0, v1, v2, v3, v4] := by cases args; simp_all
  obtain ⟨rfl, rfl⟩ := trodVars_none hV
  obtain ⟨A0, n0, c0, its0, rfl, k0, l0, m0⟩ := open_items Try.underlying23 Try.underlying27 (by kernel_rfl) (by kernel_rfl) Try.underlying9 Try.underlying3 Try.underlying25 Try.underlying25 (hval 0 23 v0 rfl rfl) h0
  obtain ⟨A1, n1, c1, lk1, rfl, k1, l1, m1⟩ := open_links Try.underlying24 Try.underlying30 (by kernel_rfl) (by kernel_rfl) Try.underlying9 Try.underlying9 (hval 1 24 v1 rfl rfl) h1
  obtain ⟨a2, rfl, rfl, rfl, w2⟩ := open_int Try.underlying3 (hval 2 3 v2 rfl rfl) h2
  obtain ⟨A3, n3, c3, zs3, rfl, k3, z3, l3, m3, e3⟩ := open_i64s Try.underlying33 Try.underlying3 (by kernel_rfl) (hval 3 33 v3 rfl rfl) h3
  have s3 := reach_slice hsz (j := 3) (n := n3) (by_ := 8) rfl rfl Try.underlying33 (by kernel_rfl) e3 l3
  obtain ⟨A4, n4, c4, zs4, rfl, k4, z4, l4, m4, e4⟩ := open_i64s Try.underlying33 Try.underlying3 (by kernel_rfl) (hval 4 33 v4 rfl rfl) h4
  have s4 := reach_slice hsz (j := 4) (n := n4) (by_ := 8) rfl rfl Try.underlying33 (by kernel_rfl) e4 l4
  refine (pickForms_walk _ _ _ _ _ _ _ _ _ _ _ _ zs3 _ _ _ _ W k0 k1 l0 (by unfold maxLen at m0; omega) l1 (by unfold maxLen at m1; omega) (i64_of_wf w2) k3 l3 m3 (by omega) k4 z4 l4 m4).mono fun e W' ⟨he, hb⟩ => ?_
  exact ⟨_, he, law_post rfl laidOut (by kernel_rfl) (by kernel_rfl) Try.underlying4 rfl hW' hb⟩

theorem pickForms_holds : Rows.PickFormsSaid :=
  OpenClaim.holds_of_wide 4 Try.f4 rfl rfl rfl rfl rfl rfl rfl ⟨rfl, rfl, rfl, rfl, rfl⟩ rfl rfl rfl rfl rfl (by kernel_rfl) Try.func4 (by kernel_rfl)
    (of_decide_eq_true (by kernel_rfl)) (by unfold Func.isWrapper; first | (rw [if_pos (by decide +kernel)]; kernel_rfl) | (rw [if_neg (by decide +kernel)]; exact ⟨rfl, rfl⟩))
    (fun os started H enc _ => pickForms_lifted os started H enc)
#print axioms pickForms_holds
end Go.Proofs.Ytaefjgjojflppaa

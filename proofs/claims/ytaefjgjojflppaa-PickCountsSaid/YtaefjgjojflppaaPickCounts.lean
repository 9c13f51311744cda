/- PickCounts answers true, for every number. No condition. -/
import Derived.Test.YtaefjgjojflppaaLawBase
import Derived.Test.YtaefjgjojflppaaEqL
import Derived.Test.YtaefjgjojflppaaMade
import Derived.Test.YtaefjgjojflppaaOpens3
namespace Go.Proofs.Ytaefjgjojflppaa
open Go.ChangeShapes Go.WideShapes Go.ChangeAt Go.RowKit
set_option linter.unusedVariables false
set_option linter.unusedSimpArgs false

theorem conv1 (W : World) (x : Int) : (convert 28 9 (.slice (some ⟨W.heap.size, 0, none⟩) 1 1)).run Try.prog (W.alloc (.cells #[.int .u8 x] 5)) = .ok (.string (strOfNums [x])) (W.alloc (.cells #[.int .u8 x] 5)) :=
  run_convert_bytes_arg _ _ _ Try.underlying28 Try.underlying5 W.heap.size 0 1 1 [x] rfl (fun i hi => by
    obtain rfl : i = 0 := by omega
    exact (Blk.new W 5 #[.int .u8 x]).cell 0) _ Try.underlying9
theorem conv2 (W : World) (o : Obj) (x : Int) : (convert 28 9 (.slice (some ⟨W.heap.size + 1, 0, none⟩) 1 1)).run Try.prog ((W.alloc o).alloc (.cells #[.int .u8 x] 5)) = .ok (.string (strOfNums [x])) ((W.alloc o).alloc (.cells #[.int .u8 x] 5)) := by
  have := conv1 (W.alloc o) x
  rwa [World.size_alloc] at this
def chS (i : Nat) : ByteArray := strOfNums [97 + (i : Int)]
def iF (k : Nat) : List It := (List.range k).map fun (i : Nat) => ⟨⟨#[97]⟩, (i : Int), none, 0, 0, none, 0, 0⟩
def cF (k : Nat) : List It := (List.range k).map fun i => ⟨chS i, 0, none, 0, 0, none, 0, 0⟩
def lR (i a p : Nat) : List Lk := (List.range p).map fun j => ⟨chS i, chS (a + j)⟩
def lF (n k : Nat) : List Lk := (List.range k).flatMap fun i => lR i (i + 1) (n - (i + 1))
def fac : Nat → Nat | 0 => 1 | k + 1 => fac k * (k + 1)
theorem iF_succ (k : Nat) : itCells (iF (k + 1)) = itCells (iF k) ++ [.string ⟨#[97]⟩, .int .i64 (k : Int), .slice none 0 0, .slice none 0 0] := by simp [iF, itCells, It.cells, List.range_succ]
theorem cF_succ (k : Nat) : itCells (cF (k + 1)) = itCells (cF k) ++ [.string (chS k), .int .i64 0, .slice none 0 0, .slice none 0 0] := by simp [cF, itCells, It.cells, List.range_succ]
theorem lR_succ (o : List Lk) (i a p : Nat) : lkCells (o ++ lR i a (p + 1)) = lkCells (o ++ lR i a p) ++ [.string (chS i), .string (chS (a + p))] := by simp [lR, lkCells, Lk.cells, List.range_succ]
theorem lF_succ (n k : Nat) : lF n (k + 1) = lF n k ++ lR k (k + 1) (n - (k + 1)) := by simp [lF, List.range_succ]
theorem count_perm (n : Nat) (h : n ≤ 5) : (ordL (ordF (iF n) []) n 1000).length = fac n := by
  rcases (show n = 0 ∨ n = 1 ∨ n = 2 ∨ n = 3 ∨ n = 4 ∨ n = 5 by omega) with rfl | rfl | rfl | rfl | rfl | rfl <;> kernel_rfl
theorem count_chain (n : Nat) (h : n ≤ 5) : (ordL (ordF (cF n) (lF n n)) n 1000).length = 1 := by
  rcases (show n = 0 ∨ n = 1 ∨ n = 2 ∨ n = 3 ∨ n = 4 ∨ n = 5 by omega) with rfl | rfl | rfl | rfl | rfl | rfl <;> kernel_rfl
theorem count_elig (n : Nat) (h : n ≤ 5) : (eligL (iF n) (lF n n) (iF n).length).length = n := by
  rcases (show n = 0 ∨ n = 1 ∨ n = 2 ∨ n = 3 ∨ n = 4 ∨ n = 5 by omega) with rfl | rfl | rfl | rfl | rfl | rfl <;> kernel_rfl
theorem fac_wrap (k : Nat) (h : k < 5) : IntKind.i64.wrap ((fac k : Int) * ((k : Int) + 1)) = (fac (k + 1) : Int) := by
  rcases (show k = 0 ∨ k = 1 ∨ k = 2 ∨ k = 3 ∨ k = 4 by omega) with rfl | rfl | rfl | rfl | rfl <;> decide
abbrev CL (A1 : Option Addr) (c1 : Nat) (A2 : Option Addr) (c2 : Nat) (A3 : Option Addr) (q c3 k1 k2 : Nat) (l : List Lk) : List Hp :=
  [.own 27 4 (.slice A1 k1 c1) k1 (itCells (iF k1)), .own 27 4 (.slice A2 k2 c2) k2 (itCells (cF k2)), .own 30 2 (.slice A3 q c3) q (lkCells l)]

set_option maxHeartbeats 4000000 in
set_option maxRecDepth 100000 in
theorem pickCounts_walk (N : Int) (w : World) (hI : I64 N) :
    Calls Try.prog 3 #[.int .i64 N] w fun e w' => e = .returned (.bool true) ∧ Below w.heap.size w w' := by
  have kc := conv1
  have kc2 := conv2
  go_enter Try.func3, Try.ntmps3
  go_wp2_with fail
  refine (wmod_any N 6 w hI (by omega) (by omega)).mono ?_
  rintro e w3 ⟨rfl, rfl⟩
  have hm0 : 0 ≤ N % 6 := Int.emod_nonneg _ (by omega)
  have hm1 : N % 6 < 6 := Int.emod_lt_of_pos _ (by omega)
  generalize N % 6 = N2 at *
  obtain ⟨n, rfl⟩ := Int.eq_ofNat_of_zero_le hm0
  have hn5 : n ≤ 5 := by omega
  clear hm0 hm1
  have K0 := (((Hold.begin_ w).nil 30 2).nil 27 4).nil 27 4
  go_wp2_with fail
  go_loopw [3, 4, 5, 6, 7] (fun a b cc dd i wr => ∃ (k : Nat) (A1 : Option Addr) (c1 : Nat) (A2 : Option Addr) (c2 : Nat) (A3 : Option Addr) (q c3 : Nat), k ≤ n ∧ q ≤ 5 * k ∧ a = .slice A1 k c1 ∧ b = .slice A2 k c2 ∧ cc = .slice A3 q c3 ∧ dd = .int .i64 (fac k : Nat) ∧ i = .int .i64 k ∧ Hold None_ none w wr (CL A1 c1 A2 c2 A3 q c3 k k (lF n k))) (fun _ _ _ _ i _ => n - (intOf i).toNat)
  case atStart => exact ⟨0, none, 0, none, 0, none, 0, 0, by omega, by omega, rfl, rfl, rfl, rfl, rfl, K0⟩
  case round =>
    clear K0
    obtain ⟨k, A1, c1, A2, c2, A3, q, c3, hk, hq, rfl, rfl, rfl, rfl, rfl, H⟩ := hrel
    by_cases hlt : k < n
    · have hd1 : decide ((k : Int) < (n : Int)) = true := by simp; omega
      have hcv : IntKind.u8.wrap (97 + (k : Int)) = 97 + (k : Int) := by unfold IntKind.wrap; simp [IntKind.signed, IntKind.bits]; omega
      go_wp2_with (first
        | (at_builtin; refine wpList_appH H 0 rfl Try.elItem #[.string ⟨#[97]⟩, .int .i64 k, .slice none 0 0, .slice none 0 0] rfl (.tmp 16) (.tmp 19) rfl rfl wr.heap.size rfl rfl rfl (by intro z hz; simp at hz; rcases hz with rfl | rfl | rfl | rfl <;> rfl) (by omega) (by omega) ?_; intro g5 cap5 w5 hc5 hm5 H5; have H6 := H5.alloc_cst #[.int .u8 (97 + (k : Int))] 5)
        | (at_builtin; refine wpList_appH H6 2 rfl Try.elItem #[.string (chS k), .int .i64 0, .slice none 0 0, .slice none 0 0] rfl (.tmp 21) (.tmp 28) rfl rfl (w5.heap.size + 1) (by simp) rfl rfl (by intro z hz; simp at hz; rcases hz with rfl | rfl | rfl | rfl <;> rfl) (by omega) (by omega) ?_; intro g7 cap7 w7 hc7 hm7 H7)
        | fail)
      have e1 : itCells (iF k) ++ (#[Value.string ⟨#[97]⟩, .int .i64 (k : Int), .slice none 0 0, .slice none 0 0]).toList = itCells (iF (k + 1)) := (iF_succ k).symm
      have e2 : itCells (cF k) ++ (#[Value.string (chS k), .int .i64 0, .slice none 0 0, .slice none 0 0]).toList = itCells (cF (k + 1)) := (cF_succ k).symm
      simp only [CL, List.set_cons_zero, List.set_cons_succ] at H7
      rw [e1, e2] at H7
      have H8 : Hold None_ none w w7 (CL (some ⟨g5, 0, none⟩) cap5 (some ⟨g7, 0, none⟩) cap7 A3 q c3 (k + 1) (k + 1) (lF n k)) := H7.drop (List.sublist_cons_self _ _)
      clear H H5 H6 H7 e1 e2 hm5 hm7
      go_loopw [5, 8] (fun cc j wr => ∃ (p : Nat) (A3 : Option Addr) (q c3 : Nat), k + 1 + p ≤ n ∧ q ≤ 5 * k + p ∧ cc = .slice A3 q c3 ∧ j = .int .i64 ((k + 1 + p : Nat) : Int) ∧ Hold None_ none w wr (CL (some ⟨g5, 0, none⟩) cap5 (some ⟨g7, 0, none⟩) cap7 A3 q c3 (k + 1) (k + 1) (lF n k ++ lR k (k + 1) p))) (fun _ j _ => n - (intOf j).toNat)
      case atStart => exact ⟨0, A3, q, c3, by omega, by omega, rfl, by simp, by simpa [lR] using H8⟩
      case round =>
        clear H8
        obtain ⟨p, A3, q, c3, hp, hq, rfl, rfl, H⟩ := hrel
        by_cases hlt2 : k + 1 + p < n
        · have hd2 : decide (((k + 1 + p : Nat) : Int) < (n : Int)) = true := by simp; omega
          have hcw : IntKind.u8.wrap (97 + ((k + 1 + p : Nat) : Int)) = 97 + ((k + 1 + p : Nat) : Int) := by unfold IntKind.wrap; simp [IntKind.signed, IntKind.bits]; omega
          have HK := (H.alloc_cst #[.int .u8 (97 + (k : Int))] 5).alloc_cst #[.int .u8 (97 + ((k : Int) + 1 + (p : Int)))] 5
          go_wp2_with (first
            | (at_builtin; refine wpList_appH HK 4 rfl Try.elLink #[.string (strOfNums [97 + (k : Int)]), .string (strOfNums [97 + ((k : Int) + 1 + (p : Int))])] rfl (.tmp 37) (.tmp 49) rfl rfl (wr.heap.size + 2) (by simp) rfl rfl (by intro z hz; simp at hz; rcases hz with rfl | rfl <;> rfl) (by omega) (by omega) ?_; intro g9 cap9 w9 hc9 hm9 H9)
            | fail)
          have e3 : lkCells (lF n k ++ lR k (k + 1) p) ++ (#[Value.string (strOfNums [97 + (k : Int)]), .string (strOfNums [97 + ((k : Int) + 1 + (p : Int))])]).toList = lkCells (lF n k ++ lR k (k + 1) (p + 1)) := by rw [lR_succ]; simp [chS]
          simp only [CL, List.set_cons_zero, List.set_cons_succ] at H9
          rw [e3] at H9
          go_roundw
          case rel => exact ⟨p + 1, _, q + 1, cap9, by omega, by omega, rfl, by go_num, H9.drop ((List.sublist_cons_self _ _).trans (List.sublist_cons_self _ _))⟩
          case measure => simp [intOf]; omega
        · have hp2 : p = n - (k + 1) := by omega
          have hd2 : decide (((k + 1 + p : Nat) : Int) < (n : Int)) = false := by simp; omega
          have hfw := fac_wrap k (by omega)
          go_wp2_with fail
          go_roundw
          case rel => exact ⟨k + 1, _, cap5, _, cap7, A3, q, c3, by omega, by omega, rfl, rfl, rfl, rfl, by go_num, by rw [lF_succ, ← hp2]; exact H⟩
          case measure => simp [intOf]; omega
    · obtain rfl : k = n := by omega
      have hd1 : decide ((k : Int) < (k : Int)) = false := by simp
      have KS := ((H.sealRow 0 rfl).sealRow 1 rfl).sealRow 2 rfl
      simp only [CL, List.set_cons_zero, List.set_cons_succ] at KS
      have KN := KS.add (S := LksIn none 0 []) ro_nil
      clear H KS
      go_wp2_with fail
      refine (porders_any _ _ KN.mutLt A1 k c1 (iF k) none 0 0 [] 1000 (KN.ro 1 rfl) (KN.ro 0 rfl) (by omega) (by omega) (by omega) (by unfold I64; omega)).mono ?_
      rintro e w5 ⟨O, m5, c5, ovs, rfl, hm5, hc5, hc52, r5, o5, b5⟩
      rw [count_perm k (by omega)] at hm5
      subst hm5
      have K5 := KN.call b5
      clear r5 o5 b5 KN
      go_wp2_with fail
      refine (porders_any _ _ K5.mutLt A2 k c2 (cF k) A3 q c3 (lF k k) 1000 (K5.ro 2 rfl) (K5.ro 3 rfl) (by omega) (by omega) (by omega) (by unfold I64; omega)).mono ?_
      rintro e w6 ⟨O6, m6, c6, ovs6, rfl, hm6, hc6, hc62, r6, o6, b6⟩
      rw [count_chain k (by omega)] at hm6
      subst hm6
      have K6 := K5.call b6
      clear r6 o6 b6 K5
      go_wp2_with fail
      refine (elig_any _ _ K6.mutLt A1 k c1 (iF k) A3 q c3 (lF k k) (K6.ro 1 rfl) (K6.ro 3 rfl) (by omega) (by omega)).mono ?_
      rintro e w7 ⟨A7, n7, c7, rfl, hn7, hc7, hc72, r7, b7⟩
      rw [count_elig k (by omega)] at hn7
      subst hn7
      have K7 := K6.call b7
      clear r7 b7 K6
      go_wp2_with fail
      refine (known_any _).mono ?_
      rintro e w9 ⟨rfl, b9⟩
      have K9 := K7.call b9
      go_wp2_with fail
      go_ret
      exact ⟨rfl, K9.below⟩
set_option maxRecDepth 100000 in
theorem pickCounts_lifted (os : Os) (started : os.Started) (H : Type) (enc : TypeId × Value → H) :
    ReturnsInHanded {} Try.checked os 3 .any (Rows.pickCountsSpec.pre6 enc Try.prog Try.f3 Rows.pickCountsRow.domain false) (Rows.pickCountsSpec.post enc Try.prog Try.f3 false true false false) := by
  refine returnsInHanded_of_change_sized (C := Try.checked) own started (by kernel_rfl) Try.func3
    (ChangeSpec.witness6 (enc := enc) (C := Try.checked) false ⟨#[], #[.int .i64 0], []⟩ 8 (by kernel_rfl) (by kernel_rfl) (by kernel_rfl) (by kernel_rfl)) ?_
  intro W base args ds gs before hval0 hW _ hsz0 _
  have hsz : (DataW.weightsEach Try.prog (Try.f3.params.toList ++ Rows.pickCountsSpec.plain.varTypes Try.prog) (ds ++ gs)).all (· ≤ reachBytes) = true := hsz0
  have hval : ∀ (j : Nat) t v, Try.f3.params[j]? = some t → args[j]? = some v → Value.okWide Try.prog W .any base t v := hval0
  have hW' := hW
  obtain ⟨p, q, hA0, hV, rfl, hfz, hnd⟩ := hW
  have hA : DataW.TrodAll enc Try.prog W 0 (fun _ => true) true Try.f3.params.toList args.toList ds p := hA0
  rw [Try.params3] at hA hval hsz
  obtain ⟨v0, vs0, d0, ds0, p0, q0, hargs, rfl, rfl, h0, r0⟩ := trodAll_cons hA
  obtain ⟨rfl, rfl, rfl⟩ := trodAll_nil r0
  obtain rfl : args = #[v0] := by cases args; simp_all
  obtain ⟨rfl, rfl⟩ := trodVars_none hV
  obtain ⟨a0, rfl, rfl, rfl, w0⟩ := open_int Try.underlying3 (hval 0 3 v0 rfl rfl) h0
  refine (pickCounts_walk _ W (i64_of_wf w0)).mono fun e W' ⟨he, hb⟩ => ?_
  exact ⟨_, he, law_post rfl laidOut (by kernel_rfl) (by kernel_rfl) Try.underlying4 rfl hW' hb⟩

theorem pickCounts_holds : Rows.PickCountsSaid :=
  OpenClaim.holds_of_wide 3 Try.f3 rfl rfl rfl rfl rfl rfl rfl ⟨rfl, rfl, rfl, rfl, rfl⟩ rfl rfl rfl rfl rfl (by kernel_rfl) Try.func3 (by kernel_rfl)
    (of_decide_eq_true (by kernel_rfl)) (by unfold Func.isWrapper; first | (rw [if_pos (by decide +kernel)]; kernel_rfl) | (rw [if_neg (by decide +kernel)]; exact ⟨rfl, rfl⟩))
    (fun os started H enc _ => pickCounts_lifted os started H enc)
#print axioms pickCounts_holds
end Go.Proofs.Ytaefjgjojflppaa

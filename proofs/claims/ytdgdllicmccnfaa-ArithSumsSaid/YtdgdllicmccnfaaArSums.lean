/- ArithSums answers true for every list of 64-bit numbers and every tape: Sum returns what the reference returns, and the order of a list does not matter. No condition. -/
import Derived.Test.YtdgdllicmccnfaaLawBase
import Derived.Test.YtdgdllicmccnfaaArKnown
import Derived.Test.YtdgdllicmccnfaaArRefSum
import Derived.Test.YtdgdllicmccnfaaTape
import Derived.Test.YtdgdllicmccnfaaApp
import Derived.Test.YtdgdllicmccnfaaOpens
namespace Go.Proofs.Ytdgdllicmccnfaa
open Go.ChangeShapes Go.WideShapes Go.ChangeAt Go.RowKit
set_option linter.unusedVariables false

theorem Try.info64 : (Try.prog.info? 2).map (fun i => (i.zero, i.size, i.bytes)) = some (some (.int .i64 0), 1, 8) := by kernel_rfl
theorem isum_rev (l : List Int) : isum l.reverse = isum l := by
  unfold isum
  rw [List.foldl_reverse]
  have h : ∀ (l : List Int) (s : Int), l.foldr (fun x y => y + x) s = l.foldl (· + ·) s := by
    intro l
    induction l with
    | nil => intro s; rfl
    | cons x r ih =>
      intro s
      simp only [List.foldr_cons, List.foldl_cons, ih]
      have h2 : ∀ (r : List Int) (a b : Int), r.foldl (· + ·) (a + b) = r.foldl (· + ·) a + b := by
        intro r
        induction r with
        | nil => intro a b; rfl
        | cons y r ih2 => intro a b; simp only [List.foldl_cons]; rw [show a + b + y = (a + y) + b from by omega, ih2]
      rw [h2]
  exact h l 0

/-- An element of the list of lists: a slice of 64-bit numbers that lies below block B. -/
def El (w : World) (B : Nat) (v : Value) : Prop :=
  ∃ A n c zs, v = .slice A n c ∧ Rd w B 1 A n (zs.map (Value.int .i64)) ∧ Ints zs ∧ n * 8 ≤ 140737488355328

set_option maxHeartbeats 2000000 in
theorem sums_walk (A : Option Addr) (n c : Nat) (zs : List Int) (A' : Option Addr) (n' c' : Nat) (ts : List Int) (w : World) (hr : Rd w w.heap.size 1 A n (zs.map (Value.int .i64))) (hz : Ints zs) (hn : n * 8 ≤ 140737488355328)
    (hr' : Rd w w.heap.size 1 A' n' (ts.map (Value.int .i64))) (hz' : Ints ts) (hn' : n' ≤ c') (hc' : c' ≤ 9223372036854775807) :
    Calls Try.prog 3 #[.slice A n c, .slice A' n' c'] w fun e w' => e = .returned (.bool true) ∧ Below w.heap.size w w' := by
  go_enter Try.func3, Try.ntmps3
  go_wp2_with fail
  refine (new_any A' n' c' ts w hr' hz' hn' hc').mono ?_
  rintro e w1 ⟨T, rfl, hT, t1, b1⟩
  go_wp2_with fail
  refine (next_any T 8 w1 t1 (by omega) (by omega)).mono ?_
  rintro e w2 ⟨r, rfl, r0, r1, t2, g2⟩
  have b2 : Below w.heap.size w w2 := b1.grown g2 b1.size (fun k h => by cases h; exact hT)
  clear g2 b1 t1
  obtain ⟨r, rfl⟩ := Int.eq_ofNat_of_zero_le r0
  go_wp2_with fail
  go_loopw [6, 7] (fun v i wr => ∃ (ms : List Int) (j : Nat), i = .int .i64 j ∧ ms.length + j ≤ 7 ∧ wr.ownsRow (T + 1) 2 1 v ms.length (ms.map (Value.int .i64)) ∧ Ints ms ∧ Tp wr T ∧ Below w.heap.size w wr) (fun _ i _ => (intOf i).toNat)
  case atStart => exact ⟨[], r, rfl, by simp; omega, World.ownsRow_nil _ _ _ _, (fun _ h => nomatch h), t2, b2⟩
  case round =>
    obtain ⟨ms, j, rfl, hj, hown, hms, tr, br⟩ := hrel
    clear t2 b2 r1
    by_cases hlt : 0 < j
    · go_wp2_with fail
      refine (number_any T wr tr).mono ?_
      rintro e w3 ⟨x, rfl, hx, t3, g3⟩
      have hw : T < wr.heap.size := tr.lt
      have hown3 : w3.ownsRow (T + 1) 2 1 _ ms.length (ms.map (Value.int .i64)) := hown.kept g3 (by
        cases hb : Value.ownBlock _ with
        | none => exact .inl rfl
        | some g => right; have := (hown.lt g hb).1; intro e; injection e with e; omega)
      have b3 : Below w.heap.size w w3 := br.grown g3 br.size (fun k h => by cases h; exact hT)
      have hT3 : T < w3.heap.size := t3.lt
      have HX := hid hx; have HM := hid hms
      clear hown br tr g3 hx hms
      go_wp2_with (at_builtin; go_must (refine wpList_app1 w3 #[.int .i64 x] rfl (.tmp 26) (.tmp 29) 22 rfl (T + 1) 2 1 8 _ Try.underlying22 Try.info64 rfl (by omega) _ _ _ rfl hown3 rfl rfl (by intro u hu; simp at hu; subst hu; rfl) (by omega) (by omega) (by omega) ?_); intro v' w4 hown4 g4 b4 _)
      go_roundw
      case rel =>
        refine ⟨ms ++ [x], j - 1, ?_, by simp; omega, by simpa using hown4, ?_, t3.below b4 (by omega), b3.trans (b4.mono (by omega))⟩
        · have : ((j - 1 : Nat) : Int) = (j : Int) - 1 := by omega
          rw [this]
        · intro y hy
          rcases List.mem_append.1 hy with h | h
          · exact HM.out y h
          · simp at h; subst h; exact HX.out
      case measure => simp [intOf]; omega
    · obtain ⟨Am, cm, rfl⟩ := own_form hown
      have rm := Rd.of_own hown
      have rl : Rd wr w.heap.size 1 A n (zs.map (Value.int .i64)) := hr.below br (Nat.le_refl _)
      clear hown tr
      go_wp2_with fail
      clear hlt
      have hB : w.heap.size ≤ wr.heap.size := br.size
      have e0 : El (wr.alloc (.cells #[.slice A n c, .slice Am ms.length cm] 22)) wr.heap.size (.slice A n c) := ⟨A, n, c, zs, rfl, (rl.more hB).alloc (Nat.le_refl _) _, hz, hn⟩
      have e1 : El (wr.alloc (.cells #[.slice A n c, .slice Am ms.length cm] 22)) wr.heap.size (.slice Am ms.length cm) := ⟨Am, _, cm, ms, rfl, rm.alloc (Nat.le_refl _) _, hms, by omega⟩
      have c0 : (wr.alloc (.cells #[.slice A n c, .slice Am ms.length cm] 22)).cell? ⟨wr.heap.size, 0, none⟩ = some (.slice A n c) := cell_of_row _ wr.heap.size 0 _ _ _ (heap_alloc_new wr _)
      have c1 : (wr.alloc (.cells #[.slice A n c, .slice Am ms.length cm] 22)).cell? ⟨wr.heap.size, 1, none⟩ = some (.slice Am ms.length cm) := cell_of_row _ wr.heap.size 1 _ _ _ (heap_alloc_new wr _)
      have b5 : Below w.heap.size w (wr.alloc (.cells #[.slice A n c, .slice Am ms.length cm] 22)) := br.alloc hB _
      have hB2 : wr.heap.size < (wr.alloc (.cells #[.slice A n c, .slice Am ms.length cm] 22)).heap.size := by simp
      generalize wr.alloc (.cells #[.slice A n c, .slice Am ms.length cm] 22) = w5 at *
      generalize wr.heap.size = B2 at *
      clear rm rl br
      have hel : ∀ k, k < 2 → ∃ A1 n1 c1 zs1, w5.cell? ⟨B2, k, none⟩ = some (.slice A1 n1 c1) ∧ Rd w5 B2 1 A1 n1 (zs1.map (Value.int .i64)) ∧ Ints zs1 ∧ n1 * 8 ≤ 140737488355328 := by
        intro k hk
        obtain ⟨x1, x2, x3, x4, x5, x6, x7, x8⟩ := e0
        obtain ⟨y1, y2, y3, y4, y5, y6, y7, y8⟩ := e1
        rcases (show k = 0 ∨ k = 1 by omega) with rfl | rfl
        · exact ⟨x1, x2, x3, x4, by rw [c0, x5], x6, x7, x8⟩
        · exact ⟨y1, y2, y3, y4, by rw [c1, y5], y6, y7, y8⟩
      have HE := hid hel
      clear hel e0 e1 c0 c1 hms hr hr' hz hz'
      clear wr
      go_loopw [35] (fun i wr => ∃ k : Nat, k ≤ 2 ∧ i = .int .i64 k ∧ Below w5.heap.size w5 wr) (fun i _ => 2 - (intOf i).toNat)
      case atStart => exact ⟨0, by omega, rfl, Below.refl _ _⟩
      case round =>
        obtain ⟨k, hk, rfl, br⟩ := hrel
        by_cases hlt : k < 2
        · obtain ⟨A1, n1, c1, zs1, hc1, hr1, hz1, hn1⟩ := HE.out k hlt
          have hcw : wr.cell? ⟨B2, k, none⟩ = some (.slice A1 n1 c1) := (br.cell (p := ⟨B2, k, none⟩) hB2).trans hc1
          have hl1 : zs1.length = n1 := by simpa using hr1.1
          have HL := hid hl1; clear hl1 hc1
          go_wp2_with fail
          obtain ⟨wo, rfl⟩ : ∃ wo : World, wo = wr := ⟨_, rfl⟩
          go_loopw [10, 11] (fun v i wr => ∃ (j : Nat), j ≤ n1 ∧ i = .int .i64 ((n1 : Int) - 1 - j) ∧ wr.ownsRow w5.heap.size 2 1 v j ((zs1.reverse.take j).map (Value.int .i64)) ∧ Below w5.heap.size w5 wr) (fun _ i _ => (intOf i + 1).toNat)
          case atStart => exact ⟨0, by omega, by go_num, World.ownsRow_nil _ _ _ _, br⟩
          case round =>
            obtain ⟨j, hj, rfl, hown, bq⟩ := hrel
            clear br hcw
            by_cases hjt : j < n1
            · obtain ⟨b, o, rfl, hbb, hcc⟩ := hr1.at1 (k := n1 - 1 - j) (by omega)
              rw [ints_get _ _ _ (by rw [HL.out]; omega)] at hcc
              have hcr : wr.cell? ⟨b, o + (n1 - 1 - j), none⟩ = some (.int .i64 (zs1.getD (n1 - 1 - j) 0)) := (bq.cell (by simp; omega)).trans hcc
              obtain ⟨x, hx⟩ : ∃ x, x = zs1.getD (n1 - 1 - j) 0 := ⟨_, rfl⟩
              rw [← hx] at hcr
              have HN : Hid (zs1.reverse.take (j + 1) = zs1.reverse.take j ++ [x]) := by
                unfold Hid
                rw [take_snoc _ j 0 (by rw [List.length_reverse, HL.out]; omega), hx]
                congr 2
                simp only [List.getD]
                rw [List.getElem?_reverse (by rw [HL.out]; omega), HL.out]
              clear hx hcc
              go_wp2_with (at_builtin; go_must (refine wpList_app1 wr #[.int .i64 x] rfl (.tmp 46) (.tmp 51) 22 rfl w5.heap.size 2 1 8 _ Try.underlying22 Try.info64 rfl (by omega) _ _ _ rfl hown rfl rfl (by intro u hu; simp at hu; subst hu; rfl) (by omega) (by omega) (bq.size) ?_); intro v' w6 hown6 g6 b6 _)
              have h6 : w6.ownsRow w5.heap.size 2 1 v' (j + 1) ((zs1.reverse.take (j + 1)).map (Value.int .i64)) := by
                rw [HN.out, List.map_append]; exact hown6
              refine ⟨⟨j + 1, by omega, by omega, by simpa [List.map_take, List.map_reverse] using h6, bq.trans b6⟩, by simp [intOf]; omega⟩
            · obtain rfl : j = n1 := by omega
              rw [List.take_of_length_le (by rw [List.length_reverse, HL.out]; omega)] at hown
              obtain ⟨Ab, cb, rfl⟩ := own_form hown
              have rb := Rd.of_own hown
              have r1 : Rd wr B2 1 A1 j (zs1.map (Value.int .i64)) := hr1.below bq (by omega)
              have zr : Ints zs1.reverse := fun y hy => hz1 y (List.mem_reverse.1 hy)
              clear hown hr1 hjt
              go_wp2_with fail
              refine (sum_any A1 j c1 zs1 wr B2 r1 hz1 (by omega)).mono ?_
              rintro e wr2 ⟨rfl, rfl⟩
              go_wp2_with fail
              refine (rsum_any A1 j c1 zs1 wr (r1.more (by have := bq.size; omega)) hz1 (by omega)).mono ?_
              rintro e w7 ⟨rfl, b7⟩
              go_wp2_with fail
              have hs := sum_any Ab j cb zs1.reverse w7 _ (rb.below b7 (Nat.le_refl _)) zr (by omega)
              rw [isum_rev] at hs
              refine hs.mono ?_
              rintro e w8 ⟨rfl, rfl⟩
              go_wp2
              go_roundw
              case rel => exact ⟨k + 1, by omega, by go_num, bnext bq b7 (Nat.le_refl _)⟩
              case measure => simp [intOf]; omega
        · obtain rfl : k = 2 := by omega
          go_wp2_with fail
          refine (known3 wr).mono ?_
          rintro e w9 ⟨rfl, b9⟩
          go_wp2
          go_ret
          exact ⟨rfl, bnext (bnext b5 br (Nat.le_refl _)) b9 (Nat.le_refl _)⟩
set_option maxRecDepth 100000 in
theorem sums_lifted (os : Os) (started : os.Started) (H : Type) (enc : TypeId × Value → H) :
    ReturnsInHanded {} Try.checked os 3 .any (Rows.arithSumsSpec.pre6 enc Try.prog Try.f3 Rows.arithSumsRow.domain false) (Rows.arithSumsSpec.post enc Try.prog Try.f3 false true false false) := by
  refine returnsInHanded_of_change_sized (C := Try.checked) own started (by kernel_rfl) Try.func3
    (ChangeSpec.witness6 (enc := enc) (C := Try.checked) false ⟨#[], #[.slice none 0 0, .slice none 0 0], []⟩ 8 (by kernel_rfl) (by kernel_rfl) (by kernel_rfl) (by kernel_rfl)) ?_
  intro W base args ds gs before hval0 hW _ hsz0 _
  have hsz : (DataW.weightsEach Try.prog (Try.f3.params.toList ++ Rows.arithSumsSpec.plain.varTypes Try.prog) (ds ++ gs)).all (· ≤ reachBytes) = true := hsz0
  have hval : ∀ (j : Nat) t v, Try.f3.params[j]? = some t → args[j]? = some v → Value.okWide Try.prog W .any base t v := hval0
  have hW' := hW
  obtain ⟨p, q, hA0, hV, rfl, hfz, hnd⟩ := hW
  have hA : DataW.TrodAll enc Try.prog W 0 (fun _ => true) true Try.f3.params.toList args.toList ds p := hA0
  rw [Try.params3] at hA hval hsz
  obtain ⟨v0, vs0, d0, ds0, p0, q0, hargs, rfl, rfl, h0, r0⟩ := trodAll_cons hA
  obtain ⟨v1, vs1, d1, ds1, p1, q1, rfl, rfl, rfl, h1, r1⟩ := trodAll_cons r0
  obtain ⟨rfl, rfl, rfl⟩ := trodAll_nil r1
  obtain rfl : args = #[v0, v1] := by cases args; simp_all
  obtain ⟨rfl, rfl⟩ := trodVars_none hV
  obtain ⟨A0, n0, c0, zs0, rfl, k0, z0, l0, m0, e0⟩ := open_i64s Try.underlying22 Try.underlying2 (by kernel_rfl) (hval 0 22 v0 rfl rfl) h0
  obtain ⟨A1, n1, c1, zs1, rfl, k1, z1, l1, m1, e1⟩ := open_i64s Try.underlying23 Try.underlying3 (by kernel_rfl) (hval 1 23 v1 rfl rfl) h1
  have hreach := reach_slice hsz (j := 0) (n := n0) (by_ := 8) rfl rfl Try.underlying22 (by kernel_rfl) e0 l0
  refine (sums_walk A0 n0 c0 zs0 A1 n1 c1 zs1 W k0 z0 (by omega) k1 z1 l1 m1).mono fun e W' ⟨he, hb⟩ => ?_
  exact ⟨_, he, law_post rfl laidOut (by kernel_rfl) (by kernel_rfl) Try.underlying4 rfl hW' hb⟩

theorem sums_holds : Rows.ArithSumsSaid :=
  OpenClaim.holds_of_wide 3 Try.f3 rfl rfl rfl rfl rfl rfl rfl ⟨rfl, rfl, rfl, rfl, rfl⟩ rfl rfl rfl rfl rfl (by kernel_rfl) Try.func3 (by kernel_rfl)
    (of_decide_eq_true (by kernel_rfl)) (by unfold Func.isWrapper; first | (rw [if_pos (by decide +kernel)]; kernel_rfl) | (rw [if_neg (by decide +kernel)]; exact ⟨rfl, rfl⟩))
    (fun os started H enc _ => sums_lifted os started H enc)
#print axioms sums_holds
end Go.Proofs.Ytdgdllicmccnfaa

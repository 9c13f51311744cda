/- The contract of the world's Schema. -/
import Derived.Test.YtdgdllicmccnfaaDoorSchemas
namespace Go.Proofs.YtdgdllicmccnfaaDoor
open Go.RowKit
set_option linter.unusedVariables false
set_option linter.unusedSimpArgs false

/-- A schema returned: its name, its columns, in memory that nobody writes. -/
def SchemaIs (w : World) (M : Nat → Prop) (nm : ByteArray) (l : List Col) (e : Ending) (w' : World) : Prop :=
  ∃ (A : Option Addr) (n c : Nat), e = .returned (.agg #[.string nm, .slice A n c]) ∧ n ≤ c ∧ c ≤ 4 ∧ Ro w' M (SlR 4 A n (colCells l)) ∧ Below w.heap.size w w'

set_option maxHeartbeats 4000000 in
theorem schema_any (M : Nat → Prop) (w : World) (hM : ∀ b, M b → b < w.heap.size) (s : ByteArray) : Calls Tryd.prog 41 #[.string s] w fun e w' => SchemaIs w M (schemaOf s).1 (schemaOf s).2 e w' := by
  have K0 := (Hold.start M w hM).alloc #[.string ⟨#[]⟩, .slice none 0 0] 24
  go_enter Tryd.func41, Tryd.ntmps41
  go_wp2_with fail
  refine (schemas_any (Mut M _) _ K0.mutLt).mono ?_
  rintro e w1 ⟨g, g0, g1, g2, nl, nt, nu, e1, e2, e3, rfl, b1, r, r0, r1, r2⟩
  have E1 := hid e1; have E2 := hid e2; have E3 := hid e3
  clear e1 e2 e3
  have K1 := ((((K0.call b1).add r2).add (r1.less (mut_none rfl))).add ((r0.less (mut_none rfl)).less (mut_none rfl))).addCst (((r.less (mut_none rfl)).less (mut_none rfl)).less (mut_none rfl))
  clear b1 r r0 r1 r2 K0
  go_wp2_with fail
  go_loopw [7] (fun i wr => ∃ k : Nat, k ≤ 3 ∧ i = .int .i64 k ∧ (0 < k → (nl.toList == s.toList) = false) ∧ (1 < k → (nt.toList == s.toList) = false) ∧ (2 < k → (nu.toList == s.toList) = false) ∧
    Hold M none w wr [.cst g 24 #[.string nl, .slice (some ⟨g0, 0, none⟩) 2 2, .string nt, .slice (some ⟨g1, 0, none⟩) 4 4, .string nu, .slice (some ⟨g2, 0, none⟩) 3 3], .ro (SlR 4 (some ⟨g0, 0, none⟩) 2 (colCells logCols)), .ro (SlR 4 (some ⟨g1, 0, none⟩) 4 (colCells tCols)), .ro (SlR 4 (some ⟨g2, 0, none⟩) 3 (colCells uCols)), .blk w.heap.size 24 #[.string ⟨#[]⟩, .slice none 0 0]]) (fun i _ => 3 - (intOf i).toNat)
  case atStart => exact ⟨0, by omega, rfl, fun h => absurd h (by omega), fun h => absurd h (by omega), fun h => absurd h (by omega), K1⟩
  case round =>
    obtain ⟨k, hk, rfl, q0, q1, q2, H⟩ := hrel
    have F := H.facts
    simp only [World.size_alloc, factsL, cellsF, List.toList_toArray, Nat.reduceAdd, and_true, true_and] at F
    have hc : k = 0 ∨ k = 1 ∨ k = 2 ∨ k = 3 := by omega
    rcases hc with rfl | rfl | rfl | rfl
    · clear q0 q1 q2
      cases ht : (nl.toList == s.toList)
      · have KN := H.alloc_cst #[.string nl, .slice (some ⟨g0, 0, none⟩) 2 2] 24
        go_wp2_with fail
        go_roundw
        case rel => exact ⟨1, by omega, by go_num, by intros; first | exact ht | trivial, by intros; first | trivial | omega, by intros; first | trivial | omega, KN.drop (List.sublist_cons_self _ _)⟩
        case measure => simp [intOf]
      · have HR : Hid (schemaOf s = (nl, logCols)) := by
          unfold Hid schemaOf
          have h := ht
          rw [← E1.out, ← E2.out, ← E3.out, if_pos h]
        have KN := ((H.store 4 rfl 0 (.string nl)).store 4 rfl 1 (.slice (some ⟨g0, 0, none⟩) 2 2)).alloc_cst #[.string nl, .slice (some ⟨g0, 0, none⟩) 2 2] 24
        go_wp2_with fail
        exact bodyPost_ret (v := .agg #[.string nl, .slice (some ⟨g0, 0, none⟩) 2 2]) (by simp [results, Tryd.results41, go_sem, F]) rfl ⟨some ⟨g0, 0, none⟩, 2, 2, by rw [HR.out], by omega, by omega, by rw [HR.out]; exact KN.roOut 2 rfl, KN.below⟩
    · have Q0 := hid (q0 (by omega)); clear q0 q1 q2
      cases ht : (nt.toList == s.toList)
      · have KN := H.alloc_cst #[.string nt, .slice (some ⟨g1, 0, none⟩) 4 4] 24
        go_wp2_with fail
        go_roundw
        case rel => exact ⟨2, by omega, by go_num, by intros; first | exact Q0.out | trivial, by intros; first | exact ht | trivial, by intros; first | trivial | omega, KN.drop (List.sublist_cons_self _ _)⟩
        case measure => simp [intOf]
      · have HR : Hid (schemaOf s = (nt, tCols)) := by
          unfold Hid schemaOf
          have h := ht
          rw [← E1.out, ← E2.out, ← E3.out, if_neg (by rw [Q0.out]; simp), if_pos h]
        have KN := ((H.store 4 rfl 0 (.string nt)).store 4 rfl 1 (.slice (some ⟨g1, 0, none⟩) 4 4)).alloc_cst #[.string nt, .slice (some ⟨g1, 0, none⟩) 4 4] 24
        go_wp2_with fail
        exact bodyPost_ret (v := .agg #[.string nt, .slice (some ⟨g1, 0, none⟩) 4 4]) (by simp [results, Tryd.results41, go_sem, F]) rfl ⟨some ⟨g1, 0, none⟩, 4, 4, by rw [HR.out], by omega, by omega, by rw [HR.out]; exact KN.roOut 3 rfl, KN.below⟩
    · have Q0 := hid (q0 (by omega)); have Q1 := hid (q1 (by omega)); clear q0 q1 q2
      cases ht : (nu.toList == s.toList)
      · have KN := H.alloc_cst #[.string nu, .slice (some ⟨g2, 0, none⟩) 3 3] 24
        go_wp2_with fail
        go_roundw
        case rel => exact ⟨3, by omega, by go_num, by intros; first | exact Q0.out | trivial, by intros; first | exact Q1.out | trivial, by intros; first | exact ht | trivial, KN.drop (List.sublist_cons_self _ _)⟩
        case measure => simp [intOf]
      · have HR : Hid (schemaOf s = (nu, uCols)) := by
          unfold Hid schemaOf
          have h := ht
          rw [← E1.out, ← E2.out, ← E3.out, if_neg (by rw [Q0.out]; simp), if_neg (by rw [Q1.out]; simp), if_pos h]
        have KN := ((H.store 4 rfl 0 (.string nu)).store 4 rfl 1 (.slice (some ⟨g2, 0, none⟩) 3 3)).alloc_cst #[.string nu, .slice (some ⟨g2, 0, none⟩) 3 3] 24
        go_wp2_with fail
        exact bodyPost_ret (v := .agg #[.string nu, .slice (some ⟨g2, 0, none⟩) 3 3]) (by simp [results, Tryd.results41, go_sem, F]) rfl ⟨some ⟨g2, 0, none⟩, 3, 3, by rw [HR.out], by omega, by omega, by rw [HR.out]; exact KN.roOut 4 rfl, KN.below⟩
    · have Q0 := hid (q0 (by omega)); have Q1 := hid (q1 (by omega)); have Q2 := hid (q2 (by omega)); clear q0 q1 q2
      have HR : Hid (schemaOf s = (⟨#[]⟩, [])) := by
        unfold Hid schemaOf
        rw [← E1.out, ← E2.out, ← E3.out, if_neg (by rw [Q0.out]; simp), if_neg (by rw [Q1.out]; simp), if_neg (by rw [Q2.out]; simp)]
      have KN := (H.store 4 rfl 0 (.string ⟨#[]⟩)).store 4 rfl 1 (.slice none 0 0)
      go_wp2_with fail
      exact bodyPost_ret (v := .agg #[.string ⟨#[]⟩, .slice none 0 0]) (by simp [results, Tryd.results41, go_sem, F]) rfl ⟨none, 0, 0, by rw [HR.out], by omega, by omega, by rw [HR.out]; exact ro_nil, KN.below⟩
end Go.Proofs.YtdgdllicmccnfaaDoor

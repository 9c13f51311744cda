/- TableBegins answers true for all schemas and every tape: New of the program and of the reference are the same, and the new table of a valid schema is valid. Condition: the row's own, the laid table of names; the tied card. -/
import Derived.Test.YtphofeeaphkciaaDoorTBeginSaidMA
import Derived.Test.YtphofeeaphkciaaDoorTBeginSaidMB
import Derived.Deep.RegionHeld3
import Derived.IntWalk
import Derived.Deep.DeepCutAuto
import Derived.Test.YtphofeeaphkciaaDoorCards
import Derived.Test.YtphofeeaphkciaaDoorTie
namespace Go.Proofs.YtphofeeaphkciaaDoor
open Go.RowKit
set_option linter.unusedVariables false
set_option linter.unusedSimpArgs false

def nmId : ByteArray := ⟨#[105, 100]⟩
def nmN : ByteArray := ⟨#[110]⟩
def nmS : ByteArray := ⟨#[115]⟩
def nmB : ByteArray := ⟨#[98]⟩
def nmM : ByteArray := ⟨#[109]⟩
def nmT : ByteArray := ⟨#[116]⟩
def nmU : ByteArray := ⟨#[117]⟩
def nmLog : ByteArray := ⟨#[108, 111, 103]⟩
def logCols : List Col := [⟨nmN, 1, false, false⟩, ⟨nmS, 3, false, false⟩]
def tCols : List Col := [⟨nmId, 1, true, true⟩, ⟨nmN, 1, false, false⟩, ⟨nmB, 2, false, false⟩, ⟨nmS, 3, false, false⟩]
def uCols : List Col := [⟨nmId, 1, true, true⟩, ⟨nmN, 1, true, false⟩, ⟨nmM, 1, false, false⟩]
/-- The schema of a name: its name and columns; of another name: none. -/
def schemaOf (s : ByteArray) : ByteArray × List Col :=
  if nmLog.toList == s.toList then (nmLog, logCols) else if nmT.toList == s.toList then (nmT, tCols) else if nmU.toList == s.toList then (nmU, uCols) else (⟨#[]⟩, [])

/-- What Schemas leaves. -/
def SchemasAre (w : World) (M : Nat → Prop) (e : Ending) (w' : World) : Prop :=
  ∃ (g g0 g1 g2 : Nat) (nl nt nu : ByteArray), nl = nmLog ∧ nt = nmT ∧ nu = nmU ∧ e = .returned (.slice (some ⟨g, 0, none⟩) 3 3) ∧ Below w.heap.size w w' ∧
    Ro w' M (fun w => w.heap[g]? = some (.cells #[.string nl, .slice (some ⟨g0, 0, none⟩) 2 2, .string nt, .slice (some ⟨g1, 0, none⟩) 4 4, .string nu, .slice (some ⟨g2, 0, none⟩) 3 3] 24 (0, 0))) ∧
    Ro w' M (SlR 4 (some ⟨g0, 0, none⟩) 2 (colCells logCols)) ∧ Ro w' M (SlR 4 (some ⟨g1, 0, none⟩) 4 (colCells tCols)) ∧ Ro w' M (SlR 4 (some ⟨g2, 0, none⟩) 3 (colCells uCols))

set_option maxHeartbeats 2000000 in
theorem schemas_any (M : Nat → Prop) (w : World) (hM : ∀ b, M b → b < w.heap.size) : Calls Tryd.prog 51 #[] w fun e w' => SchemasAre w M e w' := by
  have K0 := ((((Hold.start M w hM).alloc_cst (colCells logCols).toArray 82).alloc_cst (colCells tCols).toArray 82).alloc_cst (colCells uCols).toArray 82).alloc_cst
    #[.string nmLog, .slice (some ⟨w.heap.size, 0, none⟩) 2 2, .string nmT, .slice (some ⟨w.heap.size + 1, 0, none⟩) 4 4, .string nmU, .slice (some ⟨w.heap.size + 1 + 1, 0, none⟩) 3 3] 24
  simp only [World.size_alloc] at K0
  go_enter Tryd.func51, Tryd.ntmps51
  go_wp2
  go_ret
  refine ⟨w.heap.size + 1 + 1 + 1, w.heap.size, w.heap.size + 1, w.heap.size + 1 + 1, nmLog, nmT, nmU, rfl, rfl, rfl, rfl, K0.below, ?_, ?_, ?_, ?_⟩
  · exact Ro.less (K0.get 0 rfl) fun b hb => .inl hb
  · exact (ro_block (K0.get 3 rfl) (by rfl)).less fun b hb => .inl hb
  · exact (ro_block (K0.get 2 rfl) (by rfl)).less fun b hb => .inl hb
  · exact (ro_block (K0.get 1 rfl) (by rfl)).less fun b hb => .inl hb
end Go.Proofs.YtphofeeaphkciaaDoor

namespace Go.Proofs.YtphofeeaphkciaaDoor
open Go.RowKit
set_option linter.unusedVariables false
set_option linter.unusedSimpArgs false

/-- A schema returned: its name, its columns, in memory that nobody writes. -/
def SchemaIs (w : World) (M : Nat → Prop) (nm : ByteArray) (l : List Col) (e : Ending) (w' : World) : Prop :=
  ∃ (A : Option Addr) (n c : Nat), e = .returned (.agg #[.string nm, .slice A n c]) ∧ n ≤ c ∧ c ≤ 4 ∧ Ro w' M (SlR 4 A n (colCells l)) ∧ Below w.heap.size w w'

set_option maxHeartbeats 4000000 in
theorem schema_any (M : Nat → Prop) (w : World) (hM : ∀ b, M b → b < w.heap.size) (s : ByteArray) : Calls Tryd.prog 18 #[.string s] w fun e w' => SchemaIs w M (schemaOf s).1 (schemaOf s).2 e w' := by
  have K0 := (Hold.start M w hM).alloc #[.string ⟨#[]⟩, .slice none 0 0] 24
  go_enter Tryd.func18, Tryd.ntmps18
  go_wp2_with fail
  refine (schemas_any (Mut M _) _ K0.mutLt).mono ?_
  rintro e w1 ⟨g, g0, g1, g2, nl, nt, nu, e1, e2, e3, rfl, b1, r, r0, r1, r2⟩
  have E1 := hid e1; have E2 := hid e2; have E3 := hid e3
  clear e1 e2 e3
  have K1 := ((((K0.call b1).add r2).add (r1.less (mut_none rfl))).add ((r0.less (mut_none rfl)).less (mut_none rfl))).addCst (((r.less (mut_none rfl)).less (mut_none rfl)).less (mut_none rfl))
  clear b1 r r0 r1 r2 K0
  go_wp2_with fail
  go_loopw [7] (fun i wr => ∃ k : Nat, k ≤ 3 ∧ i = .int .i64 k ∧ (0 < k → (nl.toList == s.toList) = false) ∧ (1 < k → (nt.toList == s.toList) = false) ∧ (2 < k → (nu.toList == s.toList) = false) ∧
    Hold M none w wr [.cst g 24 #[.string nl, .slice (some ⟨g0, 0, none⟩) 2 2, .string nt, .slice (some ⟨g1, 0, none⟩) 4 4, .string nu, .slice (some ⟨g2, 0, none⟩) 3 3], .ro (SlR 4 (some ⟨g0, 0, none⟩) 2 (colCells logCols)), .ro (SlR 4 (some ⟨g1, 0, none⟩) 4 (colCells tCols)), .ro (SlR 4 (some ⟨g2, 0, none⟩) 3 (colCells uCols)), .blk w.heap.size 24 #[.string ⟨#[]⟩, .slice none 0 0]]) (fun i _ => 3 - (intOf i).toNat)
  case atStart => exact ⟨0, by omega, rfl, fun h => absurd h (by omega), fun h => absurd h (by omega), fun h => absurd h (by omega), K1⟩
  case round =>
    obtain ⟨k, hk, rfl, q0, q1, q2, H⟩ := hrel
    have F := H.facts
    simp only [World.size_alloc, factsL, cellsF, List.toList_toArray, Nat.reduceAdd, and_true, true_and] at F
    have hc : k = 0 ∨ k = 1 ∨ k = 2 ∨ k = 3 := by omega
    rcases hc with rfl | rfl | rfl | rfl
    · clear q0 q1 q2
      cases ht : (nl.toList == s.toList)
      · have KN := H.alloc_cst #[.string nl, .slice (some ⟨g0, 0, none⟩) 2 2] 24
        go_wp2_with fail
        go_roundw
        case rel => exact ⟨1, by omega, by go_num, by intros; first | exact ht | trivial, by intros; first | trivial | omega, by intros; first | trivial | omega, KN.drop (List.sublist_cons_self _ _)⟩
        case measure => simp [intOf]
      · have HR : Hid (schemaOf s = (nl, logCols)) := by
          unfold Hid schemaOf
          have h := ht
          rw [← E1.out, ← E2.out, ← E3.out, if_pos h]
        have KN := ((H.store 4 rfl 0 (.string nl)).store 4 rfl 1 (.slice (some ⟨g0, 0, none⟩) 2 2)).alloc_cst #[.string nl, .slice (some ⟨g0, 0, none⟩) 2 2] 24
        go_wp2_with fail
        exact bodyPost_ret (v := .agg #[.string nl, .slice (some ⟨g0, 0, none⟩) 2 2]) (by simp [results, Tryd.results18, go_sem, F]) rfl ⟨some ⟨g0, 0, none⟩, 2, 2, by rw [HR.out], by omega, by omega, by rw [HR.out]; exact KN.roOut 2 rfl, KN.below⟩
    · have Q0 := hid (q0 (by omega)); clear q0 q1 q2
      cases ht : (nt.toList == s.toList)
      · have KN := H.alloc_cst #[.string nt, .slice (some ⟨g1, 0, none⟩) 4 4] 24
        go_wp2_with fail
        go_roundw
        case rel => exact ⟨2, by omega, by go_num, by intros; first | exact Q0.out | trivial, by intros; first | exact ht | trivial, by intros; first | trivial | omega, KN.drop (List.sublist_cons_self _ _)⟩
        case measure => simp [intOf]
      · have HR : Hid (schemaOf s = (nt, tCols)) := by
          unfold Hid schemaOf
          have h := ht
          rw [← E1.out, ← E2.out, ← E3.out, if_neg (by rw [Q0.out]; simp), if_pos h]
        have KN := ((H.store 4 rfl 0 (.string nt)).store 4 rfl 1 (.slice (some ⟨g1, 0, none⟩) 4 4)).alloc_cst #[.string nt, .slice (some ⟨g1, 0, none⟩) 4 4] 24
        go_wp2_with fail
        exact bodyPost_ret (v := .agg #[.string nt, .slice (some ⟨g1, 0, none⟩) 4 4]) (by simp [results, Tryd.results18, go_sem, F]) rfl ⟨some ⟨g1, 0, none⟩, 4, 4, by rw [HR.out], by omega, by omega, by rw [HR.out]; exact KN.roOut 3 rfl, KN.below⟩
    · have Q0 := hid (q0 (by omega)); have Q1 := hid (q1 (by omega)); clear q0 q1 q2
      cases ht : (nu.toList == s.toList)
      · have KN := H.alloc_cst #[.string nu, .slice (some ⟨g2, 0, none⟩) 3 3] 24
        go_wp2_with fail
        go_roundw
        case rel => exact ⟨3, by omega, by go_num, by intros; first | exact Q0.out | trivial, by intros; first | exact Q1.out | trivial, by intros; first | exact ht | trivial, KN.drop (List.sublist_cons_self _ _)⟩
        case measure => simp [intOf]
      · have HR : Hid (schemaOf s = (nu, uCols)) := by
          unfold Hid schemaOf
          have h := ht
          rw [← E1.out, ← E2.out, ← E3.out, if_neg (by rw [Q0.out]; simp), if_neg (by rw [Q1.out]; simp), if_pos h]
        have KN := ((H.store 4 rfl 0 (.string nu)).store 4 rfl 1 (.slice (some ⟨g2, 0, none⟩) 3 3)).alloc_cst #[.string nu, .slice (some ⟨g2, 0, none⟩) 3 3] 24
        go_wp2_with fail
        exact bodyPost_ret (v := .agg #[.string nu, .slice (some ⟨g2, 0, none⟩) 3 3]) (by simp [results, Tryd.results18, go_sem, F]) rfl ⟨some ⟨g2, 0, none⟩, 3, 3, by rw [HR.out], by omega, by omega, by rw [HR.out]; exact KN.roOut 4 rfl, KN.below⟩
    · have Q0 := hid (q0 (by omega)); have Q1 := hid (q1 (by omega)); have Q2 := hid (q2 (by omega)); clear q0 q1 q2
      have HR : Hid (schemaOf s = (⟨#[]⟩, [])) := by
        unfold Hid schemaOf
        rw [← E1.out, ← E2.out, ← E3.out, if_neg (by rw [Q0.out]; simp), if_neg (by rw [Q1.out]; simp), if_neg (by rw [Q2.out]; simp)]
      have KN := (H.store 4 rfl 0 (.string ⟨#[]⟩)).store 4 rfl 1 (.slice none 0 0)
      go_wp2_with fail
      exact bodyPost_ret (v := .agg #[.string ⟨#[]⟩, .slice none 0 0]) (by simp [results, Tryd.results18, go_sem, F]) rfl ⟨none, 0, 0, by rw [HR.out], by omega, by omega, by rw [HR.out]; exact ro_nil, KN.below⟩
end Go.Proofs.YtphofeeaphkciaaDoor

namespace Go.Proofs.YtphofeeaphkciaaDoor
open Go.RowKit
set_option linter.unusedVariables false
set_option linter.unusedSimpArgs false

set_option maxHeartbeats 400000 in
theorem num_any (n : Int) : Gives 47 #[.int .i64 n] (.agg #[.int .i64 1, .int .i64 n, .string ⟨#[]⟩]) := by
  intro w
  have K0 := (Hold.begin_ w).alloc #[.int .i64 1, .int .i64 n, .string ⟨#[]⟩] 88
  have F0 := K0.facts
  simp only [World.size_alloc, World.size_drew, factsL, cellsF, Nat.reduceAdd, List.toList_toArray, List.set_cons_zero, List.set_cons_succ, List.setIfInBounds_toArray, and_true, true_and] at F0
  go_enter Tryd.func47, Tryd.ntmps47
  go_wp2_with fail
  exact bodyPost_ret (v := .agg #[.int .i64 1, .int .i64 n, .string ⟨#[]⟩]) (by simp [results, Tryd.results47, go_sem, F0]) rfl ⟨rfl, K0.below⟩
def vNum (n : Int) : Vl := ⟨1, n, ⟨#[]⟩⟩
def vNil : Vl := ⟨0, 0, ⟨#[]⟩⟩
def k6Row : Row := (3, [vNum 5, vNum 1, vNil])
theorem k6_key : findB Col.key uCols = 0 := by decide +kernel
theorem k6_look : lookR 0 [k6Row] (vNum 5) = some 3 := by decide +kernel
theorem k6_valid : tabB nmU uCols 4 [k6Row] = true := by decide +kernel
theorem k6_dup : dupB uCols [k6Row] = false := by decide +kernel
theorem k6_sch : schemaB nmU uCols = true := by decide +kernel
theorem schemaOf_u : schemaOf ⟨#[117]⟩ = (nmU, uCols) := by kernel_rfl
theorem schemaOf_log : schemaOf ⟨#[108, 111, 103]⟩ = (nmLog, logCols) := by kernel_rfl
theorem schema_u (M : Nat → Prop) (w : World) (hM : ∀ b, M b → b < w.heap.size) : Calls Tryd.prog 18 #[.string ⟨#[117]⟩] w fun e w' => SchemaIs w M nmU uCols e w' := by
  have h := schema_any M w hM ⟨#[117]⟩
  rwa [schemaOf_u] at h
theorem schema_log (M : Nat → Prop) (w : World) (hM : ∀ b, M b → b < w.heap.size) : Calls Tryd.prog 18 #[.string ⟨#[108, 111, 103]⟩] w fun e w' => SchemaIs w M nmLog logCols e w' := by
  have h := schema_any M w hM ⟨#[108, 111, 103]⟩
  rwa [schemaOf_log] at h
theorem small_u : nmU.size ≤ maxLen ∧ (∀ x ∈ uCols, x.name.size ≤ maxLen) ∧ nmLog.size ≤ maxLen ∧ (∀ x ∈ logCols, x.name.size ≤ maxLen) := by
  unfold maxLen
  refine ⟨by decide +kernel, fun x hx => ?_, by decide +kernel, fun x hx => ?_⟩
  · simp only [uCols, List.mem_cons, List.not_mem_nil, or_false] at hx
    rcases hx with rfl | rfl | rfl <;> decide +kernel
  · simp only [logCols, List.mem_cons, List.not_mem_nil, or_false] at hx
    rcases hx with rfl | rfl <;> decide +kernel
theorem empty_le : (⟨#[]⟩ : ByteArray).size ≤ maxLen := by unfold maxLen; decide
theorem vNum_ok {n : Int} (h : I64 n) : (vNum n).ok := ⟨show I64 1 by unfold I64; omega, h, empty_le⟩
theorem vNil_ok : vNil.ok := ⟨show I64 0 by unfold I64; omega, show I64 0 by unfold I64; omega, empty_le⟩
theorem cols_n {w : World} {A : Option Addr} {n : Nat} {l : List Col} (h : ColsIn A n l w) : l.length = n := (RdC.of_sl h).len
set_option maxHeartbeats 1000000 in
set_option maxRecDepth 100000 in
theorem known6 : Gives 15 #[] (.bool true) := by
  intro w
  have K0 := Hold.begin_ w
  have HS := hid small_u
  go_enter Tryd.func15, Tryd.ntmps15
  go_wp2_with fail
  refine (schema_u _ _ K0.mutLt).mono ?_
  rintro e w1 ⟨A, n, c, rfl, h1, h2, r1, b1⟩
  have K1 := (K0.call b1).add r1
  clear K0 r1 b1
  go_wp2_with fail
  refine (tnew_any _ _ K1.mutLt nmU A n c uCols (K1.ro 0 rfl) (by omega) HS.out.1 HS.out.2.1).mono ?_
  intro e w2 hN
  unfold NewRet at hN
  rw [k6_sch, if_pos rfl] at hN
  obtain ⟨A2, n2, c2, rfl, hn2, hc2, hc22, r2, b2⟩ := hN
  have hn3 : n2 ≤ 1000 := by rw [hn2]; decide
  have K2 := (((K1.call b2).add r2).alloc #[.string nmU, .slice A2 n2 c2, .int .i64 1, .slice none 0 0] 32)
  clear K1 r2 b2 hn2
  obtain ⟨gt, hgt⟩ : ∃ gt, gt = w2.heap.size := ⟨_, rfl⟩
  rw [← hgt] at K2
  have HGT := hid hgt
  generalize hU : nmU = nu at *
  have HU := hid hU
  clear hU
  go_wp2_with fail
  refine (num_any 5 _).mono ?_
  rintro e w3 ⟨rfl, b3⟩
  have K3 := K2.call b3
  clear K2 b3
  go_wp2_with fail
  rw [← hgt]
  clear hgt
  refine (num_any 1 _).mono ?_
  rintro e w4 ⟨rfl, b4⟩
  have K4a := K3.call b4
  have F4 := K4a.facts
  simp only [World.size_alloc, World.size_drew, factsL, cellsF, Nat.reduceAdd, List.toList_toArray, List.set_cons_zero, List.set_cons_succ, List.setIfInBounds_toArray, and_true, true_and] at F4
  have K5 := ((K4a.store 0 rfl 3 (.slice (some ⟨w4.heap.size + 1, 0, none⟩) 1 1)).store 0 rfl 2 (.int .i64 4))
  simp only [List.set_cons_zero, List.set_cons_succ, List.setIfInBounds_toArray] at K5
  have hz5 : ((w4.setCell ⟨gt, 3, none⟩ (.slice (some ⟨w4.heap.size + 1, 0, none⟩) 1 1)).setCell ⟨gt, 2, none⟩ (.int .i64 4)).heap.size = w4.heap.size := by simp [World.setCell]
  have K6 := (K5.alloc_cst #[.int .i64 1, .int .i64 5, .string ⟨#[]⟩, .int .i64 1, .int .i64 1, .string ⟨#[]⟩, .int .i64 0, .int .i64 0, .string ⟨#[]⟩] 88).alloc_cst #[.int .i64 3, .slice (some ⟨w4.heap.size, 0, none⟩) 3 3] 54
  rw [World.size_alloc, hz5] at K6
  clear K3 b4 K4a K5 hz5
  have q1 : Ro _ _ (VlsIn (some ⟨w4.heap.size, 0, none⟩) 3 [vNum 5, vNum 1, vNil]) := ro_block (t := 88) (cs := #[.int .i64 1, .int .i64 5, .string ⟨#[]⟩, .int .i64 1, .int .i64 1, .string ⟨#[]⟩, .int .i64 0, .int .i64 0, .string ⟨#[]⟩]) (n := 3) (size := 3) (K6.get 1 rfl) rfl
  have q2 : Ro _ _ (SlR 2 (some ⟨w4.heap.size + 1, 0, none⟩) 1 (rwCells [⟨3, some ⟨w4.heap.size, 0, none⟩, 3, 3, [vNum 5, vNum 1, vNil]⟩])) := ro_block (t := 54) (cs := #[.int .i64 3, .slice (some ⟨w4.heap.size, 0, none⟩) 3 3]) (n := 1) (size := 2) (K6.get 0 rfl) rfl
  have q3 : Ro _ _ (RwsIn (some ⟨w4.heap.size + 1, 0, none⟩) 1 [⟨3, some ⟨w4.heap.size, 0, none⟩, 3, 3, [vNum 5, vNum 1, vNil]⟩]) := q2.and (fun w2 h1 h2 r hr => by
    simp only [List.mem_cons, List.not_mem_nil, or_false] at hr
    subst hr
    exact q1 w2 h1 h2)
  have K7 := (K6.add q3).drop (L' := [.ro (RwsIn (some ⟨w4.heap.size + 1, 0, none⟩) 1 [⟨3, some ⟨w4.heap.size, 0, none⟩, 3, 3, [vNum 5, vNum 1, vNil]⟩]), .blk gt 32 #[.string nu, .slice A2 n2 c2, .int .i64 4, .slice (some ⟨w4.heap.size + 1, 0, none⟩) 1 1], .ro (ColsIn A2 n2 uCols)]) (List.Sublist.cons_cons _ (List.Sublist.cons _ (List.Sublist.cons _ (List.Sublist.cons_cons _ (List.Sublist.cons_cons _ (List.nil_sublist _))))))
  clear q1 q2 q3 K6
  go_wp2_with fail
  generalize (((w4.setCell _ _).setCell _ _).alloc _).alloc _ = w5 at *
  obtain ⟨gr, hgr⟩ : ∃ gr, gr = w4.heap.size + 1 := ⟨_, rfl⟩
  obtain ⟨gw, hgw⟩ : ∃ gw, gw = w4.heap.size := ⟨_, rfl⟩
  rw [← hgr, ← hgw] at K7
  rw [← hgr]
  have HGR := hid hgr
  clear hgr hgw F4
  obtain ⟨R, hR⟩ : ∃ R : Rw, R = ⟨3, some ⟨gw, 0, none⟩, 3, 3, [vNum 5, vNum 1, vNil]⟩ := ⟨_, rfl⟩
  rw [← hR] at K7
  have HR1 := hid (show R.ok from by
    rw [hR]
    refine ⟨show I64 3 by unfold I64; omega, by simp, by simp, fun v hv => ?_⟩
    simp only [List.mem_cons, List.not_mem_nil, or_false] at hv
    rcases hv with rfl | rfl | rfl
    · exact vNum_ok (by unfold I64; omega)
    · exact vNum_ok (by unfold I64; omega)
    · exact vNil_ok)
  have HR2 := hid (show [R].map Rw.row = [k6Row] by rw [hR]; rfl)
  clear hR
  obtain ⟨KL, hKL⟩ : ∃ KL : List Hp, KL = [.ro (RwsIn (some ⟨gr, 0, none⟩) 1 [R]), .blk gt 32 #[.string nu, .slice A2 n2 c2, .int .i64 4, .slice (some ⟨gr, 0, none⟩) 1 1], .ro (ColsIn A2 n2 uCols)] := ⟨_, rfl⟩
  rw [← hKL] at K7
  have HF : Hid (∀ wv, Hold None_ none w wv KL → wv.cell? ⟨gt, 0, none⟩ = some (.string nu) ∧ wv.cell? ⟨gt, 1, none⟩ = some (.slice A2 n2 c2) ∧ wv.cell? ⟨gt, 2, none⟩ = some (.int .i64 4) ∧ wv.cell? ⟨gt, 3, none⟩ = some (.slice (some ⟨gr, 0, none⟩) 1 1) ∧ gt < wv.heap.size) := hid fun wv HC => by
    rw [hKL] at HC
    have b1 := HC.blk_ 1 rfl
    exact ⟨cell_of_row _ _ 0 _ _ _ b1, cell_of_row _ _ 1 _ _ _ b1, cell_of_row _ _ 2 _ _ _ b1, cell_of_row _ _ 3 _ _ _ b1, Blk.lt b1⟩
  have HKL := hid hKL
  clear hKL
  refine wp_region_any (by kernel_rfl) ?_
  refine wpAny_hold 7 42 (KL) (spL [(20, IsV (vNum 5).val), (21, IsV (.tuple #[.int .i64 3, .bool true]))]) (by kernel_rfl) (by kernel_rfl) (by kernel_rfl) rfl ?_ (K7.drew) ?_
  · exact stays_cons isV_mono (stays_cons isV_mono (stays_nil _))
  simp only [List.take_succ_cons, List.take_zero, List.drop_succ_cons, List.drop_zero, Act.put, List.getElem_toArray, List.getElem_cons_zero, List.getElem_cons_succ, List.setIfInBounds_toArray, List.set_cons_succ, List.set_cons_zero]
  refine dw_val rfl rfl rfl ?_; apply Exists.intro; refine ⟨fun wv HC => ?_, ?_⟩
  · obtain ⟨f0, f1, f2, f3, f4⟩ := HF.out _ HC; go_simp <;> rfl
  simp only [Act.put, List.setIfInBounds_toArray, List.set_cons_succ, List.set_cons_zero]
  refine dw_callR 20 (IsV (vNum 5).val) (f := 47) (args := #[.int .i64 5]) rfl rfl rfl rfl (fun wv => ?_) (fun wv HC hrm hD => ?_) ?_
  · go_simp <;> rfl
  · refine (num_any 5 wv).mono ?_
    rintro e w6 ⟨rfl, b6⟩
    exact ⟨_, rfl, rfl, HC.call b6, RM.below b6⟩
  rintro u wx HCx hu
  obtain rfl : u = _ := hu
  clear HCx
  simp only [Act.put, List.setIfInBounds_toArray, List.set_cons_succ, List.set_cons_zero]
  refine dw_callR 21 (IsV (.tuple #[.int .i64 3, .bool true])) (f := 48) (args := #[.agg #[.string nu, .slice A2 n2 c2, .int .i64 4, .slice (some ⟨gr, 0, none⟩) 1 1], .agg #[.int .i64 (vNum 5).k, .int .i64 (vNum 5).i, .string (vNum 5).s]]) rfl rfl rfl rfl (fun wv => ?_) (fun wv HC hrm hD => ?_) ?_
  · go_simp <;> rfl
  · have HC2 := HC
    rw [HKL.out] at HC2
    refine (look_any _ _ HC2.mutLt nu A2 n2 c2 uCols 4 (some ⟨gr, 0, none⟩) 1 1 [R] (vNum 5) (HC2.ro 2 rfl) (HC2.ro 0 rfl) (by omega) (by omega)).mono ?_
    rintro e w6 ⟨rfl, b6⟩
    refine ⟨_, rfl, ?_, HC.call b6, RM.below b6⟩
    show _ = _
    rw [HR2.out, k6_key, k6_look]; rfl
  rintro u wx HCx hu
  obtain rfl : u = _ := hu
  clear HCx
  simp only [Act.put, List.setIfInBounds_toArray, List.set_cons_succ, List.set_cons_zero]
  refine dw_val rfl rfl rfl ?_; apply Exists.intro; refine ⟨fun wv HC => ?_, ?_⟩
  ·  go_simp <;> rfl
  simp only [Act.put, List.setIfInBounds_toArray, List.set_cons_succ, List.set_cons_zero]
  refine dw_val rfl rfl rfl ?_; apply Exists.intro; refine ⟨fun wv HC => ?_, ?_⟩
  ·  go_simp <;> rfl
  simp only [Act.put, List.setIfInBounds_toArray, List.set_cons_succ, List.set_cons_zero]
  refine dw_val rfl rfl rfl ?_; apply Exists.intro; refine ⟨fun wv HC => ?_, ?_⟩
  ·  go_simp <;> rfl
  simp only [Act.put, List.setIfInBounds_toArray, List.set_cons_succ, List.set_cons_zero]
  refine dw_val rfl rfl rfl ?_; apply Exists.intro; refine ⟨fun wv HC => ?_, ?_⟩
  ·  go_simp <;> rfl
  simp only [Act.put, List.setIfInBounds_toArray, List.set_cons_succ, List.set_cons_zero]
  refine rel_nil ?_
  rintro wx2 HX2
  rintro _hrm _HG
  rw [HKL.out] at HX2
  clear _hrm _HG
  have F8 := HX2.facts
  simp only [World.size_alloc, World.size_drew, factsL, cellsF, Nat.reduceAdd, List.toList_toArray, List.set_cons_zero, List.set_cons_succ, List.setIfInBounds_toArray, and_true, true_and] at F8
  have hus : nu.size ≤ maxLen := HS.out.1
  go_wp2_with fail
  refine (tvalid_any _ _ HX2.mutLt nu A2 n2 c2 uCols 4 (some ⟨gr, 0, none⟩) 1 1 [R] (HX2.ro 2 rfl) (HX2.ro 0 rfl) (by omega) (by omega) (by intro r hr; simp only [List.mem_cons, List.not_mem_nil, or_false] at hr; rw [hr]; exact HR1.out) hus HS.out.2.1).mono ?_
  rintro e w8 ⟨rfl, b8⟩
  rw [HR2.out, ← HU.out, k6_valid]
  have K8 := HX2.call b8
  clear HX2 b8 F8
  have F9 := K8.facts
  simp only [World.size_alloc, World.size_drew, factsL, cellsF, Nat.reduceAdd, List.toList_toArray, List.set_cons_zero, List.set_cons_succ, List.setIfInBounds_toArray, and_true, true_and] at F9
  go_wp2_with fail
  refine (dup_any _ _ K8.mutLt nu A2 n2 c2 uCols 4 (some ⟨gr, 0, none⟩) 1 1 [R] (K8.ro 2 rfl) (K8.ro 0 rfl) (by omega) (by omega) (by intro r hr; simp only [List.mem_cons, List.not_mem_nil, or_false] at hr; rw [hr]; exact HR1.out)).mono ?_
  rintro e w9 ⟨rfl, b9⟩
  rw [HR2.out, k6_dup]
  have K9 := K8.call b9
  go_wp2_with fail
  go_ret
  exact ⟨by first | rfl | simp, K9.below⟩
end Go.Proofs.YtphofeeaphkciaaDoor

namespace Go.Proofs.YtphofeeaphkciaaDoor
open Go.RowKit
set_option linter.unusedVariables false
set_option linter.unusedSimpArgs false

set_option maxHeartbeats 1000000 in
set_option maxRecDepth 100000 in
theorem samerow_any (w : World) (x y : Rw) (hD : VlsIn x.A x.n x.vs w) (hE : VlsIn y.A y.n y.vs w) (hn : x.n ≤ 1000000000000) :
    Calls Tryd.prog 37 #[.agg #[.int .i64 x.id, .slice x.A x.n x.c], .agg #[.int .i64 y.id, .slice y.A y.n y.c]] w fun e w' => e = .returned (.bool (decide (x.row = y.row))) ∧ Below w.heap.size w w' := by
  have K0 := ((((Hold.start None_ w (fun b hb => hb.elim)).add (Rd.ro hE (Nat.le_refl _) (by simp [Mut, None_]) : Ro w _ (VlsIn y.A y.n y.vs))).add (Rd.ro hD (Nat.le_refl _) (by simp [Mut, None_, Hp.foot]) : Ro w _ (VlsIn x.A x.n x.vs))).alloc_cst #[.int .i64 x.id, .slice x.A x.n x.c] 54).alloc_cst #[.int .i64 y.id, .slice y.A y.n y.c] 54
  rw [World.size_alloc] at K0
  have F0 := K0.facts
  simp only [World.size_alloc, World.size_drew, factsL, cellsF, Nat.reduceAdd, List.toList_toArray, List.set_cons_zero, List.set_cons_succ, List.setIfInBounds_toArray, and_true, true_and] at F0
  clear hD hE
  by_cases hi : x.id = y.id
  · have h1 : (x.id == y.id) = true := by simp [hi]
    have HI := hid hi; clear hi
    go_enter Tryd.func37, Tryd.ntmps37
    go_wp2_with fail
    refine (eqVls_any _ x.A x.n x.c x.vs y.A y.n y.c y.vs (K0.ro 2 rfl).now (K0.ro 3 rfl).now hn).mono ?_
    rintro e w1 ⟨rfl, q, rfl⟩
    have K1 := K0.drewN q
    have HB := hid (show decide (x.row = y.row) = decide (x.vs = y.vs) by simp [Rw.row, HI.out])
    go_wp2_with fail
    go_ret
    exact ⟨by rw [HB.out] <;> first | rfl | simp, K1.below⟩
  · have h1 : (x.id == y.id) = false := by simpa using hi
    have HB := hid (show decide (x.row = y.row) = false by simp [Rw.row, hi])
    clear hi
    go_enter Tryd.func37, Tryd.ntmps37
    go_wp2_with fail
    go_ret
    exact ⟨by rw [HB.out] <;> rfl, K0.below⟩
set_option maxHeartbeats 1000000 in
set_option maxRecDepth 100000 in
theorem eqRws_any (w : World) (A : Option Addr) (n c : Nat) (xs : List Rw) (B : Option Addr) (m d : Nat) (ys : List Rw) (hD : RwsIn A n xs w) (hE : RwsIn B m ys w) (hn : n ≤ 1000000000000) (hr : ∀ r ∈ xs, r.n ≤ 1000000000000) :
    Calls Tryd.prog 36 #[.slice A n c, .slice B m d, .func (.func 37) #[] #[]] w fun e w' => e = .returned (.bool (decide (xs.map Rw.row = ys.map Rw.row))) ∧ Below w.heap.size w w' := by
  have HL := hid hD.len
  have HK := hid hE.len
  by_cases hnm : n = m
  · subst hnm
    have hb : ((n : Int) != (n : Int)) = false := by simp
    have K0 := ((Hold.start None_ w (fun b hb => hb.elim)).add (show Ro w _ (RwsIn B n ys) from (Rd.ro hE.1 (Nat.le_refl _) (by simp [Mut, None_]) : Ro w _ (SlR 2 B n (rwCells ys))).and (fun w2 h1 h2 r hr => (Rd.ro (hE.2 r hr) (Nat.le_refl _) (by simp [Mut, None_]) : Ro w (Mut None_ []) (VlsIn r.A r.n r.vs)) w2 h1 h2))).add (show Ro w _ (RwsIn A n xs) from (Rd.ro hD.1 (Nat.le_refl _) (by simp [Mut, None_, Hp.foot]) : Ro w _ (SlR 2 A n (rwCells xs))).and (fun w2 h1 h2 r hr => (Rd.ro (hD.2 r hr) (Nat.le_refl _) (by simp [Mut, None_]) : Ro w (Mut None_ []) (VlsIn r.A r.n r.vs)) w2 h1 (fun b hb hn => h2 b hb (fun hm => by simp [Mut, None_, Hp.foot] at hm))))
    clear hD hE
    go_enter Tryd.func36, Tryd.ntmps36
    go_wp2_with fail
    go_loopw [17] (fun i wr => ∃ (k : Nat), k ≤ n ∧ i = .int .i64 k ∧ Hid ((xs.map Rw.row).take k = (ys.map Rw.row).take k) ∧ Hold None_ none w wr [.ro (RwsIn A n xs), .ro (RwsIn B n ys)]) (fun i _ => n - (intOf i).toNat)
    case atStart => exact ⟨0, by omega, rfl, hid (by simp), K0⟩
    case round =>
      clear K0
      obtain ⟨k, hk, rfl, HTK, H⟩ := hrel
      by_cases hlt : k < n
      · have hd : decide ((k : Int) < (n : Int)) = true := by simp; omega
        have i0 : (0 : Int) ≤ (k : Int) := by omega
        have i1 : (k : Int) < (n : Int) := by omega
        obtain ⟨x, hx⟩ := get_of HL.out hlt
        obtain ⟨y, hy⟩ := get_of HK.out hlt
        obtain ⟨g, o, rfl, hbx, x0, x1, _⟩ := (H.ro 0 rfl).now.at_ hx
        have hxn := hr x (List.mem_of_getElem? hx)
        have HX := hid (show (xs.map Rw.row)[k]? = some x.row by simp [hx]); have HY := hid (show (ys.map Rw.row)[k]? = some y.row by simp [hy])
        have HXM := hid (List.mem_of_getElem? hx)
        have HYM := hid (List.mem_of_getElem? hy)
        have HYY := hid hy
        clear hx hy
        have K1 := H.alloc_cst #[.int .i64 x.id, .slice x.A x.n x.c] 54
        obtain ⟨g', o', rfl, hby, y0, y1, _⟩ := (K1.ro 2 rfl).now.at_ HYY.out
        have K2 := K1.alloc_cst #[.int .i64 y.id, .slice y.A y.n y.c] 54
        rw [World.size_alloc] at K2
        have F2 := K2.facts
        simp only [World.size_alloc, World.size_drew, factsL, cellsF, Nat.reduceAdd, List.toList_toArray, List.set_cons_zero, List.set_cons_succ, List.setIfInBounds_toArray, and_true, true_and] at F2
        go_wp2_with fail
        refine (samerow_any _ x y ((K2.ro 2 rfl).now.2 x HXM.out) ((K2.ro 3 rfl).now.2 y HYM.out) hxn).mono ?_
        rintro e w3 ⟨rfl, b3⟩
        have K3 := (K2.call b3).drop ((List.sublist_cons_self _ _).trans (List.sublist_cons_self _ _))
        clear K1 K2 F2 b3 H
        by_cases hb : x.row = y.row
        · have HB := hid (takeEq_succ HX.out HY.out HTK.out hb)
          rw [decide_eq_true hb]
          clear hb
          go_wp2_with fail
          go_roundw
          case rel => exact ⟨k + 1, by omega, by go_num, HB, K3⟩
          case measure => simp [intOf]; omega
        · have HB := hid (beqL_no HX.out HY.out hb)
          rw [decide_eq_false hb]
          clear hb
          go_wp2_with fail
          go_ret
          exact ⟨by rw [HB.out] <;> rfl, K3.below⟩
      · obtain rfl : n = k := by omega
        have hd : decide ((n : Int) < (n : Int)) = false := by simp
        have HB := hid (show decide (xs.map Rw.row = ys.map Rw.row) = true by
          have h := HTK.out
          rw [List.take_of_length_le (by rw [List.length_map, HL.out]; exact Nat.le_refl _), List.take_of_length_le (by rw [List.length_map, HK.out]; exact Nat.le_refl _)] at h
          simp [h])
        go_wp2_with fail
        go_ret
        exact ⟨by rw [HB.out] <;> rfl, H.below⟩
  · have hb : ((n : Int) != (m : Int)) = true := by simp; omega
    have HB := hid (show decide (xs.map Rw.row = ys.map Rw.row) = false by
      rw [decide_eq_false_iff_not]; intro h; have h1 := congrArg List.length h; rw [List.length_map, List.length_map, HL.out, HK.out] at h1; exact hnm h1)
    go_enter Tryd.func36, Tryd.ntmps36
    go_wp2_with fail
    go_ret
    exact ⟨by rw [HB.out] <;> rfl, Below.refl _ _⟩
set_option maxHeartbeats 1000000 in
set_option maxRecDepth 100000 in
theorem sameschema_any (w : World) (nm : ByteArray) (A : Option Addr) (n c : Nat) (cs : List Col) (nm2 : ByteArray) (B : Option Addr) (m d : Nat) (ds : List Col) (hD : ColsIn A n cs w) (hE : ColsIn B m ds w) (hn : n ≤ 1000000000000) :
    Calls Tryd.prog 44 #[.agg #[.string nm, .slice A n c], .agg #[.string nm2, .slice B m d]] w fun e w' => e = .returned (.bool (decide (nm = nm2 ∧ cs = ds))) ∧ Below w.heap.size w w' := by
  have K0 := ((((Hold.start None_ w (fun b hb => hb.elim)).add (Rd.ro hE (Nat.le_refl _) (by simp [Mut, None_]) : Ro w _ (ColsIn B m ds))).add (Rd.ro hD (Nat.le_refl _) (by simp [Mut, None_, Hp.foot]) : Ro w _ (ColsIn A n cs))).alloc_cst #[.string nm, .slice A n c] 24).alloc_cst #[.string nm2, .slice B m d] 24
  rw [World.size_alloc] at K0
  have F0 := K0.facts
  simp only [World.size_alloc, World.size_drew, factsL, cellsF, Nat.reduceAdd, List.toList_toArray, List.set_cons_zero, List.set_cons_succ, List.setIfInBounds_toArray, and_true, true_and] at F0
  clear hD hE
  by_cases hi : nm = nm2
  · have h1 : (nm.toList == nm2.toList) = true := by simp [hi]
    have HI := hid hi; clear hi
    go_enter Tryd.func44, Tryd.ntmps44
    go_wp2_with fail
    refine (eqCols_any _ A n c cs B m d ds (K0.ro 2 rfl).now (K0.ro 3 rfl).now hn).mono ?_
    rintro e w1 ⟨rfl, q, rfl⟩
    have K1 := K0.drewN q
    have HB := hid (show decide (nm = nm2 ∧ cs = ds) = decide (cs = ds) by simp [HI.out])
    go_wp2_with fail
    go_ret
    exact ⟨by rw [HB.out] <;> first | rfl | simp, K1.below⟩
  · have h1 : (nm.toList == nm2.toList) = false := by rw [beq_eq_false_iff_ne]; exact fun h => hi (bytesEq h)
    have HB := hid (show decide (nm = nm2 ∧ cs = ds) = false by simp [hi])
    clear hi
    go_enter Tryd.func44, Tryd.ntmps44
    go_wp2_with fail
    go_ret
    exact ⟨by rw [HB.out] <;> rfl, K0.below⟩
/-- a table in plain words -/
structure Tb where
  nm : ByteArray
  cs : List Col
  nx : Int
  rs : List Row
deriving DecidableEq
/-- A value that is a table in memory that nobody writes. -/
def TbAt (w : World) (M : Nat → Prop) (v : Value) (t : Tb) : Prop :=
  ∃ (A : Option Addr) (n c : Nat) (B : Option Addr) (m d : Nat) (l : List Rw), v = .agg #[.string t.nm, .slice A n c, .int .i64 t.nx, .slice B m d] ∧ n ≤ c ∧ c ≤ 9223372036854775807 ∧ m ≤ d ∧ d ≤ 9223372036854775807 ∧ Ro w M (ColsIn A n t.cs) ∧ Ro w M (RwsIn B m l) ∧ (∀ r ∈ l, r.ok) ∧ l.map Rw.row = t.rs
set_option maxHeartbeats 1000000 in
set_option maxRecDepth 100000 in
theorem sametable_any (w : World) (nm : ByteArray) (A : Option Addr) (n c : Nat) (cs : List Col) (nx : Int) (A2 : Option Addr) (n2 c2 : Nat) (xs : List Rw) (nm2 : ByteArray) (B : Option Addr) (m d : Nat) (ds : List Col) (nx2 : Int) (B2 : Option Addr) (m2 d2 : Nat) (ys : List Rw) (hD : ColsIn A n cs w) (hE : ColsIn B m ds w) (hX : RwsIn A2 n2 xs w) (hY : RwsIn B2 m2 ys w) (hn : n ≤ 1000000000000) (hn2 : n2 ≤ 1000000000000) (hr : ∀ r ∈ xs, r.n ≤ 1000000000000) :
    Calls Tryd.prog 13 #[.agg #[.string nm, .slice A n c, .int .i64 nx, .slice A2 n2 c2], .agg #[.string nm2, .slice B m d, .int .i64 nx2, .slice B2 m2 d2]] w fun e w' => e = .returned (.bool (decide ((⟨nm, cs, nx, xs.map Rw.row⟩ : Tb) = ⟨nm2, ds, nx2, ys.map Rw.row⟩))) ∧ Below w.heap.size w w' := by
  have hro : ∀ (A : Option Addr) (n : Nat) (l : List Rw), RwsIn A n l w → Ro w None_ (RwsIn A n l) := fun A n l h => (Rd.ro h.1 (Nat.le_refl _) (fun _ _ h => h) : Ro w None_ (SlR 2 A n (rwCells l))).and (fun w2 h1 h2 r hr => (Rd.ro (h.2 r hr) (Nat.le_refl _) (fun _ _ h => h) : Ro w None_ (VlsIn r.A r.n r.vs)) w2 h1 h2)
  have K0 := ((((((Hold.start None_ w (fun b hb => hb.elim)).add ((hro _ _ _ hY).less (by simp [Mut, None_]))).add ((hro _ _ _ hX).less (by simp [Mut, None_, Hp.foot]))).add (Rd.ro hE (Nat.le_refl _) (by simp [Mut, None_, Hp.foot]) : Ro w _ (ColsIn B m ds))).add (Rd.ro hD (Nat.le_refl _) (by simp [Mut, None_, Hp.foot]) : Ro w _ (ColsIn A n cs))).alloc_cst #[.string nm, .slice A n c, .int .i64 nx, .slice A2 n2 c2] 32).alloc_cst #[.string nm2, .slice B m d, .int .i64 nx2, .slice B2 m2 d2] 32
  rw [World.size_alloc] at K0
  have F0 := K0.facts
  simp only [World.size_alloc, World.size_drew, factsL, cellsF, Nat.reduceAdd, List.toList_toArray, List.set_cons_zero, List.set_cons_succ, List.setIfInBounds_toArray, and_true, true_and] at F0
  clear hD hE hX hY hro
  go_enter Tryd.func13, Tryd.ntmps13
  go_wp2_with fail
  refine (sameschema_any _ nm A n c cs nm2 B m d ds (K0.ro 2 rfl).now (K0.ro 3 rfl).now hn).mono ?_
  rintro e w1 ⟨rfl, b1⟩
  have K1 := K0.call b1
  clear K0 b1 F0
  have F1 := K1.facts
  simp only [World.size_alloc, World.size_drew, factsL, cellsF, Nat.reduceAdd, List.toList_toArray, List.set_cons_zero, List.set_cons_succ, List.setIfInBounds_toArray, and_true, true_and] at F1
  by_cases h1 : nm = nm2 ∧ cs = ds
  · rw [decide_eq_true h1]
    by_cases h2 : nx = nx2
    · have h2d : (nx == nx2) = true := by simp [h2]
      have HB := hid (show decide ((⟨nm, cs, nx, xs.map Rw.row⟩ : Tb) = ⟨nm2, ds, nx2, ys.map Rw.row⟩) = decide (xs.map Rw.row = ys.map Rw.row) by simp [h1.1, h1.2, h2])
      clear h1 h2
      go_wp2_with fail
      refine (eqRws_any _ A2 n2 c2 xs B2 m2 d2 ys (K1.ro 4 rfl).now (K1.ro 5 rfl).now hn2 hr).mono ?_
      rintro e w2 ⟨rfl, b2⟩
      have K2 := K1.call b2
      go_wp2_with fail
      go_ret
      exact ⟨by rw [HB.out] <;> first | rfl | simp, K2.below⟩
    · have h2d : (nx == nx2) = false := by simpa using h2
      have HB := hid (show decide ((⟨nm, cs, nx, xs.map Rw.row⟩ : Tb) = ⟨nm2, ds, nx2, ys.map Rw.row⟩) = false by simp [h2])
      clear h1 h2
      go_wp2_with fail
      go_ret
      exact ⟨by rw [HB.out] <;> first | rfl | simp, K1.below⟩
  · have HB := hid (show decide ((⟨nm, cs, nx, xs.map Rw.row⟩ : Tb) = ⟨nm2, ds, nx2, ys.map Rw.row⟩) = false by
      rw [decide_eq_false_iff_not]; intro h; exact h1 ⟨congrArg Tb.nm h, congrArg Tb.cs h⟩)
    rw [decide_eq_false h1]
    clear h1
    go_wp2_with fail
    go_ret
    exact ⟨by rw [HB.out] <;> first | rfl | simp, K1.below⟩
end Go.Proofs.YtphofeeaphkciaaDoor

namespace Go.Proofs.YtphofeeaphkciaaDoor
open Go.RowKit
set_option linter.unusedVariables false
set_option linter.unusedSimpArgs false

/-- The columns that a draw makes: names three places apart, at most one key, which is not null. -/
def DrawnCols (key : Nat) (l : List Col) : Prop := ∀ j c, l[j]? = some c → c.name = nm_ ((j * 3 + key) % 8) ∧ 1 ≤ c.ty ∧ c.ty ≤ 3 ∧ (c.key = true → j = key ∧ c.nn = true)

/-- A schema drawn: valid, its columns in memory that nobody writes. -/
def DrawnSch (w : World) (T : Nat) (M : Nat → Prop) (e : Ending) (w' : World) : Prop :=
  ∃ (nm : ByteArray) (A : Option Addr) (n c : Nat) (l : List Col), e = .returned (.agg #[.string nm, .slice A n c]) ∧ schemaB nm l = true ∧ nm.size ≤ 12 ∧ (∀ x ∈ l, x.name.size ≤ 12) ∧ n ≤ 5 ∧ n ≤ c ∧ c ≤ 9223372036854775807 ∧ Ro w' M (SlR 4 A n (colCells l)) ∧ Tp w' T ∧ w.grownBy w' (some T)

theorem findFrom_some {α : Type} (p : α → Bool) : ∀ (l : List α) (k f : Nat), findFrom p k l = (f : Int) → ∃ x, l[f - k]? = some x ∧ p x = true ∧ k ≤ f
  | [], k, f, h => by rw [findFrom] at h; omega
  | c :: r, k, f, h => by
    rw [findFrom] at h
    split at h
    · rename_i hp
      obtain rfl : k = f := by omega
      exact ⟨c, by simp, hp, Nat.le_refl _⟩
    · obtain ⟨x, h1, h2, h3⟩ := findFrom_some p r (k + 1) f h
      refine ⟨x, ?_, h2, by omega⟩
      rw [show f - k = (f - (k + 1)) + 1 from by omega]
      simpa using h1
theorem find_some_of {α : Type} {p : α → Bool} {l : List α} {f : Nat} (h : findB p l = (f : Int)) : ∃ x, l[f]? = some x ∧ p x = true := by
  obtain ⟨x, h1, h2, _⟩ := findFrom_some p l 0 f h
  exact ⟨x, by simpa using h1, h2⟩
theorem drawnCols_snoc {key : Nat} {l : List Col} {c : Col} (h : DrawnCols key l) (h1 : c.name = nm_ ((l.length * 3 + key) % 8)) (h2 : 1 ≤ c.ty) (h3 : c.ty ≤ 3) (h4 : c.key = true → l.length = key ∧ c.nn = true) : DrawnCols key (l ++ [c]) := by
  intro j x hx
  rcases Nat.lt_or_ge j l.length with hlt | hge
  · rw [List.getElem?_append_left hlt] at hx; exact h j x hx
  · rw [List.getElem?_append_right hge] at hx
    have : j - l.length = 0 := by
      have := (List.getElem?_eq_some_iff.1 hx).1; simp at this; omega
    rw [this] at hx
    simp only [List.getElem?_cons_zero, Option.some.injEq] at hx
    subst hx
    obtain rfl : j = l.length := by omega
    exact ⟨h1, h2, h3, h4⟩
theorem find_first {l : List Col} {key : Nat} (h : DrawnCols key l) (hl : l.length ≤ 5) {j : Nat} {c : Col} (hc : l[j]? = some c) : findB (named c.name) l = (j : Int) := by
  obtain ⟨f0, f1⟩ := find_le (l := l) (named_self c) hc
  obtain ⟨f, hf⟩ := Int.eq_ofNat_of_zero_le f0
  have hj := (List.getElem?_eq_some_iff.1 hc).1
  have hex : ∃ x, l[f]? = some x ∧ named c.name x = true := by
    have := find_some_of (p := named c.name) (l := l) (f := f) hf
    exact this
  obtain ⟨x, hx, hn⟩ := hex
  obtain ⟨e1, _⟩ := h f x hx
  obtain ⟨e2, _⟩ := h j c hc
  rw [hf]
  by_cases hne : f = j
  · rw [hne]
  · exfalso
    unfold named at hn
    rw [e1, e2] at hn
    have hfl := (List.getElem?_eq_some_iff.1 hx).1
    rw [nm_ne _ (Nat.mod_lt _ (by omega)) _ (Nat.mod_lt _ (by omega)) (by omega)] at hn
    cases hn
theorem okFrom_all {α : Type} {t : Nat → α → Bool} : ∀ (l : List α) (k : Nat), (∀ j c, l[j]? = some c → t (k + j) c = true) → okFrom t k l = true
  | [], _, _ => rfl
  | c :: r, k, h => by
    rw [okFrom, show t k c = true from h 0 c rfl, Bool.true_and]
    exact okFrom_all r (k + 1) fun j x hx => by rw [show k + 1 + j = k + (j + 1) from by omega]; exact h (j + 1) x (by simpa using hx)
theorem keys_one {key : Nat} : ∀ (l : List Col) (k : Nat), (∀ j c, l[j]? = some c → c.key = true → k + j = key) → (l.filter Col.key).length ≤ 1 ∧ (key < k → (l.filter Col.key).length = 0)
  | [], _, _ => by simp
  | c :: r, k, h => by
    obtain ⟨h1, h2⟩ := keys_one (key := key) r (k + 1) fun j x hx hk => by have := h (j + 1) x (by simpa using hx) hk; omega
    have h0 := h 0 c rfl
    cases hk : c.key
    · simp only [List.filter_cons, hk, Bool.false_eq_true, if_false]
      exact ⟨h1, fun hlt => h2 (by omega)⟩
    · have := h0 hk
      simp only [List.filter_cons, hk, if_true, List.length_cons]
      have := h2 (by omega)
      exact ⟨by omega, fun hlt => by omega⟩
theorem drawn_valid {key : Nat} {l : List Col} {j : Nat} (h : DrawnCols key l) (hl : l.length ≤ 5) (h1 : 1 ≤ l.length) (hj : j < 8) : schemaB (nm_ j) l = true := by
  have hk := (keys_one (key := key) l 0 (fun i c hc hk => by have := ((h i c hc).2.2.2 hk).1; omega)).1
  have ho : okFrom (colOk l) 0 l = true := okFrom_all l 0 fun i c hc => by
    obtain ⟨e1, e2, e3, e4⟩ := h i c hc
    rw [Nat.zero_add]
    unfold colOk
    rw [find_first h hl hc, e1, (nm_ok _ (Nat.mod_lt _ (by omega))).1]
    cases hkey : c.key
    · simp [e2, e3]
    · simp [e2, e3, (e4 hkey).2]
  unfold schemaB
  rw [(nm_ok j hj).1, ho]
  simp [h1, hk]; omega

theorem two_of {w : World} {a b : Nat} {t : TypeId} {x0 x1 : Value} {s : ByteArray} {j : Nat} (ha : Blk w a t #[x0, x1]) (hn : w.cell? ⟨b, j, none⟩ = some (.string s)) : w.cell? ⟨a, 1, none⟩ = some x1 ∧ w.cell? ⟨b, j, none⟩ = some (.string s) := ⟨ha.cell 1, hn⟩
theorem Tryd.infoCol : (Tryd.prog.info? 82).map (fun i => (i.zero, i.size, i.bytes)) = some (some (.agg #[.string ⟨#[]⟩, .int .i64 0, .bool false, .bool false]), 4, 32) := by kernel_rfl

set_option maxHeartbeats 8000000 in
theorem anyschema_any (M : Nat → Prop) (T : Nat) (w : World) (hM : ∀ b, M b → b < w.heap.size) (ht : Tp w T) (hMT : ∀ b, M b → T ≤ b) (hw : Nms w) (hT : 0 < T) :
    Calls Tryd.prog 10 #[.pointer (some ⟨T, 0, none⟩)] w fun e w' => DrawnSch w T M e w' := by
  have hMn : ¬ Mut M [.tp T] 0 := by
    rintro (h | ⟨k, hk, hf⟩)
    · have := hMT _ h; omega
    · simp only [List.mem_singleton] at hk; subst hk; injection hf with hf; omega
  have K0 := ((Hold.startT M w T hM ht hMT).add (hw.ro hMn)).alloc #[.string ⟨#[]⟩, .slice none 0 0] 24
  clear hw hMn
  go_enter Tryd.func10, Tryd.ntmps10
  go_wp2_with fail
  refine (name_any T _ (K0.tp_ 2 rfl) (K0.ro 1 rfl).now hT).mono ?_
  rintro e w1 ⟨jn, hjn, rfl, t1, g1⟩
  have K1 := (Hold.callT K0 2 rfl g1 t1).alloc #[.string (nm_ jn), .slice none 0 0] 24
  clear g1 t1
  go_wp2_with fail
  refine (next_any T 4 _ (K1.tp_ 3 rfl) (by omega) (by omega)).mono ?_
  rintro e w2 ⟨key, rfl, hk0, hk1, t2, g2⟩
  have K2 := Hold.callT K1 3 rfl g2 t2
  clear g2 t2
  obtain ⟨key, rfl⟩ := Int.eq_ofNat_of_zero_le hk0
  go_wp2_with fail
  refine (next_any T 5 _ (K2.tp_ 3 rfl) (by omega) (by omega)).mono ?_
  rintro e w3 ⟨num, rfl, hn0, hn1, t3, g3⟩
  have K3 := Hold.callT K2 3 rfl g3 t3
  clear g3 t3
  obtain ⟨num, rfl⟩ := Int.eq_ofNat_of_zero_le hn0
  have K4 := K3.nil 82 4
  clear K3 K2 K1 K0
  go_wp2_with fail
  go_loopw [5] (fun i wr => ∃ (j cap : Nat) (A : Option Addr) (l : List Col), j ≤ num + 1 ∧ i = .int .i64 ((num : Int) + 1 - j) ∧ l.length = j ∧ DrawnCols key l ∧ j ≤ cap ∧
    Hold M (some T) w wr [.own 82 4 (.slice A j cap) j (colCells l), .blk w1.heap.size 24 #[.string (nm_ jn), .slice A j cap], .blk w.heap.size 24 #[.string ⟨#[]⟩, .slice none 0 0], .ro Nms, .tp T]) (fun i _ => (intOf i).toNat)
  case atStart => exact ⟨0, 0, none, [], by omega, by go_num, rfl, (fun j c h => by simp at h), by omega, K4⟩
  case round =>
    obtain ⟨j, cap, A, l, hj, rfl, hl, hd, hcap, H⟩ := hrel
    have HL := hid hl; clear hl
    have HD := hid hd; clear hd
    have F := H.facts
    simp only [World.size_alloc, factsL, cellsF, List.toList_toArray, Nat.reduceAdd, and_true, true_and] at F
    by_cases hlt : j < num + 1
    · obtain ⟨q, hq⟩ : ∃ q, q = (j * 3 + key) % 8 := ⟨_, rfl⟩
      have hq8 : q < 8 := by omega
      have s1 : IntKind.i64.wrap ((j : Int) * 3) = (j : Int) * 3 := IntWalk.i64_in _ (by omega)
      have s2 : IntKind.i64.wrap ((j : Int) * 3 + (key : Int)) = (j : Int) * 3 + (key : Int) := IntWalk.i64_in _ (by omega)
      have s3 : ((j : Int) * 3 + (key : Int)).tmod 8 = (q : Int) := by rw [Int.tmod_eq_emod_of_nonneg (by omega)]; omega
      have s4 : IntKind.i64.wrap (q : Int) = (q : Int) := IntWalk.i64_in _ (by omega)
      have HQ := hid hq; clear hq
      have q0 : (0 : Int) ≤ (q : Int) := by omega
      have q8 : (q : Int) < 8 := by omega
      go_wp2_with fail
      go_cut [6] (fun s6 wx => ∃ (g : Nat) (r : Int) (bb : Bool), s6 = .pointer (some ⟨g, 0, none⟩) ∧ 0 ≤ r ∧ r < 3 ∧
        Hold M (some T) w wx [.blk g 82 #[.string (nm_ q), .int .i64 (1 + r), .bool bb, .bool false], .own 82 4 (.slice A j cap) j (colCells l), .blk w1.heap.size 24 #[.string (nm_ jn), .slice A j cap], .blk w.heap.size 24 #[.string ⟨#[]⟩, .slice none 0 0], .ro Nms, .tp T])
      case first =>
        go_region_held3 (fun w' => w'.cell? ⟨w1.heap.size, 1, none⟩ = some (.slice A j cap) ∧ w'.cell? ⟨0, q, none⟩ = some (.string (nm_ q)))
          (first | (have hk_ := two_of (H.drew.blk_ 1 rfl) ((H.drew.ro 3 rfl).now q hq8); with_reducible exact hk_) | (have hk_ := two_of (((H.alloc #[.string ⟨#[]⟩, .int .i64 0, .bool false, .bool false] 82).drew).blk_ 2 rfl) ((((H.alloc #[.string ⟨#[]⟩, .int .i64 0, .bool false, .bool false] 82).drew).ro 4 rfl).now q hq8); with_reducible exact hk_) | (have hk_ := two_of ((H.drew.alloc #[.string ⟨#[]⟩, .int .i64 0, .bool false, .bool false] 82).blk_ 2 rfl) (((H.drew.alloc #[.string ⟨#[]⟩, .int .i64 0, .bool false, .bool false] 82).ro 4 rfl).now q hq8); with_reducible exact hk_) | (have hk_ := two_of (K5.blk_ 1 rfl) ((K5.ro 3 rfl).now q hq8); with_reducible exact hk_) | (have hk_ := two_of (K5.blk_ 2 rfl) ((K5.ro 4 rfl).now q hq8); with_reducible exact hk_) | (have hk_ := two_of ((K5.alloc #[.string ⟨#[]⟩, .int .i64 0, .bool false, .bool false] 82).blk_ 2 rfl) (((K5.alloc #[.string ⟨#[]⟩, .int .i64 0, .bool false, .bool false] 82).ro 4 rfl).now q hq8); with_reducible exact hk_) | (have hk_ := two_of (K6.blk_ 1 rfl) ((K6.ro 3 rfl).now q hq8); with_reducible exact hk_) | (have hk_ := two_of (K6.blk_ 2 rfl) ((K6.ro 4 rfl).now q hq8); with_reducible exact hk_) | (have hk_ := two_of ((K6.alloc #[.string ⟨#[]⟩, .int .i64 0, .bool false, .bool false] 82).blk_ 2 rfl) (((K6.alloc #[.string ⟨#[]⟩, .int .i64 0, .bool false, .bool false] 82).ro 4 rfl).now q hq8); with_reducible exact hk_) | (have hk_ := two_of ((K6.alloc #[.string (nm_ q), .int .i64 (1 + r), .bool bb, .bool false] 82).blk_ 2 rfl) (((K6.alloc #[.string (nm_ q), .int .i64 (1 + r), .bool bb, .bool false] 82).ro 4 rfl).now q hq8); with_reducible exact hk_) | (have hk_ := two_of (((((K6.store 0 rfl 0 (.string (nm_ q))).store 0 rfl 1 (.int .i64 (1 + r))).store 0 rfl 2 (.bool bb)).store 0 rfl 3 (.bool false)).blk_ 2 rfl) ((((((K6.store 0 rfl 0 (.string (nm_ q))).store 0 rfl 1 (.int .i64 (1 + r))).store 0 rfl 2 (.bool bb)).store 0 rfl 3 (.bool false)).ro 4 rfl).now q hq8); with_reducible exact hk_))
          (first
            | (have ht_ := H.drew.tp_ 4 rfl; go_at_call 39; ((with_reducible refine (next_any T 3 _ ht_ (by omega) (by omega)).mono ?_); clear ht_; rintro e w5 ⟨r, rfl, hr0, hr1, t5, g5⟩; have K5 := Hold.callT H.drew 4 rfl g5 t5; have hw5 : IntKind.i64.wrap (1 + r) = 1 + r := IntWalk.i64_in _ (by omega)))
            | (have ht_ := ((H.alloc #[.string ⟨#[]⟩, .int .i64 0, .bool false, .bool false] 82).drew).tp_ 5 rfl; go_at_call 39; ((with_reducible refine (next_any T 3 _ ht_ (by omega) (by omega)).mono ?_); clear ht_; rintro e w5 ⟨r, rfl, hr0, hr1, t5, g5⟩; have K5 := Hold.callT ((H.alloc #[.string ⟨#[]⟩, .int .i64 0, .bool false, .bool false] 82).drew) 5 rfl g5 t5; have hw5 : IntKind.i64.wrap (1 + r) = 1 + r := IntWalk.i64_in _ (by omega)))
            | (have ht_ := (H.drew.alloc #[.string ⟨#[]⟩, .int .i64 0, .bool false, .bool false] 82).tp_ 5 rfl; go_at_call 39; ((with_reducible refine (next_any T 3 _ ht_ (by omega) (by omega)).mono ?_); clear ht_; rintro e w5 ⟨r, rfl, hr0, hr1, t5, g5⟩; have K5 := Hold.callT (H.drew.alloc #[.string ⟨#[]⟩, .int .i64 0, .bool false, .bool false] 82) 5 rfl g5 t5; have hw5 : IntKind.i64.wrap (1 + r) = 1 + r := IntWalk.i64_in _ (by omega)))
            | (have ht_ := K5.tp_ 4 rfl; go_at_call 40; ((with_reducible refine (bool_any T 3 _ ht_ (by omega) (by omega)).mono ?_); clear ht_; rintro e w6 ⟨bb, rfl, t6, g6⟩; have K6 := Hold.callT K5 4 rfl g6 t6; have F6 := K6.facts; simp only [World.size_alloc, World.size_drew, factsL, cellsF, Nat.reduceAdd, List.toList_toArray, List.set_cons_zero, List.set_cons_succ, List.setIfInBounds_toArray, and_true, true_and] at F6))
            | (have ht_ := K5.tp_ 5 rfl; go_at_call 40; ((with_reducible refine (bool_any T 3 _ ht_ (by omega) (by omega)).mono ?_); clear ht_; rintro e w6 ⟨bb, rfl, t6, g6⟩; have K6 := Hold.callT K5 5 rfl g6 t6; have F6 := K6.facts; simp only [World.size_alloc, World.size_drew, factsL, cellsF, Nat.reduceAdd, List.toList_toArray, List.set_cons_zero, List.set_cons_succ, List.setIfInBounds_toArray, and_true, true_and] at F6))
            | (have ht_ := (K5.alloc #[.string ⟨#[]⟩, .int .i64 0, .bool false, .bool false] 82).tp_ 5 rfl; go_at_call 40; ((with_reducible refine (bool_any T 3 _ ht_ (by omega) (by omega)).mono ?_); clear ht_; rintro e w6 ⟨bb, rfl, t6, g6⟩; have K6 := Hold.callT (K5.alloc #[.string ⟨#[]⟩, .int .i64 0, .bool false, .bool false] 82) 5 rfl g6 t6; have F6 := K6.facts; simp only [World.size_alloc, World.size_drew, factsL, cellsF, Nat.reduceAdd, List.toList_toArray, List.set_cons_zero, List.set_cons_succ, List.setIfInBounds_toArray, and_true, true_and] at F6)))
        all_goals
          go_wp2_with fail
          go_meet
          first
            | exact ⟨_, r, bb, rfl, hr0, hr1, K6.alloc #[.string (nm_ q), .int .i64 (1 + r), .bool bb, .bool false] 82⟩
            | exact ⟨_, r, bb, rfl, hr0, hr1, (((K6.store 0 rfl 0 (.string (nm_ q))).store 0 rfl 1 (.int .i64 (1 + r))).store 0 rfl 2 (.bool bb)).store 0 rfl 3 (.bool false)⟩
      case rest =>
        obtain ⟨g, r, bb, rfl, hr0, hr1, K⟩ := hcut
        clear s1 s2 s3 s4 F H
        have NK := K.nes
        simp only [World.size_alloc, nesL, neF, and_true, true_and] at NK
        have FK := K.facts
        simp only [World.size_alloc, World.size_drew, factsL, cellsF, Nat.reduceAdd, List.toList_toArray, List.set_cons_zero, List.set_cons_succ, List.setIfInBounds_toArray, and_true, true_and] at FK
        by_cases hkj : key = j
        · have hkb : ((key : Int) == (j : Int)) = true := by simp; omega
          have HKJ := hid hkj; clear hkj
          have KP := ((K.store 0 rfl 3 (.bool true)).store 0 rfl 2 (.bool true))
          have HOWN := hid (KP.get 1 rfl)
          have HB := hid KP.grow.size
          go_wp2_with (at_builtin; go_must (refine wpList_app2 ((wc.setCell ⟨g, 3, none⟩ (.bool true)).setCell ⟨g, 2, none⟩ (.bool true)) #[.string (nm_ q), .int .i64 (1 + r), .bool true, .bool true] rfl (.tmp 42) (.tmp 44) 22 rfl w.heap.size 82 4 32 _ Tryd.underlying22 Tryd.infoCol rfl (by omega) (.slice A j cap) j (colCells l) rfl HOWN.out wc.heap.size (by simp) rfl rfl (by intro u hu; simp at hu; rcases hu with rfl | rfl | rfl | rfl <;> rfl) (by omega) (by omega) HB.out ?_); intro g' cap' w' ho hg hdj hl'; have hcap' := hid ho.2; have KA := Hold.append (KP.alloc_cst #[.string (nm_ q), .int .i64 (1 + r), .bool true, .bool true] 82) 2 rfl ho hg hdj hl'; have FA := KA.facts; simp only [World.size_alloc, World.size_drew, factsL, cellsF, Nat.reduceAdd, List.toList_toArray, List.set_cons_zero, List.set_cons_succ, List.setIfInBounds_toArray, and_true, true_and] at FA; clear FK)
          have KB := KA.store 3 rfl 1 (.slice (some ⟨g', 0, none⟩) (j + 1) cap')
          go_roundw
          case rel =>
            have e : colCells l ++ (#[.string (nm_ q), .int .i64 (1 + r), .bool true, .bool true] : Array Value).toList = colCells (l ++ [⟨nm_ q, 1 + r, true, true⟩]) := by simp [colCells, Col.cells]
            have hcc : j + 1 ≤ cap' := by
              rcases hcap'.out with ⟨h, _⟩ | ⟨g2, c2, cur, hv, _, _, hle, _⟩
              · cases h
              · have h3 := (Value.slice.inj hv).2.2; omega
            refine ⟨j + 1, cap', some ⟨g', 0, none⟩, l ++ [⟨nm_ q, 1 + r, true, true⟩], by omega, by go_num, by rw [List.length_append, HL.out]; rfl, drawnCols_snoc HD.out (by rw [HL.out, ← HQ.out]) (by show (1 : Int) ≤ 1 + r; omega) (by show 1 + r ≤ (3 : Int); omega) ?_, hcc, ?_⟩
            · intro _; exact ⟨by rw [HL.out, HKJ.out], rfl⟩
            · rw [← e]
              exact KB.drop (List.Sublist.cons _ (List.sublist_cons_self _ _))
          case measure => simp [intOf]; omega
        · have hkb : ((key : Int) == (j : Int)) = false := by simp; omega
          clear hkj
          have KP := K
          have HOWN := hid (KP.get 1 rfl)
          have HB := hid KP.grow.size
          go_wp2_with (at_builtin; go_must (refine wpList_app2 wc #[.string (nm_ q), .int .i64 (1 + r), .bool bb, .bool false] rfl (.tmp 42) (.tmp 44) 22 rfl w.heap.size 82 4 32 _ Tryd.underlying22 Tryd.infoCol rfl (by omega) (.slice A j cap) j (colCells l) rfl HOWN.out wc.heap.size (by simp) rfl rfl (by intro u hu; simp at hu; rcases hu with rfl | rfl | rfl | rfl <;> rfl) (by omega) (by omega) HB.out ?_); intro g' cap' w' ho hg hdj hl'; have hcap' := hid ho.2; have KA := Hold.append (KP.alloc_cst #[.string (nm_ q), .int .i64 (1 + r), .bool bb, .bool false] 82) 2 rfl ho hg hdj hl'; have FA := KA.facts; simp only [World.size_alloc, World.size_drew, factsL, cellsF, Nat.reduceAdd, List.toList_toArray, List.set_cons_zero, List.set_cons_succ, List.setIfInBounds_toArray, and_true, true_and] at FA; clear FK)
          have KB := KA.store 3 rfl 1 (.slice (some ⟨g', 0, none⟩) (j + 1) cap')
          go_roundw
          case rel =>
            have e : colCells l ++ (#[.string (nm_ q), .int .i64 (1 + r), .bool bb, .bool false] : Array Value).toList = colCells (l ++ [⟨nm_ q, 1 + r, bb, false⟩]) := by simp [colCells, Col.cells]
            have hcc : j + 1 ≤ cap' := by
              rcases hcap'.out with ⟨h, _⟩ | ⟨g2, c2, cur, hv, _, _, hle, _⟩
              · cases h
              · have h3 := (Value.slice.inj hv).2.2; omega
            refine ⟨j + 1, cap', some ⟨g', 0, none⟩, l ++ [⟨nm_ q, 1 + r, bb, false⟩], by omega, by go_num, by rw [List.length_append, HL.out]; rfl, drawnCols_snoc HD.out (by rw [HL.out, ← HQ.out]) (by show (1 : Int) ≤ 1 + r; omega) (by show 1 + r ≤ (3 : Int); omega) ?_, hcc, ?_⟩
            · intro h; cases h
            · rw [← e]
              exact KB.drop (List.Sublist.cons _ (List.sublist_cons_self _ _))
          case measure => simp [intOf]; omega
    · obtain rfl : j = num + 1 := by omega
      have hc63 : cap ≤ 9223372036854775807 := by
        rcases (H.get 0 rfl).2 with ⟨h, _⟩ | ⟨g2, c2, cur, hv, _, _, hle, hm, _⟩
        · injection h with _ h2 h3; omega
        · have h3 := (Value.slice.inj hv).2.2; unfold maxLen at hm; omega
      have HV := hid (drawn_valid HD.out (by rw [HL.out]; omega) (by rw [HL.out]; omega) hjn)
      have HN := hid (show ∀ x ∈ l, x.name.size ≤ 12 from fun x hx => by
        obtain ⟨i, hi⟩ := List.getElem?_of_mem hx
        rw [(HD.out i x hi).1]
        exact (nm_ok _ (Nat.mod_lt _ (by omega))).2)
      have KF := ((H.sealRow 0 rfl).store 2 rfl 0 (.string (nm_ jn))).store 2 rfl 1 (.slice A (num + 1) cap)
      go_wp2_with fail
      refine bodyPost_ret (v := .agg #[.string (nm_ jn), .slice A (num + 1) cap]) (by simp [results, Tryd.results10, go_sem, F]) rfl ⟨nm_ jn, A, num + 1, cap, l, rfl, HV.out, (nm_ok jn hjn).2, HN.out, by omega, by omega, hc63, KF.roOut 0 rfl, KF.tp_ 4 rfl, KF.grow⟩
end Go.Proofs.YtphofeeaphkciaaDoor

namespace Go.Proofs.YtphofeeaphkciaaDoor
open Go.RowKit
set_option linter.unusedVariables false
set_option linter.unusedSimpArgs false

/-- A schema in memory: its name, where its columns lie, its columns. -/
structure Sc where
  nm : ByteArray
  A : Option Addr
  n : Nat
  c : Nat
  l : List Col
def ScAt (g k : Nat) (s : Sc) (w : World) : Prop := w.cell? ⟨g, k * 2, none⟩ = some (.string s.nm) ∧ w.cell? ⟨g, k * 2 + 1, none⟩ = some (.slice s.A s.n s.c) ∧ SlR 4 s.A s.n (colCells s.l) w
def ScOk (s : Sc) : Prop := s.n ≤ 9223372036854775807 ∧ s.nm.size ≤ maxLen ∧ ∀ x ∈ s.l, x.name.size ≤ maxLen
theorem mut_tp {M : Nat → Prop} {L : List Hp} {T i : Nat} (h : L[i]? = some (.tp T)) : ∀ b, Mut (Mut M L) [.tp T] b → Mut M L b := by
  rintro b (hb | ⟨k, hk, hf⟩)
  · exact hb
  · simp only [List.mem_singleton] at hk
    subst hk
    exact .inr ⟨_, List.mem_of_getElem? h, hf⟩

end Go.Proofs.YtphofeeaphkciaaDoor

namespace Go.Proofs.YtphofeeaphkciaaDoor
open Go.RowKit
set_option linter.unusedVariables false
set_option linter.unusedSimpArgs false

def ScsAt2 (g : Nat) (D : Nat → Sc) (w : World) : Prop := ∀ k, k < 2 → ScAt g k (D k) w
theorem scs_2 {w : World} {M : Nat → Prop} {g : Nat} {t : TypeId} {s0 s1 : Sc}
    (h : Ro w M (fun w => w.heap[g]? = some (.cells #[.string s0.nm, .slice s0.A s0.n s0.c, .string s1.nm, .slice s1.A s1.n s1.c] t (0, 0))))
    (r0 : Ro w M (SlR 4 s0.A s0.n (colCells s0.l))) (r1 : Ro w M (SlR 4 s1.A s1.n (colCells s1.l))) (k0 : ScOk s0) (k1 : ScOk s1) : ∃ D : Nat → Sc, Ro w M (ScsAt2 g D) ∧ ∀ k, k < 2 → ScOk (D k) := by
  refine ⟨fun k => if k = 0 then s0 else s1, ?_, fun k hk => ?_⟩
  · refine (h.and (r0.and r1)).imp fun w2 ⟨hh, q0, q1⟩ k hk => ?_
    have hb : Blk w2 g t _ := hh
    obtain rfl | rfl : k = 0 ∨ k = 1 := by omega
    · exact ⟨hb.cell 0, hb.cell 1, q0⟩
    · exact ⟨hb.cell 2, hb.cell 3, q1⟩
  · obtain rfl | rfl : k = 0 ∨ k = 1 := by omega
    · exact k0
    · exact k1
theorem tabB_new {nm : ByteArray} {cs : List Col} (h : schemaB nm cs = true) : tabB nm cs 1 [] = true := by
  unfold tabB
  rw [h]
  simp [okR, dupB, dupF]
set_option maxHeartbeats 2000000 in
set_option maxRecDepth 100000 in
theorem tbegins_walk (nm0 : ByteArray) (A0 : Option Addr) (n0 c0 : Nat) (l0 : List Col) (A : Option Addr) (n c : Nat) (zs : List Int) (w : World) (h0 : Rd w w.heap.size 4 A0 n0 (colCells l0)) (k0 : ScOk ⟨nm0, A0, n0, c0, l0⟩)
    (hr : Rd w w.heap.size 1 A n (zs.map (Value.int .i64))) (hz : Ints zs) (hn : n ≤ c) (hc : c ≤ 9223372036854775807) (hw : Nms w) :
    Calls Tryd.prog 3 #[.agg #[.string nm0, .slice A0 n0 c0], .slice A n c] w fun e w' => e = .returned (.bool true) ∧ Below w.heap.size w w' := by
  have hwl := hw.lt
  have K0 := Hold.begin_ w
  go_enter Tryd.func3, Tryd.ntmps3
  go_wp2_with fail
  refine (new_any A n c zs _ ((hr.alloc (Nat.le_refl _) _).more (by simp)) hz hn hc).mono ?_
  rintro e w1 ⟨T, rfl, hT, t1, b1⟩
  have K1 := Hold.newTape (K0.alloc_cst _ _) b1 t1 hT (by simp [Mut, None_, Hp.foot])
  have wd0 : Nms w1 := (hw.below (ext1 w _) hwl).below b1 (by simp)
  have hT0 : w.heap.size + 1 ≤ T := by simpa using hT
  have hT1 : 0 < T := by omega
  have hR1 : Rd w1 w.heap.size 4 A0 n0 (colCells l0) := (h0.alloc (Nat.le_refl _) _).below b1 (by simp)
  have hmT : ∀ b, b < T → ¬ Mut None_ [.tp T, .cst w.heap.size 24 #[.string nm0, .slice A0 n0 c0]] b := fun b hb => by simp [Mut, None_, Hp.foot]; omega
  have K2 := (K1.add (wd0.ro (hmT _ hT1))).add (Ro.less (hR1.ro (by have := b1.size; simp at this; omega) fun b hb => hmT b (by omega)) (mut_none rfl))
  clear K1 K0 wd0 t1 b1 hw hr hR1 hmT h0
  go_wp2_with fail
  refine (anyschema_any (Mut None_ _) T _ K2.mutLt (K2.tp_ 2 rfl) (K2.get 2 rfl).2 (K2.ro 1 rfl).now hT1).mono ?_
  rintro e w2 ⟨nm1, A1, n1, c1, l1, rfl, hv1, hs1, hx1, h51, hc1, hc63, r1, t2, g2⟩
  have K4 := (((Hold.callT K2 2 rfl g2 t2).add r1).alloc_cst #[.string nm1, .slice A1 n1 c1] 24)
  clear K2 r1 t2 g2
  have F4 := K4.facts
  simp only [World.size_alloc, World.size_drew, factsL, cellsF, Nat.reduceAdd, List.toList_toArray, List.set_cons_zero, List.set_cons_succ, List.setIfInBounds_toArray, and_true, true_and] at F4
  have K5 := K4.alloc_cst #[.string nm0, .slice A0 n0 c0, .string nm1, .slice A1 n1 c1] 24
  rw [World.size_alloc] at K5
  obtain ⟨D, rD, kD⟩ := scs_2 (s0 := ⟨nm0, A0, n0, c0, l0⟩) (s1 := ⟨nm1, A1, n1, c1, l1⟩) (t := 24) (K5.get 0 rfl) (K5.ro 3 rfl) (K5.ro 2 rfl) k0 ⟨by show n1 ≤ _; omega, by show nm1.size ≤ _; unfold maxLen; omega, fun x hx => by have := hx1 x hx; unfold maxLen; omega⟩
  have K6 := (K5.add rD).drop (L' := [.ro (ScsAt2 (w2.heap.size + 1) D)]) (List.Sublist.cons_cons _ (List.nil_sublist _))
  clear K5 K4 rD
  go_wp2_with fail
  clear F4
  go_loopw [21] (fun i wr => ∃ (k : Nat), k ≤ 2 ∧ i = .int .i64 k ∧ Hold None_ none w wr [.ro (ScsAt2 (w2.heap.size + 1) D)]) (fun i _ => 2 - (intOf i).toNat)
  case atStart => exact ⟨0, by omega, rfl, K6⟩
  case round =>
    clear K6
    obtain ⟨k, hk, rfl, H⟩ := hrel
    by_cases hlt : k < 2
    · have hd : decide ((k : Int) < 2) = true := by simp; omega
      have i0 : (0 : Int) ≤ (k : Int) := by omega
      obtain ⟨s, hs⟩ : ∃ s, s = D k := ⟨_, rfl⟩
      have hro : Ro wr (Mut None_ [.ro (ScsAt2 (w2.heap.size + 1) D)]) (ScAt (w2.heap.size + 1) k s) := (H.ro 0 rfl).imp fun w3 h3 => by rw [hs]; exact h3 k hlt
      have hok := kD k hlt
      rw [← hs] at hok
      clear hs
      obtain ⟨nm, AA, nn, cc, cs⟩ := s
      obtain ⟨s0, s1, _⟩ := hro.now
      obtain ⟨o0, o1, o2⟩ := hok
      simp only at s0 s1 o0 o1 o2
      have hcols : Ro wr (Mut None_ [.ro (ScsAt2 (w2.heap.size + 1) D)]) (ColsIn AA nn cs) := hro.imp fun w3 h3 => h3.2.2
      have K1 := (H.add hcols).alloc_cst #[.string nm, .slice AA nn cc] 24
      clear hro hcols H
      have F1 := K1.facts
      simp only [World.size_alloc, World.size_drew, factsL, cellsF, Nat.reduceAdd, List.toList_toArray, List.set_cons_zero, List.set_cons_succ, List.setIfInBounds_toArray, and_true, true_and] at F1
      go_wp2_with fail
      refine (tnew_any _ _ K1.mutLt nm AA nn cc cs (K1.ro 1 rfl) o0 o1 o2).mono ?_
      intro e w4 hN
      unfold NewRet at hN
      cases hsb : schemaB nm cs
      · rw [hsb, if_neg (by simp)] at hN
        obtain ⟨rfl, b4⟩ := hN
        have K2 := (K1.call b4).alloc_cst #[.string ⟨#[]⟩, .slice none 0 0, .int .i64 0, .slice none 0 0] 32
        clear K1 b4 F1
        have F2 := K2.facts
        simp only [World.size_alloc, World.size_drew, factsL, cellsF, Nat.reduceAdd, List.toList_toArray, List.set_cons_zero, List.set_cons_succ, List.setIfInBounds_toArray, and_true, true_and] at F2
        have HSB := hid hsb; clear hsb
        go_wp2_with fail
        refine (rtnew_any _ _ K2.mutLt nm AA nn cc cs (K2.ro 2 rfl) o0 o1 o2).mono ?_
        intro e w5 hN
        unfold NewRet at hN
        rw [HSB.out, if_neg (by simp)] at hN
        obtain ⟨rfl, b5⟩ := hN
        have K3 := (K2.call b5).alloc_cst #[.string ⟨#[]⟩, .slice none 0 0, .int .i64 0, .slice none 0 0] 32
        clear K2 b5 F2
        have F3 := K3.facts
        simp only [World.size_alloc, World.size_drew, factsL, cellsF, Nat.reduceAdd, List.toList_toArray, List.set_cons_zero, List.set_cons_succ, List.setIfInBounds_toArray, and_true, true_and] at F3
        go_wp2_with fail
        refine (sametable_any _ ⟨#[]⟩ none 0 0 [] 0 none 0 0 [] ⟨#[]⟩ none 0 0 [] 0 none 0 0 [] Rd.none_ Rd.none_ ⟨Rd.none_, fun r hr => nomatch hr⟩ ⟨Rd.none_, fun r hr => nomatch hr⟩ (by omega) (by omega) (fun r hr => nomatch hr)).mono ?_
        rintro e w6 ⟨rfl, b6⟩
        rw [decide_eq_true rfl]
        have K4 := (K3.call b6).drop (List.Sublist.cons _ (List.Sublist.cons _ (List.Sublist.cons _ (List.Sublist.cons _ (List.Sublist.refl _)))))
        go_wp2_with fail
        go_roundw
        case rel => exact ⟨k + 1, by omega, by go_num, K4⟩
        case measure => simp [intOf]; omega
      · rw [hsb, if_pos rfl] at hN
        obtain ⟨A2, n2, c2, rfl, hn2, hc2, hc22, r2, b4⟩ := hN
        have hn6 : n2 ≤ 6 := by rw [hn2]; exact schemaB_len hsb
        have K2 := ((K1.call b4).add r2).alloc_cst #[.string nm, .slice A2 n2 c2, .int .i64 1, .slice none 0 0] 32
        clear K1 b4 F1 r2 hn2
        have F2 := K2.facts
        simp only [World.size_alloc, World.size_drew, factsL, cellsF, Nat.reduceAdd, List.toList_toArray, List.set_cons_zero, List.set_cons_succ, List.setIfInBounds_toArray, and_true, true_and] at F2
        have HSB := hid hsb; clear hsb
        go_wp2_with fail
        refine (rtnew_any _ _ K2.mutLt nm AA nn cc cs (K2.ro 3 rfl) o0 o1 o2).mono ?_
        intro e w5 hN
        unfold NewRet at hN
        rw [HSB.out, if_pos rfl] at hN
        obtain ⟨A3, n3, c3, rfl, hn3, hc3, hc33, r3, b5⟩ := hN
        have K3 := ((K2.call b5).add r3).alloc_cst #[.string nm, .slice A3 n3 c3, .int .i64 1, .slice none 0 0] 32
        clear K2 b5 F2 r3 hn3
        have F3 := K3.facts
        simp only [World.size_alloc, World.size_drew, factsL, cellsF, Nat.reduceAdd, List.toList_toArray, List.set_cons_zero, List.set_cons_succ, List.setIfInBounds_toArray, and_true, true_and] at F3
        go_wp2_with fail
        refine (sametable_any _ nm A2 n2 c2 cs 1 none 0 0 [] nm A3 n3 c3 cs 1 none 0 0 [] (K3.ro 3 rfl).now (K3.ro 1 rfl).now ⟨Rd.none_, fun r hr => nomatch hr⟩ ⟨Rd.none_, fun r hr => nomatch hr⟩ (by omega) (by omega) (fun r hr => nomatch hr)).mono ?_
        rintro e w6 ⟨rfl, b6⟩
        rw [decide_eq_true rfl]
        have K4 := K3.call b6
        clear K3 b6 F3
        have F4 := K4.facts
        simp only [World.size_alloc, World.size_drew, factsL, cellsF, Nat.reduceAdd, List.toList_toArray, List.set_cons_zero, List.set_cons_succ, List.setIfInBounds_toArray, and_true, true_and] at F4
        go_wp2_with fail
        refine (tvalid_any _ _ K4.mutLt nm A2 n2 c2 cs 1 none 0 0 [] (K4.ro 3 rfl) (fun _ _ _ => ⟨Rd.none_, fun r hr => nomatch hr⟩) (by omega) (by omega) (fun r hr => nomatch hr) o1 o2).mono ?_
        rintro e w7 ⟨rfl, b7⟩
        rw [show tabB nm cs 1 (List.map Rw.row []) = true from tabB_new HSB.out]
        have K5 := (K4.call b7).drop (List.Sublist.cons _ (List.Sublist.cons _ (List.Sublist.cons _ (List.Sublist.cons _ (List.Sublist.cons _ (List.Sublist.cons _ (List.Sublist.refl _)))))))
        go_wp2_with fail
        go_roundw
        case rel => exact ⟨k + 1, by omega, by go_num, K5⟩
        case measure => simp [intOf]; omega
    · obtain rfl : k = 2 := by omega
      have hd : decide (((2 : Nat) : Int) < 2) = false := by simp
      go_wp2_with fail
      refine (known6 _).mono ?_
      rintro e w9 ⟨rfl, b9⟩
      have K9 := H.call b9
      go_wp2_with fail
      go_ret
      exact ⟨rfl, K9.below⟩
end Go.Proofs.YtphofeeaphkciaaDoor

namespace Go.Proofs.YtphofeeaphkciaaDoor
open Go.ChangeShapes Go.WideShapes Go.ChangeAt Go.RowKit
set_option linter.unusedVariables false
set_option linter.unusedSimpArgs false

namespace LawTableBegins
set_option maxRecDepth 100000 in
theorem contract (H : Type) (enc : TypeId × Value → H) (W : World) (base : Nat) (args : Array Value) (ds gs : List (DataW H)) (before : List MemPlace)
    (hval0 : ∀ (j : Nat) t v, Tryd.f3.params[j]? = some t → args[j]? = some v → Value.okWide Tryd.prog W .any base t v)
    (hsz0 : (DataW.weightsEach Tryd.prog (Tryd.f3.params.toList ++ Rows.tableBeginsSpec.plain.varTypes Tryd.prog) (ds ++ gs)).all (· ≤ reachBytes) = true)
    (hW : DataW.Whole enc Tryd.prog Tryd.f3.params.toList Rows.tableBeginsSpec.vars false W args.toList ds gs before) (hL : laidMetH Tryd.prog Rows.tableBeginsRow.laid W) (hsh : W.ShapedOpen Tryd.prog) :
    Calls Tryd.prog 3 args W fun e W' => ∃ v, e = .returned v ∧ Rows.tableBeginsSpec.post enc Tryd.prog Tryd.f3 false true false false W args v W' := by
  have hsz : (DataW.weightsEach Tryd.prog (Tryd.f3.params.toList ++ Rows.tableBeginsSpec.plain.varTypes Tryd.prog) (ds ++ gs)).all (· ≤ reachBytes) = true := hsz0
  have hval : ∀ (j : Nat) t v, Tryd.f3.params[j]? = some t → args[j]? = some v → Value.okWide Tryd.prog W .any base t v := hval0
  have hW' := hW
  obtain ⟨p, q, hA0, hV, rfl, hfz, hnd⟩ := hW
  have hA : DataW.TrodAll enc Tryd.prog W 0 (fun _ => true) true Tryd.f3.params.toList args.toList ds p := hA0
  rw [Tryd.params3] at hA hval hsz
  obtain ⟨v0, vs0, d0, ds0, p0, q0, hargs, rfl, rfl, h0, r0⟩ := trodAll_cons hA
  obtain ⟨v1, vs1, d1, ds1, p1, q1, rfl, rfl, rfl, h1, r1⟩ := trodAll_cons r0
  obtain ⟨rfl, rfl, rfl⟩ := trodAll_nil r1
  obtain rfl : args = #[v0, v1] := by cases args; simp_all
  obtain ⟨rfl, rfl⟩ := trodVars_none hV
  obtain ⟨nm0, A0, n0, c0, cl0, rfl, k0, o0, l0, m0, wn0⟩ := open_schema (hval 0 24 v0 rfl rfl) h0
  obtain ⟨A1, n1, c1, zs1, rfl, k1, z1, l1, m1, e1⟩ := open_i64s Tryd.underlying25 Tryd.underlying3 (by kernel_rfl) (hval 1 25 v1 rfl rfl) h1
  refine (tbegins_walk nm0 A0 n0 c0 cl0 A1 n1 c1 zs1 W k0 ⟨by show n0 ≤ _; unfold maxLen at m0; omega, wn0, fun x hx => (o0 x hx).2⟩ k1 z1 l1 (by unfold maxLen at m1; omega) (nms_of_laid (rest := []) hL)).mono fun e W' ⟨he, hb⟩ => ?_
  exact ⟨_, he, law_post rfl laidOut (by kernel_rfl) (by kernel_rfl) Tryd.underlying4 rfl hW' hb⟩

theorem laid_met (os : Os) : laidMet Tryd.prog Rows.tableBeginsRow.laid ((namesWorld os).forCall (fun _ _ => 0) ⟨#[], #[.agg #[.string ⟨#[]⟩, .slice none 0 0], .slice none 0 0], []⟩).memory :=
  laidMet_of_run' 16 (by kernel_rfl) (by kernel_rfl)
theorem reads (os : Os) {H : Type} (enc : TypeId × Value → H) : ∃ places, DataW.whole enc Tryd.prog ((namesWorld os).forCall (fun _ _ => 0) ⟨#[], #[.agg #[.string ⟨#[]⟩, .slice none 0 0], .slice none 0 0], []⟩).memory Tryd.f3.params.toList Rows.tableBeginsSpec.vars false #[.agg #[.string ⟨#[]⟩, .slice none 0 0], .slice none 0 0].toList 8 = some ([.agg [.lit (.string []), .nil], .nil], [], places) :=
  ⟨[], by kernel_rfl⟩

set_option maxRecDepth 100000 in
theorem lifted (os : Os) (started : os.Started) (H : Type) (enc : TypeId × Value → H) (F : Stop.Interp) :
    ReturnsInHanded {} Tryd.checked os 3 .any ((OpenSpec.ofChange Rows.tableBeginsSpec).preRow enc Tryd.prog Tryd.f3 Rows.tableBeginsRow.domain false Rows.tableBeginsRow.laid) (((OpenSpec.ofChange Rows.tableBeginsSpec).at F).post enc Tryd.prog Tryd.f3 false true false false) := by
  obtain ⟨places, hx⟩ := reads os enc
  refine returnsInHanded_of_row (C := Tryd.checked) (s := OpenSpec.ofChange Rows.tableBeginsSpec) own started (by kernel_rfl) Tryd.func3
    (witness_row_at (enc := enc) (C := Tryd.checked) false (namesWorld os) #[.agg #[.string ⟨#[]⟩, .slice none 0 0], .slice none 0 0] rfl (by kernel_rfl) (by kernel_rfl) (by kernel_rfl)
      (OpenSpec.preRow_of_cond 8 hx (by kernel_rfl) (fun k hk => by cases hk) (by kernel_rfl) (laid_met os))) ?_
  intro W base args ds gs before hval hW _ _ hsz0 hL hsh _
  exact contract H enc W base args ds gs before hval hsz0 hW hL hsh

theorem said : Rows.TableBeginsSaid :=
  OpenClaim.holds_of_cond 3 Tryd.f3 rfl rfl rfl rfl rfl rfl rfl ⟨rfl, rfl, rfl, rfl, rfl⟩ rfl rfl rfl rfl rfl (by kernel_rfl) Tryd.func3 (by kernel_rfl)
    (of_decide_eq_true (by kernel_rfl)) (by unfold Func.isWrapper; first | (rw [if_pos (by decide +kernel)]; kernel_rfl) | (rw [if_neg (by decide +kernel)]; exact ⟨rfl, rfl⟩))
    (fun os started H enc _ F => by rw [OpenClaim.pre_eq_preRow]; exact lifted os started H enc F)

theorem plain (f : FuncId) (fn : Func) (hf : Tryd.pinned.checked.prog.funcNamed "triggerstore/triggerstorelaw6.TableBegins" = some f) (hfn : Tryd.pinned.checked.prog.funcs[f]? = some fn) :
    false = Tryd.pinned.checked.prog.looks [] ∧ ∀ (j : Nat) t, fn.params[j]? = some t → Tryd.pinned.checked.prog.wantsStandIn t = false := by
  obtain rfl : f = 3 := Option.some.inj ((show Tryd.prog.funcNamed "triggerstore/triggerstorelaw6.TableBegins" = some 3 by kernel_rfl).symm.trans hf) |>.symm
  obtain rfl : fn = Tryd.f3 := (Option.some.inj (Tryd.func3.symm.trans hfn)).symm
  refine ⟨by kernel_rfl, fun j t ht => ?_⟩
  rw [Tryd.params3] at ht
  have hm := Array.mem_of_getElem? ht
  simp only [List.mem_toArray, List.mem_cons, List.not_mem_nil, or_false] at hm
  rcases hm with rfl | rfl
  · exact (show Tryd.prog.wantsStandIn 24 = false by kernel_rfl)
  · exact (show Tryd.prog.wantsStandIn 25 = false by kernel_rfl)
end LawTableBegins

theorem tableBegins_holds : Rows.TableBeginsCardSaid :=
  Claim7.holds_tied_plain_at .later [] _ _ _ _ LawTableBegins.said (fun _ h => by cases h) (by kernel_rfl) (fun _ h => by cases h) tableBegins_row_tie rfl ⟨rfl, rfl⟩ (by kernel_rfl) rfl LawTableBegins.plain (by kernel_rfl)
#print axioms tableBegins_holds
end Go.Proofs.YtphofeeaphkciaaDoor

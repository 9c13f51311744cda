/- The contract of the tape's draw of an odd value. -/
import Derived.Test.YtljmclbedpceoaaDoorTFormsSaidMB
import Derived.Test.YtljmclbedpceoaaDoorTFormsSaidMA
import Derived.StillTailTactics
import Derived.Deep.LoopGhost
import Derived.IntWalk
import Derived.Laws.BytesArg
namespace Go.Proofs.YtljmclbedpceoaaDoor
open Go.RowKit
set_option linter.unusedVariables false
set_option linter.unusedSimpArgs false

/-- which tables are valid -/
def tabB (nm : ByteArray) (cs : List Col) (nx : Int) (rs : List Row) : Bool := schemaB nm cs && decide (rs.length ≤ 100) && decide (1 ≤ nx) && decide (nx ≤ 2147483648) && okR cs nx 0 rs && !dupB cs rs
theorem tabB_1 {nm : ByteArray} {cs : List Col} {nx : Int} {rs : List Row} (h : schemaB nm cs = false) : tabB nm cs nx rs = false := by simp [tabB, h]
theorem tabB_2 {nm : ByteArray} {cs : List Col} {nx : Int} {rs : List Row} (h : 100 < rs.length) : tabB nm cs nx rs = false := by
  have : ¬ rs.length ≤ 100 := by omega
  simp [tabB, this]
theorem tabB_3 {nm : ByteArray} {cs : List Col} {nx : Int} {rs : List Row} (h : nx < 1) : tabB nm cs nx rs = false := by
  have : ¬ 1 ≤ nx := by omega
  simp [tabB, this]
theorem tabB_4 {nm : ByteArray} {cs : List Col} {nx : Int} {rs : List Row} (h : 2147483648 < nx) : tabB nm cs nx rs = false := by
  have : ¬ nx ≤ 2147483648 := by omega
  simp [tabB, this]
theorem tabB_5 {nm : ByteArray} {cs : List Col} {nx : Int} {rs : List Row} (h : okR cs nx 0 rs = false) : tabB nm cs nx rs = false := by simp [tabB, h]
theorem tabB_6 {nm : ByteArray} {cs : List Col} {nx : Int} {rs : List Row} (h1 : schemaB nm cs = true) (h2 : rs.length ≤ 100) (h3 : 1 ≤ nx) (h4 : nx ≤ 2147483648) (h5 : okR cs nx 0 rs = true) : tabB nm cs nx rs = !dupB cs rs := by simp [tabB, h1, h2, h3, h4, h5]
theorem okR_bad {cs : List Col} {nx lst : Int} {rs : List Row} {j : Nat} {r : Row} (hr : rs[j]? = some r) (h : r.1 ≤ lst ∨ nx ≤ r.1 ∨ fitsT cs r.2 ≠ 0) : okR cs nx lst (rs.drop j) = false := by
  rw [drop_cons hr, okR]
  rcases h with h | h | h
  · rw [decide_eq_false (show ¬ lst < r.1 by omega)]; rfl
  · rw [decide_eq_false (show ¬ r.1 < nx by omega)]; simp
  · rw [decide_eq_false h]; simp
theorem okR_good {cs : List Col} {nx lst : Int} {rs : List Row} {j : Nat} {r : Row} (hr : rs[j]? = some r) (h1 : lst < r.1) (h2 : r.1 < nx) (h3 : fitsT cs r.2 = 0) : okR cs nx lst (rs.drop j) = okR cs nx r.1 (rs.drop (j + 1)) := by
  rw [drop_cons hr, okR, decide_eq_true h1, decide_eq_true h2, decide_eq_true h3]; rfl
theorem okR_end {cs : List Col} {nx lst : Int} {rs : List Row} {j : Nat} (h : rs.length ≤ j) : okR cs nx lst (rs.drop j) = true := by rw [List.drop_of_length_le h]; rfl
set_option maxHeartbeats 4000000 in
set_option maxRecDepth 100000 in
theorem tvalid_any (M : Nat → Prop) (w : World) (hM : ∀ b, M b → b < w.heap.size) (nm : ByteArray) (A : Option Addr) (n c : Nat) (cs : List Col) (nx : Int) (B : Option Addr) (m d : Nat) (l : List Rw) (hD : Ro w M (SlR 4 A n (colCells cs))) (hE : Ro w M (RwsIn B m l)) (hn : n ≤ 9223372036854775807) (hm : m ≤ 4611686018427387904) (hok : ∀ r ∈ l, r.ok) (hs : nm.size ≤ maxLen) (hcs : ∀ x ∈ cs, x.name.size ≤ maxLen) :
    Calls Tryd.prog 41 #[.agg #[.string nm, .slice A n c, .int .i64 nx, .slice B m d]] w fun e w' => e = .returned (.bool (tabB nm cs nx (l.map Rw.row))) ∧ Below w.heap.size w w' := by
  have HL := hid hE.now.len
  have HML := hid (show (l.map Rw.row).length = m by rw [List.length_map, HL.out])
  have K0 := (((Hold.start M w hM).add (hE.less (by simp [Mut]))).add (hD.less (by simp [Mut, Hp.foot]))).alloc_cst #[.string nm, .slice A n c, .int .i64 nx, .slice B m d] 40
  have F0 := K0.facts
  simp only [World.size_alloc, World.size_drew, factsL, cellsF, Nat.reduceAdd, List.toList_toArray, List.set_cons_zero, List.set_cons_succ, List.setIfInBounds_toArray, and_true, true_and] at F0
  clear hD hE
  go_enter Tryd.func41, Tryd.ntmps41
  go_wp2_with fail
  refine (svalid_any _ _ K0.mutLt nm A n c cs (K0.ro 1 rfl) hn hs hcs).mono ?_
  rintro e w1 ⟨rfl, b1⟩
  have K1 := K0.call b1
  clear K0 b1 F0
  have F1 := K1.facts
  simp only [World.size_alloc, World.size_drew, factsL, cellsF, Nat.reduceAdd, List.toList_toArray, List.set_cons_zero, List.set_cons_succ, List.setIfInBounds_toArray, and_true, true_and] at F1
  cases hsb : schemaB nm cs
  · have HN := hid (show tabB nm cs nx (l.map Rw.row) = false from tabB_1 hsb)
    go_wp2_with fail
    go_ret
    exact ⟨by rw [HN.out] <;> rfl, K1.below⟩
  have HSB := hid hsb; clear hsb
  by_cases h1 : 100 < m
  · have h1d : decide ((m : Int) > 100) = true := by simp; omega
    have HN := hid (show tabB nm cs nx (l.map Rw.row) = false from tabB_2 (by rw [HML.out]; exact h1))
    go_wp2_with fail
    go_ret
    exact ⟨by rw [HN.out] <;> rfl, K1.below⟩
  have h1d : decide ((m : Int) > 100) = false := by simp; omega
  by_cases h2 : nx < 1
  · have h2d : decide (nx < 1) = true := by simpa using h2
    have HN := hid (show tabB nm cs nx (l.map Rw.row) = false from tabB_3 h2)
    go_wp2_with fail
    go_ret
    exact ⟨by rw [HN.out] <;> rfl, K1.below⟩
  have h2d : decide (nx < 1) = false := by simpa using h2
  by_cases h3 : 2147483648 < nx
  · have h3d : decide (nx > 2147483648) = true := by simpa using h3
    have HN := hid (show tabB nm cs nx (l.map Rw.row) = false from tabB_4 h3)
    go_wp2_with fail
    go_ret
    exact ⟨by rw [HN.out] <;> rfl, K1.below⟩
  have h3d : decide (nx > 2147483648) = false := by simpa using h3
  go_wp2_with fail
  clear F1
  go_loopw [3, 29] (fun lv iv wr => ∃ (j : Nat) (lst : Int), j ≤ m ∧ iv = .int .i64 j ∧ lv = .int .i64 lst ∧ Hid (okR cs nx 0 (l.map Rw.row) = okR cs nx lst ((l.map Rw.row).drop j)) ∧ Hold M none w wr [.cst w.heap.size 40 #[.string nm, .slice A n c, .int .i64 nx, .slice B m d], .ro (SlR 4 A n (colCells cs)), .ro (RwsIn B m l)]) (fun _ iv _ => m - (intOf iv).toNat)
  case atStart => exact ⟨0, 0, by omega, rfl, rfl, hid rfl, K1⟩
  case round =>
    clear K1
    obtain ⟨j, lst, hj, rfl, rfl, HS, H⟩ := hrel
    by_cases hlt : j < m
    · have hdd : decide ((j : Int) < (m : Int)) = true := by simp; omega
      have j0 : (0 : Int) ≤ (j : Int) := by omega
      obtain ⟨x, hx⟩ := get_of HL.out hlt
      obtain ⟨g, o, rfl, hgb, c0, c1, hvi⟩ := (H.ro 2 rfl).now.at_ hx
      have hrok := hok x (List.mem_of_getElem? hx)
      have HX := hid (show (l.map Rw.row)[j]? = some (x.id, x.vs) by simp [hx, Rw.row])
      have HXM := hid (List.mem_of_getElem? hx)
      have K2 := H.alloc_cst #[.int .i64 x.id, .slice x.A x.n x.c] 61
      clear hx
      have F2 := K2.facts
      simp only [World.size_alloc, World.size_drew, factsL, cellsF, Nat.reduceAdd, List.toList_toArray, List.set_cons_zero, List.set_cons_succ, List.setIfInBounds_toArray, and_true, true_and] at F2
      by_cases a1 : x.id ≤ lst
      · have a1d : decide (x.id ≤ lst) = true := by simpa using a1
        have HN := hid (show tabB nm cs nx (l.map Rw.row) = false from tabB_5 (by rw [HS.out]; exact okR_bad HX.out (.inl a1)))
        clear a1
        go_wp2_with fail
        go_ret
        exact ⟨by rw [HN.out] <;> rfl, K2.below⟩
      have a1d : decide (x.id ≤ lst) = false := by simpa using a1
      by_cases a2 : nx ≤ x.id
      · have a2d : decide (x.id ≥ nx) = true := by simpa using a2
        have HN := hid (show tabB nm cs nx (l.map Rw.row) = false from tabB_5 (by rw [HS.out]; exact okR_bad HX.out (.inr (.inl a2))))
        clear a1 a2
        go_wp2_with fail
        go_ret
        exact ⟨by rw [HN.out] <;> rfl, K2.below⟩
      have a2d : decide (x.id ≥ nx) = false := by simpa using a2
      have HA := hid (And.intro a1 a2)
      have hVR : Ro _ (Mut M _) (VlsIn x.A x.n x.vs) := (K2.ro 3 rfl).imp fun w2 h2 => h2.2 x HXM.out
      have hxn : x.n ≤ 9223372036854775807 := Nat.le_trans hrok.nc hrok.c
      clear a1 a2
      go_wp2_with fail
      refine (tfits_any _ _ K2.mutLt nm A n c cs x.A x.n x.c x.vs (K2.ro 2 rfl) hVR hn hxn hrok.vs).mono ?_
      rintro e w3 ⟨rfl, b3⟩
      have K3 := K2.call b3
      clear K2 b3 F2 hVR
      have F3 := K3.facts
      simp only [World.size_alloc, World.size_drew, factsL, cellsF, Nat.reduceAdd, List.toList_toArray, List.set_cons_zero, List.set_cons_succ, List.setIfInBounds_toArray, and_true, true_and] at F3
      by_cases a3 : fitsT cs x.vs = 0
      · have HS2 := hid (show okR cs nx 0 (l.map Rw.row) = okR cs nx x.id ((l.map Rw.row).drop (j + 1)) by rw [HS.out]; exact okR_good HX.out (by have := HA.out.1; omega) (by have := HA.out.2; omega) a3)
        rw [a3]
        clear a3
        go_wp2_with fail
        go_roundw
        case rel => exact ⟨j + 1, x.id, by omega, by go_num, rfl, HS2, K3.drop (List.sublist_cons_self _ _)⟩
        case measure => simp [intOf]; omega
      · have a3d : (fitsT cs x.vs != 0) = true := by simp [a3]
        have HN := hid (show tabB nm cs nx (l.map Rw.row) = false from tabB_5 (by rw [HS.out]; exact okR_bad HX.out (.inr (.inr a3))))
        clear a3
        go_wp2_with fail
        go_ret
        exact ⟨by rw [HN.out] <;> rfl, K3.below⟩
    · obtain rfl : j = m := by omega
      have hdd : decide ((j : Int) < (j : Int)) = false := by simp
      have HN := hid (show tabB nm cs nx (l.map Rw.row) = !dupB cs (l.map Rw.row) from tabB_6 HSB.out (by rw [HML.out]; omega) (by omega) (by omega) (by rw [HS.out]; exact okR_end (by rw [HML.out]; exact Nat.le_refl _)))
      have F3 := H.facts
      simp only [World.size_alloc, World.size_drew, factsL, cellsF, Nat.reduceAdd, List.toList_toArray, List.set_cons_zero, List.set_cons_succ, List.setIfInBounds_toArray, and_true, true_and] at F3
      go_wp2_with fail
      refine (dup_any _ _ H.mutLt nm A n c cs nx B j d l (H.ro 1 rfl) (H.ro 2 rfl) hn hm hok).mono ?_
      rintro e w3 ⟨rfl, b3⟩
      have K3 := H.call b3
      go_wp2_with fail
      go_ret
      exact ⟨by rw [HN.out] <;> rfl, K3.below⟩
end Go.Proofs.YtljmclbedpceoaaDoor

namespace Go.Proofs.YtljmclbedpceoaaDoor
open Go.RowKit
set_option linter.unusedVariables false
set_option linter.unusedSimpArgs false

theorem schemaB_len {nm : ByteArray} {l : List Col} (h : schemaB nm l = true) : l.length ≤ 6 := by
  unfold schemaB at h
  simp only [Bool.and_eq_true, decide_eq_true_eq] at h
  exact h.1.1.2
/-- what New answers -/
def NewRet (w : World) (M : Nat → Prop) (nm : ByteArray) (cs : List Col) (e : Ending) (w' : World) : Prop :=
  if schemaB nm cs then ∃ (A : Option Addr) (n c : Nat), e = .returned (.tuple #[.agg #[.string nm, .slice A n c, .int .i64 1, .slice none 0 0], .int .i64 0]) ∧ n = cs.length ∧ n ≤ c ∧ c ≤ 9223372036854775807 ∧ Ro w' M (ColsIn A n cs) ∧ Below w.heap.size w w'
  else e = .returned (.tuple #[.agg #[.string ⟨#[]⟩, .slice none 0 0, .int .i64 0, .slice none 0 0], .int .i64 17]) ∧ Below w.heap.size w w'
set_option maxHeartbeats 1000000 in
set_option maxRecDepth 100000 in
theorem tnew_any (M : Nat → Prop) (w : World) (hM : ∀ b, M b → b < w.heap.size) (nm : ByteArray) (A : Option Addr) (n c : Nat) (cs : List Col) (hD : Ro w M (ColsIn A n cs)) (hn : n ≤ 9223372036854775807) (hs : nm.size ≤ maxLen) (hcs : ∀ x ∈ cs, x.name.size ≤ maxLen) :
    Calls Tryd.prog 70 #[.agg #[.string nm, .slice A n c]] w fun e w' => NewRet w M nm cs e w' := by
  have HL := hid (show cs.length = n from (RdC.of_sl hD.now).len)
  have K0 := (((Hold.start M w hM).add (hD.less (by simp [Mut]))).alloc #[.string nm, .slice A n c] 37).alloc #[.string ⟨#[]⟩, .slice none 0 0, .int .i64 0, .slice none 0 0] 40
  rw [World.size_alloc] at K0
  have F0 := K0.facts
  simp only [World.size_alloc, World.size_drew, factsL, cellsF, Nat.reduceAdd, List.toList_toArray, List.set_cons_zero, List.set_cons_succ, List.setIfInBounds_toArray, and_true, true_and] at F0
  clear hD
  go_enter Tryd.func70, Tryd.ntmps70
  go_wp2_with fail
  refine (svalid_any _ _ K0.mutLt nm A n c cs (K0.ro 2 rfl) hn hs hcs).mono ?_
  rintro e w1 ⟨rfl, b1⟩
  have K1 := K0.call b1
  clear K0 b1 F0
  have F1 := K1.facts
  simp only [World.size_alloc, World.size_drew, factsL, cellsF, Nat.reduceAdd, List.toList_toArray, List.set_cons_zero, List.set_cons_succ, List.setIfInBounds_toArray, and_true, true_and] at F1
  cases hsb : schemaB nm cs
  · have HSB := hid hsb; clear hsb
    have KN := (((K1.store 0 rfl 0 (.string ⟨#[]⟩)).store 0 rfl 1 (.slice none 0 0)).store 0 rfl 2 (.int .i64 0)).store 0 rfl 3 (.slice none 0 0)
    go_wp2_with fail
    exact bodyPost_ret (v := .tuple #[.agg #[.string ⟨#[]⟩, .slice none 0 0, .int .i64 0, .slice none 0 0], .int .i64 17]) (by simp [results, Tryd.results70, go_sem, F1]) rfl (by
      unfold NewRet; rw [HSB.out]; exact ⟨rfl, KN.below⟩)
  have hn6 : n ≤ 6 := by have := schemaB_len hsb; have := HL.out; omega
  have HSB := hid hsb; clear hsb
  go_wp2_with fail
  refine (cloneCols_any _ _ K1.mutLt A n c cs (K1.ro 2 rfl) (by omega)).mono ?_
  rintro e w2 ⟨A2, n2, c2, rfl, hn2, hc2, hc22, r2, b2⟩
  have K2 := (K1.call b2).add r2
  have HN2 := hid hn2
  clear K1 r2 b2 F1 hn2
  have F2 := K2.facts
  simp only [World.size_alloc, World.size_drew, factsL, cellsF, Nat.reduceAdd, List.toList_toArray, List.set_cons_zero, List.set_cons_succ, List.setIfInBounds_toArray, and_true, true_and] at F2
  have N2 := K2.nes
  simp only [World.size_alloc, nesL, neF, List.set_cons_zero, List.set_cons_succ, and_true, true_and] at N2
  go_wp2_with fail
  have KN := ((((K2.store 2 rfl 1 (.slice A2 n2 c2)).store 1 rfl 0 (.string nm)).store 1 rfl 1 (.slice A2 n2 c2)).store 1 rfl 2 (.int .i64 1)).store 1 rfl 3 (.slice none 0 0)
  exact bodyPost_ret (v := .tuple #[.agg #[.string nm, .slice A2 n2 c2, .int .i64 1, .slice none 0 0], .int .i64 0]) (by simp [results, Tryd.results70, go_sem, F2, N2]) rfl (by
    unfold NewRet; rw [HSB.out]; exact ⟨A2, n2, c2, rfl, HN2.out, hc2, hc22, KN.roOut 0 rfl, KN.below⟩)
end Go.Proofs.YtljmclbedpceoaaDoor

namespace Go.Proofs.YtljmclbedpceoaaDoor
open Go.RowKit
set_option linter.unusedVariables false
set_option linter.unusedSimpArgs false

def nmId : ByteArray := ⟨#[105, 100]⟩
def nmN : ByteArray := ⟨#[110]⟩
def nmS : ByteArray := ⟨#[115]⟩
def nmB : ByteArray := ⟨#[98]⟩
def nmM : ByteArray := ⟨#[109]⟩
def nmT : ByteArray := ⟨#[116]⟩
def nmU : ByteArray := ⟨#[117]⟩
def nmLog : ByteArray := ⟨#[108, 111, 103]⟩
def logCols : List Col := [⟨nmN, 1, false, false⟩, ⟨nmS, 3, false, false⟩]
def tCols : List Col := [⟨nmId, 1, true, true⟩, ⟨nmN, 1, false, false⟩, ⟨nmB, 2, false, false⟩, ⟨nmS, 3, false, false⟩]
def uCols : List Col := [⟨nmId, 1, true, true⟩, ⟨nmN, 1, true, false⟩, ⟨nmM, 1, false, false⟩]
/-- The schema of a name: its name and columns; of another name: none. -/
def schemaOf (s : ByteArray) : ByteArray × List Col :=
  if nmLog.toList == s.toList then (nmLog, logCols) else if nmT.toList == s.toList then (nmT, tCols) else if nmU.toList == s.toList then (nmU, uCols) else (⟨#[]⟩, [])

/-- What Schemas leaves. -/
def SchemasAre (w : World) (M : Nat → Prop) (e : Ending) (w' : World) : Prop :=
  ∃ (g g0 g1 g2 : Nat) (nl nt nu : ByteArray), nl = nmLog ∧ nt = nmT ∧ nu = nmU ∧ e = .returned (.slice (some ⟨g, 0, none⟩) 3 3) ∧ Below w.heap.size w w' ∧
    Ro w' M (fun w => w.heap[g]? = some (.cells #[.string nl, .slice (some ⟨g0, 0, none⟩) 2 2, .string nt, .slice (some ⟨g1, 0, none⟩) 4 4, .string nu, .slice (some ⟨g2, 0, none⟩) 3 3] 37 (0, 0))) ∧
    Ro w' M (SlR 4 (some ⟨g0, 0, none⟩) 2 (colCells logCols)) ∧ Ro w' M (SlR 4 (some ⟨g1, 0, none⟩) 4 (colCells tCols)) ∧ Ro w' M (SlR 4 (some ⟨g2, 0, none⟩) 3 (colCells uCols))

set_option maxHeartbeats 2000000 in
theorem schemas_any (M : Nat → Prop) (w : World) (hM : ∀ b, M b → b < w.heap.size) : Calls Tryd.prog 54 #[] w fun e w' => SchemasAre w M e w' := by
  have K0 := ((((Hold.start M w hM).alloc_cst (colCells logCols).toArray 70).alloc_cst (colCells tCols).toArray 70).alloc_cst (colCells uCols).toArray 70).alloc_cst
    #[.string nmLog, .slice (some ⟨w.heap.size, 0, none⟩) 2 2, .string nmT, .slice (some ⟨w.heap.size + 1, 0, none⟩) 4 4, .string nmU, .slice (some ⟨w.heap.size + 1 + 1, 0, none⟩) 3 3] 37
  simp only [World.size_alloc] at K0
  go_enter Tryd.func54, Tryd.ntmps54
  go_wp2
  go_ret
  refine ⟨w.heap.size + 1 + 1 + 1, w.heap.size, w.heap.size + 1, w.heap.size + 1 + 1, nmLog, nmT, nmU, rfl, rfl, rfl, rfl, K0.below, ?_, ?_, ?_, ?_⟩
  · exact Ro.less (K0.get 0 rfl) fun b hb => .inl hb
  · exact (ro_block (K0.get 3 rfl) (by rfl)).less fun b hb => .inl hb
  · exact (ro_block (K0.get 2 rfl) (by rfl)).less fun b hb => .inl hb
  · exact (ro_block (K0.get 1 rfl) (by rfl)).less fun b hb => .inl hb
end Go.Proofs.YtljmclbedpceoaaDoor

namespace Go.Proofs.YtljmclbedpceoaaDoor
open Go.RowKit
set_option linter.unusedVariables false
set_option linter.unusedSimpArgs false

/-- A schema returned: its name, its columns, in memory that nobody writes. -/
def SchemaIs (w : World) (M : Nat → Prop) (nm : ByteArray) (l : List Col) (e : Ending) (w' : World) : Prop :=
  ∃ (A : Option Addr) (n c : Nat), e = .returned (.agg #[.string nm, .slice A n c]) ∧ n ≤ c ∧ c ≤ 4 ∧ Ro w' M (SlR 4 A n (colCells l)) ∧ Below w.heap.size w w'

set_option maxHeartbeats 4000000 in
theorem schema_any (M : Nat → Prop) (w : World) (hM : ∀ b, M b → b < w.heap.size) (s : ByteArray) : Calls Tryd.prog 19 #[.string s] w fun e w' => SchemaIs w M (schemaOf s).1 (schemaOf s).2 e w' := by
  have K0 := (Hold.start M w hM).alloc #[.string ⟨#[]⟩, .slice none 0 0] 37
  go_enter Tryd.func19, Tryd.ntmps19
  go_wp2_with fail
  refine (schemas_any (Mut M _) _ K0.mutLt).mono ?_
  rintro e w1 ⟨g, g0, g1, g2, nl, nt, nu, e1, e2, e3, rfl, b1, r, r0, r1, r2⟩
  have E1 := hid e1; have E2 := hid e2; have E3 := hid e3
  clear e1 e2 e3
  have K1 := ((((K0.call b1).add r2).add (r1.less (mut_none rfl))).add ((r0.less (mut_none rfl)).less (mut_none rfl))).addCst (((r.less (mut_none rfl)).less (mut_none rfl)).less (mut_none rfl))
  clear b1 r r0 r1 r2 K0
  go_wp2_with fail
  go_loopw [7] (fun i wr => ∃ k : Nat, k ≤ 3 ∧ i = .int .i64 k ∧ (0 < k → (nl.toList == s.toList) = false) ∧ (1 < k → (nt.toList == s.toList) = false) ∧ (2 < k → (nu.toList == s.toList) = false) ∧
    Hold M none w wr [.cst g 37 #[.string nl, .slice (some ⟨g0, 0, none⟩) 2 2, .string nt, .slice (some ⟨g1, 0, none⟩) 4 4, .string nu, .slice (some ⟨g2, 0, none⟩) 3 3], .ro (SlR 4 (some ⟨g0, 0, none⟩) 2 (colCells logCols)), .ro (SlR 4 (some ⟨g1, 0, none⟩) 4 (colCells tCols)), .ro (SlR 4 (some ⟨g2, 0, none⟩) 3 (colCells uCols)), .blk w.heap.size 37 #[.string ⟨#[]⟩, .slice none 0 0]]) (fun i _ => 3 - (intOf i).toNat)
  case atStart => exact ⟨0, by omega, rfl, fun h => absurd h (by omega), fun h => absurd h (by omega), fun h => absurd h (by omega), K1⟩
  case round =>
    obtain ⟨k, hk, rfl, q0, q1, q2, H⟩ := hrel
    have F := H.facts
    simp only [World.size_alloc, factsL, cellsF, List.toList_toArray, Nat.reduceAdd, and_true, true_and] at F
    have hc : k = 0 ∨ k = 1 ∨ k = 2 ∨ k = 3 := by omega
    rcases hc with rfl | rfl | rfl | rfl
    · clear q0 q1 q2
      cases ht : (nl.toList == s.toList)
      · have KN := H.alloc_cst #[.string nl, .slice (some ⟨g0, 0, none⟩) 2 2] 37
        go_wp2_with fail
        go_roundw
        case rel => exact ⟨1, by omega, by go_num, by intros; first | exact ht | trivial, by intros; first | trivial | omega, by intros; first | trivial | omega, KN.drop (List.sublist_cons_self _ _)⟩
        case measure => simp [intOf]
      · have HR : Hid (schemaOf s = (nl, logCols)) := by
          unfold Hid schemaOf
          have h := ht
          rw [← E1.out, ← E2.out, ← E3.out, if_pos h]
        have KN := ((H.store 4 rfl 0 (.string nl)).store 4 rfl 1 (.slice (some ⟨g0, 0, none⟩) 2 2)).alloc_cst #[.string nl, .slice (some ⟨g0, 0, none⟩) 2 2] 37
        go_wp2_with fail
        exact bodyPost_ret (v := .agg #[.string nl, .slice (some ⟨g0, 0, none⟩) 2 2]) (by simp [results, Tryd.results19, go_sem, F]) rfl ⟨some ⟨g0, 0, none⟩, 2, 2, by rw [HR.out], by omega, by omega, by rw [HR.out]; exact KN.roOut 2 rfl, KN.below⟩
    · have Q0 := hid (q0 (by omega)); clear q0 q1 q2
      cases ht : (nt.toList == s.toList)
      · have KN := H.alloc_cst #[.string nt, .slice (some ⟨g1, 0, none⟩) 4 4] 37
        go_wp2_with fail
        go_roundw
        case rel => exact ⟨2, by omega, by go_num, by intros; first | exact Q0.out | trivial, by intros; first | exact ht | trivial, by intros; first | trivial | omega, KN.drop (List.sublist_cons_self _ _)⟩
        case measure => simp [intOf]
      · have HR : Hid (schemaOf s = (nt, tCols)) := by
          unfold Hid schemaOf
          have h := ht
          rw [← E1.out, ← E2.out, ← E3.out, if_neg (by rw [Q0.out]; simp), if_pos h]
        have KN := ((H.store 4 rfl 0 (.string nt)).store 4 rfl 1 (.slice (some ⟨g1, 0, none⟩) 4 4)).alloc_cst #[.string nt, .slice (some ⟨g1, 0, none⟩) 4 4] 37
        go_wp2_with fail
        exact bodyPost_ret (v := .agg #[.string nt, .slice (some ⟨g1, 0, none⟩) 4 4]) (by simp [results, Tryd.results19, go_sem, F]) rfl ⟨some ⟨g1, 0, none⟩, 4, 4, by rw [HR.out], by omega, by omega, by rw [HR.out]; exact KN.roOut 3 rfl, KN.below⟩
    · have Q0 := hid (q0 (by omega)); have Q1 := hid (q1 (by omega)); clear q0 q1 q2
      cases ht : (nu.toList == s.toList)
      · have KN := H.alloc_cst #[.string nu, .slice (some ⟨g2, 0, none⟩) 3 3] 37
        go_wp2_with fail
        go_roundw
        case rel => exact ⟨3, by omega, by go_num, by intros; first | exact Q0.out | trivial, by intros; first | exact Q1.out | trivial, by intros; first | exact ht | trivial, KN.drop (List.sublist_cons_self _ _)⟩
        case measure => simp [intOf]
      · have HR : Hid (schemaOf s = (nu, uCols)) := by
          unfold Hid schemaOf
          have h := ht
          rw [← E1.out, ← E2.out, ← E3.out, if_neg (by rw [Q0.out]; simp), if_neg (by rw [Q1.out]; simp), if_pos h]
        have KN := ((H.store 4 rfl 0 (.string nu)).store 4 rfl 1 (.slice (some ⟨g2, 0, none⟩) 3 3)).alloc_cst #[.string nu, .slice (some ⟨g2, 0, none⟩) 3 3] 37
        go_wp2_with fail
        exact bodyPost_ret (v := .agg #[.string nu, .slice (some ⟨g2, 0, none⟩) 3 3]) (by simp [results, Tryd.results19, go_sem, F]) rfl ⟨some ⟨g2, 0, none⟩, 3, 3, by rw [HR.out], by omega, by omega, by rw [HR.out]; exact KN.roOut 4 rfl, KN.below⟩
    · have Q0 := hid (q0 (by omega)); have Q1 := hid (q1 (by omega)); have Q2 := hid (q2 (by omega)); clear q0 q1 q2
      have HR : Hid (schemaOf s = (⟨#[]⟩, [])) := by
        unfold Hid schemaOf
        rw [← E1.out, ← E2.out, ← E3.out, if_neg (by rw [Q0.out]; simp), if_neg (by rw [Q1.out]; simp), if_neg (by rw [Q2.out]; simp)]
      have KN := (H.store 4 rfl 0 (.string ⟨#[]⟩)).store 4 rfl 1 (.slice none 0 0)
      go_wp2_with fail
      exact bodyPost_ret (v := .agg #[.string ⟨#[]⟩, .slice none 0 0]) (by simp [results, Tryd.results19, go_sem, F]) rfl ⟨none, 0, 0, by rw [HR.out], by omega, by omega, by rw [HR.out]; exact ro_nil, KN.below⟩
end Go.Proofs.YtljmclbedpceoaaDoor

namespace Go.Proofs.YtljmclbedpceoaaDoor
open Go.RowKit
set_option linter.unusedVariables false
set_option linter.unusedSimpArgs false

set_option maxHeartbeats 400000 in
theorem num_any (n : Int) : Gives 39 #[.int .i64 n] (.agg #[.int .i64 1, .int .i64 n, .string ⟨#[]⟩]) := by
  intro w
  have K0 := (Hold.begin_ w).alloc #[.int .i64 1, .int .i64 n, .string ⟨#[]⟩] 66
  have F0 := K0.facts
  simp only [World.size_alloc, World.size_drew, factsL, cellsF, Nat.reduceAdd, List.toList_toArray, List.set_cons_zero, List.set_cons_succ, List.setIfInBounds_toArray, and_true, true_and] at F0
  go_enter Tryd.func39, Tryd.ntmps39
  go_wp2_with fail
  exact bodyPost_ret (v := .agg #[.int .i64 1, .int .i64 n, .string ⟨#[]⟩]) (by simp [results, Tryd.results39, go_sem, F0]) rfl ⟨rfl, K0.below⟩
def vNum (n : Int) : Vl := ⟨1, n, ⟨#[]⟩⟩
def vNil : Vl := ⟨0, 0, ⟨#[]⟩⟩
def k6Row : Row := (3, [vNum 5, vNum 1, vNil])
theorem k6_key : findB Col.key uCols = 0 := by decide +kernel
theorem k6_look : lookR 0 [k6Row] (vNum 5) = some 3 := by decide +kernel
theorem k6_valid : tabB nmU uCols 4 [k6Row] = true := by decide +kernel
theorem k6_dup : dupB uCols [k6Row] = false := by decide +kernel
theorem k6_sch : schemaB nmU uCols = true := by decide +kernel
theorem schemaOf_u : schemaOf ⟨#[117]⟩ = (nmU, uCols) := by kernel_rfl
theorem schema_u (M : Nat → Prop) (w : World) (hM : ∀ b, M b → b < w.heap.size) : Calls Tryd.prog 19 #[.string ⟨#[117]⟩] w fun e w' => SchemaIs w M nmU uCols e w' := by
  have h := schema_any M w hM ⟨#[117]⟩
  rwa [schemaOf_u] at h
theorem small_u : nmU.size ≤ maxLen ∧ (∀ x ∈ uCols, x.name.size ≤ maxLen) ∧ nmLog.size ≤ maxLen ∧ (∀ x ∈ logCols, x.name.size ≤ maxLen) := by
  unfold maxLen
  refine ⟨by decide +kernel, fun x hx => ?_, by decide +kernel, fun x hx => ?_⟩
  · simp only [uCols, List.mem_cons, List.not_mem_nil, or_false] at hx
    rcases hx with rfl | rfl | rfl <;> decide +kernel
  · simp only [logCols, List.mem_cons, List.not_mem_nil, or_false] at hx
    rcases hx with rfl | rfl <;> decide +kernel
theorem empty_le : (⟨#[]⟩ : ByteArray).size ≤ maxLen := by unfold maxLen; decide
theorem vNum_ok {n : Int} (h : I64 n) : (vNum n).ok := ⟨show I64 1 by unfold I64; omega, h, empty_le⟩
theorem vNil_ok : vNil.ok := ⟨show I64 0 by unfold I64; omega, show I64 0 by unfold I64; omega, empty_le⟩
theorem cols_n {w : World} {A : Option Addr} {n : Nat} {l : List Col} (h : ColsIn A n l w) : l.length = n := (RdC.of_sl h).len
set_option maxHeartbeats 1000000 in
set_option maxRecDepth 100000 in
theorem known6 : Gives 36 #[] (.bool true) := by
  intro w
  have K0 := Hold.begin_ w
  have HS := hid small_u
  go_enter Tryd.func36, Tryd.ntmps36
  go_wp2_with fail
  refine (schema_u _ _ K0.mutLt).mono ?_
  rintro e w1 ⟨A, n, c, rfl, h1, h2, r1, b1⟩
  have K1 := (K0.call b1).add r1
  clear K0 r1 b1
  go_wp2_with fail
  refine (tnew_any _ _ K1.mutLt nmU A n c uCols (K1.ro 0 rfl) (by omega) HS.out.1 HS.out.2.1).mono ?_
  intro e w2 hN
  unfold NewRet at hN
  rw [k6_sch, if_pos rfl] at hN
  obtain ⟨A2, n2, c2, rfl, hn2, hc2, hc22, r2, b2⟩ := hN
  have hn3 : n2 ≤ 1000 := by rw [hn2]; decide
  have K2 := (((K1.call b2).add r2).alloc #[.string nmU, .slice A2 n2 c2, .int .i64 1, .slice none 0 0] 40)
  clear K1 r2 b2 hn2
  obtain ⟨gt, hgt⟩ : ∃ gt, gt = w2.heap.size := ⟨_, rfl⟩
  rw [← hgt] at K2
  have HGT := hid hgt
  generalize hU : nmU = nu at *
  have HU := hid hU
  clear hU
  go_wp2_with fail
  refine (num_any 5 _).mono ?_
  rintro e w3 ⟨rfl, b3⟩
  have K3 := K2.call b3
  clear K2 b3
  go_wp2_with fail
  rw [← hgt]
  clear hgt
  refine (num_any 1 _).mono ?_
  rintro e w4 ⟨rfl, b4⟩
  have K4a := K3.call b4
  have F4 := K4a.facts
  simp only [World.size_alloc, World.size_drew, factsL, cellsF, Nat.reduceAdd, List.toList_toArray, List.set_cons_zero, List.set_cons_succ, List.setIfInBounds_toArray, and_true, true_and] at F4
  have K5 := ((K4a.store 0 rfl 3 (.slice (some ⟨w4.heap.size + 1, 0, none⟩) 1 1)).store 0 rfl 2 (.int .i64 4))
  simp only [List.set_cons_zero, List.set_cons_succ, List.setIfInBounds_toArray] at K5
  have hz5 : ((w4.setCell ⟨gt, 3, none⟩ (.slice (some ⟨w4.heap.size + 1, 0, none⟩) 1 1)).setCell ⟨gt, 2, none⟩ (.int .i64 4)).heap.size = w4.heap.size := by simp [World.setCell]
  have K6 := (K5.alloc_cst #[.int .i64 1, .int .i64 5, .string ⟨#[]⟩, .int .i64 1, .int .i64 1, .string ⟨#[]⟩, .int .i64 0, .int .i64 0, .string ⟨#[]⟩] 66).alloc_cst #[.int .i64 3, .slice (some ⟨w4.heap.size, 0, none⟩) 3 3] 61
  rw [World.size_alloc, hz5] at K6
  clear K3 b4 K4a K5 hz5
  have q1 : Ro _ _ (VlsIn (some ⟨w4.heap.size, 0, none⟩) 3 [vNum 5, vNum 1, vNil]) := ro_block (t := 66) (cs := #[.int .i64 1, .int .i64 5, .string ⟨#[]⟩, .int .i64 1, .int .i64 1, .string ⟨#[]⟩, .int .i64 0, .int .i64 0, .string ⟨#[]⟩]) (n := 3) (size := 3) (K6.get 1 rfl) rfl
  have q2 : Ro _ _ (SlR 2 (some ⟨w4.heap.size + 1, 0, none⟩) 1 (rwCells [⟨3, some ⟨w4.heap.size, 0, none⟩, 3, 3, [vNum 5, vNum 1, vNil]⟩])) := ro_block (t := 61) (cs := #[.int .i64 3, .slice (some ⟨w4.heap.size, 0, none⟩) 3 3]) (n := 1) (size := 2) (K6.get 0 rfl) rfl
  have q3 : Ro _ _ (RwsIn (some ⟨w4.heap.size + 1, 0, none⟩) 1 [⟨3, some ⟨w4.heap.size, 0, none⟩, 3, 3, [vNum 5, vNum 1, vNil]⟩]) := q2.and (fun w2 h1 h2 r hr => by
    simp only [List.mem_cons, List.not_mem_nil, or_false] at hr
    subst hr
    exact q1 w2 h1 h2)
  have K7 := (K6.add q3).drop (L' := [.ro (RwsIn (some ⟨w4.heap.size + 1, 0, none⟩) 1 [⟨3, some ⟨w4.heap.size, 0, none⟩, 3, 3, [vNum 5, vNum 1, vNil]⟩]), .blk gt 40 #[.string nu, .slice A2 n2 c2, .int .i64 4, .slice (some ⟨w4.heap.size + 1, 0, none⟩) 1 1], .ro (ColsIn A2 n2 uCols)]) (List.Sublist.cons_cons _ (List.Sublist.cons _ (List.Sublist.cons _ (List.Sublist.cons_cons _ (List.Sublist.cons_cons _ (List.nil_sublist _))))))
  clear q1 q2 q3 K6
  go_wp2_with fail
  generalize (((w4.setCell _ _).setCell _ _).alloc _).alloc _ = w5 at *
  obtain ⟨gr, hgr⟩ : ∃ gr, gr = w4.heap.size + 1 := ⟨_, rfl⟩
  obtain ⟨gw, hgw⟩ : ∃ gw, gw = w4.heap.size := ⟨_, rfl⟩
  rw [← hgr, ← hgw] at K7
  rw [← hgr]
  have HGR := hid hgr
  clear hgr hgw F4
  obtain ⟨R, hR⟩ : ∃ R : Rw, R = ⟨3, some ⟨gw, 0, none⟩, 3, 3, [vNum 5, vNum 1, vNil]⟩ := ⟨_, rfl⟩
  rw [← hR] at K7
  have HR1 := hid (show R.ok from by
    rw [hR]
    refine ⟨show I64 3 by unfold I64; omega, by simp, by simp, fun v hv => ?_⟩
    simp only [List.mem_cons, List.not_mem_nil, or_false] at hv
    rcases hv with rfl | rfl | rfl
    · exact vNum_ok (by unfold I64; omega)
    · exact vNum_ok (by unfold I64; omega)
    · exact vNil_ok)
  have HR2 := hid (show [R].map Rw.row = [k6Row] by rw [hR]; rfl)
  clear hR
  obtain ⟨KL, hKL⟩ : ∃ KL : List Hp, KL = [.ro (RwsIn (some ⟨gr, 0, none⟩) 1 [R]), .blk gt 40 #[.string nu, .slice A2 n2 c2, .int .i64 4, .slice (some ⟨gr, 0, none⟩) 1 1], .ro (ColsIn A2 n2 uCols)] := ⟨_, rfl⟩
  rw [← hKL] at K7
  have HF : Hid (∀ wv, Hold None_ none w wv KL → wv.cell? ⟨gt, 0, none⟩ = some (.string nu) ∧ wv.cell? ⟨gt, 1, none⟩ = some (.slice A2 n2 c2) ∧ wv.cell? ⟨gt, 2, none⟩ = some (.int .i64 4) ∧ wv.cell? ⟨gt, 3, none⟩ = some (.slice (some ⟨gr, 0, none⟩) 1 1) ∧ gt < wv.heap.size) := hid fun wv HC => by
    rw [hKL] at HC
    have b1 := HC.blk_ 1 rfl
    exact ⟨cell_of_row _ _ 0 _ _ _ b1, cell_of_row _ _ 1 _ _ _ b1, cell_of_row _ _ 2 _ _ _ b1, cell_of_row _ _ 3 _ _ _ b1, Blk.lt b1⟩
  have HKL := hid hKL
  clear hKL
  refine wp_region_any (by kernel_rfl) ?_
  refine wpAny_hold 7 42 (KL) (spL [(20, IsV (vNum 5).val), (21, IsV (.tuple #[.int .i64 3, .bool true]))]) (by kernel_rfl) (by kernel_rfl) (by kernel_rfl) rfl ?_ (K7.drew) ?_
  · exact stays_cons isV_mono (stays_cons isV_mono (stays_nil _))
  simp only [List.take_succ_cons, List.take_zero, List.drop_succ_cons, List.drop_zero, Act.put, List.getElem_toArray, List.getElem_cons_zero, List.getElem_cons_succ, List.setIfInBounds_toArray, List.set_cons_succ, List.set_cons_zero]
  refine dw_val rfl rfl rfl ?_; apply Exists.intro; refine ⟨fun wv HC => ?_, ?_⟩
  · obtain ⟨f0, f1, f2, f3, f4⟩ := HF.out _ HC; go_simp <;> rfl
  simp only [Act.put, List.setIfInBounds_toArray, List.set_cons_succ, List.set_cons_zero]
  refine dw_callR 20 (IsV (vNum 5).val) (f := 39) (args := #[.int .i64 5]) rfl rfl rfl rfl (fun wv => ?_) (fun wv HC hrm hD => ?_) ?_
  · go_simp <;> rfl
  · refine (num_any 5 wv).mono ?_
    rintro e w6 ⟨rfl, b6⟩
    exact ⟨_, rfl, rfl, HC.call b6, RM.below b6⟩
  rintro u wx HCx hu
  obtain rfl : u = _ := hu
  clear HCx
  simp only [Act.put, List.setIfInBounds_toArray, List.set_cons_succ, List.set_cons_zero]
  refine dw_callR 21 (IsV (.tuple #[.int .i64 3, .bool true])) (f := 34) (args := #[.agg #[.string nu, .slice A2 n2 c2, .int .i64 4, .slice (some ⟨gr, 0, none⟩) 1 1], .agg #[.int .i64 (vNum 5).k, .int .i64 (vNum 5).i, .string (vNum 5).s]]) rfl rfl rfl rfl (fun wv => ?_) (fun wv HC hrm hD => ?_) ?_
  · go_simp <;> rfl
  · have HC2 := HC
    rw [HKL.out] at HC2
    refine (look_any _ _ HC2.mutLt nu A2 n2 c2 uCols 4 (some ⟨gr, 0, none⟩) 1 1 [R] (vNum 5) (HC2.ro 2 rfl) (HC2.ro 0 rfl) (by omega) (by omega)).mono ?_
    rintro e w6 ⟨rfl, b6⟩
    refine ⟨_, rfl, ?_, HC.call b6, RM.below b6⟩
    show _ = _
    rw [HR2.out, k6_key, k6_look]; rfl
  rintro u wx HCx hu
  obtain rfl : u = _ := hu
  clear HCx
  simp only [Act.put, List.setIfInBounds_toArray, List.set_cons_succ, List.set_cons_zero]
  refine dw_val rfl rfl rfl ?_; apply Exists.intro; refine ⟨fun wv HC => ?_, ?_⟩
  ·  go_simp <;> rfl
  simp only [Act.put, List.setIfInBounds_toArray, List.set_cons_succ, List.set_cons_zero]
  refine dw_val rfl rfl rfl ?_; apply Exists.intro; refine ⟨fun wv HC => ?_, ?_⟩
  ·  go_simp <;> rfl
  simp only [Act.put, List.setIfInBounds_toArray, List.set_cons_succ, List.set_cons_zero]
  refine dw_val rfl rfl rfl ?_; apply Exists.intro; refine ⟨fun wv HC => ?_, ?_⟩
  ·  go_simp <;> rfl
  simp only [Act.put, List.setIfInBounds_toArray, List.set_cons_succ, List.set_cons_zero]
  refine dw_val rfl rfl rfl ?_; apply Exists.intro; refine ⟨fun wv HC => ?_, ?_⟩
  ·  go_simp <;> rfl
  simp only [Act.put, List.setIfInBounds_toArray, List.set_cons_succ, List.set_cons_zero]
  refine rel_nil ?_
  rintro wx2 HX2
  rintro _hrm _HG
  rw [HKL.out] at HX2
  clear _hrm _HG
  have F8 := HX2.facts
  simp only [World.size_alloc, World.size_drew, factsL, cellsF, Nat.reduceAdd, List.toList_toArray, List.set_cons_zero, List.set_cons_succ, List.setIfInBounds_toArray, and_true, true_and] at F8
  have hus : nu.size ≤ maxLen := HS.out.1
  go_wp2_with fail
  refine (tvalid_any _ _ HX2.mutLt nu A2 n2 c2 uCols 4 (some ⟨gr, 0, none⟩) 1 1 [R] (HX2.ro 2 rfl) (HX2.ro 0 rfl) (by omega) (by omega) (by intro r hr; simp only [List.mem_cons, List.not_mem_nil, or_false] at hr; rw [hr]; exact HR1.out) hus HS.out.2.1).mono ?_
  rintro e w8 ⟨rfl, b8⟩
  rw [HR2.out, ← HU.out, k6_valid]
  have K8 := HX2.call b8
  clear HX2 b8 F8
  have F9 := K8.facts
  simp only [World.size_alloc, World.size_drew, factsL, cellsF, Nat.reduceAdd, List.toList_toArray, List.set_cons_zero, List.set_cons_succ, List.setIfInBounds_toArray, and_true, true_and] at F9
  go_wp2_with fail
  refine (dup_any _ _ K8.mutLt nu A2 n2 c2 uCols 4 (some ⟨gr, 0, none⟩) 1 1 [R] (K8.ro 2 rfl) (K8.ro 0 rfl) (by omega) (by omega) (by intro r hr; simp only [List.mem_cons, List.not_mem_nil, or_false] at hr; rw [hr]; exact HR1.out)).mono ?_
  rintro e w9 ⟨rfl, b9⟩
  rw [HR2.out, k6_dup]
  have K9 := K8.call b9
  go_wp2_with fail
  go_ret
  exact ⟨by first | rfl | simp, K9.below⟩
end Go.Proofs.YtljmclbedpceoaaDoor

namespace Go.Proofs.YtljmclbedpceoaaDoor
open Go.RowKit
set_option linter.unusedVariables false
set_option linter.unusedSimpArgs false

theorem Wds.ro2 {w : World} {M : Nat → Prop} (h : Wds w) (hM : ¬ M 1) : Ro w M Wds := fun w2 _ h2 => h.keep (h2 _ h.lt hM)
def DrawnSm (w : World) (T : Nat) (e : Ending) (w' : World) : Prop :=
  ∃ x : Int, e = .returned (.int .i64 x) ∧ -3 ≤ x ∧ x ≤ 12 ∧ Tp w' T ∧ w.grownBy w' (some T)
set_option maxHeartbeats 400000 in
theorem small_any (T : Nat) (w : World) (ht : Tp w T) : Calls Tryd.prog 40 #[.pointer (some ⟨T, 0, none⟩)] w fun e w' => DrawnSm w T e w' := by
  go_enter Tryd.func40, Tryd.ntmps40
  go_wp2_with fail
  refine (next_any T 16 _ ht (by omega) (by omega)).mono ?_
  rintro e w1 ⟨r, rfl, r0, r1, t1, g1⟩
  go_wp2
  go_ret
  exact ⟨r - 3, by first | rfl | simp, by omega, by omega, t1, g1⟩

/-- values that fit the columns one by one -/
def fitsAll : List Col → List Vl → Prop
  | [], [] => True
  | c :: cs, v :: vs => fitsV c v = 0 ∧ fitsAll cs vs
  | _, _ => False
theorem fitsAll_len : ∀ {cs : List Col} {vs : List Vl}, fitsAll cs vs → vs.length = cs.length
  | [], [], _ => rfl
  | c :: cs, v :: vs, h => by simp [fitsAll_len h.2]
  | [], _ :: _, h => h.elim
  | _ :: _, [], h => h.elim
theorem fitsAll_T : ∀ {cs : List Col} {vs : List Vl}, fitsAll cs vs → fitsL cs vs = 0
  | [], [], _ => rfl
  | c :: cs, v :: vs, h => by rw [fitsL, if_pos h.1]; exact fitsAll_T h.2
  | [], _ :: _, h => h.elim
  | _ :: _, [], h => h.elim
theorem fitsT_all {cs : List Col} {vs : List Vl} (h : fitsAll cs vs) : fitsT cs vs = 0 := by
  unfold fitsT; rw [if_pos (fitsAll_len h)]; exact fitsAll_T h
theorem fitsAll_snoc : ∀ {cs : List Col} {vs : List Vl} {c : Col} {v : Vl}, fitsAll cs vs → fitsV c v = 0 → fitsAll (cs ++ [c]) (vs ++ [v])
  | [], [], _, _, _, h => ⟨h, trivial⟩
  | c :: cs, v :: vs, _, _, h, k => ⟨h.1, fitsAll_snoc h.2 k⟩
  | [], _ :: _, _, _, h, _ => h.elim
  | _ :: _, [], _, _, h, _ => h.elim
theorem fitsAll_take {cs : List Col} {vs : List Vl} {k : Nat} {c : Col} {v : Vl} (h : fitsAll (cs.take k) vs) (hc : cs[k]? = some c) (hv : fitsV c v = 0) : fitsAll (cs.take (k + 1)) (vs ++ [v]) := by
  rw [List.take_add_one, hc]
  exact fitsAll_snoc h hv
/-- a column of a kind -/
def ColOk (c : Col) : Prop := c.ty = 1 ∨ c.ty = 2 ∨ c.ty = 3
theorem fits_typed {c : Col} {k i : Int} {s : ByteArray} (hc : ColOk c) (h : OfKind c.ty k i s) : fitsV c ⟨k, i, s⟩ = 0 ∧ k = c.ty := by
  obtain ⟨h1, h2, _⟩ := h
  obtain rfl := h2 hc
  have h3 : (c.ty == 0) = false := by rcases hc with h | h | h <;> rw [h] <;> rfl
  refine ⟨?_, rfl⟩
  unfold fitsV
  rw [if_pos h1]
  simp [h3]
theorem fits_small {c : Col} (hc : c.ty = 1) (i : Int) (s : ByteArray) (j : Int) (h : fitsV c ⟨1, i, s⟩ = 0) : fitsV c ⟨1, j, s⟩ = 0 := by
  unfold fitsV at h ⊢
  have e : validB 1 j s = validB 1 i s := by unfold validB; rw [if_neg (by decide), if_pos rfl, if_neg (by decide), if_pos rfl]
  rw [e]
  exact h
theorem fits_null {c : Col} (hc : c.nn = false) : fitsV c vNil = 0 := by
  have e : validB 0 0 ⟨#[]⟩ = true := by decide +kernel
  simp [fitsV, vNil, e, hc]
/-- A row drawn: it fits, in a row of the call's own. -/
def DrawnRow (w : World) (T : Nat) (cs : List Col) (e : Ending) (w' : World) : Prop :=
  ∃ (A : Option Addr) (n c : Nat) (vs : List Vl), e = .returned (.slice A n c) ∧ n = vs.length ∧ (∀ v ∈ vs, v.ok) ∧ fitsAll cs vs ∧ w'.ownsRow w.heap.size 66 3 (.slice A n c) n (vlCells vs) ∧ Tp w' T ∧ w.grownBy w' (some T)
theorem vlCells_snoc (l : List Vl) (k i : Int) (s : ByteArray) : vlCells l ++ (#[Value.int .i64 k, .int .i64 i, .string s]).toList = vlCells (l ++ [⟨k, i, s⟩]) := by simp [vlCells, Vl.cells]
theorem oks_snoc {l : List Vl} {v : Vl} (h : ∀ x ∈ l, x.ok) (hv : v.ok) : ∀ x ∈ l ++ [v], x.ok := fun x hx => by
  rcases List.mem_append.1 hx with hx | hx
  · exact h x hx
  · simp at hx; subst hx; exact hv
set_option maxHeartbeats 4000000 in
set_option maxRecDepth 100000 in
theorem trow_any (M : Nat → Prop) (T : Nat) (w : World) (hM : ∀ b, M b → b < w.heap.size) (ht : Tp w T) (hMT : ∀ b, M b → T ≤ b) (nm : ByteArray) (A : Option Addr) (n c : Nat) (cs : List Col) (hD : Ro w (Mut M [.tp T]) (ColsIn A n cs)) (hW : Ro w (Mut M [.tp T]) Wds) (hT : 1 < T)
    (hn : n ≤ 1000) (hok : ∀ x ∈ cs, ColOk x) : Calls Tryd.prog 53 #[.pointer (some ⟨T, 0, none⟩), .agg #[.string nm, .slice A n c]] w fun e w' => DrawnRow w T cs e w' := by
  have HL := hid (cols_n hD.now)
  have HOKC := hid hok
  clear hok
  have K0 := ((((Hold.startT M w T hM ht hMT).add hD).add (hW.less (mut_none rfl))).alloc_cst #[.string nm, .slice A n c] 37).nil 66 3
  clear hD hW
  go_enter Tryd.func53, Tryd.ntmps53
  go_wp2_with fail
  go_loopw [5, 12] (fun ov iv wr => ∃ (k cap : Nat) (O : Option Addr) (outs : List Vl), k ≤ n ∧ iv = .int .i64 k ∧ ov = .slice O k cap ∧ Hid (∀ v ∈ outs, v.ok) ∧ Hid (fitsAll (cs.take k) outs) ∧ Hold M (some T) w wr [.own 66 3 (.slice O k cap) k (vlCells outs), .cst w.heap.size 37 #[.string nm, .slice A n c], .ro Wds, .ro (ColsIn A n cs), .tp T]) (fun _ iv _ => n - (intOf iv).toNat)
  case atStart => exact ⟨0, 0, none, [], by omega, rfl, rfl, hid (fun v hv => nomatch hv), hid trivial, K0⟩
  case round =>
    clear K0
    obtain ⟨k, cap, O, outs, hk, rfl, rfl, HO, HF, H⟩ := hrel
    by_cases hlt : k < n
    · have hd : decide ((k : Int) < (n : Int)) = true := by simp; omega
      have k0 : (0 : Int) ≤ (k : Int) := by omega
      have k1 : (k : Int) < (n : Int) := by omega
      obtain ⟨⟨xn, xt, xnn, xk⟩, hx⟩ := get_col HL.out hlt
      obtain ⟨g, o, rfl, hgb, c0, c1, c2, c3⟩ := (RdC.of_sl (H.ro 3 rfl).now).at_ hx
      dsimp only at c0 c1 c2 c3
      have HCO := hid (HOKC.out _ (List.mem_of_getElem? hx))
      have HX := hid hx
      clear hx
      have K1 := H.alloc_cst #[.string xn, .int .i64 xt, .bool xnn, .bool xk] 70
      obtain ⟨gc, hgc⟩ : ∃ gc, gc = wr.heap.size := ⟨_, rfl⟩
      rw [← hgc] at K1
      go_wp2_with fail
      rw [← hgc]
      clear hgc
      refine (typed_any T xt _ (K1.tp_ 5 rfl) (K1.ro 3 rfl).now hT).mono ?_
      rintro e w2 ⟨kk, ii, ss, rfl, hkk, hss, hii, t2, _, g2⟩
      have K2 := (Hold.callT K1 5 rfl g2 t2)
      obtain ⟨hfit, hkt⟩ := fits_typed (c := ⟨xn, xt, xnn, xk⟩) HCO.out hkk
      obtain rfl : kk = xt := hkt
      clear hkk g2 t2 K1
      have HFIT := hid hfit
      clear hfit
      have K3 := K2.alloc #[.int .i64 kk, .int .i64 ii, .string ss] 66
      clear K2
      have F3 := K3.facts
      simp only [World.size_alloc, World.size_drew, factsL, cellsF, Nat.reduceAdd, List.toList_toArray, List.set_cons_zero, List.set_cons_succ, List.setIfInBounds_toArray, and_true, true_and] at F3
      have hssm : ss.size ≤ maxLen := by unfold maxLen; omega
      by_cases h1 : kk = 1
      · subst h1
        have hb : ((1 : Int) == 1) = true := rfl
        go_wp2_with fail
        refine (bool_any T 9 _ (K3.tp_ 6 rfl) (by omega) (by omega)).mono ?_
        rintro e w3 ⟨b1, rfl, t3, g3⟩
        obtain ⟨gv, hgv⟩ : ∃ gv, gv = w2.heap.size := ⟨_, rfl⟩
        have K4 := Hold.callT K3 6 rfl g3 t3
        clear K3 g3 t3 F3
        rw [← hgv] at K4 ⊢
        clear hgv
        have F4 := K4.facts
        simp only [World.size_alloc, World.size_drew, factsL, cellsF, Nat.reduceAdd, List.toList_toArray, List.set_cons_zero, List.set_cons_succ, List.setIfInBounds_toArray, and_true, true_and] at F4
        cases b1
        · go_wp2_with fail
          refine (small_any T _ (K4.tp_ 6 rfl)).mono ?_
          rintro e w4 ⟨y, rfl, y0, y1, t4, g4⟩
          have K5 := (Hold.callT K4 6 rfl g4 t4).store 0 rfl 1 (.int .i64 y)
          have F5 := (Hold.callT K4 6 rfl g4 t4).facts
          simp only [factsL, cellsF, Nat.reduceAdd, List.toList_toArray, and_true, true_and] at F5
          clear K4 g4 t4 F4
          have hyI : I64 y := by unfold I64; omega
          cases xnn
          · skip
            have KN := K5
            try simp only [List.set_cons_zero, List.set_cons_succ, List.setIfInBounds_toArray] at KN
            have FN := KN.facts
            simp only [World.size_alloc, World.size_drew, factsL, cellsF, Nat.reduceAdd, List.toList_toArray, List.set_cons_zero, List.set_cons_succ, List.setIfInBounds_toArray, and_true, true_and] at FN
            go_wp2_with fail
            refine (bool_any T 5 _ (KN.tp_ 6 rfl) (by omega) (by omega)).mono ?_
            rintro e w8 ⟨b2, rfl, t8, g8⟩
            have KM := Hold.callT KN 6 rfl g8 t8
            clear KN FN g8 t8
            have FM := KM.facts
            simp only [World.size_alloc, World.size_drew, factsL, cellsF, Nat.reduceAdd, List.toList_toArray, List.set_cons_zero, List.set_cons_succ, List.setIfInBounds_toArray, and_true, true_and] at FM
            cases b2
            · skip
              have HFK := hid (fitsAll_take HF.out HX.out (v := ⟨1, y, ss⟩) (fits_small rfl ii ss y HFIT.out))
              have HOK := hid (oks_snoc HO.out (show Vl.ok ⟨1, y, ss⟩ from ⟨by show I64 1; unfold I64; omega, hyI, hssm⟩))
              have HCE := hid (vlCells_snoc outs 1 y ss)
              have KA := KM
              try simp only [List.set_cons_zero, List.set_cons_succ, List.setIfInBounds_toArray] at KA
              have FA := KA.facts
              simp only [World.size_alloc, World.size_drew, factsL, cellsF, Nat.reduceAdd, List.toList_toArray, List.set_cons_zero, List.set_cons_succ, List.setIfInBounds_toArray, and_true, true_and] at FA
              go_wp2_with (at_builtin; go_must (refine wpList_appH KA 2 rfl Tryd.elVl #[.int .i64 1, .int .i64 y, .string ss] rfl (.tmp 39) (.tmp 41) rfl rfl _ (by first | rfl | simp [World.setCell]) rfl rfl (by intro u hu; simp at hu; rcases hu with rfl | rfl | rfl <;> rfl) (by omega) (by omega) ?_); intro g6 cap6 w6 hc6 hm6 KB; rw [HCE.out] at KB; simp only [List.set_cons_zero, List.set_cons_succ] at KB; (have FB := KB.facts); simp only [World.size_alloc, World.size_drew, factsL, cellsF, Nat.reduceAdd, List.toList_toArray, List.set_cons_zero, List.set_cons_succ, List.setIfInBounds_toArray, and_true, true_and] at FB)
              have KC := (KB.drop (List.Sublist.cons _ (List.Sublist.cons _ (List.Sublist.refl _))))
              go_roundw
              case rel => exact ⟨k + 1, cap6, some ⟨g6, 0, none⟩, outs ++ [⟨1, y, ss⟩], by omega, by go_num, by first | rfl | trivial, HOK, HFK, KC⟩
              case measure => simp [intOf]; omega
            · skip
              have HFK := hid (fitsAll_take HF.out HX.out (v := ⟨0, 0, ⟨#[]⟩⟩) (fits_null rfl))
              have HOK := hid (oks_snoc HO.out (show Vl.ok ⟨0, 0, ⟨#[]⟩⟩ from vNil_ok))
              have HCE := hid (vlCells_snoc outs 0 0 ⟨#[]⟩)
              have KA := (((KM.store 0 rfl 0 (.int .i64 0)).store 0 rfl 1 (.int .i64 0)).store 0 rfl 2 (.string ⟨#[]⟩))
              try simp only [List.set_cons_zero, List.set_cons_succ, List.setIfInBounds_toArray] at KA
              have FA := KA.facts
              simp only [World.size_alloc, World.size_drew, factsL, cellsF, Nat.reduceAdd, List.toList_toArray, List.set_cons_zero, List.set_cons_succ, List.setIfInBounds_toArray, and_true, true_and] at FA
              go_wp2_with (at_builtin; go_must (refine wpList_appH KA 2 rfl Tryd.elVl #[.int .i64 0, .int .i64 0, .string ⟨#[]⟩] rfl (.tmp 39) (.tmp 41) rfl rfl _ (by first | rfl | simp [World.setCell]) rfl rfl (by intro u hu; simp at hu; rcases hu with rfl | rfl | rfl <;> rfl) (by omega) (by omega) ?_); intro g6 cap6 w6 hc6 hm6 KB; rw [HCE.out] at KB; simp only [List.set_cons_zero, List.set_cons_succ] at KB; (have FB := KB.facts); simp only [World.size_alloc, World.size_drew, factsL, cellsF, Nat.reduceAdd, List.toList_toArray, List.set_cons_zero, List.set_cons_succ, List.setIfInBounds_toArray, and_true, true_and] at FB)
              have KC := (KB.drop (List.Sublist.cons _ (List.Sublist.cons _ (List.Sublist.refl _))))
              go_roundw
              case rel => exact ⟨k + 1, cap6, some ⟨g6, 0, none⟩, outs ++ [⟨0, 0, ⟨#[]⟩⟩], by omega, by go_num, by first | rfl | trivial, HOK, HFK, KC⟩
              case measure => simp [intOf]; omega
          · skip
            have HFK := hid (fitsAll_take HF.out HX.out (v := ⟨1, y, ss⟩) (fits_small rfl ii ss y HFIT.out))
            have HOK := hid (oks_snoc HO.out (show Vl.ok ⟨1, y, ss⟩ from ⟨by show I64 1; unfold I64; omega, hyI, hssm⟩))
            have HCE := hid (vlCells_snoc outs 1 y ss)
            have KA := K5
            try simp only [List.set_cons_zero, List.set_cons_succ, List.setIfInBounds_toArray] at KA
            have FA := KA.facts
            simp only [World.size_alloc, World.size_drew, factsL, cellsF, Nat.reduceAdd, List.toList_toArray, List.set_cons_zero, List.set_cons_succ, List.setIfInBounds_toArray, and_true, true_and] at FA
            go_wp2_with (at_builtin; go_must (refine wpList_appH KA 2 rfl Tryd.elVl #[.int .i64 1, .int .i64 y, .string ss] rfl (.tmp 39) (.tmp 41) rfl rfl _ (by first | rfl | simp [World.setCell]) rfl rfl (by intro u hu; simp at hu; rcases hu with rfl | rfl | rfl <;> rfl) (by omega) (by omega) ?_); intro g6 cap6 w6 hc6 hm6 KB; rw [HCE.out] at KB; simp only [List.set_cons_zero, List.set_cons_succ] at KB; (have FB := KB.facts); simp only [World.size_alloc, World.size_drew, factsL, cellsF, Nat.reduceAdd, List.toList_toArray, List.set_cons_zero, List.set_cons_succ, List.setIfInBounds_toArray, and_true, true_and] at FB)
            have KC := (KB.drop (List.Sublist.cons _ (List.Sublist.cons _ (List.Sublist.refl _))))
            go_roundw
            case rel => exact ⟨k + 1, cap6, some ⟨g6, 0, none⟩, outs ++ [⟨1, y, ss⟩], by omega, by go_num, by first | rfl | trivial, HOK, HFK, KC⟩
            case measure => simp [intOf]; omega
        · skip
          cases xnn
          · skip
            have KN := K4
            try simp only [List.set_cons_zero, List.set_cons_succ, List.setIfInBounds_toArray] at KN
            have FN := KN.facts
            simp only [World.size_alloc, World.size_drew, factsL, cellsF, Nat.reduceAdd, List.toList_toArray, List.set_cons_zero, List.set_cons_succ, List.setIfInBounds_toArray, and_true, true_and] at FN
            go_wp2_with fail
            refine (bool_any T 5 _ (KN.tp_ 6 rfl) (by omega) (by omega)).mono ?_
            rintro e w8 ⟨b2, rfl, t8, g8⟩
            have KM := Hold.callT KN 6 rfl g8 t8
            clear KN FN g8 t8
            have FM := KM.facts
            simp only [World.size_alloc, World.size_drew, factsL, cellsF, Nat.reduceAdd, List.toList_toArray, List.set_cons_zero, List.set_cons_succ, List.setIfInBounds_toArray, and_true, true_and] at FM
            cases b2
            · skip
              have HFK := hid (fitsAll_take HF.out HX.out (v := ⟨1, ii, ss⟩) HFIT.out)
              have HOK := hid (oks_snoc HO.out (show Vl.ok ⟨1, ii, ss⟩ from ⟨by show I64 1; unfold I64; omega, hii, hssm⟩))
              have HCE := hid (vlCells_snoc outs 1 ii ss)
              have KA := KM
              try simp only [List.set_cons_zero, List.set_cons_succ, List.setIfInBounds_toArray] at KA
              have FA := KA.facts
              simp only [World.size_alloc, World.size_drew, factsL, cellsF, Nat.reduceAdd, List.toList_toArray, List.set_cons_zero, List.set_cons_succ, List.setIfInBounds_toArray, and_true, true_and] at FA
              go_wp2_with (at_builtin; go_must (refine wpList_appH KA 2 rfl Tryd.elVl #[.int .i64 1, .int .i64 ii, .string ss] rfl (.tmp 39) (.tmp 41) rfl rfl _ (by first | rfl | simp [World.setCell]) rfl rfl (by intro u hu; simp at hu; rcases hu with rfl | rfl | rfl <;> rfl) (by omega) (by omega) ?_); intro g6 cap6 w6 hc6 hm6 KB; rw [HCE.out] at KB; simp only [List.set_cons_zero, List.set_cons_succ] at KB; (have FB := KB.facts); simp only [World.size_alloc, World.size_drew, factsL, cellsF, Nat.reduceAdd, List.toList_toArray, List.set_cons_zero, List.set_cons_succ, List.setIfInBounds_toArray, and_true, true_and] at FB)
              have KC := (KB.drop (List.Sublist.cons _ (List.Sublist.cons _ (List.Sublist.refl _))))
              go_roundw
              case rel => exact ⟨k + 1, cap6, some ⟨g6, 0, none⟩, outs ++ [⟨1, ii, ss⟩], by omega, by go_num, by first | rfl | trivial, HOK, HFK, KC⟩
              case measure => simp [intOf]; omega
            · skip
              have HFK := hid (fitsAll_take HF.out HX.out (v := ⟨0, 0, ⟨#[]⟩⟩) (fits_null rfl))
              have HOK := hid (oks_snoc HO.out (show Vl.ok ⟨0, 0, ⟨#[]⟩⟩ from vNil_ok))
              have HCE := hid (vlCells_snoc outs 0 0 ⟨#[]⟩)
              have KA := (((KM.store 0 rfl 0 (.int .i64 0)).store 0 rfl 1 (.int .i64 0)).store 0 rfl 2 (.string ⟨#[]⟩))
              try simp only [List.set_cons_zero, List.set_cons_succ, List.setIfInBounds_toArray] at KA
              have FA := KA.facts
              simp only [World.size_alloc, World.size_drew, factsL, cellsF, Nat.reduceAdd, List.toList_toArray, List.set_cons_zero, List.set_cons_succ, List.setIfInBounds_toArray, and_true, true_and] at FA
              go_wp2_with (at_builtin; go_must (refine wpList_appH KA 2 rfl Tryd.elVl #[.int .i64 0, .int .i64 0, .string ⟨#[]⟩] rfl (.tmp 39) (.tmp 41) rfl rfl _ (by first | rfl | simp [World.setCell]) rfl rfl (by intro u hu; simp at hu; rcases hu with rfl | rfl | rfl <;> rfl) (by omega) (by omega) ?_); intro g6 cap6 w6 hc6 hm6 KB; rw [HCE.out] at KB; simp only [List.set_cons_zero, List.set_cons_succ] at KB; (have FB := KB.facts); simp only [World.size_alloc, World.size_drew, factsL, cellsF, Nat.reduceAdd, List.toList_toArray, List.set_cons_zero, List.set_cons_succ, List.setIfInBounds_toArray, and_true, true_and] at FB)
              have KC := (KB.drop (List.Sublist.cons _ (List.Sublist.cons _ (List.Sublist.refl _))))
              go_roundw
              case rel => exact ⟨k + 1, cap6, some ⟨g6, 0, none⟩, outs ++ [⟨0, 0, ⟨#[]⟩⟩], by omega, by go_num, by first | rfl | trivial, HOK, HFK, KC⟩
              case measure => simp [intOf]; omega
          · skip
            have HFK := hid (fitsAll_take HF.out HX.out (v := ⟨1, ii, ss⟩) HFIT.out)
            have HOK := hid (oks_snoc HO.out (show Vl.ok ⟨1, ii, ss⟩ from ⟨by show I64 1; unfold I64; omega, hii, hssm⟩))
            have HCE := hid (vlCells_snoc outs 1 ii ss)
            have KA := K4
            try simp only [List.set_cons_zero, List.set_cons_succ, List.setIfInBounds_toArray] at KA
            have FA := KA.facts
            simp only [World.size_alloc, World.size_drew, factsL, cellsF, Nat.reduceAdd, List.toList_toArray, List.set_cons_zero, List.set_cons_succ, List.setIfInBounds_toArray, and_true, true_and] at FA
            go_wp2_with (at_builtin; go_must (refine wpList_appH KA 2 rfl Tryd.elVl #[.int .i64 1, .int .i64 ii, .string ss] rfl (.tmp 39) (.tmp 41) rfl rfl _ (by first | rfl | simp [World.setCell]) rfl rfl (by intro u hu; simp at hu; rcases hu with rfl | rfl | rfl <;> rfl) (by omega) (by omega) ?_); intro g6 cap6 w6 hc6 hm6 KB; rw [HCE.out] at KB; simp only [List.set_cons_zero, List.set_cons_succ] at KB; (have FB := KB.facts); simp only [World.size_alloc, World.size_drew, factsL, cellsF, Nat.reduceAdd, List.toList_toArray, List.set_cons_zero, List.set_cons_succ, List.setIfInBounds_toArray, and_true, true_and] at FB)
            have KC := (KB.drop (List.Sublist.cons _ (List.Sublist.cons _ (List.Sublist.refl _))))
            go_roundw
            case rel => exact ⟨k + 1, cap6, some ⟨g6, 0, none⟩, outs ++ [⟨1, ii, ss⟩], by omega, by go_num, by first | rfl | trivial, HOK, HFK, KC⟩
            case measure => simp [intOf]; omega
      · have hb : (kk == 1) = false := by simpa using h1
        have hty : I64 kk := by rcases HCO.out with h | h | h <;> (have h : kk = _ := h; rw [h]; unfold I64; omega)
        clear h1
        cases xnn
        · skip
          have KN := K3
          try simp only [List.set_cons_zero, List.set_cons_succ, List.setIfInBounds_toArray] at KN
          have FN := KN.facts
          simp only [World.size_alloc, World.size_drew, factsL, cellsF, Nat.reduceAdd, List.toList_toArray, List.set_cons_zero, List.set_cons_succ, List.setIfInBounds_toArray, and_true, true_and] at FN
          go_wp2_with fail
          refine (bool_any T 5 _ (KN.tp_ 6 rfl) (by omega) (by omega)).mono ?_
          rintro e w8 ⟨b2, rfl, t8, g8⟩
          have KM := Hold.callT KN 6 rfl g8 t8
          clear KN FN g8 t8
          have FM := KM.facts
          simp only [World.size_alloc, World.size_drew, factsL, cellsF, Nat.reduceAdd, List.toList_toArray, List.set_cons_zero, List.set_cons_succ, List.setIfInBounds_toArray, and_true, true_and] at FM
          cases b2
          · skip
            have HFK := hid (fitsAll_take HF.out HX.out (v := ⟨kk, ii, ss⟩) HFIT.out)
            have HOK := hid (oks_snoc HO.out (show Vl.ok ⟨kk, ii, ss⟩ from ⟨hty, hii, hssm⟩))
            have HCE := hid (vlCells_snoc outs kk ii ss)
            have KA := KM
            try simp only [List.set_cons_zero, List.set_cons_succ, List.setIfInBounds_toArray] at KA
            have FA := KA.facts
            simp only [World.size_alloc, World.size_drew, factsL, cellsF, Nat.reduceAdd, List.toList_toArray, List.set_cons_zero, List.set_cons_succ, List.setIfInBounds_toArray, and_true, true_and] at FA
            go_wp2_with (at_builtin; go_must (refine wpList_appH KA 2 rfl Tryd.elVl #[.int .i64 kk, .int .i64 ii, .string ss] rfl (.tmp 39) (.tmp 41) rfl rfl _ (by first | rfl | simp [World.setCell]) rfl rfl (by intro u hu; simp at hu; rcases hu with rfl | rfl | rfl <;> rfl) (by omega) (by omega) ?_); intro g6 cap6 w6 hc6 hm6 KB; rw [HCE.out] at KB; simp only [List.set_cons_zero, List.set_cons_succ] at KB; (have FB := KB.facts); simp only [World.size_alloc, World.size_drew, factsL, cellsF, Nat.reduceAdd, List.toList_toArray, List.set_cons_zero, List.set_cons_succ, List.setIfInBounds_toArray, and_true, true_and] at FB)
            have KC := (KB.drop (List.Sublist.cons _ (List.Sublist.cons _ (List.Sublist.refl _))))
            go_roundw
            case rel => exact ⟨k + 1, cap6, some ⟨g6, 0, none⟩, outs ++ [⟨kk, ii, ss⟩], by omega, by go_num, by first | rfl | trivial, HOK, HFK, KC⟩
            case measure => simp [intOf]; omega
          · skip
            have HFK := hid (fitsAll_take HF.out HX.out (v := ⟨0, 0, ⟨#[]⟩⟩) (fits_null rfl))
            have HOK := hid (oks_snoc HO.out (show Vl.ok ⟨0, 0, ⟨#[]⟩⟩ from vNil_ok))
            have HCE := hid (vlCells_snoc outs 0 0 ⟨#[]⟩)
            have KA := (((KM.store 0 rfl 0 (.int .i64 0)).store 0 rfl 1 (.int .i64 0)).store 0 rfl 2 (.string ⟨#[]⟩))
            try simp only [List.set_cons_zero, List.set_cons_succ, List.setIfInBounds_toArray] at KA
            have FA := KA.facts
            simp only [World.size_alloc, World.size_drew, factsL, cellsF, Nat.reduceAdd, List.toList_toArray, List.set_cons_zero, List.set_cons_succ, List.setIfInBounds_toArray, and_true, true_and] at FA
            go_wp2_with (at_builtin; go_must (refine wpList_appH KA 2 rfl Tryd.elVl #[.int .i64 0, .int .i64 0, .string ⟨#[]⟩] rfl (.tmp 39) (.tmp 41) rfl rfl _ (by first | rfl | simp [World.setCell]) rfl rfl (by intro u hu; simp at hu; rcases hu with rfl | rfl | rfl <;> rfl) (by omega) (by omega) ?_); intro g6 cap6 w6 hc6 hm6 KB; rw [HCE.out] at KB; simp only [List.set_cons_zero, List.set_cons_succ] at KB; (have FB := KB.facts); simp only [World.size_alloc, World.size_drew, factsL, cellsF, Nat.reduceAdd, List.toList_toArray, List.set_cons_zero, List.set_cons_succ, List.setIfInBounds_toArray, and_true, true_and] at FB)
            have KC := (KB.drop (List.Sublist.cons _ (List.Sublist.cons _ (List.Sublist.refl _))))
            go_roundw
            case rel => exact ⟨k + 1, cap6, some ⟨g6, 0, none⟩, outs ++ [⟨0, 0, ⟨#[]⟩⟩], by omega, by go_num, by first | rfl | trivial, HOK, HFK, KC⟩
            case measure => simp [intOf]; omega
        · skip
          have HFK := hid (fitsAll_take HF.out HX.out (v := ⟨kk, ii, ss⟩) HFIT.out)
          have HOK := hid (oks_snoc HO.out (show Vl.ok ⟨kk, ii, ss⟩ from ⟨hty, hii, hssm⟩))
          have HCE := hid (vlCells_snoc outs kk ii ss)
          have KA := K3
          try simp only [List.set_cons_zero, List.set_cons_succ, List.setIfInBounds_toArray] at KA
          have FA := KA.facts
          simp only [World.size_alloc, World.size_drew, factsL, cellsF, Nat.reduceAdd, List.toList_toArray, List.set_cons_zero, List.set_cons_succ, List.setIfInBounds_toArray, and_true, true_and] at FA
          go_wp2_with (at_builtin; go_must (refine wpList_appH KA 2 rfl Tryd.elVl #[.int .i64 kk, .int .i64 ii, .string ss] rfl (.tmp 39) (.tmp 41) rfl rfl _ (by first | rfl | simp [World.setCell]) rfl rfl (by intro u hu; simp at hu; rcases hu with rfl | rfl | rfl <;> rfl) (by omega) (by omega) ?_); intro g6 cap6 w6 hc6 hm6 KB; rw [HCE.out] at KB; simp only [List.set_cons_zero, List.set_cons_succ] at KB; (have FB := KB.facts); simp only [World.size_alloc, World.size_drew, factsL, cellsF, Nat.reduceAdd, List.toList_toArray, List.set_cons_zero, List.set_cons_succ, List.setIfInBounds_toArray, and_true, true_and] at FB)
          have KC := (KB.drop (List.Sublist.cons _ (List.Sublist.cons _ (List.Sublist.refl _))))
          go_roundw
          case rel => exact ⟨k + 1, cap6, some ⟨g6, 0, none⟩, outs ++ [⟨kk, ii, ss⟩], by omega, by go_num, by first | rfl | trivial, HOK, HFK, KC⟩
          case measure => simp [intOf]; omega
    · obtain rfl : k = n := by omega
      have hd : decide ((k : Int) < (k : Int)) = false := by simp
      have HE := hid (show fitsAll cs outs by have h := HF.out; rwa [List.take_of_length_le (by rw [HL.out]; exact Nat.le_refl _)] at h)
      have HN := hid (show k = outs.length by have := fitsAll_len HE.out; have := HL.out; omega)
      go_wp2_with fail
      go_ret
      exact ⟨O, k, cap, outs, rfl, HN.out, HO.out, HE.out, H.get 0 rfl, H.tp_ 4 rfl, H.grow⟩
end Go.Proofs.YtljmclbedpceoaaDoor

namespace Go.Proofs.YtljmclbedpceoaaDoor
open Go.RowKit
set_option linter.unusedVariables false
set_option linter.unusedSimpArgs false

theorem okR_mono {cs : List Col} {nx nx' : Int} (h : nx ≤ nx') : ∀ {lst : Int} {rs : List Row}, okR cs nx lst rs = true → okR cs nx' lst rs = true
  | _, [], _ => rfl
  | lst, r :: rs, hr => by
    rw [okR] at hr ⊢
    simp only [Bool.and_eq_true, decide_eq_true_eq] at hr ⊢
    exact ⟨⟨⟨hr.1.1.1, by omega⟩, hr.1.2⟩, okR_mono h hr.2⟩
theorem okR_snoc {cs : List Col} {nx nx' : Int} {vs : List Vl} (hf : fitsT cs vs = 0) (hx : nx < nx') : ∀ {lst : Int} {rs : List Row}, lst < nx → okR cs nx lst rs = true → okR cs nx' lst (rs ++ [(nx, vs)]) = true
  | lst, [], hl, _ => by
    simp only [List.nil_append, okR, Bool.and_eq_true, decide_eq_true_eq, Bool.and_true]
    exact ⟨⟨hl, hx⟩, hf⟩
  | lst, r :: rs, hl, hr => by
    rw [okR] at hr
    rw [List.cons_append, okR]
    simp only [Bool.and_eq_true, decide_eq_true_eq] at hr ⊢
    exact ⟨⟨⟨hr.1.1.1, by omega⟩, hr.1.2⟩, okR_snoc hf hx (by omega) hr.2⟩
/-- the keys of rows -/
def keysF (κ : Nat) (l : List (List Vl)) : List Vl := l.filterMap (·[κ]?)
theorem dupF_iff {κ : Nat} : ∀ (l : List (List Vl)) (seen : List Vl), dupF κ seen l = false ↔ (∀ v ∈ keysF κ l, v ∉ seen) ∧ (keysF κ l).Nodup
  | [], seen => by simp [dupF, keysF]
  | r :: l, seen => by
    have h0 : (0 : Int) ≤ (κ : Int) := by omega
    rw [dupF, if_pos h0]
    simp only [Int.toNat_natCast]
    cases hr : r[κ]? with
    | none =>
      have e : keysF κ (r :: l) = keysF κ l := by simp [keysF, hr]
      rw [e]
      simpa using dupF_iff l seen
    | some v =>
      have e : keysF κ (r :: l) = v :: keysF κ l := by simp [keysF, hr]
      rw [e]
      simp only
      by_cases hv : v ∈ seen
      · simp [hv]
      · rw [if_neg hv, dupF_iff l (v :: seen)]
        simp only [List.mem_cons, not_or, List.nodup_cons, List.forall_mem_cons]
        constructor
        · rintro ⟨h1, h2⟩
          refine ⟨fun x hx => ?_, fun hm => (h1 v hm).1 rfl, h2⟩
          rcases hx with rfl | hx
          · exact hv
          · exact (h1 x hx).2
        · rintro ⟨h1, h2, h3⟩
          exact ⟨fun x hx => ⟨fun hxv => h2 (hxv ▸ hx), h1 x (.inr hx)⟩, h3⟩
theorem dupF_snoc {κ : Nat} {l : List (List Vl)} {vs : List Vl} (h : dupF κ [] l = false) (hn : ∀ x ∈ l, x[κ]? = none ∨ x[κ]? ≠ vs[κ]?) : dupF κ [] (l ++ [vs]) = false := by
  rw [dupF_iff] at h ⊢
  refine ⟨fun v _ hv => (List.not_mem_nil hv), ?_⟩
  have e : keysF κ (l ++ [vs]) = keysF κ l ++ (vs[κ]?).toList := by
    unfold keysF
    rw [List.filterMap_append]
    congr 1
  rw [e]
  cases hv : vs[κ]? with
  | none => simpa using h.2
  | some v =>
    simp only [Option.toList_some]
    rw [List.nodup_append]
    refine ⟨h.2, by simp, fun x hx y hy => ?_⟩
    simp only [List.mem_singleton] at hy
    subst hy
    rintro rfl
    obtain ⟨r, hr, hrx⟩ := List.mem_filterMap.1 hx
    rcases hn r hr with h1 | h1
    · rw [h1] at hrx; cases hrx
    · exact h1 (hrx.trans hv.symm)
theorem dupB_snoc {cs : List Col} {rs : List Row} {id : Int} {vs : List Vl} (h : dupB cs rs = false) (hn : findB Col.key cs < 0 ∨ ∀ x ∈ rs, x.2[(findB Col.key cs).toNat]? = none ∨ x.2[(findB Col.key cs).toNat]? ≠ vs[(findB Col.key cs).toNat]?) : dupB cs (rs ++ [(id, vs)]) = false := by
  rcases Int.lt_or_le (findB Col.key cs) 0 with hk | hk
  · exact dupF_neg hk _ _
  · obtain ⟨κ, hκ⟩ := Int.eq_ofNat_of_zero_le hk
    have hn2 := hn.resolve_left (by omega)
    unfold dupB at h ⊢
    rw [hκ] at h hn2 ⊢
    rw [List.map_append]
    exact dupF_snoc h fun x hx => by
      obtain ⟨r, hr, rfl⟩ := List.mem_map.1 hx
      exact hn2 r hr
theorem findFrom_lt {α : Type} (p : α → Bool) : ∀ (l : List α) (k f : Nat), findFrom p k l = (f : Int) → k ≤ f ∧ f < k + l.length
  | [], k, f, h => by rw [findFrom] at h; omega
  | c :: r, k, f, h => by
    rw [findFrom] at h
    split at h
    · simp only [List.length_cons]; omega
    · have := findFrom_lt p r (k + 1) f h
      simp only [List.length_cons]; omega
theorem key_lt {cs : List Col} {κ : Nat} (h : (κ : Int) = findB Col.key cs) : κ < cs.length := by
  have := findFrom_lt Col.key cs 0 κ h.symm
  omega
/-- every key column is the first one -/
def KeyOne (cs : List Col) : Prop := ∀ (i : Nat) (c : Col), cs[i]? = some c → c.key = true → findB Col.key cs = i
theorem tab_ok {nm : ByteArray} {cs : List Col} {nx : Int} {rs : List Row} (h1 : schemaB nm cs = true) (h2 : rs.length ≤ 100) (h3 : 1 ≤ nx) (h4 : nx ≤ 2147483648) (h5 : okR cs nx 0 rs = true) (h6 : dupB cs rs = false) : tabB nm cs nx rs = true := by
  rw [tabB_6 h1 h2 h3 h4 h5, h6]; rfl
end Go.Proofs.YtljmclbedpceoaaDoor

namespace Go.Proofs.YtljmclbedpceoaaDoor
open Go.RowKit
set_option linter.unusedVariables false
set_option linter.unusedSimpArgs false
section
variable {P : Program} {M : Nat → Prop} {row : Option Nat} {w0 w1 : World} {L : List Hp} {sp : SpW} {F : Act → Prop} {S0 : Array Bool}
variable {ops : Array Oper} {o : Oper} {rest : List Oper} {a : Act} {k : Nat}
theorem dw_valC (d : Tmp) (V : Value → World → Prop) (hS : S0.getD k false = false) (hw : Region.wanted o (yielded ops a.tmps) = true) (hd : o.dst = some d) (hsp : sp d = some V) (u : Value) (hrun : ∀ w, Hold M row w0 w L → (execOp a.eval o).run P w = .ok (.value u) w)
    (hV : ∀ w, Hold M row w0 w L → Deps ops (GW sp) o a w → V u w) (hn : wpRel P ops (HC M row w0 w1 L) (GW sp) (RM (Mut M L)) S0 F (k + 1) rest (a.put (some d) u)) : wpRel P ops (HC M row w0 w1 L) (GW sp) (RM (Mut M L)) S0 F k (o :: rest) a :=
  rel_val (fun w _ => RM.refl _ w) hS hw u (fun w hC _ => hrun w hC.1) (fun w hC hD => by rw [hd]; exact (GW_on hsp).2 (hV w hC.1 hD)) (by rw [hd]; exact hn)
end
theorem rwCells_snoc1 (l : List Rw) (id : Int) (A : Option Addr) (n c : Nat) (vs : List Vl) : rwCells l ++ [.int .i64 id, .slice A n c] = rwCells (l ++ [⟨id, A, n, c, vs⟩]) := by simp [rwCells, Rw.cells]
theorem vals_snoc {M : Nat → Prop} {w : World} {rs : List Rw} {r : Rw} (h : Ro w M (ValsIn rs)) (k : Ro w M (VlsIn r.A r.n r.vs)) : Ro w M (ValsIn (rs ++ [r])) := fun w2 h1 h2 x hx => by
  rcases List.mem_append.1 hx with hx | hx
  · exact h w2 h1 h2 x hx
  · simp at hx; subst hx; exact k w2 h1 h2
theorem ro_vals_nil (w : World) (M : Nat → Prop) : Ro w M (ValsIn []) := fun _ _ _ r hr => nomatch hr
end Go.Proofs.YtljmclbedpceoaaDoor

namespace Go.Proofs.YtljmclbedpceoaaDoor
open Go.RowKit
set_option linter.unusedVariables false
set_option linter.unusedSimpArgs false

/-- a table in plain words -/
structure Tb where
  nm : ByteArray
  cs : List Col
  nx : Int
  rs : List Row
deriving DecidableEq
/-- A value that is a table in memory that nobody writes. -/
def TbAt (w : World) (M : Nat → Prop) (v : Value) (t : Tb) : Prop :=
  ∃ (A : Option Addr) (n c : Nat) (B : Option Addr) (m d : Nat) (l : List Rw), v = .agg #[.string t.nm, .slice A n c, .int .i64 t.nx, .slice B m d] ∧ n ≤ c ∧ c ≤ 9223372036854775807 ∧ m ≤ d ∧ d ≤ 9223372036854775807 ∧ Ro w M (ColsIn A n t.cs) ∧ Ro w M (RwsIn B m l) ∧ (∀ r ∈ l, r.ok) ∧ l.map Rw.row = t.rs
end Go.Proofs.YtljmclbedpceoaaDoor

namespace Go.Proofs.YtljmclbedpceoaaDoor
open Go.RowKit
set_option linter.unusedVariables false
set_option linter.unusedSimpArgs false

/-- a new block's, to be written -/
def NewSlot (M : Nat → Prop) (H : Nat) (t : TypeId) (cs : Array Value) (u : Value) (w : World) : Prop := ∃ g : Nat, u = .pointer (some ⟨g, 0, none⟩) ∧ H ≤ g ∧ Ro w M (fun w => w.heap[g]? = some (.cells cs t (0, 0)))
theorem newSlot_mono {M : Nat → Prop} {H : Nat} {t : TypeId} {cs : Array Value} (u : Value) (w w' : World) (hr : RM M w w') (h : NewSlot M H t cs u w) : NewSlot M H t cs u w' := by
  obtain ⟨g, h1, h2, h3⟩ := h
  exact ⟨g, h1, h2, hr.ro h3⟩
/-- A block that came since w1, known whole. -/
theorem Hold.addFreshBlk {M : Nat → Prop} {row : Option Nat} {w0 w1 w : World} {L : List Hp} (K1 : Hold M row w0 w1 L) (K : Hold M row w0 w L) (hr : RM (Mut M L) w1 w) {g : Nat} {t : TypeId} {cs : Array Value} (hg : w1.heap.size ≤ g) (hb : w.heap[g]? = some (.cells cs t (0, 0))) :
    Hold M row w0 w (.blk g t cs :: L) := by
  have hgl : g < w.heap.size := Blk.lt (t := t) (cs := cs) hb
  have hno : ∀ k ∈ L, k.foot ≠ some g := fun k hk hf => by have := (K1.fresh k hk g hf).2; omega
  have ee : ∀ b, b < w1.heap.size → Mut M (.blk g t cs :: L) b → Mut M L b := fun b hl hb => by
    rcases mut_cons.1 hb with hf | hm
    · have : some g = some b := hf
      injection this with this
      omega
    · exact hm
  refine ⟨K.grow, K.low, fun k hk => ?_, fun k hk b hf => ?_, ⟨fun b hf k hk he => ?_, K.sep⟩⟩
  · rcases List.mem_cons.1 hk with rfl | hk
    · exact hb
    · have h1 := K1.sat k hk
      have h2 := K.sat k hk
      cases k with
      | blk g' t' cs' => exact h2
      | own e s v n' xs => exact h2
      | tp T =>
        refine ⟨h2.1, fun b hb' => ?_⟩
        have hT : T < w1.heap.size := (K1.fresh _ hk T rfl).2
        rcases mut_cons.1 hb' with hf | hm'
        · have : some g = some b := hf
          injection this with this
          omega
        · exact h2.2 b hm'
      | ro S => exact Ro.step h1 hr.1 hr.2 ee
      | cst g' t' cs' => exact Ro.step h1 hr.1 hr.2 ee
      | ob g' F' => exact h2
  · rcases List.mem_cons.1 hk with rfl | hk
    · have : some g = some b := hf
      injection this with this
      subst this
      exact ⟨.inl (Nat.le_trans K1.grow.size hg), hgl⟩
    · exact K.fresh k hk b hf
  · have : some g = some b := hf
    injection this with this
    subst this
    exact hno k hk he
section
variable {M : Nat → Prop}
end
end Go.Proofs.YtljmclbedpceoaaDoor

namespace Go.Proofs.YtljmclbedpceoaaDoor
open Go.RowKit
set_option linter.unusedVariables false
theorem Ro.vlsAt {w : World} {M : Nat → Prop} {A : Option Addr} {n : Nat} {l : List Vl} (h : Ro w M (VlsIn A n l)) {k : Nat} {x : Vl} (hx : l[k]? = some x) :
    ∃ b o, A = some ⟨b, o, none⟩ ∧ Ro w M (fun w => b < w.heap.size ∧ w.cell? ⟨b, o + k * 3, none⟩ = some (.int .i64 x.k) ∧ w.cell? ⟨b, o + k * 3 + 1, none⟩ = some (.int .i64 x.i) ∧ w.cell? ⟨b, o + k * 3 + 2, none⟩ = some (.string x.s)) := by
  obtain ⟨b, o, e, _⟩ := h.now.at_ hx
  refine ⟨b, o, e, fun w2 h1 h2 => ?_⟩
  obtain ⟨b', o', e', h3, h4, h5, h6⟩ := (h w2 h1 h2).at_ hx
  rw [e] at e'
  injection e' with e'
  injection e' with e1 e2
  subst e1; subst e2
  exact ⟨h3, h4, h5, h6⟩
/-- the items under one name -/
theorem Hold.name {M : Nat → Prop} {row : Option Nat} {w0 w : World} {L : List Hp} (h : Hold M row w0 w L) : ∃ KL, KL = L ∧ Hold M row w0 w KL := ⟨L, rfl, h⟩
end Go.Proofs.YtljmclbedpceoaaDoor

namespace Go.Proofs.YtljmclbedpceoaaDoor
open Go.RowKit
set_option linter.unusedVariables false
set_option linter.unusedSimpArgs false

end Go.Proofs.YtljmclbedpceoaaDoor

namespace Go.Proofs.YtljmclbedpceoaaDoor
open Go.RowKit
set_option linter.unusedVariables false
set_option linter.unusedSimpArgs false

end Go.Proofs.YtljmclbedpceoaaDoor

namespace Go.Proofs.YtljmclbedpceoaaDoor
open Go.RowKit
set_option linter.unusedVariables false
set_option linter.unusedSimpArgs false

theorem okR_fits {cs : List Col} {nx : Int} : ∀ {lst : Int} {rs : List Row}, okR cs nx lst rs = true → ∀ r ∈ rs, fitsT cs r.2 = 0
  | _, [], _, r, hr => nomatch hr
  | lst, x :: rs, h, r, hr => by
    rw [okR] at h
    simp only [Bool.and_eq_true, decide_eq_true_eq] at h
    rcases List.mem_cons.1 hr with rfl | hr
    · exact h.1.2
    · exact okR_fits h.2 r hr
theorem fitsT_len {cs : List Col} {vs : List Vl} (h : fitsT cs vs = 0) : vs.length = cs.length := by
  unfold fitsT at h
  split at h
  · assumption
  · omega
end Go.Proofs.YtljmclbedpceoaaDoor

namespace Go.Proofs.YtljmclbedpceoaaDoor
open Go.RowKit
set_option linter.unusedVariables false
set_option linter.unusedSimpArgs false

/-- A table drawn: a valid one of the schema. -/
def DrawnTab (w : World) (T : Nat) (M : Nat → Prop) (nm : ByteArray) (cs : List Col) (N : Nat) (e : Ending) (w' : World) : Prop :=
  ∃ (v : Value) (nx : Int) (rs : List Row), e = .returned v ∧ TbAt w' M v ⟨nm, cs, nx, rs⟩ ∧ tabB nm cs nx rs = true ∧ rs.length ≤ N ∧ Tp w' T ∧ w.grownBy w' (some T)
theorem mut_tp {M : Nat → Prop} {L : List Hp} {T i : Nat} (hi : L[i]? = some (.tp T)) : ∀ b, Mut (Mut M L) [.tp T] b → Mut M L b := fun b hb => by
  rcases hb with hb | ⟨k, hk, hf⟩
  · exact hb
  · simp only [List.mem_singleton] at hk
    subst hk
    exact .inr ⟨_, List.mem_of_getElem? hi, hf⟩
theorem findFrom_none {α : Type} {p : α → Bool} : ∀ (l : List α) (k : Nat), (∀ (i : Nat) (x : α), l[i]? = some x → p x = false) → findFrom p k l = -1
  | [], _, _ => rfl
  | x :: l, k, h => by
    rw [findFrom, if_neg (by rw [h 0 x rfl]; simp)]
    exact findFrom_none l (k + 1) fun i y hy => h (i + 1) y (by simpa using hy)
/-- what the first loop knows of the key -/
def KeyUp (cs : List Col) (k : Nat) (q : Int) : Prop := (q = -1 ∧ ∀ i x, i < k → cs[i]? = some x → x.key = false) ∨ (0 ≤ q ∧ q = findB Col.key cs)
theorem keyUp_end {cs : List Col} {q : Int} (h : KeyUp cs cs.length q) : q = findB Col.key cs := by
  rcases h with ⟨rfl, h⟩ | ⟨_, h⟩
  · exact (findFrom_none cs 0 fun i x hx => h i x (List.getElem?_eq_some_iff.1 hx).1 hx).symm
  · exact h
theorem keyUp_no {cs : List Col} {k : Nat} {q : Int} {x : Col} (h : KeyUp cs k q) (hx : cs[k]? = some x) (hk : x.key = false) : KeyUp cs (k + 1) q := by
  rcases h with ⟨rfl, h⟩ | h
  · refine .inl ⟨rfl, fun i y hi hy => ?_⟩
    rcases Nat.lt_or_ge i k with h' | h'
    · exact h i y h' hy
    · obtain rfl : i = k := by omega
      rw [hx] at hy
      injection hy with hy
      rw [← hy]; exact hk
  · exact .inr h
theorem keyUp_yes {cs : List Col} {k : Nat} {x : Col} (ho : KeyOne cs) (hx : cs[k]? = some x) (hk : x.key = true) : KeyUp cs (k + 1) (k : Int) := .inr ⟨by omega, (ho k x hx hk).symm⟩
/-- what is known of the rows -/
structure RowsOk (cs : List Col) (nx : Int) (rs : List Rw) : Prop where
  ok : okR cs nx 0 (rs.map Rw.row) = true
  dup : dupB cs (rs.map Rw.row) = false
  rok : ∀ r ∈ rs, r.ok
/-- is the new row's key new so far? -/
def Fresh (q : Int) (rs : List Rw) (vr : List Vl) (fr : Bool) : Prop := fr = true → q < 0 ∨ ∀ x ∈ rs, x.vs[q.toNat]? ≠ vr[q.toNat]?
theorem fresh_neg {q : Int} {rs : List Rw} {vr : List Vl} {fr : Bool} (h : q < 0) : Fresh q rs vr fr := fun _ => .inl h
theorem fresh_false {q : Int} {rs : List Rw} {vr : List Vl} : Fresh q rs vr false := fun h => nomatch h
theorem fresh_step {q : Nat} {rs : List Rw} {vr : List Vl} {j : Nat} {x : Rw} {vx vy : Vl} {fr : Bool} (hx : rs[j]? = some x) (h1 : x.vs[q]? = some vx) (h2 : vr[q]? = some vy) (h : Fresh q (rs.take j) vr true) (hf : fr = decide (vx ≠ vy)) : Fresh q (rs.take (j + 1)) vr fr := by
  intro hfr
  rw [hfr] at hf
  have hne : vx ≠ vy := of_decide_eq_true hf.symm
  refine .inr fun y hy => ?_
  rw [List.take_add_one, hx] at hy
  rcases List.mem_append.1 hy with hy | hy
  · exact (h rfl).resolve_left (by omega) y hy
  · simp at hy
    subst hy
    simp only [Int.toNat_natCast]
    rw [h1, h2]
    intro e
    injection e with e
    exact hne e
theorem rows_new {cs : List Col} {nx nx' : Int} {rs : List Rw} {x : Rw} (h : RowsOk cs nx rs) (hid : x.id = nx) (h1 : 0 < nx) (h2 : nx < nx') (hf : fitsT cs x.vs = 0) (hok : x.ok) (hfr : findB Col.key cs < 0 ∨ ∀ y ∈ rs, y.vs[(findB Col.key cs).toNat]? ≠ x.vs[(findB Col.key cs).toNat]?) : RowsOk cs nx' (rs ++ [x]) := by
  refine ⟨?_, ?_, fun y hy => ?_⟩
  · rw [List.map_append]
    show okR cs nx' 0 (rs.map Rw.row ++ [(x.id, x.vs)]) = true
    rw [hid]
    exact okR_snoc hf h2 h1 h.ok
  · rw [List.map_append]
    refine dupB_snoc (id := x.id) (vs := x.vs) h.dup (hfr.imp (fun h => h) fun h y hy => ?_)
    obtain ⟨z, hz, rfl⟩ := List.mem_map.1 hy
    exact .inr (h z hz)
  · rcases List.mem_append.1 hy with hy | hy
    · exact h.rok y hy
    · simp at hy; subst hy; exact hok
theorem rows_up {cs : List Col} {nx nx' : Int} {rs : List Rw} (h : RowsOk cs nx rs) (h2 : nx ≤ nx') : RowsOk cs nx' rs := ⟨okR_mono h2 h.ok, h.dup, h.rok⟩
set_option maxHeartbeats 4000000 in
set_option maxRecDepth 100000 in
theorem tof_any (M : Nat → Prop) (T : Nat) (w : World) (hM : ∀ b, M b → b < w.heap.size) (ht : Tp w T) (hMT : ∀ b, M b → T ≤ b) (nm : ByteArray) (A : Option Addr) (n c : Nat) (cs : List Col) (N : Nat) (hD : Ro w (Mut M [.tp T]) (ColsIn A n cs)) (hW : Ro w (Mut M [.tp T]) Wds) (hT : 1 < T)
    (hn : n ≤ 1000) (hnc : n ≤ c) (hc : c ≤ 9223372036854775807) (hok : ∀ x ∈ cs, ColOk x) (hsch : schemaB nm cs = true) (hkey : KeyOne cs) (hN : N ≤ 50) : Calls Tryd.prog 18 #[.pointer (some ⟨T, 0, none⟩), .agg #[.string nm, .slice A n c], .int .i64 N] w fun e w' => DrawnTab w T M nm cs N e w' := by
  have HL := hid (cols_n hD.now)
  have HOKC := hid hok
  have HKEY := hid hkey
  have HSCH := hid hsch
  clear hok hkey hsch
  have K0 := ((((Hold.startT M w T hM ht hMT).add hD).add (hW.less (mut_none rfl))).alloc_cst #[.string nm, .slice A n c] 37).alloc #[.string ⟨#[]⟩, .slice none 0 0, .int .i64 0, .slice none 0 0] 40
  rw [World.size_alloc] at K0
  clear hD hW
  go_enter Tryd.func18, Tryd.ntmps18
  go_wp2_with fail
  obtain ⟨gs, hgs⟩ : ∃ gs, gs = w.heap.size := ⟨_, rfl⟩
  obtain ⟨g6, hg6⟩ : ∃ g6, g6 = gs + 1 := ⟨_, rfl⟩
  rw [← hgs, ← hg6] at K0 ⊢
  generalize (w.alloc _).alloc _ = w1 at K0 ⊢
  have HGS := hid hgs
  have HG6 := hid hg6
  clear hgs hg6
  obtain ⟨H, hH⟩ : ∃ H, H = w1.drew.heap.size := ⟨_, rfl⟩
  have HH := hid hH
  clear hH
  refine wp_region_any (by kernel_rfl) ?_
  refine wpAny_hold 6 90 ([.blk g6 40 #[.string ⟨#[]⟩, .slice none 0 0, .int .i64 0, .slice none 0 0], .cst gs 37 #[.string nm, .slice A n c], .ro Wds, .ro (ColsIn A n cs), .tp T]) (spL [(18, fun u _ => NatB 3 u), (7, NewSlot (Mut M ([.blk g6 40 #[.string ⟨#[]⟩, .slice none 0 0, .int .i64 0, .slice none 0 0], .cst gs 37 #[.string nm, .slice A n c], .ro Wds, .ro (ColsIn A n cs), .tp T])) H 40 #[.string ⟨#[]⟩, .slice none 0 0, .int .i64 0, .slice none 0 0])]) (by kernel_rfl) (by kernel_rfl) (by kernel_rfl) rfl ?_ (K0.drew) ?_
  · exact stays_cons (fun _ _ _ _ h => h) (stays_cons newSlot_mono (stays_nil _))
  simp only [List.take_succ_cons, List.take_zero, List.drop_succ_cons, List.drop_zero, Act.put, List.getElem_toArray, List.getElem_cons_zero, List.getElem_cons_succ, List.setIfInBounds_toArray, List.set_cons_succ, List.set_cons_zero]
  refine dw_val rfl rfl rfl ?_; apply Exists.intro; refine ⟨fun wv HC => ?_, ?_⟩
  · have FC := HC.facts; simp only [factsL, cellsF, Nat.reduceAdd, List.toList_toArray, and_true, true_and] at FC; go_simp <;> rfl
  simp only [Act.put, List.setIfInBounds_toArray, List.set_cons_succ, List.set_cons_zero]
  refine dw_val rfl rfl rfl ?_; apply Exists.intro; refine ⟨fun wv HC => ?_, ?_⟩
  ·  go_simp <;> rfl
  simp only [Act.put, List.setIfInBounds_toArray, List.set_cons_succ, List.set_cons_zero]
  refine dw_next 3 4 rfl 18 rfl rfl rfl rfl (fun wv => ?_) ?_
  · go_simp <;> rfl
  rintro r hr
  simp only [Act.put, List.setIfInBounds_toArray, List.set_cons_succ, List.set_cons_zero]
  have s1 : IntKind.i64.wrap (1 + (r : Int)) = 1 + (r : Int) := by rw [IntKind.wrap_i64]; omega
  refine dw_val rfl rfl rfl ?_; apply Exists.intro; refine ⟨fun wv HC => ?_, ?_⟩
  ·  go_simp <;> rfl
  simp only [Act.put, List.setIfInBounds_toArray, List.set_cons_succ, List.set_cons_zero]
  refine dw_val rfl rfl rfl ?_; apply Exists.intro; refine ⟨fun wv HC => ?_, ?_⟩
  ·  go_simp <;> rfl
  simp only [Act.put, List.setIfInBounds_toArray, List.set_cons_succ, List.set_cons_zero]
  refine dw_new #[.string ⟨#[]⟩, .slice none 0 0, .int .i64 0, .slice none 0 0] 40 7 (NewSlot (Mut M ([.blk g6 40 #[.string ⟨#[]⟩, .slice none 0 0, .int .i64 0, .slice none 0 0], .cst gs 37 #[.string nm, .slice A n c], .ro Wds, .ro (ColsIn A n cs), .tp T])) H 40 #[.string ⟨#[]⟩, .slice none 0 0, .int .i64 0, .slice none 0 0]) (fun g => .pointer (some ⟨g, 0, none⟩)) rfl rfl rfl rfl (fun wv => ?_) (fun wv HC hrm hD hro => ?_) ?_
  · go_simp <;> rfl
  · exact ⟨_, rfl, by have := hrm.1; rw [HH.out]; exact this, hro _ HC.mutLt⟩
  rintro g7 wg HCg hsl
  simp only [Act.put, List.setIfInBounds_toArray, List.set_cons_succ, List.set_cons_zero]
  clear hsl HCg s1
  refine rel_nil ?_
  rintro wx1 HX
  rintro _hrm HGW
  have hns : NewSlot (Mut M ([.blk g6 40 #[.string ⟨#[]⟩, .slice none 0 0, .int .i64 0, .slice none 0 0], .cst gs 37 #[.string nm, .slice A n c], .ro Wds, .ro (ColsIn A n cs), .tp T])) H 40 #[.string ⟨#[]⟩, .slice none 0 0, .int .i64 0, .slice none 0 0] (.pointer (some ⟨g7, 0, none⟩)) wx1 := (GW_on (d := 7) rfl).1 (HGW 5 _ rfl (by omega))
  clear HGW
  obtain ⟨gq, hgq, hgH, hgB⟩ := hns
  obtain rfl : g7 = gq := by injection hgq with hgq; injection hgq with hgq; injection hgq
  clear hgq
  rw [HH.out] at hgH
  have HB := Hold.addFreshBlk K0.drew HX _hrm hgH hgB.now
  clear hgB hgH HX _hrm K0 HH
  have FB := HB.facts
  simp only [factsL, cellsF, Nat.reduceAdd, List.toList_toArray, and_true, true_and] at FB
  have K1 := (((HB.store 0 rfl 0 (.string nm)).store 0 rfl 1 (.slice A n c)).store 0 rfl 2 (.int .i64 (1 + (r : Int)))).store 0 rfl 3 (.slice none 0 0)
  have F1 := K1.facts
  simp only [World.size_alloc, World.size_drew, factsL, cellsF, Nat.reduceAdd, List.toList_toArray, List.set_cons_zero, List.set_cons_succ, List.setIfInBounds_toArray, and_true, true_and] at F1
  simp only [List.set_cons_zero, List.set_cons_succ, List.setIfInBounds_toArray] at K1
  clear HB
  go_wp2_with fail
  generalize (((wx1.setCell _ _).setCell _ _).setCell _ _).setCell _ _ = w2 at K1 ⊢
  clear F1 FB
  go_loopw [8, 24] (fun qv iv wr => ∃ (k : Nat) (q : Int), k ≤ n ∧ iv = .int .i64 k ∧ qv = .int .i64 q ∧ Hid (KeyUp cs k q) ∧ Hold M (some T) w wr ([.blk g7 40 #[.string nm, .slice A n c, .int .i64 (1 + (r : Int)), .slice none 0 0], .blk g6 40 #[.string ⟨#[]⟩, .slice none 0 0, .int .i64 0, .slice none 0 0], .cst gs 37 #[.string nm, .slice A n c], .ro Wds, .ro (ColsIn A n cs), .tp T])) (fun _ iv _ => n - (intOf iv).toNat)
  case atStart => exact ⟨0, -1, by omega, rfl, rfl, hid (.inl ⟨rfl, fun i x hi => absurd hi (by omega)⟩), K1⟩
  case round =>
    clear K1
    obtain ⟨k, q, hk, rfl, rfl, HQ, H⟩ := hrel
    by_cases hlt : k < n
    · have hd : decide ((k : Int) < (n : Int)) = true := by simp; omega
      have k0 : (0 : Int) ≤ (k : Int) := by omega
      have k1 : (k : Int) < (n : Int) := by omega
      obtain ⟨⟨xn, xt, xnn, xk⟩, hx⟩ := get_col HL.out hlt
      obtain ⟨g, o, rfl, hgb, c0, c1, c2, c3⟩ := (RdC.of_sl (H.ro 4 rfl).now).at_ hx
      dsimp only at c0 c1 c2 c3
      have HX := hid hx
      clear hx
      have K2 := H.alloc_cst #[.string xn, .int .i64 xt, .bool xnn, .bool xk] 70
      clear H
      have F2 := K2.facts
      simp only [World.size_alloc, World.size_drew, factsL, cellsF, Nat.reduceAdd, List.toList_toArray, List.set_cons_zero, List.set_cons_succ, List.setIfInBounds_toArray, and_true, true_and] at F2
      cases xk
      · have HN := hid (keyUp_no HQ.out HX.out rfl)
        go_wp2_with fail
        have K3 := K2.drop (List.sublist_cons_self _ _)
        go_roundw
        case rel => exact ⟨k + 1, q, by omega, by go_num, by first | rfl | trivial, HN, K3⟩
        case measure => simp [intOf]; omega
      · have HN := hid (keyUp_yes HKEY.out HX.out rfl)
        go_wp2_with fail
        have K3 := K2.drop (List.sublist_cons_self _ _)
        go_roundw
        case rel => exact ⟨k + 1, k, by omega, by go_num, by first | rfl | trivial, HN, K3⟩
        case measure => simp [intOf]; omega
    · obtain rfl : k = n := by omega
      have hd : decide ((k : Int) < (k : Int)) = false := by simp
      clear hlt
      have HKQ := hid (show q = findB Col.key cs from keyUp_end (by have h := HQ.out; rwa [← HL.out] at h))
      clear HQ
      go_wp2_with fail
      refine (next_any T ((N : Int) + 1) _ (H.tp_ 5 rfl) (by omega) (by omega)).mono ?_
      rintro e w3 ⟨i0, rfl, i00, i01, t3, g3⟩
      obtain ⟨i0, rfl⟩ := Int.eq_ofNat_of_zero_le i00
      have K2 := (((Hold.callT H 5 rfl g3 t3).add (ro_vals_nil _ _)).nil 61 2)
      clear H g3 t3
      have hi0 : i0 ≤ N := by omega
      clear i00 i01
      go_wp2_with fail
      clear hd
      go_loopw [11] (fun iv wr => ∃ (i k2 cap : Nat) (nx : Int) (O : Option Addr) (rs : List Rw), iv = .int .i64 i ∧ i + k2 ≤ N ∧ 1 ≤ nx ∧ nx ≤ 3 + 2 * ((N : Int) - i) ∧ Hid (RowsOk cs nx rs) ∧ Hold M (some T) w wr ([.own 61 2 (.slice O k2 cap) k2 (rwCells rs), .ro (ValsIn rs), .blk g7 40 #[.string nm, .slice A k c, .int .i64 nx, .slice O k2 cap], .blk g6 40 #[.string ⟨#[]⟩, .slice none 0 0, .int .i64 0, .slice none 0 0], .cst gs 37 #[.string nm, .slice A k c], .ro Wds, .ro (ColsIn A k cs), .tp T])) (fun iv _ => (intOf iv).toNat)
      case atStart => exact ⟨i0, 0, 0, 1 + (r : Int), none, [], rfl, by omega, by omega, by omega, hid ⟨rfl, by rcases Int.lt_or_le (findB Col.key cs) 0 with h | h <;> rfl, fun r hr => nomatch hr⟩, K2⟩
      case round =>
        clear K2 hi0
        obtain ⟨i, k2, cap, nx, O, rs, rfl, hik, hnx, hnx2, HR, H⟩ := hrel
        by_cases hlt : 0 < i
        · obtain ⟨i, rfl⟩ : ∃ i', i = i' + 1 := ⟨i - 1, by omega⟩
          have hd : decide (((i + 1 : Nat) : Int) > 0) = true := by rw [decide_eq_true_iff]; omega
          clear hlt
          have F2 := H.facts
          simp only [World.size_alloc, World.size_drew, factsL, cellsF, Nat.reduceAdd, List.toList_toArray, List.set_cons_zero, List.set_cons_succ, List.setIfInBounds_toArray, and_true, true_and] at F2
          go_wp2_with fail
          refine (trow_any (Mut M _) T _ H.mutLt (H.tp_ 7 rfl) (H.get 7 rfl).2 nm A k c cs ((H.ro 6 rfl).less (mut_tp (i := 7) rfl)) ((H.ro 5 rfl).less (mut_tp (i := 7) rfl)) hT hn HOKC.out).mono ?_
          rintro e w4 ⟨Ar, nr, cr, vr, rfl, hnr, hvr, hfr, ho, t4, g4⟩
          have K3a := Hold.addOwn H (Hold.callT H 7 rfl g4 t4) (RM.grown g4 (.inr ⟨_, List.mem_of_getElem? (i := 7) rfl, rfl⟩)) ho
          obtain ⟨hcr1, hcr2, _⟩ := own_caps (K3a.get 0 rfl)
          have K3 := K3a.sealRow 0 rfl
          simp only [List.set_cons_zero] at K3
          have HNR := hid hnr
          have HFR := hid hfr
          have HVR := hid hvr
          clear K3a H ho t4 g4 hnr hfr hvr F2
          have F3 := K3.facts
          simp only [World.size_alloc, World.size_drew, factsL, cellsF, Nat.reduceAdd, List.toList_toArray, List.set_cons_zero, List.set_cons_succ, List.setIfInBounds_toArray, and_true, true_and] at F3
          go_wp2_with fail
          clear F3
          go_loopw [13, 47] (fun fv jv wr => ∃ (j : Nat) (fr : Bool), j ≤ k2 ∧ jv = .int .i64 j ∧ fv = .bool fr ∧ Hid (Fresh q (rs.take j) vr fr) ∧ Hold M (some T) w wr ([.ro (VlsIn Ar nr vr), .own 61 2 (.slice O k2 cap) k2 (rwCells rs), .ro (ValsIn rs), .blk g7 40 #[.string nm, .slice A k c, .int .i64 nx, .slice O k2 cap], .blk g6 40 #[.string ⟨#[]⟩, .slice none 0 0, .int .i64 0, .slice none 0 0], .cst gs 37 #[.string nm, .slice A k c], .ro Wds, .ro (ColsIn A k cs), .tp T])) (fun _ jv _ => k2 - (intOf jv).toNat)
          case atStart => exact ⟨0, true, by omega, rfl, rfl, hid (fun _ => .inr fun x hx => (by simp at hx)), K3⟩
          case round =>
            clear K3 hd
            obtain ⟨j, fr, hj, rfl, rfl, HFS, H⟩ := hrel
            have hRW : RwsIn O k2 rs wr := ⟨Rd.of_own (H.get 1 rfl), (H.ro 2 rfl).now⟩
            have HLR := hid hRW.len
            by_cases hlt : j < k2
            · have hd : decide ((j : Int) < (k2 : Int)) = true := by simp; omega
              have j0 : (0 : Int) ≤ (j : Int) := by omega
              have j1 : (j : Int) < (k2 : Int) := by omega
              obtain ⟨x, hx⟩ := get_of HLR.out hlt
              obtain ⟨b, o, rfl, hb, c0, c1, hxv⟩ := hRW.at_ hx
              have HX := hid hx
              have HXV := hid (show x.vs.length = x.n from hxv.len)
              have HXF := hid (show fitsT cs x.vs = 0 from okR_fits HR.out.ok _ (List.mem_map_of_mem (f := Rw.row) (List.mem_of_getElem? hx)))
              have hxr : Ro wr _ (VlsIn x.A x.n x.vs) := (H.ro 2 rfl).imp fun w2 h2 => h2 x (List.mem_of_getElem? hx)
              clear hx hxv hRW
              have K4 := (H.add hxr).alloc_cst #[.int .i64 x.id, .slice x.A x.n x.c] 61
              obtain ⟨gx, hgx⟩ : ∃ gx, gx = wr.heap.size := ⟨_, rfl⟩
              rw [← hgx] at K4
              clear H hxr
              obtain ⟨xid, xA, xn, xc, xvs⟩ := x
              dsimp only at *
              go_wp2_with fail
              rw [← hgx]
              have HGX := hid hgx
              clear hgx c0 c1
              generalize wr.alloc _ = w5 at K4 ⊢
              obtain ⟨KL, hKL, K5⟩ := K4.name
              clear K4
              cases fr
              · have HKL := hid hKL
                clear hKL
                refine wp_region_any (by kernel_rfl) ?_
                refine wpAny_hold 18 90 (KL) (spL []) (by kernel_rfl) (by kernel_rfl) (by kernel_rfl) rfl ?_ (K5.drew) ?_
                · exact stays_nil _
                simp only [List.take_succ_cons, List.take_zero, List.drop_succ_cons, List.drop_zero, Act.put, List.getElem_toArray, List.getElem_cons_zero, List.getElem_cons_succ, List.setIfInBounds_toArray, List.set_cons_succ, List.set_cons_zero]
                refine dw_val rfl rfl rfl ?_; apply Exists.intro; refine ⟨fun wv HC => ?_, ?_⟩
                ·  go_simp <;> rfl
                simp only [Act.put, List.setIfInBounds_toArray, List.set_cons_succ, List.set_cons_zero]
                refine dw_val rfl rfl rfl ?_; apply Exists.intro; refine ⟨fun wv HC => ?_, ?_⟩
                ·  go_simp <;> rfl
                simp only [Act.put, List.setIfInBounds_toArray, List.set_cons_succ, List.set_cons_zero]
                refine dw_skip rfl rfl rfl ?_
                simp only [Act.put, List.setIfInBounds_toArray, List.set_cons_succ, List.set_cons_zero]
                refine dw_skip rfl rfl rfl ?_
                simp only [Act.put, List.setIfInBounds_toArray, List.set_cons_succ, List.set_cons_zero]
                refine dw_skip rfl rfl rfl ?_
                simp only [Act.put, List.setIfInBounds_toArray, List.set_cons_succ, List.set_cons_zero]
                refine dw_skip rfl rfl rfl ?_
                simp only [Act.put, List.setIfInBounds_toArray, List.set_cons_succ, List.set_cons_zero]
                refine dw_skip rfl rfl rfl ?_
                simp only [Act.put, List.setIfInBounds_toArray, List.set_cons_succ, List.set_cons_zero]
                refine dw_skip rfl rfl rfl ?_
                simp only [Act.put, List.setIfInBounds_toArray, List.set_cons_succ, List.set_cons_zero]
                refine dw_skip rfl rfl rfl ?_
                simp only [Act.put, List.setIfInBounds_toArray, List.set_cons_succ, List.set_cons_zero]
                refine dw_skip rfl rfl rfl ?_
                simp only [Act.put, List.setIfInBounds_toArray, List.set_cons_succ, List.set_cons_zero]
                refine dw_skip rfl rfl rfl ?_
                simp only [Act.put, List.setIfInBounds_toArray, List.set_cons_succ, List.set_cons_zero]
                refine dw_skip rfl rfl rfl ?_
                simp only [Act.put, List.setIfInBounds_toArray, List.set_cons_succ, List.set_cons_zero]
                refine dw_skip rfl rfl rfl ?_
                simp only [Act.put, List.setIfInBounds_toArray, List.set_cons_succ, List.set_cons_zero]
                refine dw_skip rfl rfl rfl ?_
                simp only [Act.put, List.setIfInBounds_toArray, List.set_cons_succ, List.set_cons_zero]
                refine dw_skip rfl rfl rfl ?_
                simp only [Act.put, List.setIfInBounds_toArray, List.set_cons_succ, List.set_cons_zero]
                refine dw_skip rfl rfl rfl ?_
                simp only [Act.put, List.setIfInBounds_toArray, List.set_cons_succ, List.set_cons_zero]
                refine dw_val rfl rfl rfl ?_; apply Exists.intro; refine ⟨fun wv HC => ?_, ?_⟩
                ·  go_simp <;> rfl
                simp only [Act.put, List.setIfInBounds_toArray, List.set_cons_succ, List.set_cons_zero]
                refine dw_val rfl rfl rfl ?_; apply Exists.intro; refine ⟨fun wv HC => ?_, ?_⟩
                ·  go_simp <;> rfl
                simp only [Act.put, List.setIfInBounds_toArray, List.set_cons_succ, List.set_cons_zero]
                refine rel_nil ?_
                rintro wx4 HX4
                rintro _hrm _HG
                rw [HKL.out] at HX4
                clear _hrm _HG
                have HQ := hid ((fresh_false : Fresh q (rs.take (j + 1)) vr false))
                have K6 := HX4.drop (List.Sublist.cons _ (List.sublist_cons_self _ _))
                have F5 := K6.facts
                simp only [World.size_alloc, World.size_drew, factsL, cellsF, Nat.reduceAdd, List.toList_toArray, List.set_cons_zero, List.set_cons_succ, List.setIfInBounds_toArray, and_true, true_and] at F5
                go_wp2_with fail
                go_roundw
                case rel => exact ⟨j + 1, _, by omega, by go_num, by first | rfl | trivial | simp, HQ, K6⟩
                case measure => simp [intOf]; omega
              · by_cases hq : q < 0
                · have hq1 : decide (q < 0) = true := by simpa using hq
                  have HKL := hid hKL
                  have HQN := hid hq
                  clear hKL hq
                  refine wp_region_any (by kernel_rfl) ?_
                  refine wpAny_hold 18 90 (KL) (spL []) (by kernel_rfl) (by kernel_rfl) (by kernel_rfl) rfl ?_ (K5.drew) ?_
                  · exact stays_nil _
                  simp only [List.take_succ_cons, List.take_zero, List.drop_succ_cons, List.drop_zero, Act.put, List.getElem_toArray, List.getElem_cons_zero, List.getElem_cons_succ, List.setIfInBounds_toArray, List.set_cons_succ, List.set_cons_zero]
                  refine dw_val rfl rfl rfl ?_; apply Exists.intro; refine ⟨fun wv HC => ?_, ?_⟩
                  ·  go_simp <;> rfl
                  simp only [Act.put, List.setIfInBounds_toArray, List.set_cons_succ, List.set_cons_zero]
                  refine dw_val rfl rfl rfl ?_; apply Exists.intro; refine ⟨fun wv HC => ?_, ?_⟩
                  ·  go_simp <;> rfl
                  simp only [Act.put, List.setIfInBounds_toArray, List.set_cons_succ, List.set_cons_zero]
                  refine dw_val rfl rfl rfl ?_; apply Exists.intro; refine ⟨fun wv HC => ?_, ?_⟩
                  ·  go_simp <;> rfl
                  simp only [Act.put, List.setIfInBounds_toArray, List.set_cons_succ, List.set_cons_zero]
                  refine dw_val rfl rfl rfl ?_; apply Exists.intro; refine ⟨fun wv HC => ?_, ?_⟩
                  ·  go_simp <;> rfl
                  simp only [Act.put, List.setIfInBounds_toArray, List.set_cons_succ, List.set_cons_zero]
                  refine dw_val rfl rfl rfl ?_; apply Exists.intro; refine ⟨fun wv HC => ?_, ?_⟩
                  ·  go_simp <;> rfl
                  simp only [Act.put, List.setIfInBounds_toArray, List.set_cons_succ, List.set_cons_zero]
                  refine dw_skip rfl rfl rfl ?_
                  simp only [Act.put, List.setIfInBounds_toArray, List.set_cons_succ, List.set_cons_zero]
                  refine dw_skip rfl rfl rfl ?_
                  simp only [Act.put, List.setIfInBounds_toArray, List.set_cons_succ, List.set_cons_zero]
                  refine dw_skip rfl rfl rfl ?_
                  simp only [Act.put, List.setIfInBounds_toArray, List.set_cons_succ, List.set_cons_zero]
                  refine dw_skip rfl rfl rfl ?_
                  simp only [Act.put, List.setIfInBounds_toArray, List.set_cons_succ, List.set_cons_zero]
                  refine dw_skip rfl rfl rfl ?_
                  simp only [Act.put, List.setIfInBounds_toArray, List.set_cons_succ, List.set_cons_zero]
                  refine dw_skip rfl rfl rfl ?_
                  simp only [Act.put, List.setIfInBounds_toArray, List.set_cons_succ, List.set_cons_zero]
                  refine dw_skip rfl rfl rfl ?_
                  simp only [Act.put, List.setIfInBounds_toArray, List.set_cons_succ, List.set_cons_zero]
                  refine dw_skip rfl rfl rfl ?_
                  simp only [Act.put, List.setIfInBounds_toArray, List.set_cons_succ, List.set_cons_zero]
                  refine dw_skip rfl rfl rfl ?_
                  simp only [Act.put, List.setIfInBounds_toArray, List.set_cons_succ, List.set_cons_zero]
                  refine dw_skip rfl rfl rfl ?_
                  simp only [Act.put, List.setIfInBounds_toArray, List.set_cons_succ, List.set_cons_zero]
                  refine dw_val rfl rfl rfl ?_; apply Exists.intro; refine ⟨fun wv HC => ?_, ?_⟩
                  ·  go_simp <;> rfl
                  simp only [Act.put, List.setIfInBounds_toArray, List.set_cons_succ, List.set_cons_zero]
                  refine dw_val rfl rfl rfl ?_; apply Exists.intro; refine ⟨fun wv HC => ?_, ?_⟩
                  ·  go_simp <;> rfl
                  simp only [Act.put, List.setIfInBounds_toArray, List.set_cons_succ, List.set_cons_zero]
                  refine dw_val rfl rfl rfl ?_; apply Exists.intro; refine ⟨fun wv HC => ?_, ?_⟩
                  ·  go_simp <;> rfl
                  simp only [Act.put, List.setIfInBounds_toArray, List.set_cons_succ, List.set_cons_zero]
                  refine rel_nil ?_
                  rintro wx4 HX4
                  rintro _hrm _HG
                  rw [HKL.out] at HX4
                  clear _hrm _HG
                  have HQ := hid ((fresh_neg HQN.out : Fresh q (rs.take (j + 1)) vr true))
                  have K6 := HX4.drop (List.Sublist.cons _ (List.sublist_cons_self _ _))
                  have F5 := K6.facts
                  simp only [World.size_alloc, World.size_drew, factsL, cellsF, Nat.reduceAdd, List.toList_toArray, List.set_cons_zero, List.set_cons_succ, List.setIfInBounds_toArray, and_true, true_and] at F5
                  go_wp2_with fail
                  go_roundw
                  case rel => exact ⟨j + 1, _, by omega, by go_num, by first | rfl | trivial | simp, HQ, K6⟩
                  case measure => simp [intOf]; omega
                · obtain ⟨κ, rfl⟩ := Int.eq_ofNat_of_zero_le (show 0 ≤ q by omega)
                  have hq1 : decide ((κ : Int) < 0) = false := by rw [decide_eq_false_iff_not]; omega
                  clear hq
                  have hκ : κ < cs.length := key_lt HKQ.out
                  have q0 : (0 : Int) ≤ (κ : Int) := by omega
                  have q1 : (κ : Int) < (xn : Int) := by have h := fitsT_len HXF.out; have h2 := HXV.out; omega
                  have q2 : (κ : Int) < (nr : Int) := by have h := fitsAll_len HFR.out; have h2 := HNR.out; omega
                  clear hκ
                  obtain ⟨vx, hvx⟩ := get_of HXV.out (show κ < xn by omega)
                  obtain ⟨vy, hvy⟩ := get_of HNR.out.symm (show κ < nr by omega)
                  have K6 := K5
                  rw [hKL] at K6
                  obtain ⟨bx, ox, rfl, rx⟩ := (K6.ro 1 rfl).vlsAt hvx
                  obtain ⟨by_, oy, rfl, ry⟩ := (K6.ro 2 rfl).vlsAt hvy
                  have K7 := (K6.add rx).add (ry.less (mut_none rfl))
                  clear K6 K5 hKL rx ry
                  obtain ⟨KM, hKM, K5⟩ := K7.name
                  clear K7
                  have HF : Hid (∀ wv, Hold M (some T) w wv KM → (wv.cell? ⟨gx, 1, none⟩ = some (.slice (some ⟨bx, ox, none⟩) xn xc) ∧ gx < wv.heap.size) ∧ (bx < wv.heap.size ∧ wv.cell? ⟨bx, ox + κ * 3, none⟩ = some (.int .i64 vx.k) ∧ wv.cell? ⟨bx, ox + κ * 3 + 1, none⟩ = some (.int .i64 vx.i) ∧ wv.cell? ⟨bx, ox + κ * 3 + 2, none⟩ = some (.string vx.s)) ∧ by_ < wv.heap.size ∧ wv.cell? ⟨by_, oy + κ * 3, none⟩ = some (.int .i64 vy.k) ∧ wv.cell? ⟨by_, oy + κ * 3 + 1, none⟩ = some (.int .i64 vy.i) ∧ wv.cell? ⟨by_, oy + κ * 3 + 2, none⟩ = some (.string vy.s)) := hid fun wv HC => by
                    rw [hKM] at HC
                    have y1 := HC.cst_ 2 rfl
                    exact ⟨⟨cell_of_row _ _ 1 _ _ _ y1, Blk.lt y1⟩, (HC.ro 1 rfl).now, (HC.ro 0 rfl).now⟩
                  have HKL := hid hKM
                  have HVX := hid hvx
                  have HVY := hid hvy
                  clear hKM hvx hvy
                  refine wp_region_any (by kernel_rfl) ?_
                  refine wpAny_hold 18 90 (KM) (spL []) (by kernel_rfl) (by kernel_rfl) (by kernel_rfl) rfl ?_ (K5.drew) ?_
                  · exact stays_nil _
                  simp only [List.take_succ_cons, List.take_zero, List.drop_succ_cons, List.drop_zero, Act.put, List.getElem_toArray, List.getElem_cons_zero, List.getElem_cons_succ, List.setIfInBounds_toArray, List.set_cons_succ, List.set_cons_zero]
                  refine dw_val rfl rfl rfl ?_; apply Exists.intro; refine ⟨fun wv HC => ?_, ?_⟩
                  · obtain ⟨⟨f0, f1⟩, ⟨f2, f3, f4, f5⟩, f6, f7, f8, f9⟩ := HF.out _ HC; go_simp <;> rfl
                  simp only [Act.put, List.setIfInBounds_toArray, List.set_cons_succ, List.set_cons_zero]
                  refine dw_val rfl rfl rfl ?_; apply Exists.intro; refine ⟨fun wv HC => ?_, ?_⟩
                  · obtain ⟨⟨f0, f1⟩, ⟨f2, f3, f4, f5⟩, f6, f7, f8, f9⟩ := HF.out _ HC; go_simp <;> rfl
                  simp only [Act.put, List.setIfInBounds_toArray, List.set_cons_succ, List.set_cons_zero]
                  refine dw_val rfl rfl rfl ?_; apply Exists.intro; refine ⟨fun wv HC => ?_, ?_⟩
                  · obtain ⟨⟨f0, f1⟩, ⟨f2, f3, f4, f5⟩, f6, f7, f8, f9⟩ := HF.out _ HC; go_simp <;> rfl
                  simp only [Act.put, List.setIfInBounds_toArray, List.set_cons_succ, List.set_cons_zero]
                  refine dw_val rfl rfl rfl ?_; apply Exists.intro; refine ⟨fun wv HC => ?_, ?_⟩
                  · obtain ⟨⟨f0, f1⟩, ⟨f2, f3, f4, f5⟩, f6, f7, f8, f9⟩ := HF.out _ HC; go_simp <;> rfl
                  simp only [Act.put, List.setIfInBounds_toArray, List.set_cons_succ, List.set_cons_zero]
                  refine dw_val rfl rfl rfl ?_; apply Exists.intro; refine ⟨fun wv HC => ?_, ?_⟩
                  · obtain ⟨⟨f0, f1⟩, ⟨f2, f3, f4, f5⟩, f6, f7, f8, f9⟩ := HF.out _ HC; go_simp <;> rfl
                  simp only [Act.put, List.setIfInBounds_toArray, List.set_cons_succ, List.set_cons_zero]
                  refine dw_val rfl rfl rfl ?_; apply Exists.intro; refine ⟨fun wv HC => ?_, ?_⟩
                  · obtain ⟨⟨f0, f1⟩, ⟨f2, f3, f4, f5⟩, f6, f7, f8, f9⟩ := HF.out _ HC; go_simp <;> rfl
                  simp only [Act.put, List.setIfInBounds_toArray, List.set_cons_succ, List.set_cons_zero]
                  refine dw_val rfl rfl rfl ?_; apply Exists.intro; refine ⟨fun wv HC => ?_, ?_⟩
                  · obtain ⟨⟨f0, f1⟩, ⟨f2, f3, f4, f5⟩, f6, f7, f8, f9⟩ := HF.out _ HC; go_simp <;> rfl
                  simp only [Act.put, List.setIfInBounds_toArray, List.set_cons_succ, List.set_cons_zero]
                  refine dw_val rfl rfl rfl ?_; apply Exists.intro; refine ⟨fun wv HC => ?_, ?_⟩
                  · obtain ⟨⟨f0, f1⟩, ⟨f2, f3, f4, f5⟩, f6, f7, f8, f9⟩ := HF.out _ HC; go_simp <;> rfl
                  simp only [Act.put, List.setIfInBounds_toArray, List.set_cons_succ, List.set_cons_zero]
                  refine dw_val rfl rfl rfl ?_; apply Exists.intro; refine ⟨fun wv HC => ?_, ?_⟩
                  · obtain ⟨⟨f0, f1⟩, ⟨f2, f3, f4, f5⟩, f6, f7, f8, f9⟩ := HF.out _ HC; go_simp <;> rfl
                  simp only [Act.put, List.setIfInBounds_toArray, List.set_cons_succ, List.set_cons_zero]
                  refine dw_val rfl rfl rfl ?_; apply Exists.intro; refine ⟨fun wv HC => ?_, ?_⟩
                  · obtain ⟨⟨f0, f1⟩, ⟨f2, f3, f4, f5⟩, f6, f7, f8, f9⟩ := HF.out _ HC; go_simp <;> rfl
                  simp only [Act.put, List.setIfInBounds_toArray, List.set_cons_succ, List.set_cons_zero]
                  refine dw_val rfl rfl rfl ?_; apply Exists.intro; refine ⟨fun wv HC => ?_, ?_⟩
                  · obtain ⟨⟨f0, f1⟩, ⟨f2, f3, f4, f5⟩, f6, f7, f8, f9⟩ := HF.out _ HC; go_simp <;> rfl
                  simp only [Act.put, List.setIfInBounds_toArray, List.set_cons_succ, List.set_cons_zero]
                  refine dw_val rfl rfl rfl ?_; apply Exists.intro; refine ⟨fun wv HC => ?_, ?_⟩
                  · obtain ⟨⟨f0, f1⟩, ⟨f2, f3, f4, f5⟩, f6, f7, f8, f9⟩ := HF.out _ HC; go_simp <;> rfl
                  simp only [Act.put, List.setIfInBounds_toArray, List.set_cons_succ, List.set_cons_zero]
                  refine dw_val rfl rfl rfl ?_; apply Exists.intro; refine ⟨fun wv HC => ?_, ?_⟩
                  · obtain ⟨⟨f0, f1⟩, ⟨f2, f3, f4, f5⟩, f6, f7, f8, f9⟩ := HF.out _ HC; go_simp <;> rfl
                  simp only [Act.put, List.setIfInBounds_toArray, List.set_cons_succ, List.set_cons_zero]
                  refine dw_val rfl rfl rfl ?_; apply Exists.intro; refine ⟨fun wv HC => ?_, ?_⟩
                  · obtain ⟨⟨f0, f1⟩, ⟨f2, f3, f4, f5⟩, f6, f7, f8, f9⟩ := HF.out _ HC; go_simp <;> rfl
                  simp only [Act.put, List.setIfInBounds_toArray, List.set_cons_succ, List.set_cons_zero]
                  refine dw_val rfl rfl rfl ⟨.bool (decide (vx ≠ vy)), fun wv HC => ?_, ?_⟩
                  · by_cases h0 : vx.k = vy.k
                    · have e0 : (vx.k == vy.k) = true := by simp [h0]
                      by_cases h1 : vx.i = vy.i
                      · have e1 : (vx.i == vy.i) = true := by simp [h1]
                        by_cases h2 : vx.s = vy.s
                        · have e2 : (vx.s.toList == vy.s.toList) = true := by simp [h2]
                          have e3 : decide (vx ≠ vy) = false := by rw [decide_eq_false_iff_not]; exact fun h => h (vl_ext h0 h1 h2)
                          rw [e3]
                          clear h0 h1 h2
                          go_simp <;> rfl
                        · have e2 : (vx.s.toList == vy.s.toList) = false := by rw [beq_eq_false_iff_ne]; exact fun h => h2 (bytesEq h)
                          have e3 : decide (vx ≠ vy) = true := by rw [decide_eq_true_iff]; rintro rfl; exact h2 rfl
                          rw [e3]
                          clear h0 h1 h2
                          go_simp <;> rfl
                      · have e1 : (vx.i == vy.i) = false := by simpa using h1
                        have e3 : decide (vx ≠ vy) = true := by rw [decide_eq_true_iff]; rintro rfl; exact h1 rfl
                        rw [e3]
                        clear h0 h1
                        go_simp <;> rfl
                    · have e0 : (vx.k == vy.k) = false := by simpa using h0
                      have e3 : decide (vx ≠ vy) = true := by rw [decide_eq_true_iff]; rintro rfl; exact h0 rfl
                      rw [e3]
                      clear h0
                      go_simp <;> rfl
                  simp only [Act.put, List.setIfInBounds_toArray, List.set_cons_succ, List.set_cons_zero]
                  refine dw_val rfl rfl rfl ?_; apply Exists.intro; refine ⟨fun wv HC => ?_, ?_⟩
                  ·  go_simp <;> rfl
                  simp only [Act.put, List.setIfInBounds_toArray, List.set_cons_succ, List.set_cons_zero]
                  refine dw_val rfl rfl rfl ?_; apply Exists.intro; refine ⟨fun wv HC => ?_, ?_⟩
                  ·  go_simp <;> rfl
                  simp only [Act.put, List.setIfInBounds_toArray, List.set_cons_succ, List.set_cons_zero]
                  refine dw_val rfl rfl rfl ?_; apply Exists.intro; refine ⟨fun wv HC => ?_, ?_⟩
                  ·  go_simp <;> rfl
                  simp only [Act.put, List.setIfInBounds_toArray, List.set_cons_succ, List.set_cons_zero]
                  refine rel_nil ?_
                  rintro wx4 HX4
                  rintro _hrm _HG
                  rw [HKL.out] at HX4
                  clear _hrm _HG
                  have HQ := hid ((fresh_step HX.out (by simpa using HVX.out) HVY.out HFS.out rfl : Fresh (κ : Int) (rs.take (j + 1)) vr (decide (vx ≠ vy))))
                  have K6 := HX4.drop (List.Sublist.cons _ (List.Sublist.cons _ (List.Sublist.cons _ (List.sublist_cons_self _ _))))
                  have F5 := K6.facts
                  simp only [World.size_alloc, World.size_drew, factsL, cellsF, Nat.reduceAdd, List.toList_toArray, List.set_cons_zero, List.set_cons_succ, List.setIfInBounds_toArray, and_true, true_and] at F5
                  go_wp2_with fail
                  go_roundw
                  case rel => exact ⟨j + 1, _, by omega, by go_num, by first | rfl | trivial | simp, HQ, K6⟩
                  case measure => simp [intOf]; omega
            · obtain rfl : j = k2 := by omega
              have hd : decide ((j : Int) < (j : Int)) = false := by simp
              clear hlt
              have HFE := hid (show Fresh q rs vr fr by have h := HFS.out; rwa [List.take_of_length_le (by rw [HLR.out]; exact Nat.le_refl _)] at h)
              clear hRW HFS
              have F3 := H.facts
              simp only [World.size_alloc, World.size_drew, factsL, cellsF, Nat.reduceAdd, List.toList_toArray, List.set_cons_zero, List.set_cons_succ, List.setIfInBounds_toArray, and_true, true_and] at F3
              cases fr
              · go_wp2_with fail
                clear F3 hd
                have K4 := H.drop (List.sublist_cons_self _ _)
                clear H
                refine wp_region_any (by kernel_rfl) ?_
                refine wpAny_hold 10 90 ([.own 61 2 (.slice O j cap) j (rwCells rs), .ro (ValsIn rs), .blk g7 40 #[.string nm, .slice A k c, .int .i64 nx, .slice O j cap], .blk g6 40 #[.string ⟨#[]⟩, .slice none 0 0, .int .i64 0, .slice none 0 0], .cst gs 37 #[.string nm, .slice A k c], .ro Wds, .ro (ColsIn A k cs), .tp T]) (spL [(82, fun u _ => NatB 2 u), (84, fun u _ => NatB 2 u)]) (by kernel_rfl) (by kernel_rfl) (by kernel_rfl) rfl ?_ (K4.drew) ?_
                · exact stays_cons (fun _ _ _ _ h => h) (stays_cons (fun _ _ _ _ h => h) (stays_nil _))
                simp only [List.take_succ_cons, List.take_zero, List.drop_succ_cons, List.drop_zero, Act.put, List.getElem_toArray, List.getElem_cons_zero, List.getElem_cons_succ, List.setIfInBounds_toArray, List.set_cons_succ, List.set_cons_zero]
                refine dw_val rfl rfl rfl ?_; apply Exists.intro; refine ⟨fun wv HC => ?_, ?_⟩
                ·  go_simp <;> rfl
                simp only [Act.put, List.setIfInBounds_toArray, List.set_cons_succ, List.set_cons_zero]
                refine dw_val rfl rfl rfl ?_; apply Exists.intro; refine ⟨fun wv HC => ?_, ?_⟩
                · have FC := HC.facts; simp only [factsL, cellsF, Nat.reduceAdd, List.toList_toArray, and_true, true_and] at FC; go_simp <;> rfl
                simp only [Act.put, List.setIfInBounds_toArray, List.set_cons_succ, List.set_cons_zero]
                refine dw_val rfl rfl rfl ?_; apply Exists.intro; refine ⟨fun wv HC => ?_, ?_⟩
                ·  go_simp <;> rfl
                simp only [Act.put, List.setIfInBounds_toArray, List.set_cons_succ, List.set_cons_zero]
                refine dw_next 2 7 rfl 82 rfl rfl rfl rfl (fun wv => ?_) ?_
                · go_simp <;> rfl
                rintro a ha
                simp only [Act.put, List.setIfInBounds_toArray, List.set_cons_succ, List.set_cons_zero]
                refine dw_val rfl rfl rfl ?_; apply Exists.intro; refine ⟨fun wv HC => ?_, ?_⟩
                ·  go_simp <;> rfl
                simp only [Act.put, List.setIfInBounds_toArray, List.set_cons_succ, List.set_cons_zero]
                refine dw_next 2 7 rfl 84 rfl rfl rfl rfl (fun wv => ?_) ?_
                · go_simp <;> rfl
                rintro b hb
                simp only [Act.put, List.setIfInBounds_toArray, List.set_cons_succ, List.set_cons_zero]
                obtain ⟨m, hm, hm1⟩ : ∃ m : Nat, (a : Int) * (b : Int) = (m : Int) ∧ m ≤ 1 := ⟨a * b, by simp, by
                  obtain rfl | rfl : a = 0 ∨ a = 1 := by omega
                  · simp
                  · omega⟩
                have s1 : IntKind.i64.wrap ((a : Int) * (b : Int)) = (m : Int) := by rw [hm, IntKind.wrap_i64]; omega
                have s2 : IntKind.i64.wrap (1 + (m : Int)) = 1 + (m : Int) := by rw [IntKind.wrap_i64]; omega
                have s3 : IntKind.i64.wrap (nx + (1 + (m : Int))) = nx + (1 + (m : Int)) := by rw [IntKind.wrap_i64]; omega
                clear hm
                refine dw_val rfl rfl rfl ?_; apply Exists.intro; refine ⟨fun wv HC => ?_, ?_⟩
                ·  go_simp <;> rfl
                simp only [Act.put, List.setIfInBounds_toArray, List.set_cons_succ, List.set_cons_zero]
                refine dw_val rfl rfl rfl ?_; apply Exists.intro; refine ⟨fun wv HC => ?_, ?_⟩
                ·  go_simp <;> rfl
                simp only [Act.put, List.setIfInBounds_toArray, List.set_cons_succ, List.set_cons_zero]
                refine dw_val rfl rfl rfl ?_; apply Exists.intro; refine ⟨fun wv HC => ?_, ?_⟩
                ·  go_simp <;> rfl
                simp only [Act.put, List.setIfInBounds_toArray, List.set_cons_succ, List.set_cons_zero]
                refine dw_val rfl rfl rfl ?_; apply Exists.intro; refine ⟨fun wv HC => ?_, ?_⟩
                ·  go_simp <;> rfl
                simp only [Act.put, List.setIfInBounds_toArray, List.set_cons_succ, List.set_cons_zero]
                refine rel_nil ?_
                rintro wx5 HX5
                rintro _hrm _HG
                clear _hrm _HG s1 s2 s3
                have F6 := HX5.facts
                simp only [World.size_alloc, World.size_drew, factsL, cellsF, Nat.reduceAdd, List.toList_toArray, List.set_cons_zero, List.set_cons_succ, List.setIfInBounds_toArray, and_true, true_and] at F6
                have K9 := HX5.store 2 rfl 2 (.int .i64 (nx + (1 + (m : Int))))
                simp only [List.set_cons_zero, List.set_cons_succ, List.setIfInBounds_toArray] at K9
                have HRN := hid (rows_up HR.out (show nx ≤ nx + (1 + (m : Int)) by omega))
                go_wp2_with fail
                go_roundw
                case rel => exact ⟨i, j, cap, nx + (1 + (m : Int)), _, _, by first | rfl | go_num, by omega, by omega, by omega, HRN, K9⟩
                case measure => simp [intOf] <;> omega
              · have hx2 : (rwCells rs ++ (#[Value.int .i64 nx, .slice Ar nr cr]).toList) = rwCells (rs ++ [⟨nx, Ar, nr, cr, vr⟩]) := rwCells_snoc1 _ _ _ _ _ _
                have HCE := hid hx2
                clear hx2
                go_wp2_with (at_builtin; go_must (refine wpList_appH H 1 rfl Tryd.elRw #[.int .i64 nx, .slice Ar nr cr] rfl (.tmp 71) (.tmp 76) rfl rfl _ rfl rfl rfl (by intro u hu; simp at hu; rcases hu with rfl | rfl <;> rfl) (by omega) (by omega) ?_); intro g9 cap9 w9 hc9 hm9 KB; rw [HCE.out] at KB; simp only [List.set_cons_zero, List.set_cons_succ] at KB; (have FB := KB.facts); simp only [World.size_alloc, World.size_drew, factsL, cellsF, Nat.reduceAdd, List.toList_toArray, List.set_cons_zero, List.set_cons_succ, List.setIfInBounds_toArray, and_true, true_and] at FB)
                clear F3 hd
                have KC := KB.store 3 rfl 3 (.slice (some ⟨g9, 0, none⟩) (j + 1) cap9)
                have KD := (KC.swapRo 2 rfl (vals_snoc (r := ⟨nx, Ar, nr, cr, vr⟩) (KC.ro 2 rfl) (KC.ro 0 rfl))).drop (List.sublist_cons_self _ _)
                simp only [List.set_cons_zero, List.set_cons_succ, List.setIfInBounds_toArray] at KD
                generalize World.setCell _ _ _ = w10 at KD ⊢
                clear KB KC FB H
                refine wp_region_any (by kernel_rfl) ?_
                refine wpAny_hold 10 90 ([.own 61 2 (.slice (some ⟨g9, 0, none⟩) (j + 1) cap9) (j + 1) (rwCells (rs ++ [⟨nx, Ar, nr, cr, vr⟩])), .ro (ValsIn (rs ++ [⟨nx, Ar, nr, cr, vr⟩])), .blk g7 40 #[.string nm, .slice A k c, .int .i64 nx, .slice (some ⟨g9, 0, none⟩) (j + 1) cap9], .blk g6 40 #[.string ⟨#[]⟩, .slice none 0 0, .int .i64 0, .slice none 0 0], .cst gs 37 #[.string nm, .slice A k c], .ro Wds, .ro (ColsIn A k cs), .tp T]) (spL [(82, fun u _ => NatB 2 u), (84, fun u _ => NatB 2 u)]) (by kernel_rfl) (by kernel_rfl) (by kernel_rfl) rfl ?_ (KD.drew) ?_
                · exact stays_cons (fun _ _ _ _ h => h) (stays_cons (fun _ _ _ _ h => h) (stays_nil _))
                simp only [List.take_succ_cons, List.take_zero, List.drop_succ_cons, List.drop_zero, Act.put, List.getElem_toArray, List.getElem_cons_zero, List.getElem_cons_succ, List.setIfInBounds_toArray, List.set_cons_succ, List.set_cons_zero]
                refine dw_val rfl rfl rfl ?_; apply Exists.intro; refine ⟨fun wv HC => ?_, ?_⟩
                ·  go_simp <;> rfl
                simp only [Act.put, List.setIfInBounds_toArray, List.set_cons_succ, List.set_cons_zero]
                refine dw_val rfl rfl rfl ?_; apply Exists.intro; refine ⟨fun wv HC => ?_, ?_⟩
                · have FC := HC.facts; simp only [factsL, cellsF, Nat.reduceAdd, List.toList_toArray, and_true, true_and] at FC; go_simp <;> rfl
                simp only [Act.put, List.setIfInBounds_toArray, List.set_cons_succ, List.set_cons_zero]
                refine dw_val rfl rfl rfl ?_; apply Exists.intro; refine ⟨fun wv HC => ?_, ?_⟩
                ·  go_simp <;> rfl
                simp only [Act.put, List.setIfInBounds_toArray, List.set_cons_succ, List.set_cons_zero]
                refine dw_next 2 7 rfl 82 rfl rfl rfl rfl (fun wv => ?_) ?_
                · go_simp <;> rfl
                rintro a ha
                simp only [Act.put, List.setIfInBounds_toArray, List.set_cons_succ, List.set_cons_zero]
                refine dw_val rfl rfl rfl ?_; apply Exists.intro; refine ⟨fun wv HC => ?_, ?_⟩
                ·  go_simp <;> rfl
                simp only [Act.put, List.setIfInBounds_toArray, List.set_cons_succ, List.set_cons_zero]
                refine dw_next 2 7 rfl 84 rfl rfl rfl rfl (fun wv => ?_) ?_
                · go_simp <;> rfl
                rintro b hb
                simp only [Act.put, List.setIfInBounds_toArray, List.set_cons_succ, List.set_cons_zero]
                obtain ⟨m, hm, hm1⟩ : ∃ m : Nat, (a : Int) * (b : Int) = (m : Int) ∧ m ≤ 1 := ⟨a * b, by simp, by
                  obtain rfl | rfl : a = 0 ∨ a = 1 := by omega
                  · simp
                  · omega⟩
                have s1 : IntKind.i64.wrap ((a : Int) * (b : Int)) = (m : Int) := by rw [hm, IntKind.wrap_i64]; omega
                have s2 : IntKind.i64.wrap (1 + (m : Int)) = 1 + (m : Int) := by rw [IntKind.wrap_i64]; omega
                have s3 : IntKind.i64.wrap (nx + (1 + (m : Int))) = nx + (1 + (m : Int)) := by rw [IntKind.wrap_i64]; omega
                clear hm
                refine dw_val rfl rfl rfl ?_; apply Exists.intro; refine ⟨fun wv HC => ?_, ?_⟩
                ·  go_simp <;> rfl
                simp only [Act.put, List.setIfInBounds_toArray, List.set_cons_succ, List.set_cons_zero]
                refine dw_val rfl rfl rfl ?_; apply Exists.intro; refine ⟨fun wv HC => ?_, ?_⟩
                ·  go_simp <;> rfl
                simp only [Act.put, List.setIfInBounds_toArray, List.set_cons_succ, List.set_cons_zero]
                refine dw_val rfl rfl rfl ?_; apply Exists.intro; refine ⟨fun wv HC => ?_, ?_⟩
                ·  go_simp <;> rfl
                simp only [Act.put, List.setIfInBounds_toArray, List.set_cons_succ, List.set_cons_zero]
                refine dw_val rfl rfl rfl ?_; apply Exists.intro; refine ⟨fun wv HC => ?_, ?_⟩
                ·  go_simp <;> rfl
                simp only [Act.put, List.setIfInBounds_toArray, List.set_cons_succ, List.set_cons_zero]
                refine rel_nil ?_
                rintro wx5 HX5
                rintro _hrm _HG
                clear _hrm _HG s1 s2 s3
                have F6 := HX5.facts
                simp only [World.size_alloc, World.size_drew, factsL, cellsF, Nat.reduceAdd, List.toList_toArray, List.set_cons_zero, List.set_cons_succ, List.setIfInBounds_toArray, and_true, true_and] at F6
                have K9 := HX5.store 2 rfl 2 (.int .i64 (nx + (1 + (m : Int))))
                simp only [List.set_cons_zero, List.set_cons_succ, List.setIfInBounds_toArray] at K9
                have HRN := hid (rows_new (x := ⟨nx, Ar, nr, cr, vr⟩) HR.out rfl (by omega) (show nx < nx + (1 + (m : Int)) by omega) (fitsT_all HFR.out) ⟨by show I64 nx; unfold I64; omega, hcr1, hcr2, HVR.out⟩ (by have h := HFE.out rfl; rwa [HKQ.out] at h))
                go_wp2_with fail
                go_roundw
                case rel => exact ⟨i, (j + 1), cap9, nx + (1 + (m : Int)), _, _, by first | rfl | go_num, by omega, by omega, by omega, HRN, K9⟩
                case measure => simp [intOf] <;> omega
        · obtain rfl : i = 0 := by omega
          have hd : decide (((0 : Nat) : Int) > 0) = false := by decide
          have F := H.facts
          simp only [World.size_alloc, World.size_drew, factsL, cellsF, Nat.reduceAdd, List.toList_toArray, List.set_cons_zero, List.set_cons_succ, List.setIfInBounds_toArray, and_true, true_and] at F
          obtain ⟨hcq1, hcq2, _⟩ := own_caps (H.get 0 rfl)
          have KS := H.sealRow 0 rfl
          simp only [List.set_cons_zero] at KS
          have KN := (((KS.store 3 rfl 0 (.string nm)).store 3 rfl 1 (.slice A k c)).store 3 rfl 2 (.int .i64 nx)).store 3 rfl 3 (.slice O k2 cap)
          clear KS
          go_wp2_with fail
          exact bodyPost_ret (v := .agg #[.string nm, .slice A k c, .int .i64 nx, .slice O k2 cap]) (by simp [results, Tryd.results18, go_sem, F]) rfl ⟨_, nx, rs.map Rw.row, rfl, ⟨A, k, c, O, k2, cap, rs, rfl, hnc, hc, hcq1, hcq2, KN.roOut 6 rfl, (KN.roOut 0 rfl).and (KN.roOut 1 rfl), HR.out.rok, rfl⟩, tab_ok HSCH.out (by have h := Rd.of_own (H.get 0 rfl); have h2 := h.1; rw [rwCells_len] at h2; simp; omega) (by omega) (by omega) HR.out.ok HR.out.dup, by have h := Rd.of_own (H.get 0 rfl); have h2 := h.1; rw [rwCells_len] at h2; simp; omega, KN.tp_ 7 rfl, KN.grow⟩
end Go.Proofs.YtljmclbedpceoaaDoor

namespace Go.Proofs.YtljmclbedpceoaaDoor
open Go.RowKit
set_option linter.unusedVariables false
set_option linter.unusedSimpArgs false
section
variable {P : Program} {ops : Array Oper} {C : World → Prop} {G : Option Tmp → Value → World → Prop} {R : World → World → Prop} {F : Act → Prop} {o : Oper} {rest : List Oper} {a : Act} {k : Nat} {S0 : Array Bool}
/-- an operation that hands back some value of its class -/
theorem rel_step (hS : S0.getD k false = false) (hw : Region.wanted o (yielded ops a.tmps) = true) (d : Tmp) (hd : o.dst = some d) (hg : ∀ w, C w → Deps ops G o a w → ∃ u w', (execOp a.eval o).run P w = .ok (.value u) w' ∧ G (some d) u w' ∧ C w' ∧ R w w')
    (hn : ∀ u w, C w → G (some d) u w → wpRel P ops C G R S0 F (k + 1) rest (a.put (some d) u)) : wpRel P ops C G R S0 F k (o :: rest) a := by
  unfold wpRel
  rw [hS, if_neg (by simp)]
  refine ⟨by unfold StepOk; simp only [hw, if_true]; intro w hC hD; obtain ⟨u, w', hr, h1, h2, h3⟩ := hg w hC hD; unfold Good; rw [hr, hd]; exact ⟨h1, h2, h3⟩, fun x _ hx => ?_⟩
  obtain ⟨w, hC, h⟩ := hx d hd
  rw [hd]; exact hn x w hC h
end
/-- append(nil, xs...): a list of one's own -/
theorem run_cloneNil {P : Program} {t e : TypeId} {size bytes : Nat} {z : Value} (hE : ElemT P t e size bytes z) (ty : TypeId) (w : World) {A : Option Addr} {m c : Nat} {ys : List Value} (hr : SlR size A m ys w) (h1 : ∀ u ∈ ys, u.oneCell' = true) (hq : m < 140737488355328) (hb : m * bytes ≤ 140737488355328) :
    ∃ C' cap' w', (Builtin.append_ #[t, t] ty #[.slice none 0 0, .slice A m c]).run P w = .ok (.slice C' m cap') w' ∧ m ≤ cap' ∧ cap' ≤ 9223372036854775807 ∧ w'.ownsRow w.heap.size e size (.slice C' m cap') m ys ∧ Below w.heap.size w w' := by
  obtain ⟨i0, hi1, hi2, hi3, hi4⟩ := info_parts hE.hi
  have hown := World.ownsRow_nil w w.heap.size e size
  have hz : A = none → m = 0 := fun hA => by
    rcases Nat.eq_zero_or_pos m with h0 | h0
    · exact h0
    · obtain ⟨b, o, h, _⟩ := hr.2 h0
      rw [hA] at h; cases h
  rcases A with _ | ad
  · obtain rfl := hz rfl
    have hn : ys = [] := List.eq_nil_of_length_eq_zero (by simpa using hr.1)
    subst hn
    exact ⟨none, 0, w, run_append_self w _ t _ _ i0 size hE.ht hi1 _ _ _ hown c, by omega, by omega, hown, Below.refl _ _⟩
  · have hcells : ∀ j u, ys[j]? = some u → w.cell? (ad.add j) = some u := by
      intro j u hu
      have hpos : 0 < m := by
        rcases Nat.eq_zero_or_pos m with h0 | h0
        · have hn : ys = [] := List.eq_nil_of_length_eq_zero (by have := hr.1; rw [h0] at this; simpa using this)
          rw [hn] at hu; simp at hu
        · exact h0
      obtain ⟨b, o', hA, _, hc⟩ := hr.2 hpos
      injection hA with hA
      subst hA
      have := hc j u hu
      rwa [Addr.add_lit]
    obtain ⟨v', w', hrun, h2, h3, _, h5⟩ := run_append_own_at (P := P) w w.heap.size t ty e i0 z size bytes hE.ht hi1 hi2 hi3 hi4 hE.hzs hE.hsz _ 0 [] hown ad m c ys hr.1 hcells h1 (by unfold maxLen; omega) (by rw [Nat.zero_add]; exact hb) (Nat.le_refl _)
    rw [Nat.zero_add, List.nil_append] at h2
    obtain ⟨C', cap', rfl⟩ := own_form h2
    have hc := own_caps h2
    exact ⟨C', cap', w', hrun, hc.1, hc.2.1, h2, ⟨h3.os, h3.tape, h3.output, h3.size, fun k hk => h3.block k hk (by simp [Value.ownBlock])⟩⟩
section
variable {P : Program} {M : Nat → Prop} {row : Option Nat} {w0 w1 : World} {L : List Hp} {sp : SpW} {F : Act → Prop} {S0 : Array Bool}
variable {ops : Array Oper} {o : Oper} {rest : List Oper} {a : Act} {k : Nat}
end
theorem vlCells_set : ∀ (l : List Vl) (k : Nat) (v : Vl), k < l.length → (((vlCells l).set (k * 3) (.int .i64 v.k)).set (k * 3 + 1) (.int .i64 v.i)).set (k * 3 + 2) (.string v.s) = vlCells (l.set k v)
  | [], k, v, h => by simp at h
  | x :: l, 0, v, h => by simp [vlCells, Vl.cells]
  | x :: l, k + 1, v, h => by
    have ih := vlCells_set l k v (by simpa using h)
    have e : ∀ (ys : List Value) (j : Nat) (u : Value), (x.cells ++ ys).set (j + 3) u = x.cells ++ ys.set j u := fun ys j u => by
      rw [List.set_append_right _ _ (by simp [Vl.cells])]
      simp [Vl.cells]
    have e0 : vlCells (x :: l) = x.cells ++ vlCells l := by simp [vlCells]
    have e1 : vlCells ((x :: l).set (k + 1) v) = x.cells ++ vlCells (l.set k v) := by simp [vlCells]
    rw [e0, e1, show (k + 1) * 3 = k * 3 + 3 by omega, e, show k * 3 + 3 + 1 = (k * 3 + 1) + 3 by omega, e, show k * 3 + 3 + 2 = (k * 3 + 2) + 3 by omega, e, ih]
theorem own_vl {w : World} {base g n cap k : Nat} {e : TypeId} {l : List Vl} {v : Vl} (h : w.ownsRow base e 3 (.slice (some ⟨g, 0, none⟩) n cap) n (vlCells l)) (hv : l[k]? = some v) :
    (w.cell? ⟨g, k * 3, none⟩ = some (.int .i64 v.k) ∧ w.cell? ⟨g, k * 3 + 1, none⟩ = some (.int .i64 v.i) ∧ w.cell? ⟨g, k * 3 + 2, none⟩ = some (.string v.s)) ∧
    (w.frozen? ⟨g, k * 3, none⟩ = false ∧ w.frozen? ⟨g, k * 3 + 1, none⟩ = false ∧ w.frozen? ⟨g, k * 3 + 2, none⟩ = false) ∧ g < w.heap.size := by
  have hk := (List.getElem?_eq_some_iff.1 hv).1
  have hl : l.length = n := by have := h.1; rw [vlCells_len] at this; omega
  have c0 := flat_get Vl.cells 3 (fun _ => rfl) l k 0 v (by omega) hv
  have c1 := flat_get Vl.cells 3 (fun _ => rfl) l k 1 v (by omega) hv
  have c2 := flat_get Vl.cells 3 (fun _ => rfl) l k 2 v (by omega) hv
  exact ⟨⟨(h.cellAt _ (by omega)).trans c0, (h.cellAt _ (by omega)).trans c1, (h.cellAt _ (by omega)).trans c2⟩, ⟨h.frozenAt _, h.frozenAt _, h.frozenAt _⟩, (h.lt g rfl).2⟩
theorem oks_set {l : List Vl} {k : Nat} {v : Vl} (h : ∀ x ∈ l, x.ok) (hv : v.ok) : ∀ x ∈ l.set k v, x.ok := fun x hx => by
  rcases List.mem_or_eq_of_mem_set hx with hx | rfl
  · exact h x hx
  · exact hv
end Go.Proofs.YtljmclbedpceoaaDoor

namespace Go.Proofs.YtljmclbedpceoaaDoor
open Go.RowKit
set_option linter.unusedVariables false
set_option linter.unusedSimpArgs false
section
variable {P : Program} {M : Nat → Prop} {row : Option Nat} {w0 w1 : World} {L : List Hp} {sp : SpW} {F : Act → Prop} {S0 : Array Bool}
variable {ops : Array Oper} {o : Oper} {rest : List Oper} {a : Act} {k : Nat}
/-- append(nil, xs...): the copy is the call's own -/
theorem dw_cloneO {t e : TypeId} {size bytes : Nat} {z : Value} (hE : ElemT P t e size bytes z) (d : Tmp) (V : Value → World → Prop) (hS : S0.getD k false = false) (hw : Region.wanted o (yielded ops a.tmps) = true) (hd : o.dst = some d) (hsp : sp d = some V)
    (s x : Operand) (ho : o.op = .call { callee := .builtin .append, args := #[s, x], argTypes := #[t, t] }) (hs : a.eval s = .slice none 0 0) {A : Option Addr} {m c : Nat} {ys : List Value} (hx : a.eval x = .slice A m c) (h1 : ∀ u ∈ ys, u.oneCell' = true) (hq : m < 140737488355328) (hb : m * bytes ≤ 140737488355328)
    (hr : ∀ w, Hold M row w0 w L → Deps ops (GW sp) o a w → SlR size A m ys w) (hV : ∀ C' cap' w w', Hold M row w0 w L → RM (Mut M L) w1 w → Hold M row w0 w' L → m ≤ cap' → cap' ≤ 9223372036854775807 → w'.ownsRow w.heap.size e size (.slice C' m cap') m ys → V (.slice C' m cap') w')
    (hn : ∀ u w, Hold M row w0 w L → V u w → wpRel P ops (HC M row w0 w1 L) (GW sp) (RM (Mut M L)) S0 F (k + 1) rest (a.put (some d) u)) : wpRel P ops (HC M row w0 w1 L) (GW sp) (RM (Mut M L)) S0 F k (o :: rest) a := by
  refine rel_step hS hw d hd (fun w hC hD => ?_) fun u w hC hu => hn u w hC.1 ((GW_on hsp).1 hu)
  obtain ⟨C', cap', w', hrun, c1, c2, ho2, hb2⟩ := run_cloneNil hE o.type w (hr w hC.1 hD) (c := c) h1 hq hb
  have hH := hC.1.call hb2
  refine ⟨.slice C' m cap', w', ?_, (GW_on hsp).2 (hV C' cap' w w' hC.1 hC.2 hH c1 c2 ho2), ⟨hH, hC.2.trans (RM.below hb2)⟩, RM.below hb2⟩
  unfold execOp
  simp only [ho, resolve, invoke, builtin, Sem.run_bind, Sem.run_pure, Result.andThen_ok, List.map_toArray, List.map_cons, List.map_nil, hs, hx, hrun]
end
/-- an own row, as a statement that stays -/
theorem Ro.own {w : World} {M : Nat → Prop} {b0 b1 : Nat} (hM : ∀ b, M b → b < b1) (h01 : b0 ≤ b1) {e : TypeId} {size n : Nat} {v : Value} {xs : List Value} (h : w.ownsRow b1 e size v n xs) : Ro w M (fun w => w.ownsRow b0 e size v n xs) :=
  fun w2 h1 h2 => own_base h01 (own_RM hM ⟨h1, h2⟩ h)
/-- the rows' values are own rows, each at the head of its block -/
def OwnVals (VT : TypeId) (b0 : Nat) (l : List Rw) (w : World) : Prop := ∀ r ∈ l, w.ownsRow b0 VT 3 (.slice r.A r.n r.c) r.n (vlCells r.vs)
theorem ownVals_nil {VT : TypeId} {b0 : Nat} {w : World} {M : Nat → Prop} : Ro w M (OwnVals VT b0 []) := fun _ _ _ r hr => nomatch hr
theorem ownVals_snoc {M : Nat → Prop} {w : World} {VT : TypeId} {b0 : Nat} {rs : List Rw} {r : Rw} (h : Ro w M (OwnVals VT b0 rs)) (k : Ro w M (fun w => w.ownsRow b0 VT 3 (.slice r.A r.n r.c) r.n (vlCells r.vs))) : Ro w M (OwnVals VT b0 (rs ++ [r])) := fun w2 h1 h2 x hx => by
  rcases List.mem_append.1 hx with hx | hx
  · exact h w2 h1 h2 x hx
  · simp at hx; subst hx; exact k w2 h1 h2
theorem OwnVals.vals {VT : TypeId} {b0 : Nat} {l : List Rw} {w : World} (h : OwnVals VT b0 l w) : ValsIn l w := fun r hr => Rd.of_own (h r hr)
/-- said of a world in which the caller's blocks lie below b0 -/
theorem OwnVals.ro {VT : TypeId} {b0 : Nat} {l : List Rw} {w : World} {M : Nat → Prop} (hM : ∀ b, M b → b < b0) (h : OwnVals VT b0 l w) : Ro w M (ValsIn l) := fun w2 h1 h2 r hr => Rd.of_own (own_RM hM ⟨h1, h2⟩ (h r hr))
/-- a copy's slot: an own row -/
def OVls (VT : TypeId) (M : Nat → Prop) (b0 : Nat) (vs : List Vl) (u : Value) (w : World) : Prop := ∃ (A : Option Addr) (n c : Nat), u = .slice A n c ∧ n = vs.length ∧ n ≤ c ∧ c ≤ 9223372036854775807 ∧ Ro w M (fun w => w.ownsRow b0 VT 3 (.slice A n c) n (vlCells vs))
def ORow (VT : TypeId) (M : Nat → Prop) (b0 : Nat) (id : Int) (vs : List Vl) (u : Value) (w : World) : Prop := ∃ (A : Option Addr) (n c : Nat), u = .agg #[.int .i64 id, .slice A n c] ∧ n = vs.length ∧ n ≤ c ∧ c ≤ 9223372036854775807 ∧ Ro w M (fun w => w.ownsRow b0 VT 3 (.slice A n c) n (vlCells vs))
def ORBox (VT : TypeId) (M : Nat → Prop) (b0 : Nat) (id : Int) (vs : List Vl) (u : Value) (w : World) : Prop := ∃ (g : Nat) (A : Option Addr) (n c : Nat), u = .slice (some ⟨g, 0, none⟩) 1 1 ∧ n = vs.length ∧ n ≤ c ∧ c ≤ 9223372036854775807 ∧ Ro w M (fun w => w.ownsRow b0 VT 3 (.slice A n c) n (vlCells vs)) ∧ Ro w M (SlR 2 (some ⟨g, 0, none⟩) 1 [.int .i64 id, .slice A n c])
theorem oVls_mono {VT : TypeId} {M : Nat → Prop} {b0 : Nat} {vs : List Vl} (u : Value) (w w' : World) (hr : RM M w w') (h : OVls VT M b0 vs u w) : OVls VT M b0 vs u w' := by
  obtain ⟨A, n, c, h1, h2, h3, h4, h5⟩ := h
  exact ⟨A, n, c, h1, h2, h3, h4, hr.ro h5⟩
theorem oRow_mono {VT : TypeId} {M : Nat → Prop} {b0 : Nat} {id : Int} {vs : List Vl} (u : Value) (w w' : World) (hr : RM M w w') (h : ORow VT M b0 id vs u w) : ORow VT M b0 id vs u w' := by
  obtain ⟨A, n, c, h1, h2, h3, h4, h5⟩ := h
  exact ⟨A, n, c, h1, h2, h3, h4, hr.ro h5⟩
theorem oRBox_mono {VT : TypeId} {M : Nat → Prop} {b0 : Nat} {id : Int} {vs : List Vl} (u : Value) (w w' : World) (hr : RM M w w') (h : ORBox VT M b0 id vs u w) : ORBox VT M b0 id vs u w' := by
  obtain ⟨g, A, n, c, h1, h2, h3, h4, h5, h6⟩ := h
  exact ⟨g, A, n, c, h1, h2, h3, h4, hr.ro h5, hr.ro h6⟩
/-- an own list's slot, whatever the element -/
def OwnSl (e : TypeId) (size b0 : Nat) (xs : List Value) (u : Value) (w : World) : Prop := ∃ (A : Option Addr) (n c : Nat), u = .slice A n c ∧ n * size = xs.length ∧ n ≤ c ∧ c ≤ 9223372036854775807 ∧ w.ownsRow b0 e size (.slice A n c) n xs
theorem ownSl_mono {M : Nat → Prop} {e : TypeId} {size b0 : Nat} {xs : List Value} (hM : ∀ b, M b → b < b0) (u : Value) (w w' : World) (hr : RM M w w') (h : OwnSl e size b0 xs u w) : OwnSl e size b0 xs u w' := by
  obtain ⟨A, n, c, h1, h2, h3, h4, h5⟩ := h
  exact ⟨A, n, c, h1, h2, h3, h4, own_RM hM hr h5⟩
/-- A store into a block that came since w0 and is none of the items'. -/
theorem Hold.poke {M : Nat → Prop} {row : Option Nat} {w0 w : World} {L : List Hp} (h : Hold M row w0 w L) {g : Nat} (hg : w0.heap.size ≤ g) (hro : ∀ k ∈ L, ∃ b, k.foot = some b ∧ b ≠ g) (hT : ∀ T, .tp T ∈ L → T < g) (j : Nat) (u : Value) : Hold M row w0 (w.setCell ⟨g, j, none⟩ u) L := by
  have hb : ∀ b, b ≠ g → (w.setCell ⟨g, j, none⟩ u).heap[b]? = w.heap[b]? := fun b hne => Below.heap_setCell w _ u b hne
  have hsz : (w.setCell ⟨g, j, none⟩ u).heap.size = w.heap.size := by simp [World.setCell]
  refine ⟨⟨h.grow.os, h.grow.tape, h.grow.output, by rw [hsz]; exact h.grow.size, fun b hl hne => (hb b (by omega)).trans (h.grow.block b hl hne)⟩, h.low, fun k hk => ?_, fun k hk b hf => ⟨(h.fresh k hk b hf).1, by rw [hsz]; exact (h.fresh k hk b hf).2⟩, h.sep⟩
  obtain ⟨b, hf, hne⟩ := hro k hk
  have hs := h.sat k hk
  cases k with
  | blk g' t' cs' => injection hf with hf; subst hf; exact (hb _ hne).trans hs
  | own e s v n' xs =>
    refine ⟨hs.1, ?_⟩
    rcases hs.2 with hn | ⟨g', cap, cur, rfl, hb', hgg, rest⟩
    · exact .inl hn
    · have : some g' = some b := hf
      injection this with this
      subst this
      exact .inr ⟨g', cap, cur, rfl, hb', (hb _ hne).trans hgg, rest⟩
  | tp T => exact ⟨Tp.setCell (p := ⟨g, j, none⟩) hs.1 (hT T hk) _, hs.2⟩
  | ro S => cases hf
  | cst g' t' cs' => cases hf
  | ob g' F' =>
    injection hf with hf; subst hf
    exact fun w2 h2 => hs w2 (h2.trans (hb _ hne))
/-- a row whose values begin with another one, where they lie in the block g -/
def pokeRw (g : Nat) (v : Vl) (r : Rw) : Rw := if r.A = some ⟨g, 0, none⟩ then { r with vs := r.vs.set 0 v } else r
theorem pokeRw_cells (g : Nat) (v : Vl) (l : List Rw) : rwCells (l.map (pokeRw g v)) = rwCells l := by
  unfold rwCells
  rw [List.flatMap_map]
  congr 1
  funext r
  unfold pokeRw Rw.cells
  split <;> rfl
theorem OwnVals.poke {VT : TypeId} {b0 g : Nat} {l : List Rw} {w : World} (h : OwnVals VT b0 l w) (v : Vl) (hn : ∀ r ∈ l, 0 < r.vs.length) :
    OwnVals VT b0 (l.map (pokeRw g v)) (((w.setCell ⟨g, 0, none⟩ (.int .i64 v.k)).setCell ⟨g, 1, none⟩ (.int .i64 v.i)).setCell ⟨g, 2, none⟩ (.string v.s)) := fun r hr => by
  obtain ⟨x, hx, rfl⟩ := List.mem_map.1 hr
  have ho := h x hx
  unfold pokeRw
  split
  · rename_i hA
    dsimp only
    rw [hA] at ho ⊢
    have h3 := (((ho.stored 0 (.int .i64 v.k)).1.stored 1 (.int .i64 v.i)).1.stored 2 (.string v.s)).1
    have h4 := vlCells_set x.vs 0 v (hn x hx)
    simp only [Nat.zero_mul, Nat.zero_add] at h4
    rw [h4] at h3
    exact h3
  · rename_i hA
    refine ⟨ho.1, ?_⟩
    rcases ho.2 with hz | ⟨g', cap, cur, hv, hb, hh, rest⟩
    · exact .inl hz
    · have hne : g' ≠ g := fun e => hA (by injection hv with hv; rw [hv, e])
      exact .inr ⟨g', cap, cur, hv, hb, (Below.heap_setCell _ _ _ g' hne).trans ((Below.heap_setCell _ _ _ g' hne).trans ((Below.heap_setCell _ _ _ g' hne).trans hh)), rest⟩
/-- blocks of unlike types differ -/
theorem own_ne_ty {w : World} {b0 b1 g g' n n' c c' size size' : Nat} {e e' : TypeId} {xs ys : List Value} (h : w.ownsRow b0 e size (.slice (some ⟨g, 0, none⟩) n c) n xs) (k : w.ownsRow b1 e' size' (.slice (some ⟨g', 0, none⟩) n' c') n' ys) (hne : e ≠ e') : g ≠ g' := by
  rintro rfl
  rcases h.2 with ⟨h1, _⟩ | ⟨g1, _, cur, hv, _, hh, _⟩
  · cases h1
  rcases k.2 with ⟨h2, _⟩ | ⟨g2, _, cur2, hv2, _, hh2, _⟩
  · cases h2
  obtain rfl : g = g1 := by injection hv with hv; injection hv with hv; injection hv
  obtain rfl : g = g2 := by injection hv2 with hv; injection hv with hv; injection hv
  rw [hh] at hh2
  injection hh2 with hh2
  injection hh2 with _ hh2
  exact hne hh2
theorem blk_ne_ty {w : World} {b1 g g' n' c' size' : Nat} {t e' : TypeId} {cs : Array Value} {ys : List Value} (h : w.heap[g]? = some (.cells cs t (0, 0))) (k : w.ownsRow b1 e' size' (.slice (some ⟨g', 0, none⟩) n' c') n' ys) (hne : t ≠ e') : g ≠ g' := by
  rintro rfl
  rcases k.2 with ⟨h2, _⟩ | ⟨g2, _, cur2, hv2, _, hh2, _⟩
  · cases h2
  obtain rfl : g = g2 := by injection hv2 with hv; injection hv with hv; injection hv
  rw [h] at hh2
  injection hh2 with hh2
  injection hh2 with _ hh2
  exact hne hh2
theorem OwnVals.far {VT : TypeId} {b0 g : Nat} {l : List Rw} {w : World} {t : TypeId} {cs : Array Value} (h : OwnVals VT b0 l w) (hg : Blk w g t cs) (hne : t ≠ VT) (j : Nat) (u : Value) : OwnVals VT b0 l (w.setCell ⟨g, j, none⟩ u) := fun r hr => by
  have ho := h r hr
  refine ⟨ho.1, ?_⟩
  rcases ho.2 with hz | ⟨g', cap, cur, hv, hb, hh, rest⟩
  · exact .inl hz
  · have hn : g' ≠ g := by
      rintro rfl
      have hg2 : w.heap[g']? = some (.cells cs t (0, 0)) := hg
      rw [hh] at hg2
      injection hg2 with hg2
      injection hg2 with _ hg2
      exact hne hg2.symm
    exact .inr ⟨g', cap, cur, hv, hb, (Below.heap_setCell _ _ _ g' hn).trans hh, rest⟩
theorem OwnVals.far4 {VT : TypeId} {b0 g : Nat} {l : List Rw} {w : World} {t : TypeId} {cs : Array Value} (h : OwnVals VT b0 l w) (hg : Blk w g t cs) (hne : t ≠ VT) (u0 u1 u2 u3 : Value) : OwnVals VT b0 l ((((w.setCell ⟨g, 0, none⟩ u0).setCell ⟨g, 1, none⟩ u1).setCell ⟨g, 2, none⟩ u2).setCell ⟨g, 3, none⟩ u3) :=
  (((h.far hg hne 0 u0).far (hg.set_ 0 u0) hne 1 u1).far ((hg.set_ 0 u0).set_ 1 u1) hne 2 u2).far (((hg.set_ 0 u0).set_ 1 u1).set_ 2 u2) hne 3 u3
/-- an own list of rows, a row's cells -/
theorem own_rw {w : World} {base g n cap k : Nat} {e : TypeId} {l : List Rw} {r : Rw} (h : w.ownsRow base e 2 (.slice (some ⟨g, 0, none⟩) n cap) n (rwCells l)) (hr : l[k]? = some r) :
    (w.cell? ⟨g, k * 2, none⟩ = some (.int .i64 r.id) ∧ w.cell? ⟨g, k * 2 + 1, none⟩ = some (.slice r.A r.n r.c)) ∧ (w.frozen? ⟨g, k * 2, none⟩ = false ∧ w.frozen? ⟨g, k * 2 + 1, none⟩ = false) ∧ g < w.heap.size := by
  have hk := (List.getElem?_eq_some_iff.1 hr).1
  have hl : l.length = n := by have := h.1; rw [rwCells_len] at this; omega
  have c0 := flat_get Rw.cells 2 (fun _ => rfl) l k 0 r (by omega) hr
  have c1 := flat_get Rw.cells 2 (fun _ => rfl) l k 1 r (by omega) hr
  exact ⟨⟨(h.cellAt _ (by omega)).trans c0, (h.cellAt _ (by omega)).trans c1⟩, ⟨h.frozenAt _, h.frozenAt _⟩, (h.lt g rfl).2⟩
theorem rwCells_set : ∀ (l : List Rw) (k : Nat) (r x : Rw), l[k]? = some x → ((rwCells l).set (k * 2) (.int .i64 r.id)).set (k * 2 + 1) (.slice r.A r.n r.c) = rwCells (l.set k r)
  | [], k, r, x, h => by simp at h
  | y :: l, 0, r, x, h => by simp [rwCells, Rw.cells]
  | y :: l, k + 1, r, x, h => by
    have ih := rwCells_set l k r x (by simpa using h)
    have e : ∀ (ys : List Value) (j : Nat) (u : Value), (y.cells ++ ys).set (j + 2) u = y.cells ++ ys.set j u := fun ys j u => by
      rw [List.set_append_right _ _ (by simp [Rw.cells])]
      simp [Rw.cells]
    have e0 : rwCells (y :: l) = y.cells ++ rwCells l := by simp [rwCells]
    have e1 : rwCells ((y :: l).set (k + 1) r) = y.cells ++ rwCells (l.set k r) := by simp [rwCells]
    rw [e0, e1, show (k + 1) * 2 = k * 2 + 2 by omega, e, show k * 2 + 2 + 1 = (k * 2 + 1) + 2 by omega, e, ih]
theorem set_same {α : Type} : ∀ {l : List α} {k : Nat} {x : α}, l[k]? = some x → l.set k x = l
  | [], _, _, h => by simp at h
  | y :: l, 0, x, h => by simp at h; simp [h]
  | y :: l, k + 1, x, h => by simp at h; simp [set_same h]
theorem rwCells_setId {l : List Rw} {k : Nat} {x : Rw} (h : l[k]? = some x) (id : Int) : (rwCells l).set (k * 2) (.int .i64 id) = rwCells (l.set k { x with id := id }) := by
  have h1 := rwCells_set l k { x with id := id } x h
  have h2 := flat_get Rw.cells 2 (fun _ => rfl) l k 1 x (by omega) h
  have h3 : ((rwCells l).set (k * 2) (.int .i64 id))[k * 2 + 1]? = some (.slice x.A x.n x.c) := by
    rw [List.getElem?_set_ne (by omega)]
    exact h2
  rw [← h1]
  exact (set_same h3).symm
theorem rwCells_setVs {l : List Rw} {k : Nat} {x : Rw} (h : l[k]? = some x) (A : Option Addr) (n c : Nat) (vs : List Vl) : (rwCells l).set (k * 2 + 1) (.slice A n c) = rwCells (l.set k ⟨x.id, A, n, c, vs⟩) := by
  have h1 := rwCells_set l k ⟨x.id, A, n, c, vs⟩ x h
  have h2 := flat_get Rw.cells 2 (fun _ => rfl) l k 0 x (by omega) h
  rw [← h1]
  congr 1
  rw [Nat.add_zero] at h2
  exact (set_same h2).symm
end Go.Proofs.YtljmclbedpceoaaDoor

namespace Go.Proofs.YtljmclbedpceoaaDoor
open Go.RowKit
set_option linter.unusedVariables false
set_option linter.unusedSimpArgs false

/-- Some value, drawn, its numbers Go's. -/
def DrawnO2 (w : World) (T : Nat) (e : Ending) (w' : World) : Prop :=
  ∃ (k i : Int) (s : ByteArray), e = .returned (.agg #[.int .i64 k, .int .i64 i, .string s]) ∧ (s.size ≤ 100 ∧ I64 k ∧ I64 i) ∧ Tp w' T ∧ w.grownBy w' (some T)
theorem validB_k2 {k i : Int} {s : ByteArray} (h : validB k i s = true) : I64 k := by
  unfold validB at h
  unfold I64
  split at h
  · omega
  · split at h
    · omega
    · split at h
      · omega
      · split at h
        · omega
        · cases h
theorem i64_wrap64 (x : Int) : I64 (wrap64 x) := by
  unfold I64 wrap64
  omega

/-- The state of Odd's walk: the value's box V, the result's box R. -/
structure OddSt (w : World) (T V R : Nat) (wr : World) (k i : Int) (s : ByteArray) : Prop where
  bv : Blk wr V 66 #[.int .i64 k, .int .i64 i, .string s]
  br : Blk wr R 66 #[.int .i64 0, .int .i64 0, .string ⟨#[]⟩]
  tp : Tp wr T
  gr : w.grownBy wr (some T)
  hi : I64 i
  hs : s.size ≤ 100

theorem OddSt.grown {w : World} {T V R : Nat} {wr w' : World} {k i : Int} {s : ByteArray} (h : OddSt w T V R wr k i s) (hV : T < V) (hR : T < R) (t : Tp w' T) (g : wr.grownBy w' (some T)) : OddSt w T V R w' k i s :=
  ⟨h.bv.grown g (by intro e; injection e with e; omega), h.br.grown g (by intro e; injection e with e; omega), t, only_trans h.gr g, h.hi, h.hs⟩

theorem OddSt.drew {w : World} {T V R : Nat} {wr : World} {k i : Int} {s : ByteArray} (h : OddSt w T V R wr k i s) : OddSt w T V R wr.drew k i s := ⟨h.bv, h.br, h.tp, only_drew h.gr, h.hi, h.hs⟩
theorem drawnO_mk {w w1 : World} {T g : Nat} {k i : Int} {s : ByteArray} (hk : I64 k) (hi : I64 i) (hs : s.size ≤ 100) (t1 : Tp w1 T) (hTg : T < g) (g1 : w.grownBy w1 (some T)) (hg : w.heap.size ≤ g) :
    DrawnO2 w T (.returned (.agg #[.int .i64 k, .int .i64 i, .string s])) (((w1.setCell ⟨g, 0, none⟩ (.int .i64 k)).setCell ⟨g, 1, none⟩ (.int .i64 i)).setCell ⟨g, 2, none⟩ (.string s)) :=
  ⟨k, i, s, rfl, ⟨hs, hk, hi⟩, tp_set3 t1 hTg _ _ _, only_set3 g1 hg _ _ _⟩

theorem DrawnO2.alloc {w w' : World} {T : Nat} {e : Ending} (h : DrawnO2 w T e w') (o : Obj) : DrawnO2 w T e (w'.alloc o) := by
  obtain ⟨k, i, s, h1, h2, h3, h4⟩ := h
  exact ⟨k, i, s, h1, h2, h3.alloc o, only_alloc h4 o⟩
theorem conv1 (W : World) (x : Int) : (convert 128 9 (.slice (some ⟨W.heap.size, 0, none⟩) 1 1)).run Tryd.prog (W.alloc (.cells #[.int .u8 x] 5)) = .ok (.string (strOfNums [x])) (W.alloc (.cells #[.int .u8 x] 5)) :=
  run_convert_bytes_arg _ _ _ Tryd.underlying128 Tryd.underlying5 W.heap.size 0 1 1 [x] rfl (fun i hi => by
    obtain rfl : i = 0 := by omega
    exact (Blk.new W 5 #[.int .u8 x]).cell 0) _ Tryd.underlying9

set_option maxHeartbeats 2000000 in
theorem odd2_any (T : Nat) (w : World) (ht : Tp w T) (hw : Wds w) (hT : 1 < T) :
    Calls Tryd.prog 68 #[.pointer (some ⟨T, 0, none⟩)] w fun e w' => DrawnO2 w T e w' := by
  have hlt := ht.lt
  have B0 := Blk.new w 66 #[.int .i64 0, .int .i64 0, .string ⟨#[]⟩]
  have t0 := ht.alloc (.cells #[.int .i64 0, .int .i64 0, .string ⟨#[]⟩] 66)
  have g0 : w.grownBy (w.alloc (.cells #[.int .i64 0, .int .i64 0, .string ⟨#[]⟩] 66)) (some T) := only_alloc (World.grownBy.refl _ _) _
  have w0 : Wds (w.alloc (.cells #[.int .i64 0, .int .i64 0, .string ⟨#[]⟩] 66)) := hw.grown g0 (by intro e; injection e with e; omega)
  go_enter Tryd.func68, Tryd.ntmps68
  go_wp2_with fail
  refine (value_any T _ t0 w0 hT).mono ?_
  rintro e w1 ⟨k, i, s, rfl, hv, hs, hi, t1, _, g1⟩
  have B1 := B0.grown g1 (by intro e; injection e with e; omega)
  have V1 := Blk.new w1 66 #[.int .i64 k, .int .i64 i, .string s]
  have R1 := B1.alloc (.cells #[.int .i64 k, .int .i64 i, .string s] 66)
  have t2 := t1.alloc (.cells #[.int .i64 k, .int .i64 i, .string s] 66)
  have g2 := only_alloc (only_trans g0 g1) (.cells #[.int .i64 k, .int .i64 i, .string s] 66)
  have hRV : w.heap.size < w1.heap.size := B1.lt
  have HK := hid (validB_k2 hv)
  have HI := hid hi
  clear hv w0 t0 B0 g0 g1 B1 t1
  go_wp2_with fail
  refine (next_any T 5 _ t2 (by omega) (by omega)).mono ?_
  rintro e w2 ⟨x, rfl, x0, x1, t3, g3⟩
  have hTV : T < w1.heap.size := by omega
  have V2 := V1.grown g3 (by intro e; injection e with e; omega)
  have R2 := R1.grown g3 (by intro e; injection e with e; omega)
  have g4 := only_trans g2 g3
  have ST : OddSt w T w1.heap.size w.heap.size w2 k i s := ⟨V2, R2, t3, g4, hi, by omega⟩
  clear V1 R1 t2 g2 g3 V2 R2 t3 g4
  obtain ⟨V, hV⟩ : ∃ V, V = w1.heap.size := ⟨_, rfl⟩
  rw [← hV] at ST hRV hTV ⊢
  clear hV
  have hcase : x = 0 ∨ x = 1 ∨ x = 2 ∨ x = 3 ∨ x = 4 := by omega
  rcases hcase with rfl | rfl | rfl | rfl | rfl
  · go_wp2_with fail
    refine (next_any T 7 _ ST.tp (by omega) (by omega)).mono ?_
    rintro e w3 ⟨y, rfl, y0, y1, t3, g3⟩
    have S3 := ST.grown hTV hlt t3 g3
    obtain ⟨c0, c1, c2, cl⟩ := S3.bv.c3
    obtain ⟨r0, r1, r2, rl⟩ := S3.br.c3
    have f0 := S3.bv.frozen 0; have f1 := S3.bv.frozen 1; have f2 := S3.bv.frozen 2
    have q0 := S3.br.frozen 0; have q1 := S3.br.frozen 1; have q2 := S3.br.frozen 2
    go_wp2
    exact bodyPost_ret (v := .agg #[.int .i64 (y - 2), .int .i64 i, .string s]) (by simp [results, Tryd.results68, go_sem, c0, c1, c2, r0, r1, r2]) rfl (drawnO_mk (by unfold I64; omega) HI.out S3.hs (Tp.setCell (p := ⟨V, 0, none⟩) S3.tp hTV _) hlt (only_setCell (p := ⟨V, 0, none⟩) S3.gr (.inr (Nat.le_of_lt hRV)) _) (Nat.le_refl _))
  · obtain ⟨c0, c1, c2, cl⟩ := ST.bv.c3
    obtain ⟨r0, r1, r2, rl⟩ := ST.br.c3
    have f0 := ST.bv.frozen 0; have f1 := ST.bv.frozen 1; have f2 := ST.bv.frozen 2
    have q0 := ST.br.frozen 0; have q1 := ST.br.frozen 1; have q2 := ST.br.frozen 2
    go_wp2
    have HJ := hid (i64_wrap64 (i + 1))
    generalize wrap64 (i + 1) = j at HJ ⊢
    exact bodyPost_ret (v := .agg #[.int .i64 k, .int .i64 j, .string s]) (by simp [results, Tryd.results68, go_sem, c0, c1, c2, r0, r1, r2]) rfl (drawnO_mk HK.out HJ.out ST.hs (Tp.setCell (p := ⟨V, 1, none⟩) ST.tp hTV _) hlt (only_setCell (p := ⟨V, 1, none⟩) ST.gr (.inr (Nat.le_of_lt hRV)) _) (Nat.le_refl _))
  · obtain ⟨c0, c1, c2, cl⟩ := ST.bv.c3
    obtain ⟨r0, r1, r2, rl⟩ := ST.br.c3
    have f0 := ST.bv.frozen 0; have f1 := ST.bv.frozen 1; have f2 := ST.bv.frozen 2
    have q0 := ST.br.frozen 0; have q1 := ST.br.frozen 1; have q2 := ST.br.frozen 2
    go_wp2_with fail
    have kc := conv1
    have hsz := ST.hs
    have hsb : ∀ y : Int, (s ++ strOfNums [y]).size ≤ 100 := fun y => by
      rw [ByteArray.size_append, strOfNums_size]; simp only [List.length_cons, List.length_nil]; omega
    have hss : ∀ x, (strOfNums [x]).size = 1 := fun x => strOfNums_size [x]
    go_region_with (first
      | (go_at_call 10; refine (next_any T 256 _ (Tp.drew ST.tp) (by omega) (by omega)).mono ?_; rintro e w3 ⟨y, rfl, y0, y1, t3, g3⟩; have S3 := OddSt.grown (OddSt.drew ST) hTV hlt t3 g3; obtain ⟨c30, c31, c32, c3l⟩ := S3.bv.c3; obtain ⟨r30, r31, r32, r3l⟩ := S3.br.c3; have f30 := S3.bv.frozen 2; have q30 := S3.br.frozen 0; have q31 := S3.br.frozen 1; have q32 := S3.br.frozen 2))
    all_goals
      go_wp2
      refine bodyPost_ret (v := .agg #[.int .i64 k, .int .i64 i, .string (s ++ strOfNums [y])]) (by simp [results, Tryd.results68, go_sem, c30, c31, c32, r30, r31, r32, c3l, r3l]) rfl ?_
      refine DrawnO2.alloc ?_ _
      exact drawnO_mk HK.out HI.out (hsb y) (Tp.setCell (p := ⟨V, 2, none⟩) S3.tp hTV _) hlt (only_setCell (p := ⟨V, 2, none⟩) S3.gr (.inr (Nat.le_of_lt hRV)) _) (Nat.le_refl _)
  · obtain ⟨c0, c1, c2, cl⟩ := ST.bv.c3
    obtain ⟨r0, r1, r2, rl⟩ := ST.br.c3
    have f0 := ST.bv.frozen 0; have f1 := ST.bv.frozen 1; have f2 := ST.bv.frozen 2
    have q0 := ST.br.frozen 0; have q1 := ST.br.frozen 1; have q2 := ST.br.frozen 2
    go_wp2_with fail
    have g5 := only_set3 ST.gr (Nat.le_of_lt hRV) (.int .i64 3) (.int .i64 0) (.string ⟨#[]⟩)
    have bv5 : Blk (((w2.setCell ⟨V, 0, none⟩ (.int .i64 3)).setCell ⟨V, 1, none⟩ (.int .i64 0)).setCell ⟨V, 2, none⟩ (.string ⟨#[]⟩)) V 66 #[.int .i64 3, .int .i64 0, .string ⟨#[]⟩] := by
      have := ((ST.bv.set_ 0 (.int .i64 3)).set_ 1 (.int .i64 0)).set_ 2 (.string ⟨#[]⟩)
      simpa using this
    have br5 : Blk (((w2.setCell ⟨V, 0, none⟩ (.int .i64 3)).setCell ⟨V, 1, none⟩ (.int .i64 0)).setCell ⟨V, 2, none⟩ (.string ⟨#[]⟩)) w.heap.size 66 #[.int .i64 0, .int .i64 0, .string ⟨#[]⟩] :=
      Blk.far (p := ⟨V, 2, none⟩) (Blk.far (p := ⟨V, 1, none⟩) (Blk.far (p := ⟨V, 0, none⟩) ST.br (Nat.ne_of_lt hRV) _) (Nat.ne_of_lt hRV) _) (Nat.ne_of_lt hRV) _
    have S5 : OddSt w T V w.heap.size _ 3 0 ⟨#[]⟩ := ⟨bv5, br5, tp_set3 ST.tp hTV _ _ _, g5, by unfold I64; omega, by decide⟩
    refine (next_any T 8 _ S5.tp (by omega) (by omega)).mono ?_
    rintro e w3 ⟨y, rfl, y0, y1, t3, g3⟩
    have S6 := OddSt.grown S5 hTV hlt t3 g3
    clear S5 bv5 br5 g5 c0 c1 c2 cl r0 r1 r2 rl f0 f1 f2 q0 q1 q2 ST g3 t3 hi
    go_wp2_with fail
    go_loopw [4] (fun j wr => ∃ (n : Nat) (s : ByteArray), j = .int .i64 n ∧ s.size + n ≤ 67 ∧ OddSt w T V w.heap.size wr 3 0 s) (fun j _ => (intOf j).toNat)
    case atStart => exact ⟨(60 + y).toNat, ⟨#[]⟩, by congr 1; omega, by simp [ByteArray.size]; omega, S6⟩
    case round =>
      obtain ⟨n, s, rfl, hsn, SS⟩ := hrel
      obtain ⟨c0, c1, c2, cl⟩ := SS.bv.c3
      obtain ⟨r0, r1, r2, rl⟩ := SS.br.c3
      have f0 := SS.bv.frozen 0; have f1 := SS.bv.frozen 1; have f2 := SS.bv.frozen 2
      have q0 := SS.br.frozen 0; have q1 := SS.br.frozen 1; have q2 := SS.br.frozen 2
      by_cases hn : 0 < n
      · obtain ⟨m, rfl⟩ : ∃ m, n = m + 1 := ⟨n - 1, by omega⟩
        have hbv := SS.bv.set_ 2 (.string (s ++ ⟨#[120]⟩))
        have hbr := SS.br.far (p := ⟨V, 2, none⟩) (Nat.ne_of_lt hRV) (.string (s ++ ⟨#[120]⟩))
        have hsz : (s ++ ⟨#[120]⟩ : ByteArray).size = s.size + 1 := by rw [ByteArray.size_append]; rfl
        have hS := hid (OddSt.mk (w := w) (T := T) (V := V) (R := w.heap.size) (k := 3) (i := 0) (s := s ++ ⟨#[120]⟩) (by simpa using hbv) hbr (Tp.setCell (p := ⟨V, 2, none⟩) SS.tp hTV _) (only_setCell (p := ⟨V, 2, none⟩) SS.gr (.inr (Nat.le_of_lt hRV)) _) SS.hi (by omega))
        have HZ := hid hsz
        clear hbv hbr hsz
        go_wp2_with fail
        refine ⟨⟨m, s ++ ⟨#[120]⟩, rfl, by have := HZ.out; omega, hS.out⟩, by simp [intOf]⟩
      · obtain rfl : n = 0 := by omega
        go_wp2
        refine bodyPost_ret (v := .agg #[.int .i64 3, .int .i64 0, .string s]) (by simp [results, Tryd.results68, go_sem, c0, c1, c2, r0, r1, r2]) rfl ?_
        exact drawnO_mk (by unfold I64; omega) (by unfold I64; omega) SS.hs SS.tp hlt SS.gr (Nat.le_refl _)
  · obtain ⟨c0, c1, c2, cl⟩ := ST.bv.c3
    obtain ⟨r0, r1, r2, rl⟩ := ST.br.c3
    have f0 := ST.bv.frozen 0; have f1 := ST.bv.frozen 1; have f2 := ST.bv.frozen 2
    have q0 := ST.br.frozen 0; have q1 := ST.br.frozen 1; have q2 := ST.br.frozen 2
    go_wp2
    exact bodyPost_ret (v := .agg #[.int .i64 k, .int .i64 i, .string s]) (by simp [results, Tryd.results68, go_sem, c0, c1, c2, r0, r1, r2]) rfl (drawnO_mk HK.out HI.out ST.hs ST.tp hlt ST.gr (Nat.le_refl _))
end Go.Proofs.YtljmclbedpceoaaDoor

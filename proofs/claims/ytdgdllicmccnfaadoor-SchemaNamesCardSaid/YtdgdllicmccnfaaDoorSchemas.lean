/- The contract of the world's schemas. -/
import Derived.Test.YtdgdllicmccnfaaDoorSchFind
namespace Go.Proofs.YtdgdllicmccnfaaDoor
open Go.RowKit
set_option linter.unusedVariables false
set_option linter.unusedSimpArgs false

def nmId : ByteArray := ⟨#[105, 100]⟩
def nmN : ByteArray := ⟨#[110]⟩
def nmS : ByteArray := ⟨#[115]⟩
def nmB : ByteArray := ⟨#[98]⟩
def nmM : ByteArray := ⟨#[109]⟩
def nmT : ByteArray := ⟨#[116]⟩
def nmU : ByteArray := ⟨#[117]⟩
def nmLog : ByteArray := ⟨#[108, 111, 103]⟩
def logCols : List Col := [⟨nmN, 1, false, false⟩, ⟨nmS, 3, false, false⟩]
def tCols : List Col := [⟨nmId, 1, true, true⟩, ⟨nmN, 1, false, false⟩, ⟨nmB, 2, false, false⟩, ⟨nmS, 3, false, false⟩]
def uCols : List Col := [⟨nmId, 1, true, true⟩, ⟨nmN, 1, true, false⟩, ⟨nmM, 1, false, false⟩]
/-- The schema of a name: its name and columns; of another name: none. -/
def schemaOf (s : ByteArray) : ByteArray × List Col :=
  if nmLog.toList == s.toList then (nmLog, logCols) else if nmT.toList == s.toList then (nmT, tCols) else if nmU.toList == s.toList then (nmU, uCols) else (⟨#[]⟩, [])

/-- What Schemas leaves. -/
def SchemasAre (w : World) (M : Nat → Prop) (e : Ending) (w' : World) : Prop :=
  ∃ (g g0 g1 g2 : Nat) (nl nt nu : ByteArray), nl = nmLog ∧ nt = nmT ∧ nu = nmU ∧ e = .returned (.slice (some ⟨g, 0, none⟩) 3 3) ∧ Below w.heap.size w w' ∧
    Ro w' M (fun w => w.heap[g]? = some (.cells #[.string nl, .slice (some ⟨g0, 0, none⟩) 2 2, .string nt, .slice (some ⟨g1, 0, none⟩) 4 4, .string nu, .slice (some ⟨g2, 0, none⟩) 3 3] 24 (0, 0))) ∧
    Ro w' M (SlR 4 (some ⟨g0, 0, none⟩) 2 (colCells logCols)) ∧ Ro w' M (SlR 4 (some ⟨g1, 0, none⟩) 4 (colCells tCols)) ∧ Ro w' M (SlR 4 (some ⟨g2, 0, none⟩) 3 (colCells uCols))

set_option maxHeartbeats 2000000 in
theorem schemas_any (M : Nat → Prop) (w : World) (hM : ∀ b, M b → b < w.heap.size) : Calls Tryd.prog 63 #[] w fun e w' => SchemasAre w M e w' := by
  have K0 := ((((Hold.start M w hM).alloc_cst (colCells logCols).toArray 35).alloc_cst (colCells tCols).toArray 35).alloc_cst (colCells uCols).toArray 35).alloc_cst
    #[.string nmLog, .slice (some ⟨w.heap.size, 0, none⟩) 2 2, .string nmT, .slice (some ⟨w.heap.size + 1, 0, none⟩) 4 4, .string nmU, .slice (some ⟨w.heap.size + 1 + 1, 0, none⟩) 3 3] 24
  simp only [World.size_alloc] at K0
  go_enter Tryd.func63, Tryd.ntmps63
  go_wp2
  go_ret
  refine ⟨w.heap.size + 1 + 1 + 1, w.heap.size, w.heap.size + 1, w.heap.size + 1 + 1, nmLog, nmT, nmU, rfl, rfl, rfl, rfl, K0.below, ?_, ?_, ?_, ?_⟩
  · exact Ro.less (K0.get 0 rfl) fun b hb => .inl hb
  · exact (ro_block (K0.get 3 rfl) (by rfl)).less fun b hb => .inl hb
  · exact (ro_block (K0.get 2 rfl) (by rfl)).less fun b hb => .inl hb
  · exact (ro_block (K0.get 1 rfl) (by rfl)).less fun b hb => .inl hb
end Go.Proofs.YtdgdllicmccnfaaDoor

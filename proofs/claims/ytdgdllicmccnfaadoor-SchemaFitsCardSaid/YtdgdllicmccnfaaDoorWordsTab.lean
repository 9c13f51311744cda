/- The table of words, as a row's condition lays it. -/
import Derived.Test.YtdgdllicmccnfaaDoorRows
import Derived.Test.YtdgdllicmccnfaaDoorStrTab
import Derived.Test.YtdgdllicmccnfaaDoorTape2
import Derived.Deep.DeepHandedRow
namespace Go.Proofs.YtdgdllicmccnfaaDoor
open Go.ChangeShapes Go.WideShapes Go.ChangeAt Go.RowKit
set_option linter.unusedVariables false
set_option linter.unusedSimpArgs false

theorem gWords : Tryd.prog.globalNamed "triggerstore/triggerstoreworld.words" = some 1 := by kernel_rfl
theorem gWordsType : (Tryd.prog.globals[1]?).map (·.type) = some 78 := by kernel_rfl
def wordBytes : List (List UInt8) := [[], [97], [98], [105, 116, 39, 115], [90, 32, 122], [126]]
theorem words_all : ∀ b ∈ wordBytes, (b.all okByte && decide (b.length ≤ 4)) = true := by decide

theorem wds_of_laid {W : World} {rest : List (String × DataW Unit)} (h : laidMet Tryd.prog (("triggerstore/triggerstoreworld.words", Rows.laid_triggerstore_triggerstoreworld_words) :: rest) W) : Wds W := by
  intro j hj
  obtain ⟨s, h1, h2, _⟩ := strs_of_head (bs := wordBytes) (rest := rest) gWords gWordsType Tryd.underlying78 Tryd.underlying9 (by kernel_rfl) h j hj
  have h3 := words_all _ (List.mem_of_getElem? h2)
  simp only [Bool.and_eq_true, decide_eq_true_eq] at h3
  have hs : s.size = s.data.toList.length := (Array.length_toList (xs := s.data)).symm
  refine ⟨s, h1, ?_, by omega⟩
  unfold plainB
  rw [h3.1, Bool.true_and, decide_eq_true_eq]
  omega

/-- A world for the witness of a row: the settled one, the table of words laid. -/
noncomputable def wordsWorld (os : Os) : World :=
  { World.holding Tryd.prog os ⟨#[], #[], []⟩ with heap := (World.holding Tryd.prog os ⟨#[], #[], []⟩).heap.modify 1 fun
      | .cells _ t frozen => .cells #[.string ⟨#[]⟩, .string ⟨#[97]⟩, .string ⟨#[98]⟩, .string ⟨#[105, 116, 39, 115]⟩, .string ⟨#[90, 32, 122]⟩, .string ⟨#[126]⟩] t frozen
      | o => o }
end Go.Proofs.YtdgdllicmccnfaaDoor

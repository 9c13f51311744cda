/- The table of names, as a row's condition lays it; a schema as an argument. -/
import Derived.Test.YtdgdllicmccnfaaDoorRows
import Derived.Test.YtdgdllicmccnfaaDoorStrTab
import Derived.Test.YtdgdllicmccnfaaDoorNameTab
import Derived.Test.YtdgdllicmccnfaaDoorOpens2
import Derived.Deep.DeepHandedRow
import Derived.ChangeMaps5
namespace Go.Proofs.YtdgdllicmccnfaaDoor
open Go.ChangeShapes Go.WideShapes Go.ChangeAt Go.RowKit Go.Joins
set_option linter.unusedVariables false
set_option linter.unusedSimpArgs false

theorem gNames : Tryd.prog.globalNamed "triggerstore/triggerstoreworld.names" = some 0 := by kernel_rfl
theorem gNamesType : (Tryd.prog.globals[0]?).map (·.type) = some 64 := by kernel_rfl
def nameBytes : List (List UInt8) := [[105, 100], [110], [109], [98], [115], [120], [97, 49, 95], [97, 98, 99, 100, 101, 102, 103, 104, 105, 106, 107, 108]]
theorem nameBytes_nm : ∀ i, i < 8 → nameBytes[i]? = some (nm_ i).data.toList := by decide +kernel

theorem nms_of_laid {W : World} {rest : List (String × DataW Unit)} (h : laidMet Tryd.prog (("triggerstore/triggerstoreworld.names", Rows.laid_triggerstore_triggerstoreworld_names) :: rest) W) : Nms W := by
  intro j hj
  obtain ⟨s, h1, h2, _⟩ := strs_of_head (bs := nameBytes) (rest := rest) gNames gNamesType Tryd.underlying64 Tryd.underlying9 (by kernel_rfl) h j hj
  rw [nameBytes_nm j hj] at h2
  injection h2 with h2
  have : s = nm_ j := ByteArray.ext (Array.toList_inj.1 h2.symm)
  rw [h1, this]

/-- A world for the witness of a row: the settled one, the table of names laid. -/
noncomputable def namesWorld (os : Os) : World :=
  { World.holding Tryd.prog os ⟨#[], #[], []⟩ with heap := (World.holding Tryd.prog os ⟨#[], #[], []⟩).heap.modify 0 fun
      | .cells _ t frozen => .cells #[.string ⟨#[105, 100]⟩, .string ⟨#[110]⟩, .string ⟨#[109]⟩, .string ⟨#[98]⟩, .string ⟨#[115]⟩, .string ⟨#[120]⟩, .string ⟨#[97, 49, 95]⟩, .string ⟨#[97, 98, 99, 100, 101, 102, 103, 104, 105, 106, 107, 108]⟩] t frozen
      | o => o }

section
variable {H : Type} {enc : TypeId × Value → H}
theorem open_schema {W : World} {r : Reach} {b0 : Nat} {v : Value} {d : DataW H} {p : List MemPlace}
    (hok : Value.okWide Tryd.prog W r b0 24 v) (h : DataW.Trod enc Tryd.prog W 0 (fun _ => true) true 24 v d p) :
    ∃ nm A n c l, v = .agg #[.string nm, .slice A n c] ∧ RdC W W.heap.size A n l ∧ (∀ k ∈ l, OkCol k) ∧ n ≤ c ∧ c ≤ maxLen ∧ nm.size ≤ maxLen := by
  obtain ⟨v0, v1, y0, y1, n, rfl, hd, hp, h0, h1⟩ := open_agg2 Tryd.underlying24 (by kernel_rfl) (by kernel_rfl) hok h
  obtain ⟨s, e0, _, w0⟩ := DataW.trod_string Tryd.underlying9 h0
  obtain ⟨A, m, c, l, e1, hr, hk, hm, hc⟩ := open_cols Tryd.underlying22 Tryd.underlying35 (by kernel_rfl) (by kernel_rfl) Tryd.underlying9 Tryd.underlying3 Tryd.underlying4 Tryd.underlying4 h1
  simp only [List.cons.injEq, and_true] at e0 e1
  subst e0 e1
  exact ⟨s, A, m, c, l, rfl, hr, hk, hm, hc, w0⟩
end
end Go.Proofs.YtdgdllicmccnfaaDoor

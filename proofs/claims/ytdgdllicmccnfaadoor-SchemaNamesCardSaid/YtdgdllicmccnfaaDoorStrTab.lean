/- A package-level table of strings that the row lists: what its cells hold. No program in sight. -/
import Derived.Test.YtdgdllicmccnfaaDoorMem
import Derived.ProofKit
import Derived.OpenShut
import Derived.Lib.LaidTab
namespace Go.Proofs.YtdgdllicmccnfaaDoor
open Go.ChangeShapes Go.WideShapes Go.ChangeAt Go.RowKit
set_option linter.unusedVariables false

theorem strs_of_head {P : Program} {W : World} {name : String} {bs : List (List UInt8)} {rest : List (String × DataW Unit)} {g : Nat} {t e : TypeId} {n : Nat}
    (hg : P.globalNamed name = some g) (hty : (P.globals[g]?).map (·.type) = some t) (ht : P.underlying t = some (.array n e)) (he : P.underlying e = some .string) (hce : P.cellsOf e = 1)
    (h : laidMet P ((name, .agg (bs.map fun b => .lit (.string b))) :: rest) W) : ∀ i, i < n → ∃ s : ByteArray, W.cell? ⟨g, i, none⟩ = some (.string s) ∧ bs[i]? = some s.data.toList ∧ s.size ≤ maxLen := by
  obtain ⟨ps, ⟨g', t', cs, fuel, p, q, hg', ht', hvar, hd, _, _⟩, _⟩ := h
  obtain rfl := Option.some.inj (hg.symm.trans hg')
  obtain rfl := Option.some.inj (hty.symm.trans ht')
  obtain ⟨xs, m, _, hx, hlen, hxl, hel⟩ := DataW.trod_array ht hd
  intro i hi
  have h1 := hel i hi
  rw [hce, Nat.mul_one] at h1
  have hxi : xs[i]? = some (xs[i]'(by omega)) := List.getElem?_eq_getElem (by omega)
  rw [hxi] at h1
  obtain ⟨s, hs, hv, hm⟩ := DataW.trod_string he h1
  refine ⟨s, ?_, ?_, hm⟩
  · have hc := World.var?_cell hg hvar i
    rw [hc]
    have : (cs.toList.drop i).take 1 = [.string s] := hs
    have h2 : cs.toList[i]? = some (.string s) := by
      have h3 : ((cs.toList.drop i).take 1)[0]? = some (.string s) := by rw [this]; rfl
      simpa using h3
    simpa using h2
  · have h4 : (xs.map (·.1))[i]? = some (xs[i]'(by omega)).1 := by simp [hxi]
    simp only [Prod.mk.injEq] at hx
    have h5 : (bs.map fun b => (DataW.lit (.string b) : DataW Unit)) = xs.map (·.1) := by
      have := hx.1; injection this
    rw [← h5, hv] at h4
    simp only [List.getElem?_map, Option.map_eq_some_iff] at h4
    obtain ⟨b, hb, hb2⟩ := h4
    injection hb2 with hb3
    injection hb3 with hb4
    rw [hb, hb4]
end Go.Proofs.YtdgdllicmccnfaaDoor

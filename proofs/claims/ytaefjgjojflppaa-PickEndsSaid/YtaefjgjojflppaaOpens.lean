/- Arguments opened to the words for memory: slices of 64-bit integers. No program in sight. -/
import Derived.Test.YtaefjgjojflppaaShell
import Derived.Test.YtaefjgjojflppaaMem
import Derived.SizedLaws
namespace Go.Proofs.Ytaefjgjojflppaa
open Go.ChangeShapes Go.WideShapes Go.ChangeAt Go.RowKit
set_option linter.unusedVariables false
section
variable {H : Type} {enc : TypeId × Value → H} {P : Program}
theorem i64_wf {x : Int} (h : (Lit.int .i64 x).wf = true) : I64 x := by
  simp [Lit.wf, IntKind.min, IntKind.max, IntKind.signed, IntKind.bits] at h
  exact ⟨by omega, by omega⟩

theorem open_i64s {t e : TypeId} {W : World} {r : Reach} {b0 : Nat} {v : Value} {d : DataW H} {p : List MemPlace} (ht : P.underlying t = some (.slice e)) (he : P.underlying e = some (.int .i64)) (hc : P.cellsOf e = 1)
    (hok : Value.okWide P W r b0 t v) (h : DataW.Trod enc P W 0 (fun _ => true) true t v d p) :
    ∃ A n c zs, v = .slice A n c ∧ Rd W W.heap.size 1 A n (zs.map (Value.int .i64)) ∧ Ints zs ∧ n ≤ c ∧ c ≤ maxLen ∧ ((d = .nil ∧ n = 0) ∨ ∃ el sp, d = .slice el sp ∧ el.length + sp.length = c) := by
  obtain ⟨A, n, c, rfl⟩ := okWide_slice ht hok
  obtain ⟨fuel, hf⟩ := h
  rcases open_ints ht he hc (by simpa [Value.cells] using hf) with ⟨hcs, hx⟩ | ⟨a, len, cap, zs, hcs, _, hl, hm, hz, hx, hcell, hwz⟩
  · simp at hcs; obtain ⟨rfl, rfl, rfl⟩ := hcs
    simp only [Prod.mk.injEq] at hx
    exact ⟨none, 0, 0, [], rfl, Rd.none_, fun _ h => (nomatch h), Nat.le_refl _, Nat.zero_le _, .inl ⟨hx.1, rfl⟩⟩
  · simp at hcs; obtain ⟨rfl, rfl, rfl⟩ := hcs
    simp only [if_true] at hz
    simp only [Prod.mk.injEq] at hx
    refine ⟨some a, n, c, zs.take n, rfl, ⟨by simp [hz]; omega, fun hn => ?_⟩, fun x hx => i64_wf (hwz x (List.mem_of_mem_take hx)), hl, hm, .inr ⟨_, _, hx.1, by simp [lits, hz]; omega⟩⟩
    obtain ⟨b, off, rfl, hcc⟩ := ints_at hcell (by omega)
    refine ⟨b, off, rfl, World.block_lt_of_cell? W ⟨b, off + 0, none⟩ (hcc 0 (by omega)), fun j u hu => ?_⟩
    have hj : j < n := by have := (List.getElem?_eq_some_iff.1 hu).1; simp [hz] at this; omega
    rw [hcc j (by omega)]
    rw [← hu]
    simp [List.getElem?_take_of_lt hj, List.getD, show j < zs.length by omega]

/-- The reach, of a slice argument. -/
theorem reach_slice {ts : List TypeId} {ds : List (DataW H)} (h : (DataW.weightsEach P ts ds).all (· ≤ reachBytes) = true) {j : Nat} {t e : TypeId} {d : DataW H} {n c by_ : Nat} (ht : ts[j]? = some t) (hd : ds[j]? = some d) (hu : P.underlying t = some (.slice e)) (hb : P.bytesOf e = by_)
    (hd2 : (d = .nil ∧ n = 0) ∨ ∃ el sp, d = .slice el sp ∧ el.length + sp.length = c) (hn : n ≤ c) : n * by_ ≤ 140737488351232 := by
  rcases hd2 with ⟨_, rfl⟩ | ⟨el, sp, rfl, hl⟩
  · simp
  · have := sized_slice h ht hd hu
    rw [hl, hb] at this
    simp only [reachBytes] at this
    exact Nat.le_trans (Nat.mul_le_mul_right _ hn) this
end
end Go.Proofs.Ytaefjgjojflppaa

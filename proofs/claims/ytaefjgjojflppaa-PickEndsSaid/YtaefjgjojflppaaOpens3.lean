/- Arguments opened: slices of structs, whatever the struct. No program in sight. -/
import Derived.Test.YtaefjgjojflppaaOpens
import Derived.Test.YtaefjgjojflppaaElig
import Derived.Deep.Slices
import Derived.Deep.Fields
import Derived.ChangeSame
import Derived.Lib.SmallJoins
namespace Go.Proofs.Ytaefjgjojflppaa
open Go.Joins Go.ChangeShapes Go.WideShapes Go.ChangeAt Go.RowKit Go.Deep
set_option linter.unusedVariables false
section
variable {H : Type} {enc : TypeId × Value → H} {P : Program} {w : World} {base : Nat} {spare : Nat → Bool} {held : Bool}
theorem open_slice_fields {t e : TypeId} {fs : Array Field} {fuel : Nat} {cs : List Value} {x : DataW H × List MemPlace} (ht : P.underlying t = some (.slice e)) (he : P.underlying e = some (.struct fs))
    (hone : oneCellFields P fs = true) (hC : P.cellsOf e = fs.size) (h : DataW.trod enc P w base spare held fuel t cs = some x) :
    (cs = [.slice none 0 0] ∧ x = (.nil, [])) ∨
    ∃ (a : Addr) (len cap m : Nat) (D : Nat → DataW H) (Pl : Nat → List MemPlace), cs = [.slice (some a) len cap] ∧ base ≤ a.block ∧ len ≤ cap ∧ cap ≤ maxLen ∧ m = (if spare a.block then cap else len) ∧
      x = (.slice ((List.range len).map D) ((List.range (m - len)).map fun j => D (len + j)), MemPlace.row a (m * fs.size) ++ (List.range m).flatMap Pl) ∧
      ∀ i, i < m → ∃ (ys : List (DataW H × List MemPlace)) (n : Nat), D i = .agg (ys.map (·.1)) ∧ Pl i = ys.flatMap (·.2) ∧ ys.length = fs.size ∧
        ∀ (j : Nat) (f : Field), fs[j]? = some f → ∃ (v : Value) (y : DataW H × List MemPlace), w.cell? (a.add (i * fs.size + j)) = some v ∧ ys[j]? = some y ∧ DataW.trod enc P w base spare held n f.type [v] = some y := by
  rcases open_slice ht h with h0 | ⟨a, len, cap, m, n, D, Pl, hcs, hb, hl, hm, hmm, hx, hi⟩
  · exact .inl h0
  · refine .inr ⟨a, len, cap, m, D, Pl, hcs, hb, hl, hm, hmm, by rw [hC] at hx; exact hx, fun i him => ?_⟩
    obtain ⟨cs', hc, ht'⟩ := hi i him
    rw [hC] at hc
    obtain ⟨ys, n', hn', hy, hlen, hyl, hf⟩ := DataW.trod_struct he ht'
    obtain ⟨_, hcl, hat⟩ := World.cells?_some hc
    simp only [Prod.mk.injEq] at hy
    refine ⟨ys, n', hy.1, hy.2, hyl, fun j f hj => ?_⟩
    obtain ⟨ho, hk⟩ := hone_of hone j f hj
    have hjl : j < fs.size := (Array.getElem?_eq_some_iff.1 hj).1
    have hcell := hat j hjl
    have hv : cs'[j]? = some (cs'[j]'(by omega)) := List.getElem?_eq_getElem (by omega)
    have h1 := hf j f hj
    rw [ho, hk] at h1
    have hone' : (cs'.drop j).take 1 = [cs'[j]'(by omega)] := by
      rw [List.drop_eq_getElem_cons (by omega)]
      rfl
    rw [hone'] at h1
    have hys : ys[j]? = some (ys[j]'(by omega)) := List.getElem?_eq_getElem (by omega)
    refine ⟨_, _, ?_, hys, h1.trans hys⟩
    rw [← Go.Deep.add_add, hcell, hv]
end
section
variable {H : Type} {enc : TypeId × Value → H} {P : Program}
theorem trod_slice_form {t e : TypeId} {W : World} {fuel : Nat} {v : Value} {x : DataW H × List MemPlace} (ht : P.underlying t = some (.slice e)) (h : DataW.trod enc P W 0 (fun _ => true) true fuel t [v] = some x) : ∃ A n c, v = .slice A n c := by
  rcases open_slice ht h with ⟨h0, _⟩ | ⟨a, len, cap, m, n, D, Pl, hcs, _⟩
  · exact ⟨none, 0, 0, by simpa using h0⟩
  · exact ⟨_, _, _, by simpa using hcs⟩
theorem open_structs {α : Type} (dflt : α) (cel : α → List Value) (Ok : α → Prop) {k : Nat} (hk : 0 < k) (hcl : ∀ x, (cel x).length = k) {t e : TypeId} {W : World} {fuel : Nat} {cs : List Value} {x : DataW H × List MemPlace} {fs : Array Field} (ht : P.underlying t = some (.slice e)) (he : P.underlying e = some (.struct fs))
    (hone : oneCellFields P fs = true) (hC : P.cellsOf e = fs.size) (hfs : fs.size = k)
    (hrow : ∀ vs : Nat → Value, (∀ (j : Nat) (f : Field), fs[j]? = some f → ∃ n y, DataW.trod enc P W 0 (fun _ => true) true n f.type [vs j] = some y) → ∃ x, Ok x ∧ ∀ j, j < k → (cel x)[j]? = some (vs j))
    (h : DataW.trod enc P W 0 (fun _ => true) true fuel t cs = some x) :
    ∃ (A : Option Addr) (n c : Nat) (l : List α), cs = [.slice A n c] ∧ Rd W W.heap.size k A n (l.flatMap cel) ∧ (∀ z ∈ l, Ok z) ∧ n ≤ c ∧ c ≤ maxLen ∧ ((x.1 = .nil ∧ n = 0) ∨ ∃ el sp, x.1 = .slice el sp ∧ el.length + sp.length = c) := by
  rcases open_slice_fields ht he hone hC h with ⟨rfl, rfl⟩ | ⟨a, len, cap, m, D, Pl, rfl, _, hl, hm, hmm, rfl, hi⟩
  · exact ⟨none, 0, 0, [], rfl, Rd.none_, fun _ h => (nomatch h), Nat.le_refl _, Nat.zero_le _, .inl ⟨rfl, rfl⟩⟩
  · simp only [if_true] at hmm
    subst hmm
    have hcol : ∀ i, i < m → ∃ z : α, Ok z ∧ ∀ j, j < k → W.cell? (a.add (i * k + j)) = (cel z)[j]? := by
      intro i hi'
      obtain ⟨ys, nn, _, _, _, hf⟩ := hi i hi'
      obtain ⟨z, hz, hzc⟩ := hrow (fun j => (W.cell? (a.add (i * k + j))).getD undef) (fun j f hj => by
        obtain ⟨v, y, c0, _, h0⟩ := hf j f hj
        rw [hfs] at c0
        exact ⟨nn, y, by simp only [c0, Option.getD_some]; exact h0⟩)
      refine ⟨z, hz, fun j hj => ?_⟩
      obtain ⟨v, y, c0, _, _⟩ := hf j (fs[j]'(by omega)) (by simp)
      rw [hfs] at c0
      rw [hzc j hj, c0]; rfl
    obtain ⟨F, hF⟩ : ∃ F : Nat → α, ∀ i, i < m → Ok (F i) ∧ ∀ j, j < k → W.cell? (a.add (i * k + j)) = (cel (F i))[j]? := by
      refine ⟨fun i => if h : i < m then Classical.choose (hcol i h) else dflt, fun i hi => ?_⟩
      simp only [hi, dif_pos]
      exact Classical.choose_spec (hcol i hi)
    refine ⟨some a, len, m, (List.range len).map F, rfl, ⟨by rw [flat_len cel k hcl]; simp, fun hn => ?_⟩, fun z hz => ?_, hl, hm, .inr ⟨_, _, rfl, by simp; omega⟩⟩
    · obtain ⟨b, off, spot⟩ := a
      have h0 : ∃ u, W.cell? ((⟨b, off, spot⟩ : Addr).add (0 * k + 0)) = some u := by
        rw [(hF 0 (by omega)).2 0 hk]
        exact ⟨_, List.getElem?_eq_getElem (by rw [hcl]; exact hk)⟩
      obtain ⟨u0, hu0⟩ := h0
      have hspot : spot = none := by simpa [Addr.add] using World.cell?_spot hu0
      subst hspot
      refine ⟨b, off, rfl, World.block_lt_of_cell? W ⟨b, off, none⟩ (by simpa [Addr.add] using hu0), fun j u hu => ?_⟩
      obtain ⟨z, hz, hzu⟩ := flat_inv cel k hk hcl _ j u hu
      have hj : j / k < len := by have := (List.getElem?_eq_some_iff.1 hz).1; simpa using this
      simp only [List.getElem?_map, List.getElem?_range hj, Option.map_some, Option.some.injEq] at hz
      subst hz
      rw [← Go.WideShapes.add_plain]
      have hjd : j = j / k * k + j % k := by rw [Nat.mul_comm]; exact (Nat.div_add_mod j k).symm
      rw [hjd, (hF (j / k) (by omega)).2 (j % k) (Nat.mod_lt _ hk)]
      exact hzu
    · simp only [List.mem_map, List.mem_range] at hz
      obtain ⟨i, hi', rfl⟩ := hz
      exact (hF i (by omega)).1

theorem open_items {t e : TypeId} {W : World} {r : Reach} {b0 : Nat} {v : Value} {d : DataW H} {p : List MemPlace} {f0 f1 f2 f3 : Field} {e2 e3 : TypeId} (ht : P.underlying t = some (.slice e)) (he : P.underlying e = some (.struct #[f0, f1, f2, f3]))
    (hone : oneCellFields P #[f0, f1, f2, f3] = true) (hC : P.cellsOf e = 4)
    (u0 : P.underlying f0.type = some .string) (u1 : P.underlying f1.type = some (.int .i64)) (u2 : P.underlying f2.type = some (.slice e2)) (u3 : P.underlying f3.type = some (.slice e3))
    (hok : Value.okWide P W r b0 t v) (h : DataW.Trod enc P W 0 (fun _ => true) true t v d p) :
    ∃ A n c its, v = .slice A n c ∧ ItsIn A n its W ∧ n ≤ c ∧ c ≤ maxLen := by
  obtain ⟨A0, n0, c0, rfl⟩ := okWide_slice ht hok
  obtain ⟨fuel, hf⟩ := h
  obtain ⟨A, n, c, l, hcs, hr, _, hn, hc, _⟩ := open_structs (α := It) ⟨⟨#[]⟩, 0, none, 0, 0, none, 0, 0⟩ It.cells (fun _ => True) (k := 4) (by omega) (fun _ => rfl) ht he hone hC rfl (fun vs hv => by
    obtain ⟨_, _, h0⟩ := hv 0 f0 rfl
    obtain ⟨_, _, h1⟩ := hv 1 f1 rfl
    obtain ⟨_, _, h2⟩ := hv 2 f2 rfl
    obtain ⟨_, _, h3⟩ := hv 3 f3 rfl
    obtain ⟨s, e0, _, w0⟩ := DataW.trod_string u0 h0
    obtain ⟨k, e1, _, w1⟩ := DataW.trod_int u1 h1
    obtain ⟨oa, on, oc, e2⟩ := trod_slice_form u2 h2
    obtain ⟨na, nn, nc, e3⟩ := trod_slice_form u3 h3
    simp only [List.cons.injEq, and_true] at e0 e1
    refine ⟨⟨s, k, oa, on, oc, na, nn, nc⟩, trivial, fun j hj => ?_⟩
    match j, hj with
    | 0, _ => simp [It.cells, e0]
    | 1, _ => simp [It.cells, e1]
    | 2, _ => simp [It.cells, e2]
    | 3, _ => simp [It.cells, e3]) (by simpa [Value.cells] using hf)
  simp only [List.cons.injEq, Value.slice.injEq, and_true] at hcs
  obtain ⟨rfl, rfl, rfl⟩ := hcs
  exact ⟨_, _, _, l, rfl, hr, hn, hc⟩
theorem open_links {t e : TypeId} {W : World} {r : Reach} {b0 : Nat} {v : Value} {d : DataW H} {p : List MemPlace} {f0 f1 : Field} (ht : P.underlying t = some (.slice e)) (he : P.underlying e = some (.struct #[f0, f1]))
    (hone : oneCellFields P #[f0, f1] = true) (hC : P.cellsOf e = 2)
    (u0 : P.underlying f0.type = some .string) (u1 : P.underlying f1.type = some .string)
    (hok : Value.okWide P W r b0 t v) (h : DataW.Trod enc P W 0 (fun _ => true) true t v d p) :
    ∃ A n c l, v = .slice A n c ∧ LksIn A n l W ∧ n ≤ c ∧ c ≤ maxLen := by
  obtain ⟨A0, n0, c0, rfl⟩ := okWide_slice ht hok
  obtain ⟨fuel, hf⟩ := h
  obtain ⟨A, n, c, l, hcs, hr, _, hn, hc, _⟩ := open_structs (α := Lk) ⟨⟨#[]⟩, ⟨#[]⟩⟩ Lk.cells (fun _ => True) (k := 2) (by omega) (fun _ => rfl) ht he hone hC rfl (fun vs hv => by
    obtain ⟨_, _, h0⟩ := hv 0 f0 rfl
    obtain ⟨_, _, h1⟩ := hv 1 f1 rfl
    obtain ⟨s, e0, _, w0⟩ := DataW.trod_string u0 h0
    obtain ⟨s', e1, _, w1⟩ := DataW.trod_string u1 h1
    simp only [List.cons.injEq, and_true] at e0 e1
    refine ⟨⟨s, s'⟩, trivial, fun j hj => ?_⟩
    match j, hj with
    | 0, _ => simp [Lk.cells, e0]
    | 1, _ => simp [Lk.cells, e1]) (by simpa [Value.cells] using hf)
  simp only [List.cons.injEq, Value.slice.injEq, and_true] at hcs
  obtain ⟨rfl, rfl, rfl⟩ := hcs
  exact ⟨_, _, _, l, rfl, hr, hn, hc⟩
end
end Go.Proofs.Ytaefjgjojflppaa

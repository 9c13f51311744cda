/- Arguments opened: a value, a column, a slice of columns. No program in sight. (open_slice_fields: the block of howto/extra-structs.md.) -/
import Derived.Test.YtdgdllicmccnfaaDoorOpens
import Derived.Test.YtdgdllicmccnfaaDoorCols
import Derived.Deep.Slices
import Derived.Deep.Fields
import Derived.ChangeSame
import Derived.Lib.SmallJoins
namespace Go.Proofs.YtdgdllicmccnfaaDoor
open Go.Joins Go.ChangeShapes Go.WideShapes Go.ChangeAt Go.RowKit Go.Deep
set_option linter.unusedVariables false
section
variable {H : Type} {enc : TypeId × Value → H} {P : Program} {w : World} {base : Nat} {spare : Nat → Bool} {held : Bool}
theorem open_slice_fields {t e : TypeId} {fs : Array Field} {fuel : Nat} {cs : List Value} {x : DataW H × List MemPlace} (ht : P.underlying t = some (.slice e)) (he : P.underlying e = some (.struct fs))
    (hone : oneCellFields P fs = true) (hC : P.cellsOf e = fs.size) (h : DataW.trod enc P w base spare held fuel t cs = some x) :
    (cs = [.slice none 0 0] ∧ x = (.nil, [])) ∨
    ∃ (a : Addr) (len cap m : Nat) (D : Nat → DataW H) (Pl : Nat → List MemPlace), cs = [.slice (some a) len cap] ∧ base ≤ a.block ∧ len ≤ cap ∧ cap ≤ maxLen ∧ m = (if spare a.block then cap else len) ∧
      x = (.slice ((List.range len).map D) ((List.range (m - len)).map fun j => D (len + j)), MemPlace.row a (m * fs.size) ++ (List.range m).flatMap Pl) ∧
      ∀ i, i < m → ∃ (ys : List (DataW H × List MemPlace)) (n : Nat), D i = .agg (ys.map (·.1)) ∧ Pl i = ys.flatMap (·.2) ∧ ys.length = fs.size ∧
        ∀ (j : Nat) (f : Field), fs[j]? = some f → ∃ (v : Value) (y : DataW H × List MemPlace), w.cell? (a.add (i * fs.size + j)) = some v ∧ ys[j]? = some y ∧ DataW.trod enc P w base spare held n f.type [v] = some y := by
  rcases open_slice ht h with h0 | ⟨a, len, cap, m, n, D, Pl, hcs, hb, hl, hm, hmm, hx, hi⟩
  · exact .inl h0
  · refine .inr ⟨a, len, cap, m, D, Pl, hcs, hb, hl, hm, hmm, by rw [hC] at hx; exact hx, fun i him => ?_⟩
    obtain ⟨cs', hc, ht'⟩ := hi i him
    rw [hC] at hc
    obtain ⟨ys, n', hn', hy, hlen, hyl, hf⟩ := DataW.trod_struct he ht'
    obtain ⟨_, hcl, hat⟩ := World.cells?_some hc
    simp only [Prod.mk.injEq] at hy
    refine ⟨ys, n', hy.1, hy.2, hyl, fun j f hj => ?_⟩
    obtain ⟨ho, hk⟩ := hone_of hone j f hj
    have hjl : j < fs.size := (Array.getElem?_eq_some_iff.1 hj).1
    have hcell := hat j hjl
    have hv : cs'[j]? = some (cs'[j]'(by omega)) := List.getElem?_eq_getElem (by omega)
    have h1 := hf j f hj
    rw [ho, hk] at h1
    have hone' : (cs'.drop j).take 1 = [cs'[j]'(by omega)] := by
      rw [List.drop_eq_getElem_cons (by omega)]
      rfl
    rw [hone'] at h1
    have hys : ys[j]? = some (ys[j]'(by omega)) := List.getElem?_eq_getElem (by omega)
    refine ⟨_, _, ?_, hys, h1.trans hys⟩
    rw [← Go.Deep.add_add, hcell, hv]
end

section
variable {H : Type} {enc : TypeId × Value → H} {P : Program}
theorem open_vl {t : TypeId} {W : World} {r : Reach} {b0 : Nat} {v : Value} {d : DataW H} {p : List MemPlace} {f0 f1 f2 : Field} (hs : P.underlying t = some (.struct #[f0, f1, f2])) (hone : oneCellFields P #[f0, f1, f2] = true) (hC : P.cellsOf t = 3)
    (u0 : P.underlying f0.type = some (.int .i64)) (u1 : P.underlying f1.type = some (.int .i64)) (u2 : P.underlying f2.type = some .string)
    (hok : Value.okWide P W r b0 t v) (h : DataW.Trod enc P W 0 (fun _ => true) true t v d p) :
    ∃ k i s, v = .agg #[.int .i64 k, .int .i64 i, .string s] ∧ I64 k ∧ I64 i ∧ s.size ≤ maxLen := by
  obtain ⟨v0, v1, v2, y0, y1, y2, n, rfl, hd, hp, h0, h1, h2⟩ := open_agg3 hs hone hC hok h
  obtain ⟨k, e0, _, w0⟩ := DataW.trod_int u0 h0
  obtain ⟨i, e1, _, w1⟩ := DataW.trod_int u1 h1
  obtain ⟨s, e2, _, w2⟩ := DataW.trod_string u2 h2
  simp only [List.cons.injEq, and_true] at e0 e1 e2
  subst e0 e1 e2
  exact ⟨k, i, s, rfl, i64_wf w0, i64_wf w1, w2⟩

theorem open_col {t : TypeId} {W : World} {r : Reach} {b0 : Nat} {v : Value} {d : DataW H} {p : List MemPlace} {f0 f1 f2 f3 : Field} (hs : P.underlying t = some (.struct #[f0, f1, f2, f3])) (hone : oneCellFields P #[f0, f1, f2, f3] = true) (hC : P.cellsOf t = 4)
    (u0 : P.underlying f0.type = some .string) (u1 : P.underlying f1.type = some (.int .i64)) (u2 : P.underlying f2.type = some .bool) (u3 : P.underlying f3.type = some .bool)
    (hok : Value.okWide P W r b0 t v) (h : DataW.Trod enc P W 0 (fun _ => true) true t v d p) :
    ∃ c : Col, v = .agg #[.string c.name, .int .i64 c.ty, .bool c.nn, .bool c.key] ∧ I64 c.ty ∧ c.name.size ≤ maxLen := by
  obtain ⟨v0, v1, v2, v3, y0, y1, y2, y3, n, rfl, hd, hp, h0, h1, h2, h3⟩ := open_agg4 hs hone hC hok h
  obtain ⟨s, e0, _, w0⟩ := DataW.trod_string u0 h0
  obtain ⟨k, e1, _, w1⟩ := DataW.trod_int u1 h1
  obtain ⟨b, e2, _⟩ := DataW.trod_bool u2 h2
  obtain ⟨b', e3, _⟩ := DataW.trod_bool u3 h3
  simp only [List.cons.injEq, and_true] at e0 e1 e2 e3
  subst e0 e1 e2 e3
  exact ⟨⟨s, k, b, b'⟩, rfl, i64_wf w1, w0⟩
def OkCol (c : Col) : Prop := I64 c.ty ∧ c.name.size ≤ maxLen

theorem open_cols {t e : TypeId} {W : World} {fuel : Nat} {cs : List Value} {x : DataW H × List MemPlace} {f0 f1 f2 f3 : Field} (ht : P.underlying t = some (.slice e)) (he : P.underlying e = some (.struct #[f0, f1, f2, f3]))
    (hone : oneCellFields P #[f0, f1, f2, f3] = true) (hC : P.cellsOf e = 4)
    (u0 : P.underlying f0.type = some .string) (u1 : P.underlying f1.type = some (.int .i64)) (u2 : P.underlying f2.type = some .bool) (u3 : P.underlying f3.type = some .bool)
    (h : DataW.trod enc P W 0 (fun _ => true) true fuel t cs = some x) :
    ∃ A n c l, cs = [.slice A n c] ∧ RdC W W.heap.size A n l ∧ (∀ k ∈ l, OkCol k) ∧ n ≤ c ∧ c ≤ maxLen := by
  rcases open_slice_fields ht he hone (by rw [hC]; rfl) h with ⟨rfl, _⟩ | ⟨a, len, cap, m, D, Pl, rfl, _, hl, hm, hmm, _, hi⟩
  · exact ⟨none, 0, 0, [], rfl, Rd.none_, fun _ h => (nomatch h), Nat.le_refl _, Nat.zero_le _⟩
  · simp only [if_true] at hmm
    subst hmm
    have hcol : ∀ i, i < m → ∃ k : Col, OkCol k ∧ W.cell? (a.add (i * 4)) = some (.string k.name) ∧ W.cell? (a.add (i * 4 + 1)) = some (.int .i64 k.ty) ∧ W.cell? (a.add (i * 4 + 2)) = some (.bool k.nn) ∧ W.cell? (a.add (i * 4 + 3)) = some (.bool k.key) := by
      intro i hi'
      obtain ⟨ys, nn, _, _, _, hf⟩ := hi i hi'
      obtain ⟨v0, y0, c0, _, h0⟩ := hf 0 f0 rfl
      obtain ⟨v1, y1, c1, _, h1⟩ := hf 1 f1 rfl
      obtain ⟨v2, y2, c2, _, h2⟩ := hf 2 f2 rfl
      obtain ⟨v3, y3, c3, _, h3⟩ := hf 3 f3 rfl
      obtain ⟨s, e0, _, w0⟩ := DataW.trod_string u0 h0
      obtain ⟨k, e1, _, w1⟩ := DataW.trod_int u1 h1
      obtain ⟨b, e2, _⟩ := DataW.trod_bool u2 h2
      obtain ⟨b', e3, _⟩ := DataW.trod_bool u3 h3
      simp only [List.cons.injEq, and_true] at e0 e1 e2 e3
      subst e0 e1 e2 e3
      exact ⟨⟨s, k, b, b'⟩, ⟨i64_wf w1, w0⟩, c0, c1, c2, c3⟩
    have hd : ∃ d : Col, True := ⟨⟨⟨#[]⟩, 0, false, false⟩, trivial⟩
    obtain ⟨F, hF⟩ : ∃ F : Nat → Col, ∀ i, i < m → OkCol (F i) ∧ W.cell? (a.add (i * 4)) = some (.string (F i).name) ∧ W.cell? (a.add (i * 4 + 1)) = some (.int .i64 (F i).ty) ∧ W.cell? (a.add (i * 4 + 2)) = some (.bool (F i).nn) ∧ W.cell? (a.add (i * 4 + 3)) = some (.bool (F i).key) := by
      refine ⟨fun i => if h : i < m then Classical.choose (hcol i h) else ⟨⟨#[]⟩, 0, false, false⟩, fun i hi => ?_⟩
      simp only [hi, dif_pos]
      exact Classical.choose_spec (hcol i hi)
    have hll : ((List.range len).map F).length = len := by simp
    refine ⟨some a, len, m, (List.range len).map F, rfl, ⟨by rw [colCells_len, hll], fun hn => ?_⟩, fun k hk => ?_, hl, hm⟩
    · obtain ⟨b, off, spot⟩ := a
      have hspot : spot = none := by simpa [Addr.add] using World.cell?_spot (hF 0 (by omega)).2.1
      subst hspot
      refine ⟨b, off, rfl, World.block_lt_of_cell? W ⟨b, off, none⟩ (by simpa [Addr.add] using (hF 0 (by omega)).2.1), fun j u hu => ?_⟩
      obtain ⟨c, hc, hcu⟩ := flat_inv Col.cells 4 (by omega) (fun _ => rfl) _ j u hu
      have hj : j / 4 < len := by have := (List.getElem?_eq_some_iff.1 hc).1; simpa using this
      simp only [List.getElem?_map, List.getElem?_range hj, Option.map_some, Option.some.injEq] at hc
      subst hc
      obtain ⟨_, k0, k1, k2, k3⟩ := hF (j / 4) (by omega)
      rw [← Go.WideShapes.add_plain]
      have h4 : j % 4 < 4 := Nat.mod_lt _ (by omega)
      have hjd : j = j / 4 * 4 + j % 4 := by omega
      rw [hjd]
      generalize j % 4 = q at *
      match q, h4 with
      | 0, _ => simpa [Col.cells, k0] using hcu
      | 1, _ => simpa [Col.cells, k1] using hcu
      | 2, _ => simpa [Col.cells, k2] using hcu
      | 3, _ => simpa [Col.cells, k3] using hcu
    · simp only [List.mem_map, List.mem_range] at hk
      obtain ⟨i, hi', rfl⟩ := hk
      exact (hF i (by omega)).1
end
end Go.Proofs.YtdgdllicmccnfaaDoor

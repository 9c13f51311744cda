/- One element appended to a row of the call's own: the law of the walk, its new block written out. No program in sight. -/
import Derived.Test.YtdgdllicmccnfaaMem
namespace Go.Proofs.Ytdgdllicmccnfaa
open Go.RowKit
set_option linter.unusedVariables false

theorem own_block_le {w : World} {base : Nat} {e : TypeId} {size n : Nat} {v : Value} {xs : List Value} (h : w.ownsRow base e size v n xs) : ∀ g, v.ownBlock = some g → base ≤ g ∧ g < w.heap.size := h.lt

theorem wpList_app1 {P : Program} (w0 : World) (cs : Array Value) {ops : Array Oper} {rest : List Oper} {o : Oper} {a : Act} {Q : Exit → Act → World → Prop} (hgd : o.guard = none) (s x : Operand) (t : TypeId)
    (ho : o.op = .call { callee := .builtin .append, args := #[s, x], argTypes := #[t, t] })
    (base : Nat) (e : TypeId) (size bytes : Nat) (z : Value) (ht : P.underlying t = some (.slice e)) (hi : (P.info? e).map (fun i => (i.zero, i.size, i.bytes)) = some (some z, size, bytes))
    (hzs : z.cells.size = size) (hsz : 0 < size)
    (v : Value) (n : Nat) (xs : List Value) (hs : a.eval s = v) (hown : w0.ownsRow base e size v n xs)
    (hx : a.eval x = .slice (some ⟨w0.heap.size, 0, none⟩) 1 1) (hl : cs.size = size) (h1 : ∀ u ∈ cs.toList, u.oneCell' = true)
    (hn : n < 140737488355328) (hbytes : (n + 1) * bytes ≤ 140737488355328) (hbase : base ≤ w0.heap.size)
    (h : ∀ v' w', w'.ownsRow base e size v' (n + 1) (xs ++ cs.toList) → w0.grownBy w' v.ownBlock → Below base w0 w' → (v' = .slice none 0 0 ↔ False) → wpList P ops Q rest (a.put o.dst v') w') :
    wpList P ops Q (o :: rest) a (w0.alloc (.cells cs e)) := by
  obtain ⟨i, hi1, hi2, hi3, hi4⟩ := info_parts hi
  refine wpList_append_own (w := w0.alloc (.cells cs e)) hgd s x t ho base e i z size bytes ht hi1 hi2 hi3 hi4 hzs hsz v n xs hs (hown.alloc _) ⟨w0.heap.size, 0, none⟩ 1 1 cs.toList hx (by simpa using hl) ?_ h1 (by unfold maxLen; omega) hbytes (by simp; omega) ?_
  · intro j u hu
    rw [Addr.add_lit, Nat.zero_add, cell_of_row _ w0.heap.size j cs e (0, 0) (heap_alloc_new w0 _)]
    simpa using hu
  · intro v' w' h2 h3 h4
    have hg : w0.grownBy w' v.ownBlock := only_trans (only_alloc (World.grownBy.refl _ _) _) h3
    exact h v' w' h2 hg ((Below.refl _ _).grown hg hbase (fun g hg => (hown.lt g hg).1)) (by rw [h4]; simp)
end Go.Proofs.Ytdgdllicmccnfaa

/- Laws at an operation, said of Hold: append of one element, append of a whole list, make; rows handed back by calls. No program in sight. -/
import Derived.Test.YtaefjgjojflppaaData
import Derived.Test.YtaefjgjojflppaaApp2
import Derived.Maps.AppendAt
import Derived.OwnWalk
import Derived.Laws.MakeOwn
namespace Go.Proofs.Ytaefjgjojflppaa
open Go.RowKit
set_option linter.unusedVariables false

/-- A slice type and its element type, as the table of types says them. -/
structure ElemT (P : Program) (t e : TypeId) (size bytes : Nat) (z : Value) : Prop where
  ht : P.underlying t = some (.slice e)
  hi : (P.info? e).map (fun i => (i.zero, i.size, i.bytes)) = some (some z, size, bytes)
  hzs : z.cells.size = size
  hsz : 0 < size

section
variable {P : Program} {M : Nat → Prop} {row : Option Nat} {w0 w w' : World} {L L' : List Hp}

theorem own_caps {w : World} {base : Nat} {e : TypeId} {size n m c : Nat} {A : Option Addr} {xs : List Value} (h : w.ownsRow base e size (.slice A n c) m xs) : m ≤ c ∧ c ≤ 9223372036854775807 ∧ n = m := by
  obtain ⟨h1, ⟨h2, h3⟩ | ⟨g, cap, cur, hv, _, _, hle, hm, _⟩⟩ := h
  · have e1 := (Value.slice.inj h2).2.2
    have e2 := (Value.slice.inj h2).2.1
    omega
  · have e1 := (Value.slice.inj hv).2.2
    have e2 := (Value.slice.inj hv).2.1
    unfold maxLen at hm
    omega
theorem own_addr {w : World} {base : Nat} {e : TypeId} {size n m c : Nat} {A : Option Addr} {xs : List Value} (h : w.ownsRow base e size (.slice A n c) m xs) : (A = none ∧ m = 0 ∧ c = 0) ∨ ∃ g, A = some ⟨g, 0, none⟩ ∧ base ≤ g := by
  obtain ⟨h1, ⟨h2, h3⟩ | ⟨g, cap, cur, hv, hb, _⟩⟩ := h
  · exact .inl ⟨(Value.slice.inj h2).1, h3, (Value.slice.inj h2).2.2⟩
  · exact .inr ⟨g, (Value.slice.inj hv).1, hb⟩

/-- append(s, x): one element, laid ahead in a block of its own. -/
theorem wpList_appH (K : Hold M row w0 w L) (i : Nat) {t e : TypeId} {size bytes q cap : Nat} {C : Option Addr} {xs : List Value} {z : Value} (hi : L[i]? = some (.own e size (.slice C q cap) q xs)) (hE : ElemT P t e size bytes z)
    (cs : Array Value) {ops : Array Oper} {rest : List Oper} {o : Oper} {a : Act} {Q : Exit → Act → World → Prop} (hgd : o.guard = none) (s x : Operand) (ho : o.op = .call { callee := .builtin .append, args := #[s, x], argTypes := #[t, t] })
    (hs : a.eval s = .slice C q cap) (H : Nat) (hH : w.heap.size = H) (hx : a.eval x = .slice (some ⟨H, 0, none⟩) 1 1) (hl : cs.size = size) (h1 : ∀ u ∈ cs.toList, u.oneCell' = true) (hq : q < 140737488355328) (hb : (q + 1) * bytes ≤ 140737488355328)
    (h : ∀ g cap' w', q + 1 ≤ cap' → cap' ≤ 9223372036854775807 → Hold M row w0 w' (L.set i (.own e size (.slice (some ⟨g, 0, none⟩) (q + 1) cap') (q + 1) (xs ++ cs.toList))) → wpList P ops Q rest (a.put o.dst (.slice (some ⟨g, 0, none⟩) (q + 1) cap')) w') :
    wpList P ops Q (o :: rest) a (w.alloc (.cells cs e)) := by
  refine wpList_app2 w cs hgd s x t ho w0.heap.size e size bytes z hE.ht hE.hi hE.hzs hE.hsz (.slice C q cap) q xs hs (K.get i hi) H hH hx hl h1 hq hb K.grow.size ?_
  intro g cap' w' ho' hg hd hl'
  obtain ⟨c1, c2, _⟩ := own_caps ho'
  have K1 := K.alloc_cst cs e
  have K2 := K1.append (i + 1) (by simpa using hi) ho' hg hd hl'
  refine h g cap' w' c1 c2 (K2.drop ?_)
  simp

theorem run_append_self (w : World) (base : Nat) (t ty e : TypeId) (i : TypeInfo) (size : Nat) (ht : P.underlying t = some (.slice e)) (hi : P.info? e = some i)
    (v : Value) (n : Nat) (xs : List Value) (hown : w.ownsRow base e size v n xs) (c : Nat) : (Builtin.append_ #[t, t] ty #[v, .slice none 0 c]).run P w = .ok v w := by
  rcases hown.2 with ⟨rfl, rfl⟩ | ⟨g, cap, cur, rfl, _, _, hnc, _⟩
  · simp [Builtin.append_, run_underlying ht, sizeOf, typeInfo, hi, Builtin.lenOf, Builtin.firstCells]
  · simp [Builtin.append_, run_underlying ht, sizeOf, typeInfo, hi, Builtin.lenOf, Builtin.firstCells, hnc, storeCells]

/-- append(s, xs...): whatever list, nil and empty too. -/
theorem wpList_appAllH (K : Hold M row w0 w L) (i : Nat) {t e : TypeId} {size bytes q cap : Nat} {C : Option Addr} {xs : List Value} {z : Value} (hi : L[i]? = some (.own e size (.slice C q cap) q xs)) (hE : ElemT P t e size bytes z)
    {A : Option Addr} {m c : Nat} {ys : List Value} (hr : SlR size A m ys w) {ops : Array Oper} {rest : List Oper} {o : Oper} {a : Act} {Q : Exit → Act → World → Prop} (hgd : o.guard = none) (s x : Operand) (ho : o.op = .call { callee := .builtin .append, args := #[s, x], argTypes := #[t, t] })
    (hs : a.eval s = .slice C q cap) (hx : a.eval x = .slice A m c) (h1 : ∀ u ∈ ys, u.oneCell' = true) (hq : q + m < 140737488355328) (hb : (q + m) * bytes ≤ 140737488355328)
    (h : ∀ C' cap' w', q + m ≤ cap' → cap' ≤ 9223372036854775807 → Hold M row w0 w' (L.set i (.own e size (.slice C' (q + m) cap') (q + m) (xs ++ ys))) → wpList P ops Q rest (a.put o.dst (.slice C' (q + m) cap')) w') :
    wpList P ops Q (o :: rest) a w := by
  obtain ⟨i0, hi1, hi2, hi3, hi4⟩ := info_parts hE.hi
  have hown := K.get i hi
  have hrun : ∃ C' cap' w', (Builtin.append_ #[t, t] o.type #[.slice C q cap, .slice A m c]).run P w = .ok (.slice C' (q + m) cap') w' ∧ q + m ≤ cap' ∧ cap' ≤ 9223372036854775807 ∧ Hold M row w0 w' (L.set i (.own e size (.slice C' (q + m) cap') (q + m) (xs ++ ys))) := by
    have hz : A = none → m = 0 := fun hA => by
      rcases Nat.eq_zero_or_pos m with h0 | h0
      · exact h0
      · obtain ⟨b, o, h, _⟩ := hr.2 h0
        rw [hA] at h; cases h
    rcases A with _ | ad
    · obtain rfl := hz rfl
      have hn : ys = [] := List.eq_nil_of_length_eq_zero (by simpa using hr.1)
      subst hn
      have hc := own_caps hown
      have e : L.set i (.own e size (.slice C (q + 0) cap) (q + 0) (xs ++ [])) = L := by
        rw [Nat.add_zero, List.append_nil]
        apply List.ext_getElem?
        intro j
        rw [List.getElem?_set]
        split
        · subst i; split
          · exact hi.symm
          · rw [List.getElem?_eq_none (by omega)]
        · rfl
      exact ⟨C, cap, w, run_append_self w _ t _ _ i0 size hE.ht hi1 _ _ _ hown c, hc.1, hc.2.1, by rw [e]; exact K⟩
    · have hcells : ∀ j u, ys[j]? = some u → w.cell? (ad.add j) = some u := by
        intro j u hu
        have hpos : 0 < m := by
          rcases Nat.eq_zero_or_pos m with h0 | h0
          · have hn : ys = [] := List.eq_nil_of_length_eq_zero (by have := hr.1; rw [h0] at this; simpa using this)
            rw [hn] at hu; simp at hu
          · exact h0
        obtain ⟨b, o', hA, _, hc⟩ := hr.2 hpos
        injection hA with hA
        subst hA
        have := hc j u hu
        rwa [Addr.add_lit]
      obtain ⟨v', w', hrun, h2, h3, _, h5⟩ := run_append_own_at (P := P) w w0.heap.size t o.type e i0 z size bytes hE.ht hi1 hi2 hi3 hi4 hE.hzs hE.hsz _ q xs hown ad m c ys hr.1 hcells h1 (by unfold maxLen; omega) hb K.grow.size
      obtain ⟨C', cap', rfl⟩ := own_form h2
      have hc := own_caps h2
      refine ⟨C', cap', w', hrun, hc.1, hc.2.1, ?_⟩
      refine K.turn i hi h3.size ⟨h3.os, h3.tape, h3.output⟩ (fun b hl hne => h3.block b hl fun e => hne e.symm) (fun b hf => ?_) h2 (fun T hT => by cases hT)
      have hlt := (h2.lt b hf).2
      refine ⟨?_, hlt⟩
      have hf' : Value.ownBlock (.slice C' (q + m) cap') = some b := hf
      rcases h5 with h5 | h5
      · left; rw [h5] at hf'; exact hf'
      · right; rw [h5] at hf'; injection hf' with hf'; omega
  obtain ⟨C', cap', w', hr', c1, c2, hK⟩ := hrun
  refine wpList_plain hgd fun K' hK' => ?_
  unfold Oper.wp execOp
  simp only [ho, resolve, invoke, builtin, Sem.run_bind, Sem.run_pure, Result.andThen_ok, List.map_toArray, List.map_cons, List.map_nil, hs, hx, hr']
  exact hK' _ _ (h C' cap' w' c1 c2 hK)

/-- A call that hands back a row of its own. -/
theorem Hold.callOwn (K : Hold M row w0 w L) {e : TypeId} {size n : Nat} {v : Value} {xs : List Value} (hb : Below w.heap.size w w') (ho : w'.ownsRow w.heap.size e size v n xs) : Hold M row w0 w' (.own e size v n xs :: L) := by
  have h1 := K.call hb
  have hbase : ∀ b, v.ownBlock = some b → w.heap.size ≤ b ∧ b < w'.heap.size := fun b hf => ho.lt b hf
  have ee : ∀ b, b < w.heap.size → Mut M (.own e size v n xs :: L) b → Mut M L b := fun b hl hb => by
    rcases mut_cons.1 hb with hf | hm
    · have := (hbase b hf).1; omega
    · exact hm
  refine ⟨h1.grow, h1.low, fun k hk => ?_, fun k hk b hf => ?_, ⟨fun b hf k hk he => ?_, K.sep⟩⟩
  · rcases List.mem_cons.1 hk with rfl | hk
    · refine ⟨ho.1, ?_⟩
      rcases ho.2 with hn | ⟨g, cap, cur, hv, hg, rest⟩
      · exact .inl hn
      · exact .inr ⟨g, cap, cur, hv, Nat.le_trans K.grow.size hg, rest⟩
    · exact Hp.sat_step (k := k) (K.sat k hk) hb.size (fun b hl _ => hb.block b hl) ee (fun b hf => hb.block b (K.fresh k hk b hf).2)
        (fun T hT b hlt => by
          have := K.fresh k hk T (by subst hT; rfl)
          exact hb.block b (by omega))
  · rcases List.mem_cons.1 hk with rfl | hk
    · have := hbase b hf
      exact ⟨.inl (Nat.le_trans K.grow.size this.1), this.2⟩
    · exact h1.fresh k hk b hf
  · have := (hbase b hf).1
    have h2 := (K.fresh k hk b he).2
    omega

/-- make([]T, n): n zero elements are owned. -/
theorem wpList_makeH (K : Hold M row w0 w L) {t e : TypeId} {size bytes : Nat} {z : Value} (hE : ElemT P t e size bytes z) {ops : Array Oper} {rest : List Oper} {o : Oper} {a : Act} {Q : Exit → Act → World → Prop}
    (hg : o.guard = none) (l c : Operand) (hop : o.op = Op.makeSlice t l c) (n : Nat) (hl : a.eval l = .int .i64 (n : Int)) (hc : a.eval c = .int .i64 (n : Int)) (b2 : bytes * n ≤ 281474976710656) (b3 : n ≤ maxLen)
    (h : ∀ g w', g = w.heap.size → Hold M row w0 w' (.own e size (.slice (some ⟨g, 0, none⟩) n n) n (madeCells z.cells (n * size)).toList :: L) → wpList P ops Q rest (a.put o.dst (.slice (some ⟨g, 0, none⟩) n n)) w') :
    wpList P ops Q (o :: rest) a w := by
  obtain ⟨i0, hi1, hi2, hi3, hi4⟩ := info_parts hE.hi
  refine wpList_make_full w hg l c t hop w0.heap.size e i0 z size hE.ht hi1 hi2 hi3 .i64 .i64 n n n hl hc rfl rfl (by rw [hi4]; exact b2) b3 K.grow.size ?_
  intro w' ho hgr
  have K1 := (K.nil e size).append 0 rfl ho hgr (.inr (Nat.le_refl _)) (ho.lt _ rfl).2
  exact h _ w' rfl K1

theorem run_make_n {t e : TypeId} {size bytes : Nat} {z : Value} (hE : ElemT P t e size bytes z) (n : Nat) (hb : bytes * n ≤ 281474976710656) (h63 : n ≤ 9223372036854775807) (w : World) :
    (Instr.makeSlice t (.int .i64 (n : Int)) (.int .i64 (n : Int))).run P w = .ok (.slice (some ⟨w.heap.size, 0, none⟩) n n) (w.alloc (.cells (madeCells z.cells (n * size)) e)) := by
  obtain ⟨i0, hi1, hi2, hi3, hi4⟩ := info_parts hE.hi
  have hb' : (i0.bytes : Int) * (n : Int) ≤ 281474976710656 := by
    have h : ((i0.bytes * n : Nat) : Int) ≤ 281474976710656 := by rw [hi4]; omega
    rwa [Int.natCast_mul] at h
  have hr := run_make (P := P) w t e i0 z hE.ht hi1 hi2 .i64 .i64 n n (by omega) (by omega) hb' (by omega)
  simp only [Int.toNat_natCast, hi3] at hr
  exact hr
theorem apart_pair : ∀ {L : List Hp}, Apart L ↔ L.Pairwise fun h k => ∀ b, h.foot = some b → k.foot ≠ some b
  | [] => ⟨fun _ => List.Pairwise.nil, fun _ => trivial⟩
  | h :: L => by
    rw [List.pairwise_cons, ← apart_pair]
    exact ⟨fun ⟨a, b⟩ => ⟨fun k hk x hx => a x hx k hk, b⟩, fun ⟨a, b⟩ => ⟨fun x hx k hk => a k hk x hx, b⟩⟩
/-- The items in another order. -/
theorem Hold.perm (K : Hold M row w0 w L) (hp : L.Perm L') : Hold M row w0 w L' := by
  have hm : ∀ b, Mut M L' b → Mut M L b := fun b hb => hb.imp id fun ⟨k, hk, hf⟩ => ⟨k, hp.symm.subset hk, hf⟩
  refine ⟨K.grow, K.low, fun k hk => ?_, fun k hk => K.fresh k (hp.symm.subset hk), apart_pair.2 ((hp.pairwise_iff fun h b hy hx => h b hx hy).1 (apart_pair.1 K.sep))⟩
  exact Hp.sat_step (k := k) (K.sat k (hp.symm.subset hk)) (Nat.le_refl _) (fun _ _ _ => rfl) (fun b _ hb => hm b hb) (fun _ _ => rfl) (fun _ _ _ _ => rfl)
/-- The first item goes to place i. -/
theorem Hold.sinkN {a : Hp} (K : Hold M row w0 w (a :: L)) (i : Nat) : Hold M row w0 w (L.take i ++ a :: L.drop i) := by
  refine K.perm (List.Perm.trans ?_ List.perm_middle.symm)
  rw [List.take_append_drop]
/-- Another statement in the place of one. -/
theorem Hold.swapRo (K : Hold M row w0 w L) (i : Nat) {S S' : World → Prop} (hi : L[i]? = some (.ro S)) (hr : Ro w (Mut M L) S') : Hold M row w0 w (L.set i (.ro S')) := by
  refine K.turn i hi (Nat.le_refl _) ⟨rfl, rfl, rfl⟩ (fun _ _ _ => rfl) (fun b hf => by cases hf) ?_ (fun T hT => by cases hT)
  refine hr.less fun b hb => ?_
  rcases hb with hb | ⟨k, hk, hf⟩
  · exact .inl hb
  · rcases List.mem_or_eq_of_mem_set hk with hk | rfl
    · exact .inr ⟨k, hk, hf⟩
    · cases hf
/-- Two items lie in different blocks. -/
theorem Hold.apart_ (K : Hold M row w0 w L) (i j : Nat) {a b : Hp} (hi : L[i]? = some a) (hj : L[j]? = some b) (hij : i ≠ j) {x y : Nat} (hx : a.foot = some x) (hy : b.foot = some y) : x ≠ y := fun e => K.sep.mem hi hj hij hx (by rw [e]; exact hy)
/-- A row is cut down: its first n elements. -/
theorem Hold.cutRow (K : Hold M row w0 w L) (i : Nat) {e : TypeId} {size n m cap g : Nat} {xs : List Value} (hi : L[i]? = some (.own e size (.slice (some ⟨g, 0, none⟩) m cap) m xs)) (hn : n ≤ m) :
    Hold M row w0 w (L.set i (.own e size (.slice (some ⟨g, 0, none⟩) n cap) n (xs.take (n * size)))) := by
  have hown := K.get i hi
  have hkm := List.mem_of_getElem? hi
  refine K.turn i hi (Nat.le_refl _) ⟨rfl, rfl, rfl⟩ (fun _ _ _ => rfl) (fun b hf => ⟨.inl hf, (K.fresh _ hkm b hf).2⟩) ?_ (fun T hT => by cases hT)
  have h1 := hown.1
  refine ⟨by rw [List.length_take, h1]; exact Nat.min_eq_left (Nat.mul_le_mul_right _ hn), ?_⟩
  rcases hown.2 with ⟨h, _⟩ | ⟨g', cap', cur, hv, hb, hg, hle, hm, hcs, ht⟩
  · cases h
  · obtain ⟨e1, _, e2⟩ := Value.slice.inj hv
    injection e1 with e1; injection e1 with e1
    subst e1 e2
    refine .inr ⟨g, cap, cur, rfl, hb, hg, by omega, hm, hcs, ?_⟩
    rw [← ht, List.take_take, Nat.min_eq_left (Nat.mul_le_mul_right _ hn)]
end
end Go.Proofs.Ytaefjgjojflppaa

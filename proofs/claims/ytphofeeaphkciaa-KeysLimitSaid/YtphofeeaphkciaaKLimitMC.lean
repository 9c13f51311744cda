/- KeysLimit answers true, for all numbers: a table never has more than MaxRows rows, and deletions of the same change make space. No condition. -/
import Derived.Test.YtphofeeaphkciaaKLimitMB
import Derived.Test.YtphofeeaphkciaaKLimitMA
import Derived.Orders
namespace Go.Proofs.Ytphofeeaphkciaa
open Go.RowKit
set_option linter.unusedVariables false
set_option linter.unusedSimpArgs false

/-- an update's slot -/
def PrSlot (M : Nat → Prop) (x : Upd) (u : Value) (w : World) : Prop := ∃ p : Pr, u = .agg #[.int .i64 p.id, .slice p.oA p.on p.oc, .slice p.nA p.nn p.nc] ∧ p.upd = x ∧ p.ok ∧ Ro w M (VlsIn p.oA p.on p.old) ∧ Ro w M (VlsIn p.nA p.nn p.new)
/-- a list's of updates -/
def PrsSlot (M : Nat → Prop) (l : List Upd) (u : Value) (w : World) : Prop := ∃ (A : Option Addr) (n c : Nat) (ps : List Pr), u = .slice A n c ∧ n ≤ c ∧ c ≤ 9223372036854775807 ∧ ps.map Pr.upd = l ∧ (∀ p ∈ ps, p.ok) ∧ Ro w M (PrsIn A n ps)
/-- a list's of rows without numbers -/
def SlsSlot (M : Nat → Prop) (l : List (List Vl)) (u : Value) (w : World) : Prop := ∃ (A : Option Addr) (n c : Nat) (ps : List Sl), u = .slice A n c ∧ n ≤ c ∧ c ≤ 9223372036854775807 ∧ ps.map Sl.vs = l ∧ (∀ p ∈ ps, p.ok) ∧ Ro w M (SlsIn A n ps)
/-- a list's of numbers -/
def IsSlot (M : Nat → Prop) (l : List Int) (u : Value) (w : World) : Prop := ∃ (A : Option Addr) (n c : Nat), u = .slice A n c ∧ n ≤ c ∧ c ≤ 9223372036854775807 ∧ Ro w M (IsIn A n l)
/-- a change's -/
def ChgSlot (M : Nat → Prop) (ins : List (List Vl)) (dels : List Int) (us : List Upd) (u : Value) (w : World) : Prop := ∃ a b c : Value, u = .agg #[a, b, c] ∧ SlsSlot M ins a w ∧ IsSlot M dels b w ∧ PrsSlot M us c w
/-- what Apply answers -/
def ApSlot (M : Nat → Prop) (r : Int × Tb) (u : Value) (w : World) : Prop := ∃ v, u = .tuple #[v, .int .i64 r.1] ∧ TbAt w M v r.2
/-- a new block's, to be written -/
def NewSlot (M : Nat → Prop) (H : Nat) (t : TypeId) (cs : Array Value) (u : Value) (w : World) : Prop := ∃ g : Nat, u = .pointer (some ⟨g, 0, none⟩) ∧ H ≤ g ∧ Ro w M (fun w => w.heap[g]? = some (.cells cs t (0, 0)))
theorem newSlot_mono {M : Nat → Prop} {H : Nat} {t : TypeId} {cs : Array Value} (u : Value) (w w' : World) (hr : RM M w w') (h : NewSlot M H t cs u w) : NewSlot M H t cs u w' := by
  obtain ⟨g, h1, h2, h3⟩ := h
  exact ⟨g, h1, h2, hr.ro h3⟩
/-- A block that came since w1, known whole. -/
theorem Hold.addFreshBlk {M : Nat → Prop} {row : Option Nat} {w0 w1 w : World} {L : List Hp} (K1 : Hold M row w0 w1 L) (K : Hold M row w0 w L) (hr : RM (Mut M L) w1 w) {g : Nat} {t : TypeId} {cs : Array Value} (hg : w1.heap.size ≤ g) (hb : w.heap[g]? = some (.cells cs t (0, 0))) :
    Hold M row w0 w (.blk g t cs :: L) := by
  have hgl : g < w.heap.size := Blk.lt (t := t) (cs := cs) hb
  have hno : ∀ k ∈ L, k.foot ≠ some g := fun k hk hf => by have := (K1.fresh k hk g hf).2; omega
  have ee : ∀ b, b < w1.heap.size → Mut M (.blk g t cs :: L) b → Mut M L b := fun b hl hb => by
    rcases mut_cons.1 hb with hf | hm
    · have : some g = some b := hf
      injection this with this
      omega
    · exact hm
  refine ⟨K.grow, K.low, fun k hk => ?_, fun k hk b hf => ?_, ⟨fun b hf k hk he => ?_, K.sep⟩⟩
  · rcases List.mem_cons.1 hk with rfl | hk
    · exact hb
    · have h1 := K1.sat k hk
      have h2 := K.sat k hk
      cases k with
      | blk g' t' cs' => exact h2
      | own e s v n' xs => exact h2
      | tp T =>
        refine ⟨h2.1, fun b hb' => ?_⟩
        have hT : T < w1.heap.size := (K1.fresh _ hk T rfl).2
        rcases mut_cons.1 hb' with hf | hm'
        · have : some g = some b := hf
          injection this with this
          omega
        · exact h2.2 b hm'
      | ro S => exact Ro.step h1 hr.1 hr.2 ee
      | cst g' t' cs' => exact Ro.step h1 hr.1 hr.2 ee
      | ob g' F' => exact h2
  · rcases List.mem_cons.1 hk with rfl | hk
    · have : some g = some b := hf
      injection this with this
      subst this
      exact ⟨.inl (Nat.le_trans K1.grow.size hg), hgl⟩
    · exact K.fresh k hk b hf
  · have : some g = some b := hf
    injection this with this
    subst this
    exact hno k hk he
/-- What is read is apart from a block whose cells do not fit. -/
theorem Ro.apartBlk {w : World} {Q : Nat → Prop} {size n : Nat} {A : Option Addr} {xs : List Value} (h : Ro w Q (SlR size A n xs)) {ga : Nat} {t : TypeId} {cs : Array Value} (hg : w.heap[ga]? = some (.cells cs t (0, 0))) (hx : n = 0 ∨ ∃ u, xs[0]? = some u ∧ u ∉ cs.toList) : Ro w (fun b => b = ga ∨ Q b) (SlR size A n xs) := by
  rcases hx with rfl | ⟨u0, hu0, hnu⟩
  · exact fun w2 _ _ => ⟨(show Rd w w.heap.size size A 0 xs from h.now).1, fun h0 => absurd h0 (by omega)⟩
  · intro w2 h1 h2
    have hgl : ga < w.heap.size := Blk.lt (t := t) (cs := cs) hg
    have hgs : (w2.heap.setIfInBounds ga (.cells cs t (0, 0)))[ga]? = some (.cells cs t (0, 0)) := by
      rw [Array.getElem?_setIfInBounds, if_pos rfl, if_pos (by omega)]
    have hne : ∀ b, b ≠ ga → (w2.heap.setIfInBounds ga (.cells cs t (0, 0)))[b]? = w2.heap[b]? := fun b hb => by
      rw [Array.getElem?_setIfInBounds, if_neg (fun e => hb e.symm)]
    have h3 : Rd { w2 with heap := w2.heap.setIfInBounds ga (.cells cs t (0, 0)) } _ size A n xs := h { w2 with heap := w2.heap.setIfInBounds ga (.cells cs t (0, 0)) } (by simpa using h1) (fun b hb hn => by
      by_cases e : b = ga
      · subst e; exact hgs.trans hg.symm
      · exact (hne b e).trans (h2 b hb (fun hm => hm.elim e hn)))
    refine ⟨h3.1, fun hn => ?_⟩
    obtain ⟨b, o, e, hb, hc⟩ := h3.2 hn
    have hbg : b ≠ ga := by
      rintro rfl
      have h4 := hc 0 u0 hu0
      rw [cell_of_row _ _ _ _ _ _ hgs] at h4
      exact hnu (Array.mem_toList_iff.2 (Array.mem_of_getElem? h4))
    refine ⟨b, o, e, by simpa using hb, fun j u hu => ?_⟩
    rw [← hc j u hu]
    exact (World.cell?_of_block (w := w2) (w' := { w2 with heap := w2.heap.setIfInBounds ga (.cells cs t (0, 0)) }) (a := ⟨b, o + j, none⟩) (hne b hbg)).symm
def zeroTc : Array Value := #[.string ⟨#[]⟩, .slice none 0 0, .int .i64 0, .slice none 0 0]
theorem int_apart {x : Int} (h : x ≠ 0) : Value.int .i64 x ∉ zeroTc.toList := by simp [zeroTc, h]
/-- rows are apart from a block that holds the zero table -/
theorem rows_apart {w : World} {Q : Nat → Prop} {B : Option Addr} {m : Nat} {l : List Rw} (h : Ro w Q (RwsIn B m l)) {ga : Nat} {t : TypeId} (hg : w.heap[ga]? = some (.cells zeroTc t (0, 0))) (hx : ∀ r ∈ l.map Rw.row, r.1 ≠ 0 ∧ ∃ v rest, r.2 = v :: rest ∧ v.k ≠ 0) : Ro w (fun b => b = ga ∨ Q b) (RwsIn B m l) := by
  have hl := h.now.len
  have h1 : Ro w Q (SlR 2 B m (rwCells l)) := h.imp fun w2 h2 => h2.1
  have k1 := h1.apartBlk hg (by
    cases l with
    | nil => left; simpa using hl.symm
    | cons r l => exact .inr ⟨.int .i64 r.id, rfl, int_apart (hx r.row (by simp)).1⟩)
  refine k1.and fun w2 g1 g2 r hr => ?_
  have h2 : Ro w Q (SlR 3 r.A r.n (vlCells r.vs)) := h.imp fun w2 h2 => h2.2 r hr
  obtain ⟨v, rest, hv, hk⟩ := (hx r.row (List.mem_map_of_mem hr)).2
  have hv' : r.vs = v :: rest := hv
  exact h2.apartBlk hg (.inr ⟨.int .i64 v.k, by rw [hv']; rfl, int_apart hk⟩) w2 g1 g2
section
variable {M : Nat → Prop}
theorem prSlot_mono {x : Upd} (u : Value) (w w' : World) (hr : RM M w w') (h : PrSlot M x u w) : PrSlot M x u w' := by
  obtain ⟨p, h1, h2, h3, h4, h5⟩ := h
  exact ⟨p, h1, h2, h3, hr.ro h4, hr.ro h5⟩
theorem prsSlot_mono {l : List Upd} (u : Value) (w w' : World) (hr : RM M w w') (h : PrsSlot M l u w) : PrsSlot M l u w' := by
  obtain ⟨A, n, c, ps, h1, h2, h3, h4, h5, h6⟩ := h
  exact ⟨A, n, c, ps, h1, h2, h3, h4, h5, hr.ro h6⟩
theorem slsSlot_mono {l : List (List Vl)} (u : Value) (w w' : World) (hr : RM M w w') (h : SlsSlot M l u w) : SlsSlot M l u w' := by
  obtain ⟨A, n, c, ps, h1, h2, h3, h4, h5, h6⟩ := h
  exact ⟨A, n, c, ps, h1, h2, h3, h4, h5, hr.ro h6⟩
theorem isSlot_mono {l : List Int} (u : Value) (w w' : World) (hr : RM M w w') (h : IsSlot M l u w) : IsSlot M l u w' := by
  obtain ⟨A, n, c, h1, h2, h3, h6⟩ := h
  exact ⟨A, n, c, h1, h2, h3, hr.ro h6⟩
theorem chgSlot_mono {ins : List (List Vl)} {dels : List Int} {us : List Upd} (u : Value) (w w' : World) (hr : RM M w w') (h : ChgSlot M ins dels us u w) : ChgSlot M ins dels us u w' := by
  obtain ⟨a, b, c, h1, h2, h3, h4⟩ := h
  exact ⟨a, b, c, h1, slsSlot_mono _ _ _ hr h2, isSlot_mono _ _ _ hr h3, prsSlot_mono _ _ _ hr h4⟩
theorem tbAt_mono {t : Tb} {v : Value} {w w' : World} (hr : RM M w w') (h : TbAt w M v t) : TbAt w' M v t := by
  obtain ⟨A, n, c, B, m, d, l, h1, h2, h3, h4, h5, h6, h7, h8, h9⟩ := h
  exact ⟨A, n, c, B, m, d, l, h1, h2, h3, h4, h5, hr.ro h6, hr.ro h7, h8, h9⟩
theorem apSlot_mono {r : Int × Tb} (u : Value) (w w' : World) (hr : RM M w w') (h : ApSlot M r u w) : ApSlot M r u w' := by
  obtain ⟨v, h1, h2⟩ := h
  exact ⟨v, h1, tbAt_mono hr h2⟩
theorem slsSlot_nil (w : World) : SlsSlot M [] (.slice none 0 0) w := ⟨none, 0, 0, [], rfl, by omega, by omega, rfl, (fun p hp => nomatch hp), fun _ _ _ => ⟨⟨by simp [slCells], fun h => absurd h (by omega)⟩, fun r hr => nomatch hr⟩⟩
theorem isSlot_nil (w : World) : IsSlot M [] (.slice none 0 0) w := ⟨none, 0, 0, rfl, by omega, by omega, fun _ _ _ => ⟨rfl, fun h => absurd h (by omega)⟩⟩
theorem prsSlot_nil (w : World) : PrsSlot M [] (.slice none 0 0) w := ⟨none, 0, 0, [], rfl, by omega, by omega, rfl, (fun p hp => nomatch hp), fun _ _ _ => ⟨⟨by simp [prCells], fun h => absurd h (by omega)⟩, fun r hr => nomatch hr⟩⟩
/-- a clone's slot and another make an update's -/
theorem prSlot_of {id : Int} {old new : List Vl} {a b : Value} {w : World} (hid : I64 id) (ho : ∀ v ∈ old, v.ok) (hn : ∀ v ∈ new, v.ok) (h : VlsSlot M old a w) (k : VlsSlot M new b w) : PrSlot M (id, old, new) (.agg #[.int .i64 id, a, b]) w := by
  obtain ⟨A, n, c, rfl, h1, h2, h3, h4⟩ := h
  obtain ⟨B, m, d, rfl, k1, k2, k3, k4⟩ := k
  exact ⟨⟨id, A, n, c, old, B, m, d, new⟩, rfl, rfl, ⟨hid, h2, h3, k2, k3, ho, hn⟩, h4, k4⟩
theorem chgSlot_of {ins : List (List Vl)} {dels : List Int} {us : List Upd} {a b c : Value} {w : World} (h1 : SlsSlot M ins a w) (h2 : IsSlot M dels b w) (h3 : PrsSlot M us c w) : ChgSlot M ins dels us (.agg #[a, b, c]) w := ⟨a, b, c, rfl, h1, h2, h3⟩
/-- two updates in a new block -/
theorem prsSlot_two {x y : Upd} {a b : Value} {w : World} {g : Nat} {t : TypeId} {cs : Array Value} (hg : Ro w M (fun w => w.heap[g]? = some (.cells cs t (0, 0)))) (hc : ∀ i j k i' j' k', a = .agg #[i, j, k] → b = .agg #[i', j', k'] → cs = #[i, j, k, i', j', k']) (h : PrSlot M x a w) (k : PrSlot M y b w) : PrsSlot M [x, y] (.slice (some ⟨g, 0, none⟩) 2 2) w := by
  obtain ⟨p, rfl, rfl, h3, h4, h5⟩ := h
  obtain ⟨q, rfl, rfl, k3, k4, k5⟩ := k
  obtain rfl := hc _ _ _ _ _ _ rfl rfl
  refine ⟨_, 2, 2, [p, q], rfl, by omega, by omega, rfl, fun z hz => ?_, ?_⟩
  · simp only [List.mem_cons, List.not_mem_nil, or_false] at hz
    rcases hz with rfl | rfl <;> assumption
  · exact (show Ro w M (SlR 3 (some ⟨g, 0, none⟩) 2 (prCells [p, q])) from ro_block hg rfl).and fun w2 h1 h2 r hr => by
      simp only [List.mem_cons, List.not_mem_nil, or_false] at hr
      rcases hr with rfl | rfl
      · exact ⟨h4 w2 h1 h2, h5 w2 h1 h2⟩
      · exact ⟨k4 w2 h1 h2, k5 w2 h1 h2⟩
theorem prsSlot_one {x : Upd} {a : Value} {w : World} {g : Nat} {t : TypeId} {cs : Array Value} (hg : Ro w M (fun w => w.heap[g]? = some (.cells cs t (0, 0)))) (hc : ∀ i j k, a = .agg #[i, j, k] → cs = #[i, j, k]) (h : PrSlot M x a w) : PrsSlot M [x] (.slice (some ⟨g, 0, none⟩) 1 1) w := by
  obtain ⟨p, rfl, rfl, h3, h4, h5⟩ := h
  obtain rfl := hc _ _ _ rfl
  refine ⟨_, 1, 1, [p], rfl, by omega, by omega, rfl, fun z hz => ?_, ?_⟩
  · simp only [List.mem_cons, List.not_mem_nil, or_false] at hz
    subst hz; assumption
  · exact (show Ro w M (SlR 3 (some ⟨g, 0, none⟩) 1 (prCells [p])) from ro_block hg rfl).and fun w2 h1 h2 r hr => by
      simp only [List.mem_cons, List.not_mem_nil, or_false] at hr
      subst hr
      exact ⟨h4 w2 h1 h2, h5 w2 h1 h2⟩
theorem slsSlot_one {x : List Vl} {a : Value} {w : World} {g : Nat} {t : TypeId} (hg : Ro w M (fun w => w.heap[g]? = some (.cells #[a] t (0, 0)))) (hx : ∀ v ∈ x, v.ok) (h : VlsSlot M x a w) : SlsSlot M [x] (.slice (some ⟨g, 0, none⟩) 1 1) w := by
  obtain ⟨A, n, c, rfl, h1, h2, h3, h4⟩ := h
  refine ⟨_, 1, 1, [⟨A, n, c, x⟩], rfl, by omega, by omega, rfl, fun z hz => ?_, ?_⟩
  · simp only [List.mem_cons, List.not_mem_nil, or_false] at hz
    subst hz; exact ⟨h2, h3, hx⟩
  · exact (show Ro w M (SlR 1 (some ⟨g, 0, none⟩) 1 (slCells [⟨A, n, c, x⟩])) from ro_block hg rfl).and fun w2 k1 k2 r hr => by
      simp only [List.mem_cons, List.not_mem_nil, or_false] at hr
      subst hr
      exact h4 w2 k1 k2
theorem isSlot_one {x : Int} {w : World} {g : Nat} {t : TypeId} (hg : Ro w M (fun w => w.heap[g]? = some (.cells #[.int .i64 x] t (0, 0)))) : IsSlot M [x] (.slice (some ⟨g, 0, none⟩) 1 1) w :=
  ⟨_, 1, 1, rfl, by omega, by omega, ro_block hg rfl⟩
end
end Go.Proofs.Ytphofeeaphkciaa

namespace Go.Proofs.Ytphofeeaphkciaa
open Go.RowKit
set_option linter.unusedVariables false
set_option linter.unusedSimpArgs false

theorem vl_ext {x y : Vl} (h0 : x.k = y.k) (h1 : x.i = y.i) (h2 : x.s = y.s) : x = y := by
  obtain ⟨a, b, c⟩ := x; obtain ⟨d, e, f⟩ := y; simp only at h0 h1 h2; rw [h0, h1, h2]
/-- the number of the first row with a key -/
def lookR (k : Int) (rs : List Row) (key : Vl) : Option Int := (rs.find? fun r => decide (0 ≤ k ∧ r.2[k.toNat]? = some key)).map (·.1)
theorem lookR_neg {k : Int} {rs : List Row} {j : Nat} {r : Row} {key : Vl} (hr : rs[j]? = some r) (h : k < 0) : lookR k (rs.drop j) key = lookR k (rs.drop (j + 1)) key := by
  unfold lookR; rw [drop_cons hr, List.find?_cons, decide_eq_false (show ¬ (0 ≤ k ∧ r.2[k.toNat]? = some key) from fun h2 => by omega)]
theorem lookR_short {k : Nat} {rs : List Row} {j : Nat} {r : Row} {key : Vl} (hr : rs[j]? = some r) (h : r.2.length ≤ k) : lookR k (rs.drop j) key = lookR k (rs.drop (j + 1)) key := by
  unfold lookR; rw [drop_cons hr, List.find?_cons, decide_eq_false (show ¬ (0 ≤ (k : Int) ∧ r.2[(k : Int).toNat]? = some key) from fun h2 => by rw [Int.toNat_natCast, List.getElem?_eq_none h] at h2; cases h2.2)]
theorem lookR_miss {k : Int} {rs : List Row} {j : Nat} {r : Row} {key v : Vl} (hr : rs[j]? = some r) (hk : 0 ≤ k) (hv : r.2[k.toNat]? = some v) (h : v ≠ key) : lookR k (rs.drop j) key = lookR k (rs.drop (j + 1)) key := by
  unfold lookR; rw [drop_cons hr, List.find?_cons, decide_eq_false (show ¬ (0 ≤ k ∧ r.2[k.toNat]? = some key) from fun h2 => by rw [hv] at h2; exact h (by injection h2.2))]
theorem lookR_hit {k : Int} {rs : List Row} {j : Nat} {r : Row} {key v : Vl} (hr : rs[j]? = some r) (hk : 0 ≤ k) (hv : r.2[k.toNat]? = some v) (h : v = key) : lookR k (rs.drop j) key = some r.1 := by
  unfold lookR; rw [drop_cons hr, List.find?_cons, decide_eq_true (show 0 ≤ k ∧ r.2[k.toNat]? = some key from ⟨hk, by rw [hv, h]⟩)]; rfl
set_option maxHeartbeats 4000000 in
set_option maxRecDepth 100000 in
theorem look_any (M : Nat → Prop) (w : World) (hM : ∀ b, M b → b < w.heap.size) (nm : ByteArray) (A : Option Addr) (n c : Nat) (cs : List Col) (nx : Int) (B : Option Addr) (m d : Nat) (l : List Rw) (key : Vl) (hD : Ro w M (SlR 4 A n (colCells cs))) (hE : Ro w M (RwsIn B m l)) (hn : n ≤ 9223372036854775807) (hm : m ≤ 4611686018427387904) :
    Calls Try.prog 19 #[.agg #[.string nm, .slice A n c, .int .i64 nx, .slice B m d], .agg #[.int .i64 key.k, .int .i64 key.i, .string key.s]] w fun e w' => e = .returned (.tuple #[.int .i64 ((lookR (findB Col.key cs) (l.map Rw.row) key).getD 0), .bool (lookR (findB Col.key cs) (l.map Rw.row) key).isSome]) ∧ Below w.heap.size w w' := by
  have HL := hid hE.now.len
  have K0 := (((((Hold.start M w hM).add (hE.less (by simp [Mut]))).add (hD.less (by simp [Mut, Hp.foot]))).alloc_cst #[.string nm, .slice A n c, .int .i64 nx, .slice B m d] 29)).alloc_cst #[.int .i64 key.k, .int .i64 key.i, .string key.s] 31
  rw [World.size_alloc] at K0
  have F0 := K0.facts
  simp only [World.size_alloc, World.size_drew, factsL, cellsF, Nat.reduceAdd, List.toList_toArray, List.set_cons_zero, List.set_cons_succ, List.setIfInBounds_toArray, and_true, true_and] at F0
  clear hD hE
  go_enter Try.func19, Try.ntmps19
  go_wp2_with fail
  refine (keycol_any _ _ K0.mutLt nm A n c cs (K0.ro 2 rfl) hn).mono ?_
  rintro e w1 ⟨rfl, b1⟩
  have K1 := K0.call b1
  clear K0 b1 F0
  have F1 := K1.facts
  simp only [World.size_alloc, World.size_drew, factsL, cellsF, Nat.reduceAdd, List.toList_toArray, List.set_cons_zero, List.set_cons_succ, List.setIfInBounds_toArray, and_true, true_and] at F1
  obtain ⟨kk, hkk⟩ : ∃ kk, findB Col.key cs = kk := ⟨_, rfl⟩
  rw [hkk]
  have HKK := hid hkk
  clear hkk
  go_wp2_with fail
  clear F1
  go_loopw [15] (fun iv wr => ∃ (j : Nat), j ≤ m ∧ iv = .int .i64 j ∧ Hid (lookR kk (l.map Rw.row) key = lookR kk ((l.map Rw.row).drop j) key) ∧ Hold M none w wr [.cst (w.heap.size + 1) 31 #[.int .i64 key.k, .int .i64 key.i, .string key.s], .cst w.heap.size 29 #[.string nm, .slice A n c, .int .i64 nx, .slice B m d], .ro (SlR 4 A n (colCells cs)), .ro (RwsIn B m l)]) (fun iv _ => m - (intOf iv).toNat)
  case atStart => exact ⟨0, by omega, rfl, hid rfl, K1⟩
  case round =>
    clear K1
    obtain ⟨j, hj, rfl, HS, H⟩ := hrel
    by_cases hlt : j < m
    · have hdd : decide ((j : Int) < (m : Int)) = true := by simp; omega
      have j0 : (0 : Int) ≤ (j : Int) := by omega
      obtain ⟨x, hx⟩ := get_of HL.out hlt
      obtain ⟨g, o, rfl, hgb, c0, c1, hvi⟩ := (H.ro 3 rfl).now.at_ hx
      have HX := hid (show (l.map Rw.row)[j]? = some (x.id, x.vs) by simp [hx, Rw.row])
      have HXM := hid (List.mem_of_getElem? hx)
      have HVL := hid (show x.vs.length = x.n from hvi.len)
      clear hx
      by_cases hk : kk < 0
      · have hk0 : decide (kk ≥ 0) = false := by simpa using hk
        have K2 := H.alloc_cst #[.int .i64 x.id, .slice x.A x.n x.c] 34
        have HS2 := hid (show lookR kk (l.map Rw.row) key = lookR kk ((l.map Rw.row).drop (j + 1)) key by rw [HS.out]; exact lookR_neg HX.out hk)
        clear hk
        obtain ⟨gb, hgb2⟩ : ∃ gb, gb = wr.heap.size := ⟨_, rfl⟩
        obtain ⟨KL, hKL⟩ : ∃ KL : List Hp, KL = [Hp.cst wr.heap.size 34 #[.int .i64 x.id, .slice x.A x.n x.c], .cst (w.heap.size + 1) 31 #[.int .i64 key.k, .int .i64 key.i, .string key.s], .cst w.heap.size 29 #[.string nm, .slice A n c, .int .i64 nx, .slice (some ⟨g, o, none⟩) m d], .ro (SlR 4 A n (colCells cs)), .ro (RwsIn (some ⟨g, o, none⟩) m l)] := ⟨_, rfl⟩
        rw [← hKL] at K2
        rw [← hgb2] at hKL
        have HF : Hid (∀ wv, Hold M none w wv KL → wv.cell? ⟨gb, 1, none⟩ = some (.slice x.A x.n x.c) ∧ gb < wv.heap.size ∧ wv.cell? ⟨w.heap.size + 1, 0, none⟩ = some (.int .i64 key.k) ∧ wv.cell? ⟨w.heap.size + 1, 1, none⟩ = some (.int .i64 key.i) ∧ wv.cell? ⟨w.heap.size + 1, 2, none⟩ = some (.string key.s) ∧ w.heap.size + 1 < wv.heap.size) := hid fun wv HC => by
          rw [hKL] at HC
          have b0 := HC.cst_ 0 rfl
          have b1 := HC.cst_ 1 rfl
          exact ⟨cell_of_row _ _ 1 _ _ _ b0, Blk.lt b0, cell_of_row _ _ 0 _ _ _ b1, cell_of_row _ _ 1 _ _ _ b1, cell_of_row _ _ 2 _ _ _ b1, Blk.lt b1⟩
        go_wp2_with fail
        rw [← hgb2]
        have HGB := hid hgb2
        have HKE := hid hKL
        clear hgb2 hKL
        generalize wr.alloc (.cells #[.int .i64 x.id, .slice x.A x.n x.c] 34) = w2 at *
        refine wp_region_any (by kernel_rfl) ?_
        refine wpAny_hold 17 40 (KL) (spL []) (by kernel_rfl) (by kernel_rfl) (by kernel_rfl) rfl ?_ (K2.drew) ?_
        · exact stays_nil _
        simp only [List.take_succ_cons, List.take_zero, List.drop_succ_cons, List.drop_zero, Act.put, List.getElem_toArray, List.getElem_cons_zero, List.getElem_cons_succ, List.setIfInBounds_toArray, List.set_cons_succ, List.set_cons_zero]
        refine dw_val rfl rfl rfl ?_; apply Exists.intro; refine ⟨fun wv HC => ?_, ?_⟩
        · obtain ⟨f0, f1, f2, f3, f4, f5⟩ := HF.out _ HC; go_simp <;> rfl
        simp only [Act.put, List.setIfInBounds_toArray, List.set_cons_succ, List.set_cons_zero]
        refine dw_val rfl rfl rfl ?_; apply Exists.intro; refine ⟨fun wv HC => ?_, ?_⟩
        · obtain ⟨f0, f1, f2, f3, f4, f5⟩ := HF.out _ HC; go_simp <;> rfl
        simp only [Act.put, List.setIfInBounds_toArray, List.set_cons_succ, List.set_cons_zero]
        refine dw_val rfl rfl rfl ?_; apply Exists.intro; refine ⟨fun wv HC => ?_, ?_⟩
        · obtain ⟨f0, f1, f2, f3, f4, f5⟩ := HF.out _ HC; go_simp <;> rfl
        simp only [Act.put, List.setIfInBounds_toArray, List.set_cons_succ, List.set_cons_zero]
        refine dw_skip rfl rfl rfl ?_
        simp only [Act.put, List.setIfInBounds_toArray, List.set_cons_succ, List.set_cons_zero]
        refine dw_skip rfl rfl rfl ?_
        simp only [Act.put, List.setIfInBounds_toArray, List.set_cons_succ, List.set_cons_zero]
        refine dw_skip rfl rfl rfl ?_
        simp only [Act.put, List.setIfInBounds_toArray, List.set_cons_succ, List.set_cons_zero]
        refine dw_skip rfl rfl rfl ?_
        simp only [Act.put, List.setIfInBounds_toArray, List.set_cons_succ, List.set_cons_zero]
        refine dw_skip rfl rfl rfl ?_
        simp only [Act.put, List.setIfInBounds_toArray, List.set_cons_succ, List.set_cons_zero]
        refine dw_val rfl rfl rfl ?_; apply Exists.intro; refine ⟨fun wv HC => ?_, ?_⟩
        · obtain ⟨f0, f1, f2, f3, f4, f5⟩ := HF.out _ HC; go_simp <;> rfl
        simp only [Act.put, List.setIfInBounds_toArray, List.set_cons_succ, List.set_cons_zero]
        refine dw_val rfl rfl rfl ?_; apply Exists.intro; refine ⟨fun wv HC => ?_, ?_⟩
        · obtain ⟨f0, f1, f2, f3, f4, f5⟩ := HF.out _ HC; go_simp <;> rfl
        simp only [Act.put, List.setIfInBounds_toArray, List.set_cons_succ, List.set_cons_zero]
        refine dw_skip rfl rfl rfl ?_
        simp only [Act.put, List.setIfInBounds_toArray, List.set_cons_succ, List.set_cons_zero]
        refine dw_skip rfl rfl rfl ?_
        simp only [Act.put, List.setIfInBounds_toArray, List.set_cons_succ, List.set_cons_zero]
        refine dw_skip rfl rfl rfl ?_
        simp only [Act.put, List.setIfInBounds_toArray, List.set_cons_succ, List.set_cons_zero]
        refine dw_skip rfl rfl rfl ?_
        simp only [Act.put, List.setIfInBounds_toArray, List.set_cons_succ, List.set_cons_zero]
        refine dw_skip rfl rfl rfl ?_
        simp only [Act.put, List.setIfInBounds_toArray, List.set_cons_succ, List.set_cons_zero]
        refine dw_skip rfl rfl rfl ?_
        simp only [Act.put, List.setIfInBounds_toArray, List.set_cons_succ, List.set_cons_zero]
        refine dw_skip rfl rfl rfl ?_
        simp only [Act.put, List.setIfInBounds_toArray, List.set_cons_succ, List.set_cons_zero]
        refine rel_nil ?_
        rintro wx2 HX2
        rintro _hrm _HG
        rw [HKE.out] at HX2
        clear _hrm _HG
        go_wp2_with fail
        go_roundw
        case rel => exact ⟨j + 1, by omega, by go_num, HS2, HX2.drop (List.sublist_cons_self _ _)⟩
        case measure => simp [intOf]; omega
      obtain ⟨κ, rfl⟩ := Int.eq_ofNat_of_zero_le (show 0 ≤ kk by omega)
      have hk0 : decide ((κ : Int) ≥ 0) = true := by simp
      clear hk
      by_cases hkl : κ < x.n
      · have hd2 : decide ((κ : Int) < (x.n : Int)) = true := by simp; omega
        have k0 : (0 : Int) ≤ (κ : Int) := by omega
        have k1 : (κ : Int) < (x.n : Int) := by omega
        obtain ⟨v, hv⟩ := get_of HVL.out hkl
        obtain ⟨gv, ov, hA, hgv, v0, v1, v2⟩ := hvi.at_ hv
        have HV := hid hv; have HA := hid hA
        clear hv v0 v1 v2 hgv hvi
        rw [hA] at c1
        have K2 := H.alloc_cst #[.int .i64 x.id, .slice (some ⟨gv, ov, none⟩) x.n x.c] 34
        clear hA
        by_cases hvk : v = key
        · have HN := hid (show lookR κ (l.map Rw.row) key = some x.id by rw [HS.out]; exact lookR_hit HX.out (by omega) (by simpa using HV.out) hvk)
          have e0 : (v.k == key.k) = true := by simp [hvk]
          have e1 : (v.i == key.i) = true := by simp [hvk]
          have e2 : (v.s.toList == key.s.toList) = true := by simp [hvk]
          clear hvk
          obtain ⟨gb, hgb2⟩ : ∃ gb, gb = wr.heap.size := ⟨_, rfl⟩
          obtain ⟨KL, hKL⟩ : ∃ KL : List Hp, KL = [Hp.cst wr.heap.size 34 #[.int .i64 x.id, .slice (some ⟨gv, ov, none⟩) x.n x.c], .cst (w.heap.size + 1) 31 #[.int .i64 key.k, .int .i64 key.i, .string key.s], .cst w.heap.size 29 #[.string nm, .slice A n c, .int .i64 nx, .slice (some ⟨g, o, none⟩) m d], .ro (SlR 4 A n (colCells cs)), .ro (RwsIn (some ⟨g, o, none⟩) m l)] := ⟨_, rfl⟩
          rw [← hKL] at K2
          rw [← hgb2] at hKL
          have HF : Hid (∀ wv, Hold M none w wv KL → wv.cell? ⟨gb, 1, none⟩ = some (.slice (some ⟨gv, ov, none⟩) x.n x.c) ∧ gb < wv.heap.size ∧ wv.cell? ⟨w.heap.size + 1, 0, none⟩ = some (.int .i64 key.k) ∧ wv.cell? ⟨w.heap.size + 1, 1, none⟩ = some (.int .i64 key.i) ∧ wv.cell? ⟨w.heap.size + 1, 2, none⟩ = some (.string key.s) ∧ w.heap.size + 1 < wv.heap.size ∧ wv.cell? ⟨gv, ov + κ * 3, none⟩ = some (.int .i64 v.k) ∧ wv.cell? ⟨gv, ov + κ * 3 + 1, none⟩ = some (.int .i64 v.i) ∧ wv.cell? ⟨gv, ov + κ * 3 + 2, none⟩ = some (.string v.s) ∧ gv < wv.heap.size) := hid fun wv HC => by
            rw [hKL] at HC
            have b0 := HC.cst_ 0 rfl
            have b1 := HC.cst_ 1 rfl
            obtain ⟨gv', ov', e', hl, e0, e1, e2⟩ := ((HC.ro 4 rfl).now.2 x HXM.out).at_ HV.out
            rw [HA.out] at e'
            obtain ⟨rfl, rfl⟩ : gv = gv' ∧ ov = ov' := by injection e' with e'; injection e' with a1 a2; exact ⟨a1, a2⟩
            exact ⟨cell_of_row _ _ 1 _ _ _ b0, Blk.lt b0, cell_of_row _ _ 0 _ _ _ b1, cell_of_row _ _ 1 _ _ _ b1, cell_of_row _ _ 2 _ _ _ b1, Blk.lt b1, e0, e1, e2, hl⟩
          go_wp2_with fail
          rw [← hgb2]
          have HGB := hid hgb2
          have HKE := hid hKL
          clear hgb2 hKL
          generalize wr.alloc (.cells #[.int .i64 x.id, .slice (some ⟨gv, ov, none⟩) x.n x.c] 34) = w2 at *
          refine wp_region_any (by kernel_rfl) ?_
          refine wpAny_hold 17 40 (KL) (spL []) (by kernel_rfl) (by kernel_rfl) (by kernel_rfl) rfl ?_ (K2.drew) ?_
          · exact stays_nil _
          simp only [List.take_succ_cons, List.take_zero, List.drop_succ_cons, List.drop_zero, Act.put, List.getElem_toArray, List.getElem_cons_zero, List.getElem_cons_succ, List.setIfInBounds_toArray, List.set_cons_succ, List.set_cons_zero]
          refine dw_val rfl rfl rfl ?_; apply Exists.intro; refine ⟨fun wv HC => ?_, ?_⟩
          · obtain ⟨f0, f1, f2, f3, f4, f5, f6, f7, f8, f9⟩ := HF.out _ HC; go_simp <;> rfl
          simp only [Act.put, List.setIfInBounds_toArray, List.set_cons_succ, List.set_cons_zero]
          refine dw_val rfl rfl rfl ?_; apply Exists.intro; refine ⟨fun wv HC => ?_, ?_⟩
          · obtain ⟨f0, f1, f2, f3, f4, f5, f6, f7, f8, f9⟩ := HF.out _ HC; go_simp <;> rfl
          simp only [Act.put, List.setIfInBounds_toArray, List.set_cons_succ, List.set_cons_zero]
          refine dw_val rfl rfl rfl ?_; apply Exists.intro; refine ⟨fun wv HC => ?_, ?_⟩
          · obtain ⟨f0, f1, f2, f3, f4, f5, f6, f7, f8, f9⟩ := HF.out _ HC; go_simp <;> rfl
          simp only [Act.put, List.setIfInBounds_toArray, List.set_cons_succ, List.set_cons_zero]
          refine dw_val rfl rfl rfl ?_; apply Exists.intro; refine ⟨fun wv HC => ?_, ?_⟩
          · obtain ⟨f0, f1, f2, f3, f4, f5, f6, f7, f8, f9⟩ := HF.out _ HC; go_simp <;> rfl
          simp only [Act.put, List.setIfInBounds_toArray, List.set_cons_succ, List.set_cons_zero]
          refine dw_val rfl rfl rfl ?_; apply Exists.intro; refine ⟨fun wv HC => ?_, ?_⟩
          · obtain ⟨f0, f1, f2, f3, f4, f5, f6, f7, f8, f9⟩ := HF.out _ HC; go_simp <;> rfl
          simp only [Act.put, List.setIfInBounds_toArray, List.set_cons_succ, List.set_cons_zero]
          refine dw_val rfl rfl rfl ?_; apply Exists.intro; refine ⟨fun wv HC => ?_, ?_⟩
          · obtain ⟨f0, f1, f2, f3, f4, f5, f6, f7, f8, f9⟩ := HF.out _ HC; go_simp <;> rfl
          simp only [Act.put, List.setIfInBounds_toArray, List.set_cons_succ, List.set_cons_zero]
          refine dw_val rfl rfl rfl ?_; apply Exists.intro; refine ⟨fun wv HC => ?_, ?_⟩
          · obtain ⟨f0, f1, f2, f3, f4, f5, f6, f7, f8, f9⟩ := HF.out _ HC; go_simp <;> rfl
          simp only [Act.put, List.setIfInBounds_toArray, List.set_cons_succ, List.set_cons_zero]
          refine dw_val rfl rfl rfl ?_; apply Exists.intro; refine ⟨fun wv HC => ?_, ?_⟩
          · obtain ⟨f0, f1, f2, f3, f4, f5, f6, f7, f8, f9⟩ := HF.out _ HC; go_simp <;> rfl
          simp only [Act.put, List.setIfInBounds_toArray, List.set_cons_succ, List.set_cons_zero]
          refine dw_val rfl rfl rfl ?_; apply Exists.intro; refine ⟨fun wv HC => ?_, ?_⟩
          · obtain ⟨f0, f1, f2, f3, f4, f5, f6, f7, f8, f9⟩ := HF.out _ HC; go_simp <;> rfl
          simp only [Act.put, List.setIfInBounds_toArray, List.set_cons_succ, List.set_cons_zero]
          refine dw_val rfl rfl rfl ?_; apply Exists.intro; refine ⟨fun wv HC => ?_, ?_⟩
          · obtain ⟨f0, f1, f2, f3, f4, f5, f6, f7, f8, f9⟩ := HF.out _ HC; go_simp <;> rfl
          simp only [Act.put, List.setIfInBounds_toArray, List.set_cons_succ, List.set_cons_zero]
          refine dw_val rfl rfl rfl ?_; apply Exists.intro; refine ⟨fun wv HC => ?_, ?_⟩
          · obtain ⟨f0, f1, f2, f3, f4, f5, f6, f7, f8, f9⟩ := HF.out _ HC; go_simp <;> rfl
          simp only [Act.put, List.setIfInBounds_toArray, List.set_cons_succ, List.set_cons_zero]
          refine dw_val rfl rfl rfl ?_; apply Exists.intro; refine ⟨fun wv HC => ?_, ?_⟩
          · obtain ⟨f0, f1, f2, f3, f4, f5, f6, f7, f8, f9⟩ := HF.out _ HC; go_simp <;> rfl
          simp only [Act.put, List.setIfInBounds_toArray, List.set_cons_succ, List.set_cons_zero]
          refine dw_val rfl rfl rfl ?_; apply Exists.intro; refine ⟨fun wv HC => ?_, ?_⟩
          · obtain ⟨f0, f1, f2, f3, f4, f5, f6, f7, f8, f9⟩ := HF.out _ HC; go_simp <;> rfl
          simp only [Act.put, List.setIfInBounds_toArray, List.set_cons_succ, List.set_cons_zero]
          refine dw_val rfl rfl rfl ?_; apply Exists.intro; refine ⟨fun wv HC => ?_, ?_⟩
          · obtain ⟨f0, f1, f2, f3, f4, f5, f6, f7, f8, f9⟩ := HF.out _ HC; go_simp <;> rfl
          simp only [Act.put, List.setIfInBounds_toArray, List.set_cons_succ, List.set_cons_zero]
          refine dw_val rfl rfl rfl ?_; apply Exists.intro; refine ⟨fun wv HC => ?_, ?_⟩
          · obtain ⟨f0, f1, f2, f3, f4, f5, f6, f7, f8, f9⟩ := HF.out _ HC; go_simp <;> rfl
          simp only [Act.put, List.setIfInBounds_toArray, List.set_cons_succ, List.set_cons_zero]
          refine dw_val rfl rfl rfl ?_; apply Exists.intro; refine ⟨fun wv HC => ?_, ?_⟩
          · obtain ⟨f0, f1, f2, f3, f4, f5, f6, f7, f8, f9⟩ := HF.out _ HC; go_simp <;> rfl
          simp only [Act.put, List.setIfInBounds_toArray, List.set_cons_succ, List.set_cons_zero]
          refine dw_val rfl rfl rfl ?_; apply Exists.intro; refine ⟨fun wv HC => ?_, ?_⟩
          · obtain ⟨f0, f1, f2, f3, f4, f5, f6, f7, f8, f9⟩ := HF.out _ HC; go_simp <;> rfl
          simp only [Act.put, List.setIfInBounds_toArray, List.set_cons_succ, List.set_cons_zero]
          refine rel_nil ?_
          rintro wx2 HX2
          rintro _hrm _HG
          rw [HKE.out] at HX2
          clear _hrm _HG
          have F3 := HX2.facts
          simp only [World.size_alloc, World.size_drew, factsL, cellsF, Nat.reduceAdd, List.toList_toArray, List.set_cons_zero, List.set_cons_succ, List.setIfInBounds_toArray, and_true, true_and] at F3
          go_wp2_with fail
          go_ret2
          exact ⟨by rw [HKK.out, HN.out] <;> rfl, HX2.below⟩
        have HS2 := hid (show lookR κ (l.map Rw.row) key = lookR κ ((l.map Rw.row).drop (j + 1)) key by rw [HS.out]; exact lookR_miss HX.out (by omega) (by simpa using HV.out) hvk)
        by_cases h0 : v.k = key.k
        · have e0 : (v.k == key.k) = true := by simp [h0]
          by_cases h1 : v.i = key.i
          · have e1 : (v.i == key.i) = true := by simp [h1]
            have e2 : (v.s.toList == key.s.toList) = false := by
              rw [beq_eq_false_iff_ne]; exact fun h => hvk (vl_ext h0 h1 (bytesEq h))
            clear hvk h0 h1
            obtain ⟨gb, hgb2⟩ : ∃ gb, gb = wr.heap.size := ⟨_, rfl⟩
            obtain ⟨KL, hKL⟩ : ∃ KL : List Hp, KL = [Hp.cst wr.heap.size 34 #[.int .i64 x.id, .slice (some ⟨gv, ov, none⟩) x.n x.c], .cst (w.heap.size + 1) 31 #[.int .i64 key.k, .int .i64 key.i, .string key.s], .cst w.heap.size 29 #[.string nm, .slice A n c, .int .i64 nx, .slice (some ⟨g, o, none⟩) m d], .ro (SlR 4 A n (colCells cs)), .ro (RwsIn (some ⟨g, o, none⟩) m l)] := ⟨_, rfl⟩
            rw [← hKL] at K2
            rw [← hgb2] at hKL
            have HF : Hid (∀ wv, Hold M none w wv KL → wv.cell? ⟨gb, 1, none⟩ = some (.slice (some ⟨gv, ov, none⟩) x.n x.c) ∧ gb < wv.heap.size ∧ wv.cell? ⟨w.heap.size + 1, 0, none⟩ = some (.int .i64 key.k) ∧ wv.cell? ⟨w.heap.size + 1, 1, none⟩ = some (.int .i64 key.i) ∧ wv.cell? ⟨w.heap.size + 1, 2, none⟩ = some (.string key.s) ∧ w.heap.size + 1 < wv.heap.size ∧ wv.cell? ⟨gv, ov + κ * 3, none⟩ = some (.int .i64 v.k) ∧ wv.cell? ⟨gv, ov + κ * 3 + 1, none⟩ = some (.int .i64 v.i) ∧ wv.cell? ⟨gv, ov + κ * 3 + 2, none⟩ = some (.string v.s) ∧ gv < wv.heap.size) := hid fun wv HC => by
              rw [hKL] at HC
              have b0 := HC.cst_ 0 rfl
              have b1 := HC.cst_ 1 rfl
              obtain ⟨gv', ov', e', hl, e0, e1, e2⟩ := ((HC.ro 4 rfl).now.2 x HXM.out).at_ HV.out
              rw [HA.out] at e'
              obtain ⟨rfl, rfl⟩ : gv = gv' ∧ ov = ov' := by injection e' with e'; injection e' with a1 a2; exact ⟨a1, a2⟩
              exact ⟨cell_of_row _ _ 1 _ _ _ b0, Blk.lt b0, cell_of_row _ _ 0 _ _ _ b1, cell_of_row _ _ 1 _ _ _ b1, cell_of_row _ _ 2 _ _ _ b1, Blk.lt b1, e0, e1, e2, hl⟩
            go_wp2_with fail
            rw [← hgb2]
            have HGB := hid hgb2
            have HKE := hid hKL
            clear hgb2 hKL
            generalize wr.alloc (.cells #[.int .i64 x.id, .slice (some ⟨gv, ov, none⟩) x.n x.c] 34) = w2 at *
            refine wp_region_any (by kernel_rfl) ?_
            refine wpAny_hold 17 40 (KL) (spL []) (by kernel_rfl) (by kernel_rfl) (by kernel_rfl) rfl ?_ (K2.drew) ?_
            · exact stays_nil _
            simp only [List.take_succ_cons, List.take_zero, List.drop_succ_cons, List.drop_zero, Act.put, List.getElem_toArray, List.getElem_cons_zero, List.getElem_cons_succ, List.setIfInBounds_toArray, List.set_cons_succ, List.set_cons_zero]
            refine dw_val rfl rfl rfl ?_; apply Exists.intro; refine ⟨fun wv HC => ?_, ?_⟩
            · obtain ⟨f0, f1, f2, f3, f4, f5, f6, f7, f8, f9⟩ := HF.out _ HC; go_simp <;> rfl
            simp only [Act.put, List.setIfInBounds_toArray, List.set_cons_succ, List.set_cons_zero]
            refine dw_val rfl rfl rfl ?_; apply Exists.intro; refine ⟨fun wv HC => ?_, ?_⟩
            · obtain ⟨f0, f1, f2, f3, f4, f5, f6, f7, f8, f9⟩ := HF.out _ HC; go_simp <;> rfl
            simp only [Act.put, List.setIfInBounds_toArray, List.set_cons_succ, List.set_cons_zero]
            refine dw_val rfl rfl rfl ?_; apply Exists.intro; refine ⟨fun wv HC => ?_, ?_⟩
            · obtain ⟨f0, f1, f2, f3, f4, f5, f6, f7, f8, f9⟩ := HF.out _ HC; go_simp <;> rfl
            simp only [Act.put, List.setIfInBounds_toArray, List.set_cons_succ, List.set_cons_zero]
            refine dw_val rfl rfl rfl ?_; apply Exists.intro; refine ⟨fun wv HC => ?_, ?_⟩
            · obtain ⟨f0, f1, f2, f3, f4, f5, f6, f7, f8, f9⟩ := HF.out _ HC; go_simp <;> rfl
            simp only [Act.put, List.setIfInBounds_toArray, List.set_cons_succ, List.set_cons_zero]
            refine dw_val rfl rfl rfl ?_; apply Exists.intro; refine ⟨fun wv HC => ?_, ?_⟩
            · obtain ⟨f0, f1, f2, f3, f4, f5, f6, f7, f8, f9⟩ := HF.out _ HC; go_simp <;> rfl
            simp only [Act.put, List.setIfInBounds_toArray, List.set_cons_succ, List.set_cons_zero]
            refine dw_val rfl rfl rfl ?_; apply Exists.intro; refine ⟨fun wv HC => ?_, ?_⟩
            · obtain ⟨f0, f1, f2, f3, f4, f5, f6, f7, f8, f9⟩ := HF.out _ HC; go_simp <;> rfl
            simp only [Act.put, List.setIfInBounds_toArray, List.set_cons_succ, List.set_cons_zero]
            refine dw_val rfl rfl rfl ?_; apply Exists.intro; refine ⟨fun wv HC => ?_, ?_⟩
            · obtain ⟨f0, f1, f2, f3, f4, f5, f6, f7, f8, f9⟩ := HF.out _ HC; go_simp <;> rfl
            simp only [Act.put, List.setIfInBounds_toArray, List.set_cons_succ, List.set_cons_zero]
            refine dw_val rfl rfl rfl ?_; apply Exists.intro; refine ⟨fun wv HC => ?_, ?_⟩
            · obtain ⟨f0, f1, f2, f3, f4, f5, f6, f7, f8, f9⟩ := HF.out _ HC; go_simp <;> rfl
            simp only [Act.put, List.setIfInBounds_toArray, List.set_cons_succ, List.set_cons_zero]
            refine dw_val rfl rfl rfl ?_; apply Exists.intro; refine ⟨fun wv HC => ?_, ?_⟩
            · obtain ⟨f0, f1, f2, f3, f4, f5, f6, f7, f8, f9⟩ := HF.out _ HC; go_simp <;> rfl
            simp only [Act.put, List.setIfInBounds_toArray, List.set_cons_succ, List.set_cons_zero]
            refine dw_val rfl rfl rfl ?_; apply Exists.intro; refine ⟨fun wv HC => ?_, ?_⟩
            · obtain ⟨f0, f1, f2, f3, f4, f5, f6, f7, f8, f9⟩ := HF.out _ HC; go_simp <;> rfl
            simp only [Act.put, List.setIfInBounds_toArray, List.set_cons_succ, List.set_cons_zero]
            refine dw_val rfl rfl rfl ?_; apply Exists.intro; refine ⟨fun wv HC => ?_, ?_⟩
            · obtain ⟨f0, f1, f2, f3, f4, f5, f6, f7, f8, f9⟩ := HF.out _ HC; go_simp <;> rfl
            simp only [Act.put, List.setIfInBounds_toArray, List.set_cons_succ, List.set_cons_zero]
            refine dw_val rfl rfl rfl ?_; apply Exists.intro; refine ⟨fun wv HC => ?_, ?_⟩
            · obtain ⟨f0, f1, f2, f3, f4, f5, f6, f7, f8, f9⟩ := HF.out _ HC; go_simp <;> rfl
            simp only [Act.put, List.setIfInBounds_toArray, List.set_cons_succ, List.set_cons_zero]
            refine dw_val rfl rfl rfl ?_; apply Exists.intro; refine ⟨fun wv HC => ?_, ?_⟩
            · obtain ⟨f0, f1, f2, f3, f4, f5, f6, f7, f8, f9⟩ := HF.out _ HC; go_simp <;> rfl
            simp only [Act.put, List.setIfInBounds_toArray, List.set_cons_succ, List.set_cons_zero]
            refine dw_val rfl rfl rfl ?_; apply Exists.intro; refine ⟨fun wv HC => ?_, ?_⟩
            · obtain ⟨f0, f1, f2, f3, f4, f5, f6, f7, f8, f9⟩ := HF.out _ HC; go_simp <;> rfl
            simp only [Act.put, List.setIfInBounds_toArray, List.set_cons_succ, List.set_cons_zero]
            refine dw_val rfl rfl rfl ?_; apply Exists.intro; refine ⟨fun wv HC => ?_, ?_⟩
            · obtain ⟨f0, f1, f2, f3, f4, f5, f6, f7, f8, f9⟩ := HF.out _ HC; go_simp <;> rfl
            simp only [Act.put, List.setIfInBounds_toArray, List.set_cons_succ, List.set_cons_zero]
            refine dw_val rfl rfl rfl ?_; apply Exists.intro; refine ⟨fun wv HC => ?_, ?_⟩
            · obtain ⟨f0, f1, f2, f3, f4, f5, f6, f7, f8, f9⟩ := HF.out _ HC; go_simp <;> rfl
            simp only [Act.put, List.setIfInBounds_toArray, List.set_cons_succ, List.set_cons_zero]
            refine dw_val rfl rfl rfl ?_; apply Exists.intro; refine ⟨fun wv HC => ?_, ?_⟩
            · obtain ⟨f0, f1, f2, f3, f4, f5, f6, f7, f8, f9⟩ := HF.out _ HC; go_simp <;> rfl
            simp only [Act.put, List.setIfInBounds_toArray, List.set_cons_succ, List.set_cons_zero]
            refine rel_nil ?_
            rintro wx2 HX2
            rintro _hrm _HG
            rw [HKE.out] at HX2
            clear _hrm _HG
            go_wp2_with fail
            go_roundw
            case rel => exact ⟨j + 1, by omega, by go_num, HS2, HX2.drop (List.sublist_cons_self _ _)⟩
            case measure => simp [intOf]; omega
          · have e1 : (v.i == key.i) = false := by simpa using h1
            clear hvk h0 h1
            obtain ⟨gb, hgb2⟩ : ∃ gb, gb = wr.heap.size := ⟨_, rfl⟩
            obtain ⟨KL, hKL⟩ : ∃ KL : List Hp, KL = [Hp.cst wr.heap.size 34 #[.int .i64 x.id, .slice (some ⟨gv, ov, none⟩) x.n x.c], .cst (w.heap.size + 1) 31 #[.int .i64 key.k, .int .i64 key.i, .string key.s], .cst w.heap.size 29 #[.string nm, .slice A n c, .int .i64 nx, .slice (some ⟨g, o, none⟩) m d], .ro (SlR 4 A n (colCells cs)), .ro (RwsIn (some ⟨g, o, none⟩) m l)] := ⟨_, rfl⟩
            rw [← hKL] at K2
            rw [← hgb2] at hKL
            have HF : Hid (∀ wv, Hold M none w wv KL → wv.cell? ⟨gb, 1, none⟩ = some (.slice (some ⟨gv, ov, none⟩) x.n x.c) ∧ gb < wv.heap.size ∧ wv.cell? ⟨w.heap.size + 1, 0, none⟩ = some (.int .i64 key.k) ∧ wv.cell? ⟨w.heap.size + 1, 1, none⟩ = some (.int .i64 key.i) ∧ wv.cell? ⟨w.heap.size + 1, 2, none⟩ = some (.string key.s) ∧ w.heap.size + 1 < wv.heap.size ∧ wv.cell? ⟨gv, ov + κ * 3, none⟩ = some (.int .i64 v.k) ∧ wv.cell? ⟨gv, ov + κ * 3 + 1, none⟩ = some (.int .i64 v.i) ∧ wv.cell? ⟨gv, ov + κ * 3 + 2, none⟩ = some (.string v.s) ∧ gv < wv.heap.size) := hid fun wv HC => by
              rw [hKL] at HC
              have b0 := HC.cst_ 0 rfl
              have b1 := HC.cst_ 1 rfl
              obtain ⟨gv', ov', e', hl, e0, e1, e2⟩ := ((HC.ro 4 rfl).now.2 x HXM.out).at_ HV.out
              rw [HA.out] at e'
              obtain ⟨rfl, rfl⟩ : gv = gv' ∧ ov = ov' := by injection e' with e'; injection e' with a1 a2; exact ⟨a1, a2⟩
              exact ⟨cell_of_row _ _ 1 _ _ _ b0, Blk.lt b0, cell_of_row _ _ 0 _ _ _ b1, cell_of_row _ _ 1 _ _ _ b1, cell_of_row _ _ 2 _ _ _ b1, Blk.lt b1, e0, e1, e2, hl⟩
            go_wp2_with fail
            rw [← hgb2]
            have HGB := hid hgb2
            have HKE := hid hKL
            clear hgb2 hKL
            generalize wr.alloc (.cells #[.int .i64 x.id, .slice (some ⟨gv, ov, none⟩) x.n x.c] 34) = w2 at *
            refine wp_region_any (by kernel_rfl) ?_
            refine wpAny_hold 17 40 (KL) (spL []) (by kernel_rfl) (by kernel_rfl) (by kernel_rfl) rfl ?_ (K2.drew) ?_
            · exact stays_nil _
            simp only [List.take_succ_cons, List.take_zero, List.drop_succ_cons, List.drop_zero, Act.put, List.getElem_toArray, List.getElem_cons_zero, List.getElem_cons_succ, List.setIfInBounds_toArray, List.set_cons_succ, List.set_cons_zero]
            refine dw_val rfl rfl rfl ?_; apply Exists.intro; refine ⟨fun wv HC => ?_, ?_⟩
            · obtain ⟨f0, f1, f2, f3, f4, f5, f6, f7, f8, f9⟩ := HF.out _ HC; go_simp <;> rfl
            simp only [Act.put, List.setIfInBounds_toArray, List.set_cons_succ, List.set_cons_zero]
            refine dw_val rfl rfl rfl ?_; apply Exists.intro; refine ⟨fun wv HC => ?_, ?_⟩
            · obtain ⟨f0, f1, f2, f3, f4, f5, f6, f7, f8, f9⟩ := HF.out _ HC; go_simp <;> rfl
            simp only [Act.put, List.setIfInBounds_toArray, List.set_cons_succ, List.set_cons_zero]
            refine dw_val rfl rfl rfl ?_; apply Exists.intro; refine ⟨fun wv HC => ?_, ?_⟩
            · obtain ⟨f0, f1, f2, f3, f4, f5, f6, f7, f8, f9⟩ := HF.out _ HC; go_simp <;> rfl
            simp only [Act.put, List.setIfInBounds_toArray, List.set_cons_succ, List.set_cons_zero]
            refine dw_val rfl rfl rfl ?_; apply Exists.intro; refine ⟨fun wv HC => ?_, ?_⟩
            · obtain ⟨f0, f1, f2, f3, f4, f5, f6, f7, f8, f9⟩ := HF.out _ HC; go_simp <;> rfl
            simp only [Act.put, List.setIfInBounds_toArray, List.set_cons_succ, List.set_cons_zero]
            refine dw_val rfl rfl rfl ?_; apply Exists.intro; refine ⟨fun wv HC => ?_, ?_⟩
            · obtain ⟨f0, f1, f2, f3, f4, f5, f6, f7, f8, f9⟩ := HF.out _ HC; go_simp <;> rfl
            simp only [Act.put, List.setIfInBounds_toArray, List.set_cons_succ, List.set_cons_zero]
            refine dw_val rfl rfl rfl ?_; apply Exists.intro; refine ⟨fun wv HC => ?_, ?_⟩
            · obtain ⟨f0, f1, f2, f3, f4, f5, f6, f7, f8, f9⟩ := HF.out _ HC; go_simp <;> rfl
            simp only [Act.put, List.setIfInBounds_toArray, List.set_cons_succ, List.set_cons_zero]
            refine dw_val rfl rfl rfl ?_; apply Exists.intro; refine ⟨fun wv HC => ?_, ?_⟩
            · obtain ⟨f0, f1, f2, f3, f4, f5, f6, f7, f8, f9⟩ := HF.out _ HC; go_simp <;> rfl
            simp only [Act.put, List.setIfInBounds_toArray, List.set_cons_succ, List.set_cons_zero]
            refine dw_val rfl rfl rfl ?_; apply Exists.intro; refine ⟨fun wv HC => ?_, ?_⟩
            · obtain ⟨f0, f1, f2, f3, f4, f5, f6, f7, f8, f9⟩ := HF.out _ HC; go_simp <;> rfl
            simp only [Act.put, List.setIfInBounds_toArray, List.set_cons_succ, List.set_cons_zero]
            refine dw_val rfl rfl rfl ?_; apply Exists.intro; refine ⟨fun wv HC => ?_, ?_⟩
            · obtain ⟨f0, f1, f2, f3, f4, f5, f6, f7, f8, f9⟩ := HF.out _ HC; go_simp <;> rfl
            simp only [Act.put, List.setIfInBounds_toArray, List.set_cons_succ, List.set_cons_zero]
            refine dw_val rfl rfl rfl ?_; apply Exists.intro; refine ⟨fun wv HC => ?_, ?_⟩
            · obtain ⟨f0, f1, f2, f3, f4, f5, f6, f7, f8, f9⟩ := HF.out _ HC; go_simp <;> rfl
            simp only [Act.put, List.setIfInBounds_toArray, List.set_cons_succ, List.set_cons_zero]
            refine dw_val rfl rfl rfl ?_; apply Exists.intro; refine ⟨fun wv HC => ?_, ?_⟩
            · obtain ⟨f0, f1, f2, f3, f4, f5, f6, f7, f8, f9⟩ := HF.out _ HC; go_simp <;> rfl
            simp only [Act.put, List.setIfInBounds_toArray, List.set_cons_succ, List.set_cons_zero]
            refine dw_val rfl rfl rfl ?_; apply Exists.intro; refine ⟨fun wv HC => ?_, ?_⟩
            · obtain ⟨f0, f1, f2, f3, f4, f5, f6, f7, f8, f9⟩ := HF.out _ HC; go_simp <;> rfl
            simp only [Act.put, List.setIfInBounds_toArray, List.set_cons_succ, List.set_cons_zero]
            refine dw_val rfl rfl rfl ?_; apply Exists.intro; refine ⟨fun wv HC => ?_, ?_⟩
            · obtain ⟨f0, f1, f2, f3, f4, f5, f6, f7, f8, f9⟩ := HF.out _ HC; go_simp <;> rfl
            simp only [Act.put, List.setIfInBounds_toArray, List.set_cons_succ, List.set_cons_zero]
            refine dw_val rfl rfl rfl ?_; apply Exists.intro; refine ⟨fun wv HC => ?_, ?_⟩
            · obtain ⟨f0, f1, f2, f3, f4, f5, f6, f7, f8, f9⟩ := HF.out _ HC; go_simp <;> rfl
            simp only [Act.put, List.setIfInBounds_toArray, List.set_cons_succ, List.set_cons_zero]
            refine dw_val rfl rfl rfl ?_; apply Exists.intro; refine ⟨fun wv HC => ?_, ?_⟩
            · obtain ⟨f0, f1, f2, f3, f4, f5, f6, f7, f8, f9⟩ := HF.out _ HC; go_simp <;> rfl
            simp only [Act.put, List.setIfInBounds_toArray, List.set_cons_succ, List.set_cons_zero]
            refine dw_val rfl rfl rfl ?_; apply Exists.intro; refine ⟨fun wv HC => ?_, ?_⟩
            · obtain ⟨f0, f1, f2, f3, f4, f5, f6, f7, f8, f9⟩ := HF.out _ HC; go_simp <;> rfl
            simp only [Act.put, List.setIfInBounds_toArray, List.set_cons_succ, List.set_cons_zero]
            refine dw_val rfl rfl rfl ?_; apply Exists.intro; refine ⟨fun wv HC => ?_, ?_⟩
            · obtain ⟨f0, f1, f2, f3, f4, f5, f6, f7, f8, f9⟩ := HF.out _ HC; go_simp <;> rfl
            simp only [Act.put, List.setIfInBounds_toArray, List.set_cons_succ, List.set_cons_zero]
            refine rel_nil ?_
            rintro wx2 HX2
            rintro _hrm _HG
            rw [HKE.out] at HX2
            clear _hrm _HG
            go_wp2_with fail
            go_roundw
            case rel => exact ⟨j + 1, by omega, by go_num, HS2, HX2.drop (List.sublist_cons_self _ _)⟩
            case measure => simp [intOf]; omega
        · have e0 : (v.k == key.k) = false := by simpa using h0
          clear hvk h0
          obtain ⟨gb, hgb2⟩ : ∃ gb, gb = wr.heap.size := ⟨_, rfl⟩
          obtain ⟨KL, hKL⟩ : ∃ KL : List Hp, KL = [Hp.cst wr.heap.size 34 #[.int .i64 x.id, .slice (some ⟨gv, ov, none⟩) x.n x.c], .cst (w.heap.size + 1) 31 #[.int .i64 key.k, .int .i64 key.i, .string key.s], .cst w.heap.size 29 #[.string nm, .slice A n c, .int .i64 nx, .slice (some ⟨g, o, none⟩) m d], .ro (SlR 4 A n (colCells cs)), .ro (RwsIn (some ⟨g, o, none⟩) m l)] := ⟨_, rfl⟩
          rw [← hKL] at K2
          rw [← hgb2] at hKL
          have HF : Hid (∀ wv, Hold M none w wv KL → wv.cell? ⟨gb, 1, none⟩ = some (.slice (some ⟨gv, ov, none⟩) x.n x.c) ∧ gb < wv.heap.size ∧ wv.cell? ⟨w.heap.size + 1, 0, none⟩ = some (.int .i64 key.k) ∧ wv.cell? ⟨w.heap.size + 1, 1, none⟩ = some (.int .i64 key.i) ∧ wv.cell? ⟨w.heap.size + 1, 2, none⟩ = some (.string key.s) ∧ w.heap.size + 1 < wv.heap.size ∧ wv.cell? ⟨gv, ov + κ * 3, none⟩ = some (.int .i64 v.k) ∧ wv.cell? ⟨gv, ov + κ * 3 + 1, none⟩ = some (.int .i64 v.i) ∧ wv.cell? ⟨gv, ov + κ * 3 + 2, none⟩ = some (.string v.s) ∧ gv < wv.heap.size) := hid fun wv HC => by
            rw [hKL] at HC
            have b0 := HC.cst_ 0 rfl
            have b1 := HC.cst_ 1 rfl
            obtain ⟨gv', ov', e', hl, e0, e1, e2⟩ := ((HC.ro 4 rfl).now.2 x HXM.out).at_ HV.out
            rw [HA.out] at e'
            obtain ⟨rfl, rfl⟩ : gv = gv' ∧ ov = ov' := by injection e' with e'; injection e' with a1 a2; exact ⟨a1, a2⟩
            exact ⟨cell_of_row _ _ 1 _ _ _ b0, Blk.lt b0, cell_of_row _ _ 0 _ _ _ b1, cell_of_row _ _ 1 _ _ _ b1, cell_of_row _ _ 2 _ _ _ b1, Blk.lt b1, e0, e1, e2, hl⟩
          go_wp2_with fail
          rw [← hgb2]
          have HGB := hid hgb2
          have HKE := hid hKL
          clear hgb2 hKL
          generalize wr.alloc (.cells #[.int .i64 x.id, .slice (some ⟨gv, ov, none⟩) x.n x.c] 34) = w2 at *
          refine wp_region_any (by kernel_rfl) ?_
          refine wpAny_hold 17 40 (KL) (spL []) (by kernel_rfl) (by kernel_rfl) (by kernel_rfl) rfl ?_ (K2.drew) ?_
          · exact stays_nil _
          simp only [List.take_succ_cons, List.take_zero, List.drop_succ_cons, List.drop_zero, Act.put, List.getElem_toArray, List.getElem_cons_zero, List.getElem_cons_succ, List.setIfInBounds_toArray, List.set_cons_succ, List.set_cons_zero]
          refine dw_val rfl rfl rfl ?_; apply Exists.intro; refine ⟨fun wv HC => ?_, ?_⟩
          · obtain ⟨f0, f1, f2, f3, f4, f5, f6, f7, f8, f9⟩ := HF.out _ HC; go_simp <;> rfl
          simp only [Act.put, List.setIfInBounds_toArray, List.set_cons_succ, List.set_cons_zero]
          refine dw_val rfl rfl rfl ?_; apply Exists.intro; refine ⟨fun wv HC => ?_, ?_⟩
          · obtain ⟨f0, f1, f2, f3, f4, f5, f6, f7, f8, f9⟩ := HF.out _ HC; go_simp <;> rfl
          simp only [Act.put, List.setIfInBounds_toArray, List.set_cons_succ, List.set_cons_zero]
          refine dw_val rfl rfl rfl ?_; apply Exists.intro; refine ⟨fun wv HC => ?_, ?_⟩
          · obtain ⟨f0, f1, f2, f3, f4, f5, f6, f7, f8, f9⟩ := HF.out _ HC; go_simp <;> rfl
          simp only [Act.put, List.setIfInBounds_toArray, List.set_cons_succ, List.set_cons_zero]
          refine dw_val rfl rfl rfl ?_; apply Exists.intro; refine ⟨fun wv HC => ?_, ?_⟩
          · obtain ⟨f0, f1, f2, f3, f4, f5, f6, f7, f8, f9⟩ := HF.out _ HC; go_simp <;> rfl
          simp only [Act.put, List.setIfInBounds_toArray, List.set_cons_succ, List.set_cons_zero]
          refine dw_val rfl rfl rfl ?_; apply Exists.intro; refine ⟨fun wv HC => ?_, ?_⟩
          · obtain ⟨f0, f1, f2, f3, f4, f5, f6, f7, f8, f9⟩ := HF.out _ HC; go_simp <;> rfl
          simp only [Act.put, List.setIfInBounds_toArray, List.set_cons_succ, List.set_cons_zero]
          refine dw_val rfl rfl rfl ?_; apply Exists.intro; refine ⟨fun wv HC => ?_, ?_⟩
          · obtain ⟨f0, f1, f2, f3, f4, f5, f6, f7, f8, f9⟩ := HF.out _ HC; go_simp <;> rfl
          simp only [Act.put, List.setIfInBounds_toArray, List.set_cons_succ, List.set_cons_zero]
          refine dw_val rfl rfl rfl ?_; apply Exists.intro; refine ⟨fun wv HC => ?_, ?_⟩
          · obtain ⟨f0, f1, f2, f3, f4, f5, f6, f7, f8, f9⟩ := HF.out _ HC; go_simp <;> rfl
          simp only [Act.put, List.setIfInBounds_toArray, List.set_cons_succ, List.set_cons_zero]
          refine dw_val rfl rfl rfl ?_; apply Exists.intro; refine ⟨fun wv HC => ?_, ?_⟩
          · obtain ⟨f0, f1, f2, f3, f4, f5, f6, f7, f8, f9⟩ := HF.out _ HC; go_simp <;> rfl
          simp only [Act.put, List.setIfInBounds_toArray, List.set_cons_succ, List.set_cons_zero]
          refine dw_val rfl rfl rfl ?_; apply Exists.intro; refine ⟨fun wv HC => ?_, ?_⟩
          · obtain ⟨f0, f1, f2, f3, f4, f5, f6, f7, f8, f9⟩ := HF.out _ HC; go_simp <;> rfl
          simp only [Act.put, List.setIfInBounds_toArray, List.set_cons_succ, List.set_cons_zero]
          refine dw_val rfl rfl rfl ?_; apply Exists.intro; refine ⟨fun wv HC => ?_, ?_⟩
          · obtain ⟨f0, f1, f2, f3, f4, f5, f6, f7, f8, f9⟩ := HF.out _ HC; go_simp <;> rfl
          simp only [Act.put, List.setIfInBounds_toArray, List.set_cons_succ, List.set_cons_zero]
          refine dw_val rfl rfl rfl ?_; apply Exists.intro; refine ⟨fun wv HC => ?_, ?_⟩
          · obtain ⟨f0, f1, f2, f3, f4, f5, f6, f7, f8, f9⟩ := HF.out _ HC; go_simp <;> rfl
          simp only [Act.put, List.setIfInBounds_toArray, List.set_cons_succ, List.set_cons_zero]
          refine dw_val rfl rfl rfl ?_; apply Exists.intro; refine ⟨fun wv HC => ?_, ?_⟩
          · obtain ⟨f0, f1, f2, f3, f4, f5, f6, f7, f8, f9⟩ := HF.out _ HC; go_simp <;> rfl
          simp only [Act.put, List.setIfInBounds_toArray, List.set_cons_succ, List.set_cons_zero]
          refine dw_val rfl rfl rfl ?_; apply Exists.intro; refine ⟨fun wv HC => ?_, ?_⟩
          · obtain ⟨f0, f1, f2, f3, f4, f5, f6, f7, f8, f9⟩ := HF.out _ HC; go_simp <;> rfl
          simp only [Act.put, List.setIfInBounds_toArray, List.set_cons_succ, List.set_cons_zero]
          refine dw_val rfl rfl rfl ?_; apply Exists.intro; refine ⟨fun wv HC => ?_, ?_⟩
          · obtain ⟨f0, f1, f2, f3, f4, f5, f6, f7, f8, f9⟩ := HF.out _ HC; go_simp <;> rfl
          simp only [Act.put, List.setIfInBounds_toArray, List.set_cons_succ, List.set_cons_zero]
          refine dw_val rfl rfl rfl ?_; apply Exists.intro; refine ⟨fun wv HC => ?_, ?_⟩
          · obtain ⟨f0, f1, f2, f3, f4, f5, f6, f7, f8, f9⟩ := HF.out _ HC; go_simp <;> rfl
          simp only [Act.put, List.setIfInBounds_toArray, List.set_cons_succ, List.set_cons_zero]
          refine dw_val rfl rfl rfl ?_; apply Exists.intro; refine ⟨fun wv HC => ?_, ?_⟩
          · obtain ⟨f0, f1, f2, f3, f4, f5, f6, f7, f8, f9⟩ := HF.out _ HC; go_simp <;> rfl
          simp only [Act.put, List.setIfInBounds_toArray, List.set_cons_succ, List.set_cons_zero]
          refine dw_val rfl rfl rfl ?_; apply Exists.intro; refine ⟨fun wv HC => ?_, ?_⟩
          · obtain ⟨f0, f1, f2, f3, f4, f5, f6, f7, f8, f9⟩ := HF.out _ HC; go_simp <;> rfl
          simp only [Act.put, List.setIfInBounds_toArray, List.set_cons_succ, List.set_cons_zero]
          refine rel_nil ?_
          rintro wx2 HX2
          rintro _hrm _HG
          rw [HKE.out] at HX2
          clear _hrm _HG
          go_wp2_with fail
          go_roundw
          case rel => exact ⟨j + 1, by omega, by go_num, HS2, HX2.drop (List.sublist_cons_self _ _)⟩
          case measure => simp [intOf]; omega
      · have hd2 : decide ((κ : Int) < (x.n : Int)) = false := by simp; omega
        have HS2 := hid (show lookR κ (l.map Rw.row) key = lookR κ ((l.map Rw.row).drop (j + 1)) key by rw [HS.out]; exact lookR_short HX.out (by rw [HVL.out]; omega))
        have K2 := H.alloc_cst #[.int .i64 x.id, .slice x.A x.n x.c] 34
        obtain ⟨gb, hgb2⟩ : ∃ gb, gb = wr.heap.size := ⟨_, rfl⟩
        obtain ⟨KL, hKL⟩ : ∃ KL : List Hp, KL = [Hp.cst wr.heap.size 34 #[.int .i64 x.id, .slice x.A x.n x.c], .cst (w.heap.size + 1) 31 #[.int .i64 key.k, .int .i64 key.i, .string key.s], .cst w.heap.size 29 #[.string nm, .slice A n c, .int .i64 nx, .slice (some ⟨g, o, none⟩) m d], .ro (SlR 4 A n (colCells cs)), .ro (RwsIn (some ⟨g, o, none⟩) m l)] := ⟨_, rfl⟩
        rw [← hKL] at K2
        rw [← hgb2] at hKL
        have HF : Hid (∀ wv, Hold M none w wv KL → wv.cell? ⟨gb, 1, none⟩ = some (.slice x.A x.n x.c) ∧ gb < wv.heap.size ∧ wv.cell? ⟨w.heap.size + 1, 0, none⟩ = some (.int .i64 key.k) ∧ wv.cell? ⟨w.heap.size + 1, 1, none⟩ = some (.int .i64 key.i) ∧ wv.cell? ⟨w.heap.size + 1, 2, none⟩ = some (.string key.s) ∧ w.heap.size + 1 < wv.heap.size) := hid fun wv HC => by
          rw [hKL] at HC
          have b0 := HC.cst_ 0 rfl
          have b1 := HC.cst_ 1 rfl
          exact ⟨cell_of_row _ _ 1 _ _ _ b0, Blk.lt b0, cell_of_row _ _ 0 _ _ _ b1, cell_of_row _ _ 1 _ _ _ b1, cell_of_row _ _ 2 _ _ _ b1, Blk.lt b1⟩
        go_wp2_with fail
        rw [← hgb2]
        have HGB := hid hgb2
        have HKE := hid hKL
        clear hgb2 hKL
        generalize wr.alloc (.cells #[.int .i64 x.id, .slice x.A x.n x.c] 34) = w2 at *
        refine wp_region_any (by kernel_rfl) ?_
        refine wpAny_hold 17 40 (KL) (spL []) (by kernel_rfl) (by kernel_rfl) (by kernel_rfl) rfl ?_ (K2.drew) ?_
        · exact stays_nil _
        simp only [List.take_succ_cons, List.take_zero, List.drop_succ_cons, List.drop_zero, Act.put, List.getElem_toArray, List.getElem_cons_zero, List.getElem_cons_succ, List.setIfInBounds_toArray, List.set_cons_succ, List.set_cons_zero]
        refine dw_val rfl rfl rfl ?_; apply Exists.intro; refine ⟨fun wv HC => ?_, ?_⟩
        · obtain ⟨f0, f1, f2, f3, f4, f5⟩ := HF.out _ HC; go_simp <;> rfl
        simp only [Act.put, List.setIfInBounds_toArray, List.set_cons_succ, List.set_cons_zero]
        refine dw_val rfl rfl rfl ?_; apply Exists.intro; refine ⟨fun wv HC => ?_, ?_⟩
        · obtain ⟨f0, f1, f2, f3, f4, f5⟩ := HF.out _ HC; go_simp <;> rfl
        simp only [Act.put, List.setIfInBounds_toArray, List.set_cons_succ, List.set_cons_zero]
        refine dw_val rfl rfl rfl ?_; apply Exists.intro; refine ⟨fun wv HC => ?_, ?_⟩
        · obtain ⟨f0, f1, f2, f3, f4, f5⟩ := HF.out _ HC; go_simp <;> rfl
        simp only [Act.put, List.setIfInBounds_toArray, List.set_cons_succ, List.set_cons_zero]
        refine dw_val rfl rfl rfl ?_; apply Exists.intro; refine ⟨fun wv HC => ?_, ?_⟩
        · obtain ⟨f0, f1, f2, f3, f4, f5⟩ := HF.out _ HC; go_simp <;> rfl
        simp only [Act.put, List.setIfInBounds_toArray, List.set_cons_succ, List.set_cons_zero]
        refine dw_val rfl rfl rfl ?_; apply Exists.intro; refine ⟨fun wv HC => ?_, ?_⟩
        · obtain ⟨f0, f1, f2, f3, f4, f5⟩ := HF.out _ HC; go_simp <;> rfl
        simp only [Act.put, List.setIfInBounds_toArray, List.set_cons_succ, List.set_cons_zero]
        refine dw_val rfl rfl rfl ?_; apply Exists.intro; refine ⟨fun wv HC => ?_, ?_⟩
        · obtain ⟨f0, f1, f2, f3, f4, f5⟩ := HF.out _ HC; go_simp <;> rfl
        simp only [Act.put, List.setIfInBounds_toArray, List.set_cons_succ, List.set_cons_zero]
        refine dw_val rfl rfl rfl ?_; apply Exists.intro; refine ⟨fun wv HC => ?_, ?_⟩
        · obtain ⟨f0, f1, f2, f3, f4, f5⟩ := HF.out _ HC; go_simp <;> rfl
        simp only [Act.put, List.setIfInBounds_toArray, List.set_cons_succ, List.set_cons_zero]
        refine dw_val rfl rfl rfl ?_; apply Exists.intro; refine ⟨fun wv HC => ?_, ?_⟩
        · obtain ⟨f0, f1, f2, f3, f4, f5⟩ := HF.out _ HC; go_simp <;> rfl
        simp only [Act.put, List.setIfInBounds_toArray, List.set_cons_succ, List.set_cons_zero]
        refine dw_val rfl rfl rfl ?_; apply Exists.intro; refine ⟨fun wv HC => ?_, ?_⟩
        · obtain ⟨f0, f1, f2, f3, f4, f5⟩ := HF.out _ HC; go_simp <;> rfl
        simp only [Act.put, List.setIfInBounds_toArray, List.set_cons_succ, List.set_cons_zero]
        refine dw_val rfl rfl rfl ?_; apply Exists.intro; refine ⟨fun wv HC => ?_, ?_⟩
        · obtain ⟨f0, f1, f2, f3, f4, f5⟩ := HF.out _ HC; go_simp <;> rfl
        simp only [Act.put, List.setIfInBounds_toArray, List.set_cons_succ, List.set_cons_zero]
        refine dw_skip rfl rfl rfl ?_
        simp only [Act.put, List.setIfInBounds_toArray, List.set_cons_succ, List.set_cons_zero]
        refine dw_skip rfl rfl rfl ?_
        simp only [Act.put, List.setIfInBounds_toArray, List.set_cons_succ, List.set_cons_zero]
        refine dw_skip rfl rfl rfl ?_
        simp only [Act.put, List.setIfInBounds_toArray, List.set_cons_succ, List.set_cons_zero]
        refine dw_skip rfl rfl rfl ?_
        simp only [Act.put, List.setIfInBounds_toArray, List.set_cons_succ, List.set_cons_zero]
        refine dw_skip rfl rfl rfl ?_
        simp only [Act.put, List.setIfInBounds_toArray, List.set_cons_succ, List.set_cons_zero]
        refine dw_skip rfl rfl rfl ?_
        simp only [Act.put, List.setIfInBounds_toArray, List.set_cons_succ, List.set_cons_zero]
        refine dw_skip rfl rfl rfl ?_
        simp only [Act.put, List.setIfInBounds_toArray, List.set_cons_succ, List.set_cons_zero]
        refine rel_nil ?_
        rintro wx2 HX2
        rintro _hrm _HG
        rw [HKE.out] at HX2
        clear _hrm _HG
        go_wp2_with fail
        go_roundw
        case rel => exact ⟨j + 1, by omega, by go_num, HS2, HX2.drop (List.sublist_cons_self _ _)⟩
        case measure => simp [intOf]; omega
    · obtain rfl : j = m := by omega
      have hdd : decide ((j : Int) < (j : Int)) = false := by simp
      have HN := hid (show lookR kk (l.map Rw.row) key = none by rw [HS.out, List.drop_of_length_le (by rw [List.length_map, HL.out]; exact Nat.le_refl _)]; rfl)
      go_wp2_with fail
      go_ret2
      exact ⟨by rw [HKK.out, HN.out] <;> rfl, H.below⟩
end Go.Proofs.Ytphofeeaphkciaa

namespace Go.Proofs.Ytphofeeaphkciaa
open Go.RowKit
set_option linter.unusedVariables false
set_option linter.unusedSimpArgs false

theorem schemaB_len {nm : ByteArray} {l : List Col} (h : schemaB nm l = true) : l.length ≤ 6 := by
  unfold schemaB at h
  simp only [Bool.and_eq_true, decide_eq_true_eq] at h
  exact h.1.1.2
/-- what New answers -/
def NewRet (w : World) (M : Nat → Prop) (nm : ByteArray) (cs : List Col) (e : Ending) (w' : World) : Prop :=
  if schemaB nm cs then ∃ (A : Option Addr) (n c : Nat), e = .returned (.tuple #[.agg #[.string nm, .slice A n c, .int .i64 1, .slice none 0 0], .int .i64 0]) ∧ n = cs.length ∧ n ≤ c ∧ c ≤ 9223372036854775807 ∧ Ro w' M (ColsIn A n cs) ∧ Below w.heap.size w w'
  else e = .returned (.tuple #[.agg #[.string ⟨#[]⟩, .slice none 0 0, .int .i64 0, .slice none 0 0], .int .i64 17]) ∧ Below w.heap.size w w'
set_option maxHeartbeats 1000000 in
set_option maxRecDepth 100000 in
theorem tnew_any (M : Nat → Prop) (w : World) (hM : ∀ b, M b → b < w.heap.size) (nm : ByteArray) (A : Option Addr) (n c : Nat) (cs : List Col) (hD : Ro w M (ColsIn A n cs)) (hn : n ≤ 9223372036854775807) (hs : nm.size ≤ maxLen) (hcs : ∀ x ∈ cs, x.name.size ≤ maxLen) :
    Calls Try.prog 17 #[.agg #[.string nm, .slice A n c]] w fun e w' => NewRet w M nm cs e w' := by
  have HL := hid (show cs.length = n from (RdC.of_sl hD.now).len)
  have K0 := (((Hold.start M w hM).add (hD.less (by simp [Mut]))).alloc #[.string nm, .slice A n c] 25).alloc #[.string ⟨#[]⟩, .slice none 0 0, .int .i64 0, .slice none 0 0] 29
  rw [World.size_alloc] at K0
  have F0 := K0.facts
  simp only [World.size_alloc, World.size_drew, factsL, cellsF, Nat.reduceAdd, List.toList_toArray, List.set_cons_zero, List.set_cons_succ, List.setIfInBounds_toArray, and_true, true_and] at F0
  clear hD
  go_enter Try.func17, Try.ntmps17
  go_wp2_with fail
  refine (svalid_any _ _ K0.mutLt nm A n c cs (K0.ro 2 rfl) hn hs hcs).mono ?_
  rintro e w1 ⟨rfl, b1⟩
  have K1 := K0.call b1
  clear K0 b1 F0
  have F1 := K1.facts
  simp only [World.size_alloc, World.size_drew, factsL, cellsF, Nat.reduceAdd, List.toList_toArray, List.set_cons_zero, List.set_cons_succ, List.setIfInBounds_toArray, and_true, true_and] at F1
  cases hsb : schemaB nm cs
  · have HSB := hid hsb; clear hsb
    have KN := (((K1.store 0 rfl 0 (.string ⟨#[]⟩)).store 0 rfl 1 (.slice none 0 0)).store 0 rfl 2 (.int .i64 0)).store 0 rfl 3 (.slice none 0 0)
    go_wp2_with fail
    exact bodyPost_ret (v := .tuple #[.agg #[.string ⟨#[]⟩, .slice none 0 0, .int .i64 0, .slice none 0 0], .int .i64 17]) (by simp [results, Try.results17, go_sem, F1]) rfl (by
      unfold NewRet; rw [HSB.out]; exact ⟨rfl, KN.below⟩)
  have hn6 : n ≤ 6 := by have := schemaB_len hsb; have := HL.out; omega
  have HSB := hid hsb; clear hsb
  go_wp2_with fail
  refine (cloneCols_any _ _ K1.mutLt A n c cs (K1.ro 2 rfl) (by omega)).mono ?_
  rintro e w2 ⟨A2, n2, c2, rfl, hn2, hc2, hc22, r2, b2⟩
  have K2 := (K1.call b2).add r2
  have HN2 := hid hn2
  clear K1 r2 b2 F1 hn2
  have F2 := K2.facts
  simp only [World.size_alloc, World.size_drew, factsL, cellsF, Nat.reduceAdd, List.toList_toArray, List.set_cons_zero, List.set_cons_succ, List.setIfInBounds_toArray, and_true, true_and] at F2
  have N2 := K2.nes
  simp only [World.size_alloc, nesL, neF, List.set_cons_zero, List.set_cons_succ, and_true, true_and] at N2
  go_wp2_with fail
  have KN := ((((K2.store 2 rfl 1 (.slice A2 n2 c2)).store 1 rfl 0 (.string nm)).store 1 rfl 1 (.slice A2 n2 c2)).store 1 rfl 2 (.int .i64 1)).store 1 rfl 3 (.slice none 0 0)
  exact bodyPost_ret (v := .tuple #[.agg #[.string nm, .slice A2 n2 c2, .int .i64 1, .slice none 0 0], .int .i64 0]) (by simp [results, Try.results17, go_sem, F2, N2]) rfl (by
    unfold NewRet; rw [HSB.out]; exact ⟨A2, n2, c2, rfl, HN2.out, hc2, hc22, KN.roOut 0 rfl, KN.below⟩)
end Go.Proofs.Ytphofeeaphkciaa

namespace Go.Proofs.Ytphofeeaphkciaa
open Go.RowKit
set_option linter.unusedVariables false
set_option linter.unusedSimpArgs false

def nmId : ByteArray := ⟨#[105, 100]⟩
def nmN : ByteArray := ⟨#[110]⟩
def nmS : ByteArray := ⟨#[115]⟩
def nmB : ByteArray := ⟨#[98]⟩
def nmM : ByteArray := ⟨#[109]⟩
def nmT : ByteArray := ⟨#[116]⟩
def nmU : ByteArray := ⟨#[117]⟩
def nmLog : ByteArray := ⟨#[108, 111, 103]⟩
def logCols : List Col := [⟨nmN, 1, false, false⟩, ⟨nmS, 3, false, false⟩]
def tCols : List Col := [⟨nmId, 1, true, true⟩, ⟨nmN, 1, false, false⟩, ⟨nmB, 2, false, false⟩, ⟨nmS, 3, false, false⟩]
def uCols : List Col := [⟨nmId, 1, true, true⟩, ⟨nmN, 1, true, false⟩, ⟨nmM, 1, false, false⟩]
/-- The schema of a name: its name and columns; of another name: none. -/
def schemaOf (s : ByteArray) : ByteArray × List Col :=
  if nmLog.toList == s.toList then (nmLog, logCols) else if nmT.toList == s.toList then (nmT, tCols) else if nmU.toList == s.toList then (nmU, uCols) else (⟨#[]⟩, [])

/-- What Schemas leaves. -/
def SchemasAre (w : World) (M : Nat → Prop) (e : Ending) (w' : World) : Prop :=
  ∃ (g g0 g1 g2 : Nat) (nl nt nu : ByteArray), nl = nmLog ∧ nt = nmT ∧ nu = nmU ∧ e = .returned (.slice (some ⟨g, 0, none⟩) 3 3) ∧ Below w.heap.size w w' ∧
    Ro w' M (fun w => w.heap[g]? = some (.cells #[.string nl, .slice (some ⟨g0, 0, none⟩) 2 2, .string nt, .slice (some ⟨g1, 0, none⟩) 4 4, .string nu, .slice (some ⟨g2, 0, none⟩) 3 3] 25 (0, 0))) ∧
    Ro w' M (SlR 4 (some ⟨g0, 0, none⟩) 2 (colCells logCols)) ∧ Ro w' M (SlR 4 (some ⟨g1, 0, none⟩) 4 (colCells tCols)) ∧ Ro w' M (SlR 4 (some ⟨g2, 0, none⟩) 3 (colCells uCols))

set_option maxHeartbeats 2000000 in
theorem schemas_any (M : Nat → Prop) (w : World) (hM : ∀ b, M b → b < w.heap.size) : Calls Try.prog 13 #[] w fun e w' => SchemasAre w M e w' := by
  have K0 := ((((Hold.start M w hM).alloc_cst (colCells logCols).toArray 63).alloc_cst (colCells tCols).toArray 63).alloc_cst (colCells uCols).toArray 63).alloc_cst
    #[.string nmLog, .slice (some ⟨w.heap.size, 0, none⟩) 2 2, .string nmT, .slice (some ⟨w.heap.size + 1, 0, none⟩) 4 4, .string nmU, .slice (some ⟨w.heap.size + 1 + 1, 0, none⟩) 3 3] 25
  simp only [World.size_alloc] at K0
  go_enter Try.func13, Try.ntmps13
  go_wp2
  go_ret
  refine ⟨w.heap.size + 1 + 1 + 1, w.heap.size, w.heap.size + 1, w.heap.size + 1 + 1, nmLog, nmT, nmU, rfl, rfl, rfl, rfl, K0.below, ?_, ?_, ?_, ?_⟩
  · exact Ro.less (K0.get 0 rfl) fun b hb => .inl hb
  · exact (ro_block (K0.get 3 rfl) (by rfl)).less fun b hb => .inl hb
  · exact (ro_block (K0.get 2 rfl) (by rfl)).less fun b hb => .inl hb
  · exact (ro_block (K0.get 1 rfl) (by rfl)).less fun b hb => .inl hb
end Go.Proofs.Ytphofeeaphkciaa

namespace Go.Proofs.Ytphofeeaphkciaa
open Go.RowKit
set_option linter.unusedVariables false
set_option linter.unusedSimpArgs false

/-- A schema returned: its name, its columns, in memory that nobody writes. -/
def SchemaIs (w : World) (M : Nat → Prop) (nm : ByteArray) (l : List Col) (e : Ending) (w' : World) : Prop :=
  ∃ (A : Option Addr) (n c : Nat), e = .returned (.agg #[.string nm, .slice A n c]) ∧ n ≤ c ∧ c ≤ 4 ∧ Ro w' M (SlR 4 A n (colCells l)) ∧ Below w.heap.size w w'

set_option maxHeartbeats 4000000 in
theorem schema_any (M : Nat → Prop) (w : World) (hM : ∀ b, M b → b < w.heap.size) (s : ByteArray) : Calls Try.prog 7 #[.string s] w fun e w' => SchemaIs w M (schemaOf s).1 (schemaOf s).2 e w' := by
  have K0 := (Hold.start M w hM).alloc #[.string ⟨#[]⟩, .slice none 0 0] 25
  go_enter Try.func7, Try.ntmps7
  go_wp2_with fail
  refine (schemas_any (Mut M _) _ K0.mutLt).mono ?_
  rintro e w1 ⟨g, g0, g1, g2, nl, nt, nu, e1, e2, e3, rfl, b1, r, r0, r1, r2⟩
  have E1 := hid e1; have E2 := hid e2; have E3 := hid e3
  clear e1 e2 e3
  have K1 := ((((K0.call b1).add r2).add (r1.less (mut_none rfl))).add ((r0.less (mut_none rfl)).less (mut_none rfl))).addCst (((r.less (mut_none rfl)).less (mut_none rfl)).less (mut_none rfl))
  clear b1 r r0 r1 r2 K0
  go_wp2_with fail
  go_loopw [7] (fun i wr => ∃ k : Nat, k ≤ 3 ∧ i = .int .i64 k ∧ (0 < k → (nl.toList == s.toList) = false) ∧ (1 < k → (nt.toList == s.toList) = false) ∧ (2 < k → (nu.toList == s.toList) = false) ∧
    Hold M none w wr [.cst g 25 #[.string nl, .slice (some ⟨g0, 0, none⟩) 2 2, .string nt, .slice (some ⟨g1, 0, none⟩) 4 4, .string nu, .slice (some ⟨g2, 0, none⟩) 3 3], .ro (SlR 4 (some ⟨g0, 0, none⟩) 2 (colCells logCols)), .ro (SlR 4 (some ⟨g1, 0, none⟩) 4 (colCells tCols)), .ro (SlR 4 (some ⟨g2, 0, none⟩) 3 (colCells uCols)), .blk w.heap.size 25 #[.string ⟨#[]⟩, .slice none 0 0]]) (fun i _ => 3 - (intOf i).toNat)
  case atStart => exact ⟨0, by omega, rfl, fun h => absurd h (by omega), fun h => absurd h (by omega), fun h => absurd h (by omega), K1⟩
  case round =>
    obtain ⟨k, hk, rfl, q0, q1, q2, H⟩ := hrel
    have F := H.facts
    simp only [World.size_alloc, factsL, cellsF, List.toList_toArray, Nat.reduceAdd, and_true, true_and] at F
    have hc : k = 0 ∨ k = 1 ∨ k = 2 ∨ k = 3 := by omega
    rcases hc with rfl | rfl | rfl | rfl
    · clear q0 q1 q2
      cases ht : (nl.toList == s.toList)
      · have KN := H.alloc_cst #[.string nl, .slice (some ⟨g0, 0, none⟩) 2 2] 25
        go_wp2_with fail
        go_roundw
        case rel => exact ⟨1, by omega, by go_num, by intros; first | exact ht | trivial, by intros; first | trivial | omega, by intros; first | trivial | omega, KN.drop (List.sublist_cons_self _ _)⟩
        case measure => simp [intOf]
      · have HR : Hid (schemaOf s = (nl, logCols)) := by
          unfold Hid schemaOf
          have h := ht
          rw [← E1.out, ← E2.out, ← E3.out, if_pos h]
        have KN := ((H.store 4 rfl 0 (.string nl)).store 4 rfl 1 (.slice (some ⟨g0, 0, none⟩) 2 2)).alloc_cst #[.string nl, .slice (some ⟨g0, 0, none⟩) 2 2] 25
        go_wp2_with fail
        exact bodyPost_ret (v := .agg #[.string nl, .slice (some ⟨g0, 0, none⟩) 2 2]) (by simp [results, Try.results7, go_sem, F]) rfl ⟨some ⟨g0, 0, none⟩, 2, 2, by rw [HR.out], by omega, by omega, by rw [HR.out]; exact KN.roOut 2 rfl, KN.below⟩
    · have Q0 := hid (q0 (by omega)); clear q0 q1 q2
      cases ht : (nt.toList == s.toList)
      · have KN := H.alloc_cst #[.string nt, .slice (some ⟨g1, 0, none⟩) 4 4] 25
        go_wp2_with fail
        go_roundw
        case rel => exact ⟨2, by omega, by go_num, by intros; first | exact Q0.out | trivial, by intros; first | exact ht | trivial, by intros; first | trivial | omega, KN.drop (List.sublist_cons_self _ _)⟩
        case measure => simp [intOf]
      · have HR : Hid (schemaOf s = (nt, tCols)) := by
          unfold Hid schemaOf
          have h := ht
          rw [← E1.out, ← E2.out, ← E3.out, if_neg (by rw [Q0.out]; simp), if_pos h]
        have KN := ((H.store 4 rfl 0 (.string nt)).store 4 rfl 1 (.slice (some ⟨g1, 0, none⟩) 4 4)).alloc_cst #[.string nt, .slice (some ⟨g1, 0, none⟩) 4 4] 25
        go_wp2_with fail
        exact bodyPost_ret (v := .agg #[.string nt, .slice (some ⟨g1, 0, none⟩) 4 4]) (by simp [results, Try.results7, go_sem, F]) rfl ⟨some ⟨g1, 0, none⟩, 4, 4, by rw [HR.out], by omega, by omega, by rw [HR.out]; exact KN.roOut 3 rfl, KN.below⟩
    · have Q0 := hid (q0 (by omega)); have Q1 := hid (q1 (by omega)); clear q0 q1 q2
      cases ht : (nu.toList == s.toList)
      · have KN := H.alloc_cst #[.string nu, .slice (some ⟨g2, 0, none⟩) 3 3] 25
        go_wp2_with fail
        go_roundw
        case rel => exact ⟨3, by omega, by go_num, by intros; first | exact Q0.out | trivial, by intros; first | exact Q1.out | trivial, by intros; first | exact ht | trivial, KN.drop (List.sublist_cons_self _ _)⟩
        case measure => simp [intOf]
      · have HR : Hid (schemaOf s = (nu, uCols)) := by
          unfold Hid schemaOf
          have h := ht
          rw [← E1.out, ← E2.out, ← E3.out, if_neg (by rw [Q0.out]; simp), if_neg (by rw [Q1.out]; simp), if_pos h]
        have KN := ((H.store 4 rfl 0 (.string nu)).store 4 rfl 1 (.slice (some ⟨g2, 0, none⟩) 3 3)).alloc_cst #[.string nu, .slice (some ⟨g2, 0, none⟩) 3 3] 25
        go_wp2_with fail
        exact bodyPost_ret (v := .agg #[.string nu, .slice (some ⟨g2, 0, none⟩) 3 3]) (by simp [results, Try.results7, go_sem, F]) rfl ⟨some ⟨g2, 0, none⟩, 3, 3, by rw [HR.out], by omega, by omega, by rw [HR.out]; exact KN.roOut 4 rfl, KN.below⟩
    · have Q0 := hid (q0 (by omega)); have Q1 := hid (q1 (by omega)); have Q2 := hid (q2 (by omega)); clear q0 q1 q2
      have HR : Hid (schemaOf s = (⟨#[]⟩, [])) := by
        unfold Hid schemaOf
        rw [← E1.out, ← E2.out, ← E3.out, if_neg (by rw [Q0.out]; simp), if_neg (by rw [Q1.out]; simp), if_neg (by rw [Q2.out]; simp)]
      have KN := (H.store 4 rfl 0 (.string ⟨#[]⟩)).store 4 rfl 1 (.slice none 0 0)
      go_wp2_with fail
      exact bodyPost_ret (v := .agg #[.string ⟨#[]⟩, .slice none 0 0]) (by simp [results, Try.results7, go_sem, F]) rfl ⟨none, 0, 0, by rw [HR.out], by omega, by omega, by rw [HR.out]; exact ro_nil, KN.below⟩
end Go.Proofs.Ytphofeeaphkciaa

namespace Go.Proofs.Ytphofeeaphkciaa
open Go.RowKit
set_option linter.unusedVariables false
set_option linter.unusedSimpArgs false

set_option maxHeartbeats 400000 in
theorem num_any (n : Int) : Gives 18 #[.int .i64 n] (.agg #[.int .i64 1, .int .i64 n, .string ⟨#[]⟩]) := by
  intro w
  have K0 := (Hold.begin_ w).alloc #[.int .i64 1, .int .i64 n, .string ⟨#[]⟩] 31
  have F0 := K0.facts
  simp only [World.size_alloc, World.size_drew, factsL, cellsF, Nat.reduceAdd, List.toList_toArray, List.set_cons_zero, List.set_cons_succ, List.setIfInBounds_toArray, and_true, true_and] at F0
  go_enter Try.func18, Try.ntmps18
  go_wp2_with fail
  exact bodyPost_ret (v := .agg #[.int .i64 1, .int .i64 n, .string ⟨#[]⟩]) (by simp [results, Try.results18, go_sem, F0]) rfl ⟨rfl, K0.below⟩
def vNum (n : Int) : Vl := ⟨1, n, ⟨#[]⟩⟩
def vNil : Vl := ⟨0, 0, ⟨#[]⟩⟩
def k6Row : Row := (3, [vNum 5, vNum 1, vNil])
theorem k6_key : findB Col.key uCols = 0 := by decide +kernel
theorem k6_look : lookR 0 [k6Row] (vNum 5) = some 3 := by decide +kernel
theorem k6_valid : tabB nmU uCols 4 [k6Row] = true := by decide +kernel
theorem k6_dup : dupB uCols [k6Row] = false := by decide +kernel
theorem k6_sch : schemaB nmU uCols = true := by decide +kernel
theorem schemaOf_u : schemaOf ⟨#[117]⟩ = (nmU, uCols) := by kernel_rfl
theorem schemaOf_log : schemaOf ⟨#[108, 111, 103]⟩ = (nmLog, logCols) := by kernel_rfl
theorem schema_u (M : Nat → Prop) (w : World) (hM : ∀ b, M b → b < w.heap.size) : Calls Try.prog 7 #[.string ⟨#[117]⟩] w fun e w' => SchemaIs w M nmU uCols e w' := by
  have h := schema_any M w hM ⟨#[117]⟩
  rwa [schemaOf_u] at h
theorem schema_log (M : Nat → Prop) (w : World) (hM : ∀ b, M b → b < w.heap.size) : Calls Try.prog 7 #[.string ⟨#[108, 111, 103]⟩] w fun e w' => SchemaIs w M nmLog logCols e w' := by
  have h := schema_any M w hM ⟨#[108, 111, 103]⟩
  rwa [schemaOf_log] at h
theorem small_u : nmU.size ≤ maxLen ∧ (∀ x ∈ uCols, x.name.size ≤ maxLen) ∧ nmLog.size ≤ maxLen ∧ (∀ x ∈ logCols, x.name.size ≤ maxLen) := by
  unfold maxLen
  refine ⟨by decide +kernel, fun x hx => ?_, by decide +kernel, fun x hx => ?_⟩
  · simp only [uCols, List.mem_cons, List.not_mem_nil, or_false] at hx
    rcases hx with rfl | rfl | rfl <;> decide +kernel
  · simp only [logCols, List.mem_cons, List.not_mem_nil, or_false] at hx
    rcases hx with rfl | rfl <;> decide +kernel
theorem empty_le : (⟨#[]⟩ : ByteArray).size ≤ maxLen := by unfold maxLen; decide
theorem vNum_ok {n : Int} (h : I64 n) : (vNum n).ok := ⟨show I64 1 by unfold I64; omega, h, empty_le⟩
theorem vNil_ok : vNil.ok := ⟨show I64 0 by unfold I64; omega, show I64 0 by unfold I64; omega, empty_le⟩
theorem cols_n {w : World} {A : Option Addr} {n : Nat} {l : List Col} (h : ColsIn A n l w) : l.length = n := (RdC.of_sl h).len
set_option maxHeartbeats 1000000 in
set_option maxRecDepth 100000 in
theorem known6 : Gives 9 #[] (.bool true) := by
  intro w
  have K0 := Hold.begin_ w
  have HS := hid small_u
  go_enter Try.func9, Try.ntmps9
  go_wp2_with fail
  refine (schema_u _ _ K0.mutLt).mono ?_
  rintro e w1 ⟨A, n, c, rfl, h1, h2, r1, b1⟩
  have K1 := (K0.call b1).add r1
  clear K0 r1 b1
  go_wp2_with fail
  refine (tnew_any _ _ K1.mutLt nmU A n c uCols (K1.ro 0 rfl) (by omega) HS.out.1 HS.out.2.1).mono ?_
  intro e w2 hN
  unfold NewRet at hN
  rw [k6_sch, if_pos rfl] at hN
  obtain ⟨A2, n2, c2, rfl, hn2, hc2, hc22, r2, b2⟩ := hN
  have hn3 : n2 ≤ 1000 := by rw [hn2]; decide
  have K2 := (((K1.call b2).add r2).alloc #[.string nmU, .slice A2 n2 c2, .int .i64 1, .slice none 0 0] 29)
  clear K1 r2 b2 hn2
  obtain ⟨gt, hgt⟩ : ∃ gt, gt = w2.heap.size := ⟨_, rfl⟩
  rw [← hgt] at K2
  have HGT := hid hgt
  generalize hU : nmU = nu at *
  have HU := hid hU
  clear hU
  go_wp2_with fail
  refine (num_any 5 _).mono ?_
  rintro e w3 ⟨rfl, b3⟩
  have K3 := K2.call b3
  clear K2 b3
  go_wp2_with fail
  rw [← hgt]
  clear hgt
  refine (num_any 1 _).mono ?_
  rintro e w4 ⟨rfl, b4⟩
  have K4a := K3.call b4
  have F4 := K4a.facts
  simp only [World.size_alloc, World.size_drew, factsL, cellsF, Nat.reduceAdd, List.toList_toArray, List.set_cons_zero, List.set_cons_succ, List.setIfInBounds_toArray, and_true, true_and] at F4
  have K5 := ((K4a.store 0 rfl 3 (.slice (some ⟨w4.heap.size + 1, 0, none⟩) 1 1)).store 0 rfl 2 (.int .i64 4))
  simp only [List.set_cons_zero, List.set_cons_succ, List.setIfInBounds_toArray] at K5
  have hz5 : ((w4.setCell ⟨gt, 3, none⟩ (.slice (some ⟨w4.heap.size + 1, 0, none⟩) 1 1)).setCell ⟨gt, 2, none⟩ (.int .i64 4)).heap.size = w4.heap.size := by simp [World.setCell]
  have K6 := (K5.alloc_cst #[.int .i64 1, .int .i64 5, .string ⟨#[]⟩, .int .i64 1, .int .i64 1, .string ⟨#[]⟩, .int .i64 0, .int .i64 0, .string ⟨#[]⟩] 31).alloc_cst #[.int .i64 3, .slice (some ⟨w4.heap.size, 0, none⟩) 3 3] 34
  rw [World.size_alloc, hz5] at K6
  clear K3 b4 K4a K5 hz5
  have q1 : Ro _ _ (VlsIn (some ⟨w4.heap.size, 0, none⟩) 3 [vNum 5, vNum 1, vNil]) := ro_block (t := 31) (cs := #[.int .i64 1, .int .i64 5, .string ⟨#[]⟩, .int .i64 1, .int .i64 1, .string ⟨#[]⟩, .int .i64 0, .int .i64 0, .string ⟨#[]⟩]) (n := 3) (size := 3) (K6.get 1 rfl) rfl
  have q2 : Ro _ _ (SlR 2 (some ⟨w4.heap.size + 1, 0, none⟩) 1 (rwCells [⟨3, some ⟨w4.heap.size, 0, none⟩, 3, 3, [vNum 5, vNum 1, vNil]⟩])) := ro_block (t := 34) (cs := #[.int .i64 3, .slice (some ⟨w4.heap.size, 0, none⟩) 3 3]) (n := 1) (size := 2) (K6.get 0 rfl) rfl
  have q3 : Ro _ _ (RwsIn (some ⟨w4.heap.size + 1, 0, none⟩) 1 [⟨3, some ⟨w4.heap.size, 0, none⟩, 3, 3, [vNum 5, vNum 1, vNil]⟩]) := q2.and (fun w2 h1 h2 r hr => by
    simp only [List.mem_cons, List.not_mem_nil, or_false] at hr
    subst hr
    exact q1 w2 h1 h2)
  have K7 := (K6.add q3).drop (L' := [.ro (RwsIn (some ⟨w4.heap.size + 1, 0, none⟩) 1 [⟨3, some ⟨w4.heap.size, 0, none⟩, 3, 3, [vNum 5, vNum 1, vNil]⟩]), .blk gt 29 #[.string nu, .slice A2 n2 c2, .int .i64 4, .slice (some ⟨w4.heap.size + 1, 0, none⟩) 1 1], .ro (ColsIn A2 n2 uCols)]) (List.Sublist.cons_cons _ (List.Sublist.cons _ (List.Sublist.cons _ (List.Sublist.cons_cons _ (List.Sublist.cons_cons _ (List.nil_sublist _))))))
  clear q1 q2 q3 K6
  go_wp2_with fail
  generalize (((w4.setCell _ _).setCell _ _).alloc _).alloc _ = w5 at *
  obtain ⟨gr, hgr⟩ : ∃ gr, gr = w4.heap.size + 1 := ⟨_, rfl⟩
  obtain ⟨gw, hgw⟩ : ∃ gw, gw = w4.heap.size := ⟨_, rfl⟩
  rw [← hgr, ← hgw] at K7
  rw [← hgr]
  have HGR := hid hgr
  clear hgr hgw F4
  obtain ⟨R, hR⟩ : ∃ R : Rw, R = ⟨3, some ⟨gw, 0, none⟩, 3, 3, [vNum 5, vNum 1, vNil]⟩ := ⟨_, rfl⟩
  rw [← hR] at K7
  have HR1 := hid (show R.ok from by
    rw [hR]
    refine ⟨show I64 3 by unfold I64; omega, by simp, by simp, fun v hv => ?_⟩
    simp only [List.mem_cons, List.not_mem_nil, or_false] at hv
    rcases hv with rfl | rfl | rfl
    · exact vNum_ok (by unfold I64; omega)
    · exact vNum_ok (by unfold I64; omega)
    · exact vNil_ok)
  have HR2 := hid (show [R].map Rw.row = [k6Row] by rw [hR]; rfl)
  clear hR
  obtain ⟨KL, hKL⟩ : ∃ KL : List Hp, KL = [.ro (RwsIn (some ⟨gr, 0, none⟩) 1 [R]), .blk gt 29 #[.string nu, .slice A2 n2 c2, .int .i64 4, .slice (some ⟨gr, 0, none⟩) 1 1], .ro (ColsIn A2 n2 uCols)] := ⟨_, rfl⟩
  rw [← hKL] at K7
  have HF : Hid (∀ wv, Hold None_ none w wv KL → wv.cell? ⟨gt, 0, none⟩ = some (.string nu) ∧ wv.cell? ⟨gt, 1, none⟩ = some (.slice A2 n2 c2) ∧ wv.cell? ⟨gt, 2, none⟩ = some (.int .i64 4) ∧ wv.cell? ⟨gt, 3, none⟩ = some (.slice (some ⟨gr, 0, none⟩) 1 1) ∧ gt < wv.heap.size) := hid fun wv HC => by
    rw [hKL] at HC
    have b1 := HC.blk_ 1 rfl
    exact ⟨cell_of_row _ _ 0 _ _ _ b1, cell_of_row _ _ 1 _ _ _ b1, cell_of_row _ _ 2 _ _ _ b1, cell_of_row _ _ 3 _ _ _ b1, Blk.lt b1⟩
  have HKL := hid hKL
  clear hKL
  refine wp_region_any (by kernel_rfl) ?_
  refine wpAny_hold 7 42 (KL) (spL [(20, IsV (vNum 5).val), (21, IsV (.tuple #[.int .i64 3, .bool true]))]) (by kernel_rfl) (by kernel_rfl) (by kernel_rfl) rfl ?_ (K7.drew) ?_
  · exact stays_cons isV_mono (stays_cons isV_mono (stays_nil _))
  simp only [List.take_succ_cons, List.take_zero, List.drop_succ_cons, List.drop_zero, Act.put, List.getElem_toArray, List.getElem_cons_zero, List.getElem_cons_succ, List.setIfInBounds_toArray, List.set_cons_succ, List.set_cons_zero]
  refine dw_val rfl rfl rfl ?_; apply Exists.intro; refine ⟨fun wv HC => ?_, ?_⟩
  · obtain ⟨f0, f1, f2, f3, f4⟩ := HF.out _ HC; go_simp <;> rfl
  simp only [Act.put, List.setIfInBounds_toArray, List.set_cons_succ, List.set_cons_zero]
  refine dw_callR 20 (IsV (vNum 5).val) (f := 18) (args := #[.int .i64 5]) rfl rfl rfl rfl (fun wv => ?_) (fun wv HC hrm hD => ?_) ?_
  · go_simp <;> rfl
  · refine (num_any 5 wv).mono ?_
    rintro e w6 ⟨rfl, b6⟩
    exact ⟨_, rfl, rfl, HC.call b6, RM.below b6⟩
  rintro u wx HCx hu
  obtain rfl : u = _ := hu
  clear HCx
  simp only [Act.put, List.setIfInBounds_toArray, List.set_cons_succ, List.set_cons_zero]
  refine dw_callR 21 (IsV (.tuple #[.int .i64 3, .bool true])) (f := 19) (args := #[.agg #[.string nu, .slice A2 n2 c2, .int .i64 4, .slice (some ⟨gr, 0, none⟩) 1 1], .agg #[.int .i64 (vNum 5).k, .int .i64 (vNum 5).i, .string (vNum 5).s]]) rfl rfl rfl rfl (fun wv => ?_) (fun wv HC hrm hD => ?_) ?_
  · go_simp <;> rfl
  · have HC2 := HC
    rw [HKL.out] at HC2
    refine (look_any _ _ HC2.mutLt nu A2 n2 c2 uCols 4 (some ⟨gr, 0, none⟩) 1 1 [R] (vNum 5) (HC2.ro 2 rfl) (HC2.ro 0 rfl) (by omega) (by omega)).mono ?_
    rintro e w6 ⟨rfl, b6⟩
    refine ⟨_, rfl, ?_, HC.call b6, RM.below b6⟩
    show _ = _
    rw [HR2.out, k6_key, k6_look]; rfl
  rintro u wx HCx hu
  obtain rfl : u = _ := hu
  clear HCx
  simp only [Act.put, List.setIfInBounds_toArray, List.set_cons_succ, List.set_cons_zero]
  refine dw_val rfl rfl rfl ?_; apply Exists.intro; refine ⟨fun wv HC => ?_, ?_⟩
  ·  go_simp <;> rfl
  simp only [Act.put, List.setIfInBounds_toArray, List.set_cons_succ, List.set_cons_zero]
  refine dw_val rfl rfl rfl ?_; apply Exists.intro; refine ⟨fun wv HC => ?_, ?_⟩
  ·  go_simp <;> rfl
  simp only [Act.put, List.setIfInBounds_toArray, List.set_cons_succ, List.set_cons_zero]
  refine dw_val rfl rfl rfl ?_; apply Exists.intro; refine ⟨fun wv HC => ?_, ?_⟩
  ·  go_simp <;> rfl
  simp only [Act.put, List.setIfInBounds_toArray, List.set_cons_succ, List.set_cons_zero]
  refine dw_val rfl rfl rfl ?_; apply Exists.intro; refine ⟨fun wv HC => ?_, ?_⟩
  ·  go_simp <;> rfl
  simp only [Act.put, List.setIfInBounds_toArray, List.set_cons_succ, List.set_cons_zero]
  refine rel_nil ?_
  rintro wx2 HX2
  rintro _hrm _HG
  rw [HKL.out] at HX2
  clear _hrm _HG
  have F8 := HX2.facts
  simp only [World.size_alloc, World.size_drew, factsL, cellsF, Nat.reduceAdd, List.toList_toArray, List.set_cons_zero, List.set_cons_succ, List.setIfInBounds_toArray, and_true, true_and] at F8
  have hus : nu.size ≤ maxLen := HS.out.1
  go_wp2_with fail
  refine (tvalid_any _ _ HX2.mutLt nu A2 n2 c2 uCols 4 (some ⟨gr, 0, none⟩) 1 1 [R] (HX2.ro 2 rfl) (HX2.ro 0 rfl) (by omega) (by omega) (by intro r hr; simp only [List.mem_cons, List.not_mem_nil, or_false] at hr; rw [hr]; exact HR1.out) hus HS.out.2.1).mono ?_
  rintro e w8 ⟨rfl, b8⟩
  rw [HR2.out, ← HU.out, k6_valid]
  have K8 := HX2.call b8
  clear HX2 b8 F8
  have F9 := K8.facts
  simp only [World.size_alloc, World.size_drew, factsL, cellsF, Nat.reduceAdd, List.toList_toArray, List.set_cons_zero, List.set_cons_succ, List.setIfInBounds_toArray, and_true, true_and] at F9
  go_wp2_with fail
  refine (dup_any _ _ K8.mutLt nu A2 n2 c2 uCols 4 (some ⟨gr, 0, none⟩) 1 1 [R] (K8.ro 2 rfl) (K8.ro 0 rfl) (by omega) (by omega) (by intro r hr; simp only [List.mem_cons, List.not_mem_nil, or_false] at hr; rw [hr]; exact HR1.out)).mono ?_
  rintro e w9 ⟨rfl, b9⟩
  rw [HR2.out, k6_dup]
  have K9 := K8.call b9
  go_wp2_with fail
  go_ret
  exact ⟨by first | rfl | simp, K9.below⟩
end Go.Proofs.Ytphofeeaphkciaa

namespace Go.Proofs.Ytphofeeaphkciaa
open Go.RowKit
set_option linter.unusedVariables false
set_option linter.unusedSimpArgs false

def vKey (n : Int) : List Vl := [vNum n, vNum 0, vNil]
theorem vKey_ok {n : Int} (h : I64 n) : ∀ v ∈ vKey n, v.ok := fun v hv => by
  simp only [vKey, List.mem_cons, List.not_mem_nil, or_false] at hv
  rcases hv with rfl | rfl | rfl
  · exact vNum_ok h
  · exact vNum_ok (by unfold I64; omega)
  · exact vNil_ok
def KeyRet (w : World) (M : Nat → Prop) (n : Int) (e : Ending) (w' : World) : Prop := ∃ v, e = .returned v ∧ VlsSlot M (vKey n) v w' ∧ Below w.heap.size w w'
set_option maxHeartbeats 1000000 in
theorem keyed_any (M : Nat → Prop) (w : World) (hM : ∀ b, M b → b < w.heap.size) (n : Int) : Calls Try.prog 11 #[.int .i64 n] w fun e w' => KeyRet w M n e w' := by
  have K0 := Hold.start M w hM
  go_enter Try.func11, Try.ntmps11
  go_wp2_with fail
  refine (num_any n _).mono ?_
  rintro e w1 ⟨rfl, b1⟩
  have K1 := K0.call b1
  clear K0 b1
  go_wp2_with fail
  refine (num_any 0 _).mono ?_
  rintro e w2 ⟨rfl, b2⟩
  have K2 := (K1.call b2).alloc_cst #[.int .i64 1, .int .i64 n, .string ⟨#[]⟩, .int .i64 1, .int .i64 0, .string ⟨#[]⟩, .int .i64 0, .int .i64 0, .string ⟨#[]⟩] 31
  have b3 := K2.below
  have hr : Ro _ M (SlR 3 (some ⟨w2.heap.size, 0, none⟩) 3 (vlCells (vKey n))) := ro_block (t := 31) (cs := #[.int .i64 1, .int .i64 n, .string ⟨#[]⟩, .int .i64 1, .int .i64 0, .string ⟨#[]⟩, .int .i64 0, .int .i64 0, .string ⟨#[]⟩]) (n := 3) (size := 3) ((K2.get 0 rfl).less (fun b hb => .inl hb)) rfl
  clear K1 K2 b2
  go_wp2_with fail
  go_ret
  exact ⟨_, rfl, ⟨_, 3, 3, rfl, rfl, by omega, by omega, hr⟩, b3⟩
/-- the first rows of pairs -/
def pRows : List Row := [(1, vKey 1), (2, vKey 2)]
def PairsRet (w : World) (M : Nat → Prop) (e : Ending) (w' : World) : Prop := ∃ v, e = .returned v ∧ TbAt w' M v ⟨nmU, uCols, 3, pRows⟩ ∧ Below w.heap.size w w'
set_option maxHeartbeats 4000000 in
set_option maxRecDepth 100000 in
theorem pairs_any (M : Nat → Prop) (w : World) (hM : ∀ b, M b → b < w.heap.size) : Calls Try.prog 20 #[] w fun e w' => PairsRet w M e w' := by
  have K0 := (Hold.start M w hM).alloc #[.string ⟨#[]⟩, .slice none 0 0, .int .i64 0, .slice none 0 0] 29
  go_enter Try.func20, Try.ntmps20
  go_wp2_with fail
  refine (schema_u _ _ K0.mutLt).mono ?_
  rintro e w1 ⟨A, n, c, rfl, h1, h2, r1, b1⟩
  have K1 := (((K0.call b1).add r1).alloc #[.string nmU, .slice A n c, .int .i64 3, .slice none 0 0] 29)
  clear K0 r1 b1
  obtain ⟨gt, hgt⟩ : ∃ gt, gt = w1.heap.size := ⟨_, rfl⟩
  rw [← hgt] at K1
  generalize hU : nmU = nu at *
  have HU := hid hU
  clear hU
  have K2 := ((K1.add (ro_vals_nil _ _)).nil 34 2)
  go_wp2_with fail
  rw [← hgt]
  have HGT := hid hgt
  clear hgt K1
  go_loopw [2] (fun iv wr => ∃ (k cap : Nat) (O : Option Addr) (outs : List Rw), k ≤ 2 ∧ iv = .int .i64 ((k : Int) + 1) ∧ (∀ r ∈ outs, r.ok) ∧ Hid (outs.map Rw.row = pRows.take k) ∧ Hold M none w wr [.own 34 2 (.slice O k cap) k (rwCells outs), .ro (ValsIn outs), .blk gt 29 #[.string nu, .slice A n c, .int .i64 3, .slice O k cap], .ro (SlR 4 A n (colCells uCols)), .blk w.heap.size 29 #[.string ⟨#[]⟩, .slice none 0 0, .int .i64 0, .slice none 0 0]]) (fun iv _ => 3 - (intOf iv).toNat)
  case atStart => exact ⟨0, 0, none, [], by omega, rfl, (fun r hr => nomatch hr), hid rfl, K2⟩
  case round =>
    clear K2
    obtain ⟨k, cap, O, outs, hk, rfl, hoo, HO, H⟩ := hrel
    have F := H.facts
    simp only [World.size_alloc, World.size_drew, factsL, cellsF, Nat.reduceAdd, List.toList_toArray, List.set_cons_zero, List.set_cons_succ, List.setIfInBounds_toArray, and_true, true_and] at F
    by_cases hlt : k < 2
    · have hdd : decide ((k : Int) + 1 ≤ 2) = true := by simp; omega
      obtain ⟨i, hi⟩ : ∃ i : Int, i = (k : Int) + 1 := ⟨_, rfl⟩
      rw [← hi] at hdd ⊢
      have hi2 : i ≤ 2 := by omega
      have hi1 : 1 ≤ i := by omega
      have HI := hid hi
      clear hi
      go_wp2_with fail
      refine wp_region_any (by kernel_rfl) ?_
      refine wpAny_hold 10 22 ([.own 34 2 (.slice O k cap) k (rwCells outs), .ro (ValsIn outs), .blk gt 29 #[.string nu, .slice A n c, .int .i64 3, .slice O k cap], .ro (SlR 4 A n (colCells uCols)), .blk w.heap.size 29 #[.string ⟨#[]⟩, .slice none 0 0, .int .i64 0, .slice none 0 0]]) (spL [(13, IsV (vNum i).val), (14, IsV (vNum 0).val), (16, VlsSlot (Mut M ([.own 34 2 (.slice O k cap) k (rwCells outs), .ro (ValsIn outs), .blk gt 29 #[.string nu, .slice A n c, .int .i64 3, .slice O k cap], .ro (SlR 4 A n (colCells uCols)), .blk w.heap.size 29 #[.string ⟨#[]⟩, .slice none 0 0, .int .i64 0, .slice none 0 0]])) (vKey i)), (17, RowSlot (Mut M ([.own 34 2 (.slice O k cap) k (rwCells outs), .ro (ValsIn outs), .blk gt 29 #[.string nu, .slice A n c, .int .i64 3, .slice O k cap], .ro (SlR 4 A n (colCells uCols)), .blk w.heap.size 29 #[.string ⟨#[]⟩, .slice none 0 0, .int .i64 0, .slice none 0 0]])) i (vKey i)), (18, RBoxSlot (Mut M ([.own 34 2 (.slice O k cap) k (rwCells outs), .ro (ValsIn outs), .blk gt 29 #[.string nu, .slice A n c, .int .i64 3, .slice O k cap], .ro (SlR 4 A n (colCells uCols)), .blk w.heap.size 29 #[.string ⟨#[]⟩, .slice none 0 0, .int .i64 0, .slice none 0 0]])) i (vKey i))]) (by kernel_rfl) (by kernel_rfl) (by kernel_rfl) rfl ?_ (H.drew) ?_
      · exact stays_cons isV_mono (stays_cons isV_mono (stays_cons vlsSlot_mono (stays_cons rowSlot_mono (stays_cons rboxSlot_mono (stays_nil _)))))
      simp only [List.take_succ_cons, List.take_zero, List.drop_succ_cons, List.drop_zero, Act.put, List.getElem_toArray, List.getElem_cons_zero, List.getElem_cons_succ, List.setIfInBounds_toArray, List.set_cons_succ, List.set_cons_zero]
      refine dw_val rfl rfl rfl ?_; apply Exists.intro; refine ⟨fun wv HC => ?_, ?_⟩
      ·  go_simp <;> rfl
      simp only [Act.put, List.setIfInBounds_toArray, List.set_cons_succ, List.set_cons_zero]
      refine dw_val rfl rfl rfl ?_; apply Exists.intro; refine ⟨fun wv HC => ?_, ?_⟩
      · have FC := HC.facts; simp only [factsL, cellsF, Nat.reduceAdd, List.toList_toArray, and_true, true_and] at FC; go_simp <;> rfl
      simp only [Act.put, List.setIfInBounds_toArray, List.set_cons_succ, List.set_cons_zero]
      refine dw_val rfl rfl rfl ?_; apply Exists.intro; refine ⟨fun wv HC => ?_, ?_⟩
      ·  go_simp <;> rfl
      simp only [Act.put, List.setIfInBounds_toArray, List.set_cons_succ, List.set_cons_zero]
      refine dw_val rfl rfl rfl ?_; apply Exists.intro; refine ⟨fun wv HC => ?_, ?_⟩
      ·  go_simp <;> rfl
      simp only [Act.put, List.setIfInBounds_toArray, List.set_cons_succ, List.set_cons_zero]
      refine dw_callR 13 (IsV (vNum i).val) (f := 18) (args := #[.int .i64 i]) rfl rfl rfl rfl (fun wv => ?_) (fun wv HC hrm hD => ?_) ?_
      · go_simp <;> rfl
      · refine (num_any i wv).mono ?_
        rintro e w6 ⟨rfl, b6⟩
        exact ⟨_, rfl, rfl, HC.call b6, RM.below b6⟩
      rintro u wx HCx hu
      obtain rfl : u = _ := hu
      clear HCx
      simp only [Act.put, List.setIfInBounds_toArray, List.set_cons_succ, List.set_cons_zero]
      refine dw_callR 14 (IsV (vNum 0).val) (f := 18) (args := #[.int .i64 0]) rfl rfl rfl rfl (fun wv => ?_) (fun wv HC hrm hD => ?_) ?_
      · go_simp <;> rfl
      · refine (num_any 0 wv).mono ?_
        rintro e w6 ⟨rfl, b6⟩
        exact ⟨_, rfl, rfl, HC.call b6, RM.below b6⟩
      rintro u wx HCx hu
      obtain rfl : u = _ := hu
      clear HCx
      simp only [Act.put, List.setIfInBounds_toArray, List.set_cons_succ, List.set_cons_zero]
      refine dw_val rfl rfl rfl ?_; apply Exists.intro; refine ⟨fun wv HC => ?_, ?_⟩
      ·  go_simp <;> rfl
      simp only [Act.put, List.setIfInBounds_toArray, List.set_cons_succ, List.set_cons_zero]
      refine dw_new #[.int .i64 1, .int .i64 i, .string ⟨#[]⟩, .int .i64 1, .int .i64 0, .string ⟨#[]⟩, .int .i64 0, .int .i64 0, .string ⟨#[]⟩] 31 16 (VlsSlot (Mut M ([.own 34 2 (.slice O k cap) k (rwCells outs), .ro (ValsIn outs), .blk gt 29 #[.string nu, .slice A n c, .int .i64 3, .slice O k cap], .ro (SlR 4 A n (colCells uCols)), .blk w.heap.size 29 #[.string ⟨#[]⟩, .slice none 0 0, .int .i64 0, .slice none 0 0]])) (vKey i)) (fun g => .slice (some ⟨g, 0, none⟩) 3 3) rfl rfl rfl rfl (fun wv => ?_) (fun wv HC _hrm hD hro => ?_) ?_
      · unfold Vl.val vNum
        go_simp <;> rfl
      · exact ⟨_, 3, 3, rfl, rfl, by omega, by omega, ro_block (hro _ HC.mutLt) rfl⟩
      rintro g1 wg HCg hsl
      simp only [Act.put, List.setIfInBounds_toArray, List.set_cons_succ, List.set_cons_zero]
      clear hsl HCg
      refine dw_valC 17 (RowSlot (Mut M ([.own 34 2 (.slice O k cap) k (rwCells outs), .ro (ValsIn outs), .blk gt 29 #[.string nu, .slice A n c, .int .i64 3, .slice O k cap], .ro (SlR 4 A n (colCells uCols)), .blk w.heap.size 29 #[.string ⟨#[]⟩, .slice none 0 0, .int .i64 0, .slice none 0 0]])) i (vKey i)) rfl rfl rfl rfl (.agg #[.int .i64 i, .slice (some ⟨g1, 0, none⟩) 3 3]) (fun wv HC => ?_) (fun wv HC hD => ?_) ?_
      · go_simp <;> rfl
      · have hsl : VlsSlot (Mut M ([.own 34 2 (.slice O k cap) k (rwCells outs), .ro (ValsIn outs), .blk gt 29 #[.string nu, .slice A n c, .int .i64 3, .slice O k cap], .ro (SlR 4 A n (colCells uCols)), .blk w.heap.size 29 #[.string ⟨#[]⟩, .slice none 0 0, .int .i64 0, .slice none 0 0]])) (vKey i) (.slice (some ⟨g1, 0, none⟩) 3 3) wv := deps_at hD 7 rfl (by kernel_rfl) rfl rfl
        obtain ⟨A6, n6, c6, e6, h1, h2, h3, h4⟩ := hsl
        exact ⟨A6, n6, c6, by rw [e6], h1, h2, h3, h4⟩
      simp only [Act.put, List.setIfInBounds_toArray, List.set_cons_succ, List.set_cons_zero]
      refine dw_new #[.int .i64 i, .slice (some ⟨g1, 0, none⟩) 3 3] 34 18 (RBoxSlot (Mut M ([.own 34 2 (.slice O k cap) k (rwCells outs), .ro (ValsIn outs), .blk gt 29 #[.string nu, .slice A n c, .int .i64 3, .slice O k cap], .ro (SlR 4 A n (colCells uCols)), .blk w.heap.size 29 #[.string ⟨#[]⟩, .slice none 0 0, .int .i64 0, .slice none 0 0]])) i (vKey i)) (fun g => .slice (some ⟨g, 0, none⟩) 1 1) rfl rfl rfl rfl (fun wv => ?_) (fun wv HC _hrm hD hro => ?_) ?_
      · go_simp <;> rfl
      · have hsl : RowSlot (Mut M ([.own 34 2 (.slice O k cap) k (rwCells outs), .ro (ValsIn outs), .blk gt 29 #[.string nu, .slice A n c, .int .i64 3, .slice O k cap], .ro (SlR 4 A n (colCells uCols)), .blk w.heap.size 29 #[.string ⟨#[]⟩, .slice none 0 0, .int .i64 0, .slice none 0 0]])) i (vKey i) (.agg #[.int .i64 i, .slice (some ⟨g1, 0, none⟩) 3 3]) wv := deps_at hD 8 rfl (by kernel_rfl) rfl rfl
        obtain ⟨A6, n6, c6, e6, h1, h2, h3, h4⟩ := hsl
        obtain ⟨rfl, rfl, rfl⟩ : some ⟨g1, 0, none⟩ = A6 ∧ 3 = n6 ∧ 3 = c6 := by
          injection e6 with e6
          simp at e6
          exact e6
        exact ⟨_, _, 3, 3, rfl, h1, h2, h3, h4.step (by simp) (fun b hb _ => Below.heap_alloc wv _ b hb) (fun _ _ h => h), ro_block (hro _ HC.mutLt) rfl⟩
      rintro g2 wg HCg hsl
      simp only [Act.put, List.setIfInBounds_toArray, List.set_cons_succ, List.set_cons_zero]
      clear hsl HCg
      refine rel_nil ?_
      rintro wx2 HX
      rintro _hrm HGW
      have hb2 : RBoxSlot (Mut M ([.own 34 2 (.slice O k cap) k (rwCells outs), .ro (ValsIn outs), .blk gt 29 #[.string nu, .slice A n c, .int .i64 3, .slice O k cap], .ro (SlR 4 A n (colCells uCols)), .blk w.heap.size 29 #[.string ⟨#[]⟩, .slice none 0 0, .int .i64 0, .slice none 0 0]])) i (vKey i) (.slice (some ⟨g2, 0, none⟩) 1 1) wx2 := (GW_on (d := 18) rfl).1 (HGW 9 _ rfl (by omega))
      clear HGW
      obtain ⟨g3, A6, n6, c6, e6, x0, x1, x2, x3, x4⟩ := hb2
      obtain rfl : g2 = g3 := by injection e6 with e6; injection e6 with e6; injection e6
      clear e6
      have k5 := hid x4.now
      clear x4
      have HRS := hid (show rwCells outs ++ [.int .i64 i, .slice A6 n6 c6] = rwCells (outs ++ [⟨i, A6, n6, c6, vKey i⟩]) from rwCells_snoc1 _ _ _ _ _ _)
      have KA := HX.add x3
      clear HX
      go_wp2_with (at_builtin; go_must (refine wpList_appAllH KA 1 rfl Try.elRw k5.out rfl (.tmp 10) (.tmp 18) rfl rfl rfl (by intro z hz; simp at hz; rcases hz with rfl | rfl <;> rfl) (by omega) (by omega) ?_); intro C' cap' w6 hc6 hm6 KB; rw [HRS.out] at KB; simp only [List.set_cons_zero, List.set_cons_succ] at KB; (have F3 := KB.facts); simp only [World.size_alloc, World.size_drew, factsL, cellsF, Nat.reduceAdd, List.toList_toArray, List.set_cons_zero, List.set_cons_succ, List.setIfInBounds_toArray, and_true, true_and] at F3)
      have KC := KB.store 3 rfl 3 (.slice C' (k + 1) cap')
      have KE := KC.swapRo 2 rfl (vals_snoc (r := ⟨i, A6, n6, c6, vKey i⟩) (KC.ro 2 rfl) (KC.ro 0 rfl))
      simp only [cellsF, List.set_cons_zero, List.set_cons_succ, List.setIfInBounds_toArray] at KE
      have HGN := hid (show List.map Rw.row (outs ++ [⟨i, A6, n6, c6, vKey i⟩]) = pRows.take (k + 1) by
        rw [List.map_append, HO.out, HI.out]
        rcases Nat.lt_or_ge k 1 with h | h
        · obtain rfl : k = 0 := by omega
          rfl
        · obtain rfl : k = 1 := by omega
          rfl)
      have HKR := KE.drop (List.sublist_cons_self _ _)
      have hI64 : I64 i := ⟨by omega, by omega⟩
      have hkok : ∀ r ∈ outs ++ [(⟨i, A6, n6, c6, vKey i⟩ : Rw)], r.ok := by intro x hx; rcases List.mem_append.1 hx with hx | hx; (exact hoo x hx); (simp at hx; subst hx; exact ⟨hI64, x1, x2, vKey_ok hI64⟩)
      have hik := HI.out
      go_wp2_with fail
      go_roundw
      case rel => exact ⟨k + 1, cap', _, _, by omega, by first | rfl | go_num, hkok, HGN, HKR⟩
      case measure => simp [intOf]; omega
    · obtain rfl : k = 2 := by omega
      have hdd : decide (((2 : Nat) : Int) + 1 ≤ 2) = false := by decide
      have hcq := own_caps (H.get 0 rfl)
      have KS := H.sealRow 0 rfl
      simp only [List.set_cons_zero] at KS
      have KN := (((KS.store 4 rfl 0 (.string nu)).store 4 rfl 1 (.slice A n c)).store 4 rfl 2 (.int .i64 3)).store 4 rfl 3 (.slice O 2 cap)
      clear H KS
      go_wp2_with fail
      exact bodyPost_ret (v := .agg #[.string nu, .slice A n c, .int .i64 3, .slice O 2 cap]) (by simp [results, Try.results20, go_sem, F]) rfl ⟨_, rfl, ⟨A, n, c, O, 2, cap, outs, by rw [HU.out], h1, by omega, hcq.1, hcq.2.1, KN.roOut 3 rfl, (KN.roOut 0 rfl).and (KN.roOut 1 rfl), hoo, by rw [HO.out]; rfl⟩, KN.below⟩
end Go.Proofs.Ytphofeeaphkciaa

namespace Go.Proofs.Ytphofeeaphkciaa
open Go.RowKit
set_option linter.unusedVariables false
set_option linter.unusedSimpArgs false
theorem vNil_ok3 : ∀ v ∈ [vNil, vNil], v.ok := fun v hv => by
  simp only [List.mem_cons, List.not_mem_nil, or_false] at hv
  rcases hv with rfl | rfl <;> exact vNil_ok
/-- k rows of nothing, numbered from 1 -/
def rowsL (k : Nat) : List Row := (List.range k).map fun (i : Nat) => ((i : Int) + 1, [vNil, vNil])
theorem rowsL_succ (k : Nat) : rowsL (k + 1) = rowsL k ++ [((k : Int) + 1, [vNil, vNil])] := by simp [rowsL, List.range_succ]
theorem rows_snocL {M : Nat → Prop} {w : World} {rs : List Rw} {r : Rw} (h : Ro w M (ValsIn rs)) (k : Ro w M (VlsIn r.A r.n r.vs)) : Ro w M (ValsIn (rs ++ [r])) := fun w2 h1 h2 x hx => by
  rcases List.mem_append.1 hx with hx | hx
  · exact h w2 h1 h2 x hx
  · simp at hx; subst hx; exact k w2 h1 h2
def SlVals (l : List Sl) (w : World) : Prop := ∀ r ∈ l, VlsIn r.A r.n r.vs w
theorem sls_snoc {M : Nat → Prop} {w : World} {rs : List Sl} {r : Sl} (h : Ro w M (SlVals rs)) (k : Ro w M (VlsIn r.A r.n r.vs)) : Ro w M (SlVals (rs ++ [r])) := fun w2 h1 h2 x hx => by
  rcases List.mem_append.1 hx with hx | hx
  · exact h w2 h1 h2 x hx
  · simp at hx; subst hx; exact k w2 h1 h2
def delsF (r : Nat) : List Int := (List.range r).map fun (i : Nat) => 10 + (i : Int)
theorem delsF_succ (k : Nat) : delsF (k + 1) = delsF k ++ [10 + (k : Int)] := by simp [delsF, List.range_succ]
theorem lim_a (r : Nat) (h : r < 5) : (applyC nmLog logCols 101 (rowsL 100) (List.replicate r [vNil, vNil]) [] []).1 = if r = 0 then 0 else 10 := by
  obtain rfl | rfl | rfl | rfl | rfl : r = 0 ∨ r = 1 ∨ r = 2 ∨ r = 3 ∨ r = 4 := by omega
  all_goals decide +kernel
theorem lim_b (r : Nat) (h : r < 5) : (applyC nmLog logCols 101 (rowsL 100) (List.replicate r [vNil, vNil]) (delsF r) []).1 = 0 ∧ (applyC nmLog logCols 101 (rowsL 100) (List.replicate r [vNil, vNil]) (delsF r) []).2.rs.length = 100 := by
  obtain rfl | rfl | rfl | rfl | rfl : r = 0 ∨ r = 1 ∨ r = 2 ∨ r = 3 ∨ r = 4 := by omega
  all_goals decide +kernel
end Go.Proofs.Ytphofeeaphkciaa

namespace Go.Proofs.Ytphofeeaphkciaa
open Go.RowKit
set_option linter.unusedVariables false
set_option linter.unusedSimpArgs false

theorem kapply_slot (M : Nat → Prop) (w : World) (hM : ∀ b, M b → b < w.heap.size) (v c : Value) (t : Tb) (ins : List (List Vl)) (dels : List Int) (us : List Upd) (hT : TbAt w M v t) (hC : ChgSlot M ins dels us c w) (hs : t.nm.size ≤ maxLen) (hcs : ∀ x ∈ t.cs, x.name.size ≤ maxLen)
    (hr : t.rs.length ≤ 1000000) (hi : ins.length ≤ 1000000) (hd : dels.length ≤ 1000000) (hu : us.length ≤ 1000000) :
    Calls Try.prog 12 #[v, c] w fun e w' => ∃ u, e = .returned u ∧ ApSlot M (applyC t.nm t.cs t.nx t.rs ins dels us) u w' ∧ Below w.heap.size w w' := by
  obtain ⟨A, n, cc, B, m, d, l, rfl, h1, h2, h3, h4, h5, h6, h7, h8⟩ := hT
  obtain ⟨x, y, z, rfl, ⟨I, ni, ci, pi, rfl, i1, i2, rfl, i4, i5⟩, ⟨D, nd, cd, rfl, d1, d2, d3⟩, ⟨U, nu, cu, pu, rfl, u1, u2, rfl, u4, u5⟩⟩ := hC
  have hml := h6.now.len
  have hil := i5.now.len
  have hul := u5.now.len
  have hdl : dels.length = nd := (show Rd w w.heap.size 1 D nd (iCells dels) from d3.now).1 |> fun h => by simpa [iCells] using h
  rw [← h8] at hr
  simp only [List.length_map] at hr hi hu
  have := kapply_any M w hM t.nm A n cc t.cs t.nx B m d l I ni ci pi D nd cd dels U nu cu pu h5 h6 i5 d3 u5 (by omega) (by omega) h7 hs hcs (by omega) (by omega) (by omega) u1 u2 i4 u4
  rw [h8] at this
  refine this.mono ?_
  rintro e w' ⟨v, rfl, hv, b⟩
  exact ⟨_, rfl, ⟨v, rfl, hv⟩, b⟩
end Go.Proofs.Ytphofeeaphkciaa

namespace Go.Proofs.Ytphofeeaphkciaa
open Go Go.RowKit
set_option linter.unusedVariables false
set_option linter.unusedSectionVars false
set_option linter.unusedSimpArgs false

section
variable {P : Program} {ops : Array Oper} {C : World → Prop} {G : Option Tmp → Value → World → Prop} {R : World → World → Prop} {n N : Nat} {F : Act → Prop}

/-- an operation that reads its slots alone -/
def plainOp (o : Oper) : Bool := match o.op with
  | .move _ => true
  | .extract _ _ => true
  | _ => false
theorem plain_run {o : Oper} (h : plainOp o = true) {a : Act} {w : World} {C : World → Prop} {G : Option Tmp → Value → World → Prop} {R : World → World → Prop} (hg : goodUpon P C G R o.dst w ((execOp a.eval o).run P w)) :
    ∃ v, (∀ w', (execOp a.eval o).run P w' = .ok (.value v) w') ∧ G o.dst v w ∧ C w ∧ R w w := by
  unfold plainOp at h
  split at h
  · rename_i x hx
    have e : ∀ w', (execOp a.eval o).run P w' = .ok (.value (a.eval x)) w' := fun w' => by
      unfold execOp; simp only [hx, Sem.run_pure]
    rw [e w] at hg
    exact ⟨_, e, hg⟩
  · rename_i t ix hx
    have e : ∀ w', (execOp a.eval o).run P w' = ((Instr.extract (a.eval t) ix).run P w').andThen fun u => (pure (.value u) : Sem Next).run P := fun w' => by
      unfold execOp; simp only [hx, Sem.run_bind]
    by_cases hv : ∃ vs v, a.eval t = .tuple vs ∧ vs[ix]? = some v
    · obtain ⟨vs, v, h1, h2⟩ := hv
      have e2 : ∀ w', (execOp a.eval o).run P w' = .ok (.value v) w' := fun w' => by
        rw [e w', h1]; unfold Instr.extract; simp only [h2, Sem.run_pure, Result.andThen_ok]
      rw [e2 w] at hg
      exact ⟨_, e2, hg⟩
    · exfalso
      have hh : ∃ x w2, (Instr.extract (a.eval t) ix).run P w = .halt x w2 := by
        unfold Instr.extract
        split
        · rename_i vs hvs
          split
          · rename_i v hvv; exact absurd ⟨vs, v, hvs, hvv⟩ hv
          · exact ⟨_, _, rfl⟩
        · exact ⟨_, _, rfl⟩
      obtain ⟨x, w2, hh⟩ := hh
      rw [e w, hh] at hg
      exact hg
  · cases h
/-- the exempt ones: they read their slots alone, and are apart from all that does not wait for them -/
def waitS (ops : Array Oper) (i : Nat) : Array Bool := ((List.range ops.size).map fun j => Region.waitsFor .any ops i j).toArray
def exB (ops : Array Oper) (E : List Nat) (n : Nat) : Bool := E.all fun i => decide (i < n) && (match ops[i]? with | some o => plainOp o | none => false) && Region.free .any ops (waitS ops i) i
def sinkE (ops : Array Oper) (S0 : Array Bool) (E : List Nat) (n : Nat) : Bool := (List.range n).all fun i => E.contains i || S0.getD i false || (List.range (n + 1)).any fun j => decide (i < j) && !E.contains j && Region.waitsFor .any ops j i
theorem free_mono {i : Nat} {oi : Oper} (hi : ops[i]? = some oi) (h : Region.free .any ops (waitS ops i) i = true) (S : Array Bool) (hS : S.size = ops.size) (hw : ∀ e ∈ oi.after, Region.binds .any e = true → S.getD e.on false = true) : Region.free .any ops S i = true := by
  simp only [Region.free, hi, List.all_eq_true, List.mem_range] at h ⊢
  intro j hj
  have h1 := h j hj
  simp only [Bool.or_eq_true] at h1 ⊢
  rcases h1 with (h1 | h1) | h1
  · exact .inl (.inl h1)
  · have h2 : Region.waitsFor .any ops i j = true := by simpa [waitS, hj] using h1
    obtain ⟨o', ho', e, he, hb, hon⟩ := Region.waitsFor_spec h2
    obtain rfl : oi = o' := Option.some.inj (hi.symm.trans ho')
    have h3 := hw e he hb
    rw [hon] at h3
    have hl : j < S.size := by omega
    exact .inl (.inr (by simpa [hl] using h3))
  · exact .inr h1
theorem tail_waitsE {S0 listed : Array Bool} {E : List Nat} (hs : sinkE ops S0 E n = true) (hc : laterB ops n = true) (hn : n < ops.size) (inv : HeadInv .any ops n listed) (h0 : ∀ j, S0.getD j false = true → listed.getD j false = true) :
    ∀ (d i : Nat), n - i = d → i < n → E.contains i = false → listed.getD i true = false → ∀ t, n ≤ t → t ∉ Region.ready .any ops listed := by
  intro d
  induction d using Nat.strongRecOn with
  | _ d ih =>
    intro i hd hi hE hun t ht hr
    obtain ⟨_, ot, hot, hall⟩ := mem_ready.1 hr
    have htlt : t < ops.size := (Array.getElem?_eq_some_iff.1 hot).1
    by_cases htn : t = n
    · subst htn
      have h1 := List.all_eq_true.1 hs i (List.mem_range.2 hi)
      have hnot : S0.getD i false = false := by
        cases hS : S0.getD i false with
        | false => rfl
        | true => have := h0 i hS; rw [getD_both hun] at this; cases this
      rw [hE, hnot, Bool.false_or, Bool.false_or] at h1
      obtain ⟨j, hj, hj2⟩ := List.any_eq_true.1 h1
      simp only [Bool.and_eq_true, decide_eq_true_eq, Bool.not_eq_true'] at hj2
      obtain ⟨oj, hoj, e, he, hb, hon⟩ := Region.waitsFor_spec hj2.2
      have hjle : j ≤ t := by have := List.mem_range.1 hj; omega
      by_cases hjt : j = t
      · subst hjt
        have : oj = ot := Option.some.inj (hoj.symm.trans hot)
        subst this
        have h2 := hall e he hb
        rw [hon, getD_both hun] at h2
        cases h2
      · cases hl : listed.getD j false with
        | true =>
          have h2 := inv.closed j oj hoj hl e he hb
          rw [hon, getD_both hun] at h2
          cases h2
        | false =>
          have hjs : j < listed.size := by rw [inv.size]; omega
          exact ih (t - j) (by omega) j rfl (by omega) hj2.1.2 (getD_in hjs hl) t (Nat.le_refl _) hr
    · have h1 := List.all_eq_true.1 hc t (List.mem_range.2 htlt)
      simp only [Bool.or_eq_true, decide_eq_true_eq] at h1
      rcases h1 with h1 | h1
      · omega
      · obtain ⟨j, hj, hj2⟩ := List.any_eq_true.1 h1
        simp only [Bool.and_eq_true, decide_eq_true_eq] at hj2
        obtain ⟨o', ho', e, he, hb, hon⟩ := Region.waitsFor_spec hj2.2
        have : o' = ot := Option.some.inj (ho'.symm.trans hot)
        subst this
        have h2 := hall e he hb
        rw [hon, getD_both (inv.tail j hj2.1 (List.mem_range.1 hj))] at h2
        cases h2
theorem wpAny_of_wkE (sh : Shape ops n N) (hmono : ∀ d u w w', R w w' → G d u w → G d u w') (hR : ∀ w, C w → R w w) (hu : ∀ w, C w → G none undef w) {g : Nat} {Q : Exit → Act → World → Prop} (S0 : Array Bool) (E : List Nat)
    (hE : ∀ i, E.contains i = true → i < n ∧ ∃ oi, ops[i]? = some oi ∧ plainOp oi = true ∧ ∀ S : Array Bool, S.size = ops.size → (∀ e ∈ oi.after, Region.binds .any e = true → S.getD e.on false = true) → Region.free .any ops S i = true) (hno : Region.noSelect ops = true) (hQ : ∀ c d v a w, Q (.panic c) (a.put d v) w → Q (.panic c) a w)
    (htail : ∀ S, HeadInv .any ops n S → (∀ j, S0.getD j false = true → S.getD j false = true) → (∃ i, i < n ∧ E.contains i = false ∧ S.getD i true = false) → ∀ t, n ≤ t → t ∉ Region.ready .any ops S)
    (hend : ∀ S a w, HeadInv .any ops n S → (∀ j, j < n → S.getD j false = true) → C w → (∀ j oj, ops[j]? = some oj → j < n → G oj.dst (slot a oj.dst) w) → F a → wpAny P .any ops Q g S a w) :
    ∀ (f : Nat) (S : Array Bool) (a : Act) (w : World), HeadInv .any ops n S → (∀ j, S0.getD j false = true → S.getD j false = true) → unl n S = f → a.tmps.size = N → Inv ops C G S a w → Wk P ops C G R S F n 0 a → wpAny P .any ops Q (f + g) S a w
  | 0, S, a, w, hd, h0s, hf, hN, hI, h => by
    have hall := unl_zero hf (by rw [hd.size]; exact sh.le)
    rw [Nat.zero_add]
    exact hend S a w hd hall hI.1 (fun j oj hj hjn => hI.2 j oj hj (hall j hjn)) (Wk.done sh hmono n 0 a w (by omega) hall hI.1 (fun j oj hj hs => hI.2 j oj hj (hs.resolve_right (by omega))) h)
  | f + 1, S, a, w, hd, h0s, hf, hN, hI, h => by
    obtain ⟨k0, hk0, hun0⟩ := unl_pos hf
    obtain ⟨k, ⟨hk, hun⟩, hmin⟩ := least (p := fun j => j < n ∧ S.getD j true = false) k0 ⟨hk0, hun0⟩
    have hrk : k ∈ Region.ready .any ops S := by
      have hks : k < ops.size := by have := sh.le; omega
      refine mem_ready.2 ⟨hun, ops[k], Array.getElem?_eq_getElem hks, fun e he hb => ?_⟩
      have hlt := sh.back k _ (Array.getElem?_eq_getElem hks) hk e he hb
      cases hS : S.getD e.on false with
      | true => rfl
      | false => exact absurd ⟨by omega, getD_in (by rw [hd.size]; have := sh.le; omega) hS⟩ (hmin e.on hlt)
    rw [show f + 1 + g = (f + g) + 1 by omega]
    have hstep : ∀ i, i < n → i ∈ Region.ready .any ops S → ∃ oi, ops[i]? = some oi ∧ StepOk P ops C G R oi a ∧ Deps ops G oi a w ∧ ∀ u w', May P ops C G oi a u → C w' → R w w' → G oi.dst u w' → wpAny P .any ops Q (f + g) (S.setIfInBounds i true) (a.put oi.dst u) w' := fun i hin hi => by
      obtain ⟨huni, oi, hoi, hall⟩ := mem_ready.1 hi
      have hunf : S.getD i false = false := getD_both huni
      have hst := Wk.ready sh hmono hR hu hoi hin hunf hall n 0 a w (by omega) (by omega) hN hI.1 (fun j oj hj hs => hI.2 j oj hj (hs.resolve_right (by omega))) h
      have hD : Deps ops G oi a w := fun e he hb oe hoe => hI.2 e.on oe hoe (hall e he hb)
      refine ⟨oi, hoi, hst, hD, fun u w' hm hC' hR' hG' => ?_⟩
      refine wpAny_of_wkE sh hmono hR hu S0 E hE hno hQ htail hend f _ _ w' (hd.set hi hin) (fun j hj => getD_set_true (h0s j hj)) ?_ (by rw [size_put]; exact hN) ⟨hC', fun j oj hj hs => ?_⟩ (Wk.front sh hmono hoi hin (by rw [hd.size]) hunf hall n 0 a (by omega) (by omega) hN hm h)
      · have := unl_set hin huni; omega
      · by_cases hji : j = i
        · subst hji
          obtain rfl : oi = oj := Option.some.inj (hoi.symm.trans hj)
          exact slots_new sh hmono hN hj hG' (fun _ => hu w' hC')
        · rw [slots_keep sh hmono (S := S) hoi hj hji]
          rw [getD_set_ne false (Ne.symm hji)] at hs
          exact hmono _ _ _ _ hR' (hI.2 j oj hj hs)
    cases hkE : E.contains k with
    | true =>
      obtain ⟨_, ok, hok, hpl, hfr⟩ := hE k hkE
      obtain ⟨oi, hoi, hst, hD, hnext⟩ := hstep k hk hrk
      obtain ⟨_, o3, ho3, hall⟩ := mem_ready.1 hrk
      obtain rfl : oi = o3 := Option.some.inj (hoi.symm.trans ho3)
      obtain rfl : ok = oi := Option.some.inj (hok.symm.trans hoi)
      by_cases hw : Region.wanted ok (yielded ops a.tmps) = true
      · unfold StepOk at hst
        simp only [hw, if_true] at hst
        have hg := hst w hI.1 hD
        unfold Good at hg
        obtain ⟨v, hv, hG, hC, hRR⟩ := plain_run hpl hg
        refine wpAny_take hok hno (hfr S hd.size hall) (by simpa using hrk) (fun c a w => hQ c _ _ a w) (.inl ⟨hw, hv⟩) (hnext v w ?_ hC hRR hG)
        unfold May
        rw [if_pos hw]
        exact ⟨w, hI.1, hD, by rw [hv w]; rfl⟩
      · unfold StepOk at hst
        rw [if_neg hw] at hst
        refine wpAny_take hok hno (hfr S hd.size hall) (by simpa using hrk) (fun c a w => hQ c _ _ a w) (.inr ⟨by simpa using hw, rfl⟩) (hnext undef w ?_ hI.1 (hR w hI.1) (hst w hI.1))
        unfold May
        rw [if_neg hw]
    | false =>
    refine ⟨fun h0 => (by rw [h0] at hrk; cases hrk), fun i hi => ?_⟩
    have hin : i < n := by
      rcases Nat.lt_or_ge i n with h' | h'
      · exact h'
      · exact absurd hi (htail S hd h0s ⟨k, hk, hkE, hun⟩ i h')
    obtain ⟨oi, hoi, hst, hD, hnext⟩ := hstep i hin hi
    unfold wpOp
    simp only [hoi]
    split
    · rename_i hw
      refine .inl (good_wp hI.1 hD hw ?_ hnext)
      unfold StepOk at hst
      simp only [hw, if_true] at hst
      exact hst w hI.1 hD
    · rename_i hw
      unfold StepOk at hst
      rw [if_neg hw] at hst
      exact hnext undef w (by unfold May; rw [if_neg hw]) hI.1 (hR w hI.1) (hst w hI.1)
def relE (ops : Array Oper) (S0 : Array Bool) (E : List Nat) (n N : Nat) : Bool :=
  Region.noSelect ops && dstsB ops N && decide (n ≤ ops.size) && backB ops n && asideB ops n && (decide (n = ops.size) || (decide (n < ops.size) && sinkE ops S0 E n && laterB ops n)) && closedB ops S0 n && exB ops E n && Region.seqB .any ops (ops.size - n) n (headList n ops.size)
theorem relE_shape {S0 : Array Bool} {E : List Nat} {n N : Nat} (h : relE ops S0 E n N = true) : Shape ops n N := by
  simp only [relE, Bool.and_eq_true, decide_eq_true_eq] at h
  obtain ⟨⟨⟨⟨⟨⟨⟨⟨hsel, hd⟩, hn⟩, hb⟩, ha⟩, _⟩, _⟩, _⟩, _⟩ := h
  refine ⟨hd, hn, fun k o hk hkn e he hbd => ?_, fun k i ok oi hki hin hk hi hno => ?_, Region.noSelect_spec hsel⟩
  · have h1 := List.all_eq_true.1 hb k (List.mem_range.2 hkn)
    simp only [hk] at h1
    have h2 := Array.all_eq_true'.1 h1 e he
    simp only [hbd, Bool.not_true, Bool.false_or, decide_eq_true_eq] at h2
    exact h2
  · have h1 := List.all_eq_true.1 (List.all_eq_true.1 ha i (List.mem_range.2 hin)) k (List.mem_range.2 hki)
    simp only [hk, hi, Bool.or_eq_true] at h1
    refine h1.resolve_left fun h2 => ?_
    obtain ⟨e, he, hb2⟩ := Array.any_eq_true'.1 h2
    simp only [Bool.and_eq_true, beq_iff_eq] at hb2
    exact hno e he hb2.1 hb2.2
/-- A region that draws its order, the operations of S0 done, E exempt: the first n operations in any order; then the others. -/
theorem wpAny_relE {Q : Exit → Act → World → Prop} {a : Act} {w : World} {l : List Oper} (S0 : Array Bool) (E : List Nat) (n N : Nat) (C : World → Prop) (G : Option Tmp → Value → World → Prop) (R : World → World → Prop) {fuel : Nat}
    (hB : relE l.toArray S0 E n N = true) (hQ : ∀ c d v a w, Q (.panic c) (a.put d v) w → Q (.panic c) a w) (hf : fuel = unl n S0 + (l.length - n)) (hN : a.tmps.size = N) (hmono : ∀ d u w w', R w w' → G d u w → G d u w') (hR : ∀ w, C w → R w w) (hu : ∀ w, C w → G none undef w) (hC : C w)
    (h0 : ∀ j oj, l[j]? = some oj → S0.getD j false = true → G oj.dst (slot a oj.dst) w)
    (h : wpRel P l.toArray C G R S0 (fun a' => ∀ w', C w' → (∀ j oj, l[j]? = some oj → j < n → G oj.dst (slot a' oj.dst) w') → wpList P l.toArray Q (l.drop n) a' w') 0 (l.take n) a) : wpAny P .any l.toArray Q fuel S0 a w := by
  have sh := relE_shape hB
  have hB' := hB
  simp only [relE, Bool.and_eq_true, Bool.or_eq_true, decide_eq_true_eq] at hB'
  obtain ⟨⟨⟨⟨⟨⟨⟨⟨hsel, hd⟩, hn⟩, hb⟩, ha⟩, hsc⟩, hcl⟩, hex⟩, hseq⟩ := hB'
  have hnl : n ≤ l.length := by simpa using hn
  have htl : (l.take n).length = n := by simp; omega
  have hw := wk_of_rel sh (l.take n) 0 a (fun j hj => by
    have hj' : j < n := by rw [htl] at hj; exact hj
    simp [hj']) (by simpa using htl) hN h
  rw [htl] at hw
  have := wpAny_of_wkE (Q := Q) (g := l.length - n) sh hmono hR hu S0 E (fun i hi => ?_) hsel hQ (fun S hI h0s hex t ht hr => ?_) (fun S a' w' hI hall hC' hg hF => ?_) _ S0 a w
    (closedB_head hcl) (fun _ h => h) rfl hN ⟨hC, fun j oj hj hs => h0 j oj (by simpa using hj) hs⟩ hw
  · rw [hf]; exact this
  · have h1 := List.all_eq_true.1 hex i (List.contains_iff_mem.1 hi)
    simp only [Bool.and_eq_true, decide_eq_true_eq] at h1
    obtain ⟨⟨h1, h2⟩, h3⟩ := h1
    have hil : i < l.toArray.size := by have : l.toArray.size = l.length := by simp
                                        omega
    have hio := Array.getElem?_eq_getElem hil
    rw [hio] at h2
    exact ⟨h1, _, hio, h2, fun S hS hw => free_mono hio h3 S hS hw⟩
  · obtain ⟨i, hi, hE, hun⟩ := hex
    rcases hsc with hsc | ⟨⟨hlt, hs⟩, hc⟩
    · have := (mem_ready.1 hr).2
      obtain ⟨o, ho, _⟩ := this
      have := (Array.getElem?_eq_some_iff.1 ho).1
      omega
    · exact tail_waitsE hs hc hlt hI h0s _ i rfl hi hE hun t ht hr
  · have hSeq := headList_eq hI.size hn hall hI.tail
    rw [show l.toArray.size = l.length from by simp] at hSeq
    rw [hSeq]
    have hdl : (l.drop n).length = l.length - n := by simp
    have := wpAny_of_seq (md := .any) (Q' := Q) (ops := l.toArray) (l.drop n) n (headList n l.length) a' w' (fun j => by simp [List.getElem?_drop]) (by rw [hdl]; simpa using hseq) (hF w' hC' fun j oj hj hjn => hg j oj (by simpa using hj) hjn)
    rwa [hdl] at this
end
section
variable {P : Program} {M : Nat → Prop} {row : Option Nat} {w0 w1 : World} {L : List Hp} {sp : SpW} {F : Act → Prop} {S0 : Array Bool}
theorem wpAny_holdE {Q : Exit → Act → World → Prop} {a : Act} {w : World} {l : List Oper} (E : List Nat) (n N : Nat) (L : List Hp) (sp : SpW) {fuel : Nat}
    (hB : relE l.toArray S0 E n N = true) (hQ : ∀ c d v a w, Q (.panic c) (a.put d v) w → Q (.panic c) a w) (hO : offW l.toArray S0 sp = true) (hf : fuel = unl n S0 + (l.length - n)) (hN : a.tmps.size = N) (hs : Stays (Mut M L) sp) (hC : Hold M row w0 w L)
    (h : wpRel P l.toArray (HC M row w0 w L) (GW sp) (RM (Mut M L)) S0 (fun a' => ∀ w', Hold M row w0 w' L → RM (Mut M L) w w' → (∀ j oj, l[j]? = some oj → j < n → GW sp oj.dst (slot a' oj.dst) w') → wpList P l.toArray Q (l.drop n) a' w') 0 (l.take n) a) : wpAny P .any l.toArray Q fuel S0 a w := by
  refine wpAny_relE S0 E n N (HC M row w0 w L) (GW sp) (RM (Mut M L)) hB hQ hf hN (fun d u w w' hr hg => ?_) (fun w _ => RM.refl _ w) (fun _ _ => trivial) ⟨hC, RM.refl _ _⟩ (fun j oj hj hs => offW_h hO (by simpa using hj) hs) (wpRel_mono (fun a' hF w' hC' hg => hF w' hC'.1 hC'.2 hg) _ _ _ h)
  unfold GW at hg ⊢
  cases hd : d.bind sp with
  | none => trivial
  | some V =>
    rw [hd] at hg
    obtain ⟨t, rfl, ht⟩ := Option.bind_eq_some_iff.1 hd
    exact hs t V ht u w w' hr hg
end
end Go.Proofs.Ytphofeeaphkciaa

namespace Go.Proofs.Ytphofeeaphkciaa
open Go.RowKit
set_option linter.unusedVariables false
theorem Ro.rwsAt {w : World} {M : Nat → Prop} {A : Option Addr} {n : Nat} {l : List Rw} (h : Ro w M (RwsIn A n l)) {k : Nat} {x : Rw} (hx : l[k]? = some x) :
    ∃ b o, A = some ⟨b, o, none⟩ ∧ Ro w M (fun w => b < w.heap.size ∧ w.cell? ⟨b, o + k * 2, none⟩ = some (.int .i64 x.id) ∧ w.cell? ⟨b, o + k * 2 + 1, none⟩ = some (.slice x.A x.n x.c)) ∧ Ro w M (VlsIn x.A x.n x.vs) := by
  obtain ⟨b, o, e, _⟩ := h.now.at_ hx
  refine ⟨b, o, e, fun w2 h1 h2 => ?_, fun w2 h1 h2 => (h w2 h1 h2).2 x (List.mem_of_getElem? hx)⟩
  obtain ⟨b', o', e', h3, h4, h5, _⟩ := (h w2 h1 h2).at_ hx
  rw [e] at e'
  injection e' with e'
  injection e' with e1 e2
  subst e1; subst e2
  exact ⟨h3, h4, h5⟩
theorem Ro.vlsAt {w : World} {M : Nat → Prop} {A : Option Addr} {n : Nat} {l : List Vl} (h : Ro w M (VlsIn A n l)) {k : Nat} {x : Vl} (hx : l[k]? = some x) :
    ∃ b o, A = some ⟨b, o, none⟩ ∧ Ro w M (fun w => b < w.heap.size ∧ w.cell? ⟨b, o + k * 3, none⟩ = some (.int .i64 x.k) ∧ w.cell? ⟨b, o + k * 3 + 1, none⟩ = some (.int .i64 x.i) ∧ w.cell? ⟨b, o + k * 3 + 2, none⟩ = some (.string x.s)) := by
  obtain ⟨b, o, e, _⟩ := h.now.at_ hx
  refine ⟨b, o, e, fun w2 h1 h2 => ?_⟩
  obtain ⟨b', o', e', h3, h4, h5, h6⟩ := (h w2 h1 h2).at_ hx
  rw [e] at e'
  injection e' with e'
  injection e' with e1 e2
  subst e1; subst e2
  exact ⟨h3, h4, h5, h6⟩
/-- the items under one name -/
theorem Hold.name {M : Nat → Prop} {row : Option Nat} {w0 w : World} {L : List Hp} (h : Hold M row w0 w L) : ∃ KL, KL = L ∧ Hold M row w0 w KL := ⟨L, rfl, h⟩
/-- other items that say no more -/
theorem Hold.view {M : Nat → Prop} {row : Option Nat} {w0 w : World} {L : List Hp} (h : Hold M row w0 w L) (L' : List Hp) (hf : ∀ k ∈ L', k.foot = none) (hs : ∀ k ∈ L', k.sat w0.heap.size w (Mut M L)) : Hold M row w0 w L' := by
  have hM : ∀ b, Mut M L' b → Mut M L b := fun b hb => by
    rcases hb with hb | ⟨k, hk, hf'⟩
    · exact .inl hb
    · rw [hf k hk] at hf'; cases hf'
  refine ⟨h.grow, h.low, fun k hk => Hp.sat_step (k := k) (hs k hk) (Nat.le_refl _) (fun _ _ _ => rfl) (fun b _ hb => hM b hb) (fun _ _ => rfl) (fun _ _ _ _ => rfl), fun k hk b hb => ?_, ?_⟩
  · rw [hf k hk] at hb; cases hb
  · clear hs hM
    induction L' with
    | nil => trivial
    | cons a l ih => exact ⟨fun b hb => (by rw [hf a (List.mem_cons_self ..)] at hb; cases hb), ih fun k hk => hf k (List.mem_cons_of_mem _ hk)⟩
end Go.Proofs.Ytphofeeaphkciaa

namespace Go.Proofs.Ytphofeeaphkciaa
open Go.RowKit
set_option linter.unusedVariables false
set_option linter.unusedSimpArgs false

def k7Rows : List Row := [(1, vKey 2), (2, vKey 1)]
theorem k7_a : applyC nmU uCols 3 pRows [] [] [(1, vKey 1, vKey 2), (2, vKey 2, vKey 1)] = (0, ⟨nmU, uCols, 3, k7Rows⟩) := by decide +kernel
theorem k7_b : applyC nmU uCols 3 pRows [vKey 2] [] [] = (9, zeroT) := by decide +kernel
set_option maxHeartbeats 1000000 in
set_option maxRecDepth 100000 in
theorem known7 : Gives 10 #[] (.bool true) := by
  intro w
  have K0 := Hold.begin_ w
  obtain ⟨nu, hnu⟩ : ∃ nu, nu = nmU := ⟨_, rfl⟩
  have HS := hid small_u
  have HK1 := hid k7_a
  have HK2 := hid k7_b
  rw [← hnu] at HS HK1 HK2
  have HNU := hid hnu
  go_enter Try.func10, Try.ntmps10
  go_wp2_with fail
  refine (pairs_any _ _ K0.mutLt).mono ?_
  rintro e w1 ⟨v, rfl, ⟨A, n, c, B, m, d, l, hv, h1, h2, h3, h4, h5, h6, h7, h8⟩, b1⟩
  obtain rfl : v = .agg #[.string nu, .slice A n c, .int .i64 3, .slice B m d] := by rw [hnu]; exact hv
  clear hv hnu
  have K2 := (((K0.call b1).add h6).add (h5.less (by simp [Mut, Hp.foot]))).alloc_cst #[.string nu, .slice A n c, .int .i64 3, .slice B m d] 29
  clear K0 b1 h5 h6
  obtain ⟨gt, hgt⟩ : ∃ gt, gt = w1.heap.size := ⟨_, rfl⟩
  rw [← hgt] at K2
  go_wp2_with fail
  rw [← hgt]
  have HGT := hid hgt
  clear hgt
  obtain ⟨Ha, hHa⟩ : ∃ H, H = (World.alloc w1 (.cells #[.string nu, .slice A n c, .int .i64 3, .slice B m d] 29)).drew.heap.size := ⟨_, rfl⟩
  have HHa := hid hHa
  clear hHa
  refine wp_region_any (by kernel_rfl) ?_
  refine wpAny_holdE [12] 14 51 ([.cst gt 29 #[.string nu, .slice A n c, .int .i64 3, .slice B m d], .ro (ColsIn A n uCols), .ro (RwsIn B m l)]) (spL [(9, (VlsSlot (Mut None_ [.cst gt 29 #[.string nu, .slice A n c, .int .i64 3, .slice B m d], .ro (ColsIn A n uCols), .ro (RwsIn B m l)]) (vKey 1))), (10, (VlsSlot (Mut None_ [.cst gt 29 #[.string nu, .slice A n c, .int .i64 3, .slice B m d], .ro (ColsIn A n uCols), .ro (RwsIn B m l)]) (vKey 2))), (11, (PrSlot (Mut None_ [.cst gt 29 #[.string nu, .slice A n c, .int .i64 3, .slice B m d], .ro (ColsIn A n uCols), .ro (RwsIn B m l)]) (1, vKey 1, vKey 2))), (12, (VlsSlot (Mut None_ [.cst gt 29 #[.string nu, .slice A n c, .int .i64 3, .slice B m d], .ro (ColsIn A n uCols), .ro (RwsIn B m l)]) (vKey 2))), (13, (VlsSlot (Mut None_ [.cst gt 29 #[.string nu, .slice A n c, .int .i64 3, .slice B m d], .ro (ColsIn A n uCols), .ro (RwsIn B m l)]) (vKey 1))), (14, (PrSlot (Mut None_ [.cst gt 29 #[.string nu, .slice A n c, .int .i64 3, .slice B m d], .ro (ColsIn A n uCols), .ro (RwsIn B m l)]) (2, vKey 2, vKey 1))), (15, (PrsSlot (Mut None_ [.cst gt 29 #[.string nu, .slice A n c, .int .i64 3, .slice B m d], .ro (ColsIn A n uCols), .ro (RwsIn B m l)]) [(1, vKey 1, vKey 2), (2, vKey 2, vKey 1)])), (16, (ChgSlot (Mut None_ [.cst gt 29 #[.string nu, .slice A n c, .int .i64 3, .slice B m d], .ro (ColsIn A n uCols), .ro (RwsIn B m l)]) [] [] [(1, vKey 1, vKey 2), (2, vKey 2, vKey 1)])), (17, (ApSlot (Mut None_ [.cst gt 29 #[.string nu, .slice A n c, .int .i64 3, .slice B m d], .ro (ColsIn A n uCols), .ro (RwsIn B m l)]) (0, (⟨nu, uCols, 3, k7Rows⟩ : Tb)))), (7, (ApSlot (Mut None_ [.cst gt 29 #[.string nu, .slice A n c, .int .i64 3, .slice B m d], .ro (ColsIn A n uCols), .ro (RwsIn B m l)]) (0, (⟨nu, uCols, 3, k7Rows⟩ : Tb)))), (2, (NewSlot (Mut None_ [.cst gt 29 #[.string nu, .slice A n c, .int .i64 3, .slice B m d], .ro (ColsIn A n uCols), .ro (RwsIn B m l)]) Ha 29 #[.string ⟨#[]⟩, .slice none 0 0, .int .i64 0, .slice none 0 0]))]) (by kernel_rfl) (fun _ d _ _ _ h => by cases d <;> exact h) (by kernel_rfl) (by kernel_rfl) rfl ?_ (K2.drew) ?_
  · exact stays_cons vlsSlot_mono (stays_cons vlsSlot_mono (stays_cons prSlot_mono (stays_cons vlsSlot_mono (stays_cons vlsSlot_mono (stays_cons prSlot_mono (stays_cons prsSlot_mono (stays_cons chgSlot_mono (stays_cons apSlot_mono (stays_cons apSlot_mono (stays_cons newSlot_mono (stays_nil _)))))))))))
  simp only [List.take_succ_cons, List.take_zero, List.drop_succ_cons, List.drop_zero, Act.put, List.getElem_toArray, List.getElem_cons_zero, List.getElem_cons_succ, List.setIfInBounds_toArray, List.set_cons_succ, List.set_cons_zero]
  refine dw_val rfl rfl rfl ?_; apply Exists.intro; refine ⟨fun wv HC => ?_, ?_⟩
  · have FC := HC.facts; simp only [factsL, cellsF, Nat.reduceAdd, List.toList_toArray, and_true, true_and] at FC; go_simp <;> rfl
  simp only [Act.put, List.setIfInBounds_toArray, List.set_cons_succ, List.set_cons_zero]
  refine dw_callR 9 (VlsSlot (Mut None_ [.cst gt 29 #[.string nu, .slice A n c, .int .i64 3, .slice B m d], .ro (ColsIn A n uCols), .ro (RwsIn B m l)]) (vKey 1)) (f := 11) (args := #[.int .i64 1]) rfl rfl rfl rfl (fun wv => ?_) (fun wv HC hrm hD => ?_) ?_
  · go_simp <;> rfl
  · refine (keyed_any _ wv HC.mutLt 1).mono ?_
    rintro e w6 ⟨v, rfl, hv, b6⟩
    exact ⟨_, rfl, hv, HC.call b6, RM.below b6⟩
  rintro u wx HCx ⟨A9, n9, c9, rfl, -, -, -, -⟩
  clear HCx
  simp only [Act.put, List.setIfInBounds_toArray, List.set_cons_succ, List.set_cons_zero]
  refine dw_callR 10 (VlsSlot (Mut None_ [.cst gt 29 #[.string nu, .slice A n c, .int .i64 3, .slice B m d], .ro (ColsIn A n uCols), .ro (RwsIn B m l)]) (vKey 2)) (f := 11) (args := #[.int .i64 2]) rfl rfl rfl rfl (fun wv => ?_) (fun wv HC hrm hD => ?_) ?_
  · go_simp <;> rfl
  · refine (keyed_any _ wv HC.mutLt 2).mono ?_
    rintro e w6 ⟨v, rfl, hv, b6⟩
    exact ⟨_, rfl, hv, HC.call b6, RM.below b6⟩
  rintro u wx HCx ⟨A10, n10, c10, rfl, -, -, -, -⟩
  clear HCx
  simp only [Act.put, List.setIfInBounds_toArray, List.set_cons_succ, List.set_cons_zero]
  refine dw_valC 11 (PrSlot (Mut None_ [.cst gt 29 #[.string nu, .slice A n c, .int .i64 3, .slice B m d], .ro (ColsIn A n uCols), .ro (RwsIn B m l)]) (1, vKey 1, vKey 2)) rfl rfl rfl rfl (.agg #[.int .i64 1, .slice A9 n9 c9, .slice A10 n10 c10]) (fun wv HC => ?_) (fun wv HC hD => ?_) ?_
  · go_simp <;> rfl
  · have ha : VlsSlot (Mut None_ [.cst gt 29 #[.string nu, .slice A n c, .int .i64 3, .slice B m d], .ro (ColsIn A n uCols), .ro (RwsIn B m l)]) (vKey 1) (.slice A9 n9 c9) wv := deps_at hD 1 rfl (by kernel_rfl) rfl rfl
    have hb : VlsSlot (Mut None_ [.cst gt 29 #[.string nu, .slice A n c, .int .i64 3, .slice B m d], .ro (ColsIn A n uCols), .ro (RwsIn B m l)]) (vKey 2) (.slice A10 n10 c10) wv := deps_at hD 2 rfl (by kernel_rfl) rfl rfl
    exact prSlot_of (by unfold I64; omega) (vKey_ok (by unfold I64; omega)) (vKey_ok (by unfold I64; omega)) ha hb
  simp only [Act.put, List.setIfInBounds_toArray, List.set_cons_succ, List.set_cons_zero]
  refine dw_callR 12 (VlsSlot (Mut None_ [.cst gt 29 #[.string nu, .slice A n c, .int .i64 3, .slice B m d], .ro (ColsIn A n uCols), .ro (RwsIn B m l)]) (vKey 2)) (f := 11) (args := #[.int .i64 2]) rfl rfl rfl rfl (fun wv => ?_) (fun wv HC hrm hD => ?_) ?_
  · go_simp <;> rfl
  · refine (keyed_any _ wv HC.mutLt 2).mono ?_
    rintro e w6 ⟨v, rfl, hv, b6⟩
    exact ⟨_, rfl, hv, HC.call b6, RM.below b6⟩
  rintro u wx HCx ⟨A12, n12, c12, rfl, -, -, -, -⟩
  clear HCx
  simp only [Act.put, List.setIfInBounds_toArray, List.set_cons_succ, List.set_cons_zero]
  refine dw_callR 13 (VlsSlot (Mut None_ [.cst gt 29 #[.string nu, .slice A n c, .int .i64 3, .slice B m d], .ro (ColsIn A n uCols), .ro (RwsIn B m l)]) (vKey 1)) (f := 11) (args := #[.int .i64 1]) rfl rfl rfl rfl (fun wv => ?_) (fun wv HC hrm hD => ?_) ?_
  · go_simp <;> rfl
  · refine (keyed_any _ wv HC.mutLt 1).mono ?_
    rintro e w6 ⟨v, rfl, hv, b6⟩
    exact ⟨_, rfl, hv, HC.call b6, RM.below b6⟩
  rintro u wx HCx ⟨A13, n13, c13, rfl, -, -, -, -⟩
  clear HCx
  simp only [Act.put, List.setIfInBounds_toArray, List.set_cons_succ, List.set_cons_zero]
  refine dw_valC 14 (PrSlot (Mut None_ [.cst gt 29 #[.string nu, .slice A n c, .int .i64 3, .slice B m d], .ro (ColsIn A n uCols), .ro (RwsIn B m l)]) (2, vKey 2, vKey 1)) rfl rfl rfl rfl (.agg #[.int .i64 2, .slice A12 n12 c12, .slice A13 n13 c13]) (fun wv HC => ?_) (fun wv HC hD => ?_) ?_
  · go_simp <;> rfl
  · have ha : VlsSlot (Mut None_ [.cst gt 29 #[.string nu, .slice A n c, .int .i64 3, .slice B m d], .ro (ColsIn A n uCols), .ro (RwsIn B m l)]) (vKey 2) (.slice A12 n12 c12) wv := deps_at hD 4 rfl (by kernel_rfl) rfl rfl
    have hb : VlsSlot (Mut None_ [.cst gt 29 #[.string nu, .slice A n c, .int .i64 3, .slice B m d], .ro (ColsIn A n uCols), .ro (RwsIn B m l)]) (vKey 1) (.slice A13 n13 c13) wv := deps_at hD 5 rfl (by kernel_rfl) rfl rfl
    exact prSlot_of (by unfold I64; omega) (vKey_ok (by unfold I64; omega)) (vKey_ok (by unfold I64; omega)) ha hb
  simp only [Act.put, List.setIfInBounds_toArray, List.set_cons_succ, List.set_cons_zero]
  refine dw_new #[.int .i64 1, .slice A9 n9 c9, .slice A10 n10 c10, .int .i64 2, .slice A12 n12 c12, .slice A13 n13 c13] 48 15 (PrsSlot (Mut None_ [.cst gt 29 #[.string nu, .slice A n c, .int .i64 3, .slice B m d], .ro (ColsIn A n uCols), .ro (RwsIn B m l)]) [(1, vKey 1, vKey 2), (2, vKey 2, vKey 1)]) (fun g => .slice (some ⟨g, 0, none⟩) 2 2) rfl rfl rfl rfl (fun wv => ?_) (fun wv HC _hrm hD hro => ?_) ?_
  · go_simp <;> rfl
  · have hrr := RM.alloc (Mut None_ [.cst gt 29 #[.string nu, .slice A n c, .int .i64 3, .slice B m d], .ro (ColsIn A n uCols), .ro (RwsIn B m l)]) wv (.cells #[.int .i64 1, .slice A9 n9 c9, .slice A10 n10 c10, .int .i64 2, .slice A12 n12 c12, .slice A13 n13 c13] 48)
    have h0 : PrSlot (Mut None_ [.cst gt 29 #[.string nu, .slice A n c, .int .i64 3, .slice B m d], .ro (ColsIn A n uCols), .ro (RwsIn B m l)]) (1, vKey 1, vKey 2) (.agg #[.int .i64 1, .slice A9 n9 c9, .slice A10 n10 c10]) wv := deps_at hD 3 rfl (by kernel_rfl) rfl rfl
    have h1 : PrSlot (Mut None_ [.cst gt 29 #[.string nu, .slice A n c, .int .i64 3, .slice B m d], .ro (ColsIn A n uCols), .ro (RwsIn B m l)]) (2, vKey 2, vKey 1) (.agg #[.int .i64 2, .slice A12 n12 c12, .slice A13 n13 c13]) wv := deps_at hD 6 rfl (by kernel_rfl) rfl rfl
    replace h0 := prSlot_mono _ _ _ hrr h0
    replace h1 := prSlot_mono _ _ _ hrr h1
    exact prsSlot_two (hro _ HC.mutLt) (fun i j k i2 j2 k2 e1 e2 => by injection e1 with e1; injection e2 with e2; simp at e1 e2; obtain ⟨rfl, rfl, rfl⟩ := e1; obtain ⟨rfl, rfl, rfl⟩ := e2; rfl) h0 h1
  rintro g15 wg HCg hsl
  simp only [Act.put, List.setIfInBounds_toArray, List.set_cons_succ, List.set_cons_zero]
  clear hsl HCg
  refine dw_valC 16 (ChgSlot (Mut None_ [.cst gt 29 #[.string nu, .slice A n c, .int .i64 3, .slice B m d], .ro (ColsIn A n uCols), .ro (RwsIn B m l)]) [] [] [(1, vKey 1, vKey 2), (2, vKey 2, vKey 1)]) rfl rfl rfl rfl (.agg #[.slice none 0 0, .slice none 0 0, .slice (some ⟨g15, 0, none⟩) 2 2]) (fun wv HC => ?_) (fun wv HC hD => ?_) ?_
  · go_simp <;> rfl
  · have h0 : SlsSlot (Mut None_ [.cst gt 29 #[.string nu, .slice A n c, .int .i64 3, .slice B m d], .ro (ColsIn A n uCols), .ro (RwsIn B m l)]) [] (.slice none 0 0) wv := slsSlot_nil _
    have h1 : IsSlot (Mut None_ [.cst gt 29 #[.string nu, .slice A n c, .int .i64 3, .slice B m d], .ro (ColsIn A n uCols), .ro (RwsIn B m l)]) [] (.slice none 0 0) wv := isSlot_nil _
    have h2 : PrsSlot (Mut None_ [.cst gt 29 #[.string nu, .slice A n c, .int .i64 3, .slice B m d], .ro (ColsIn A n uCols), .ro (RwsIn B m l)]) [(1, vKey 1, vKey 2), (2, vKey 2, vKey 1)] (.slice (some ⟨g15, 0, none⟩) 2 2) wv := deps_at hD 7 rfl (by kernel_rfl) rfl rfl
    exact chgSlot_of h0 h1 h2
  simp only [Act.put, List.setIfInBounds_toArray, List.set_cons_succ, List.set_cons_zero]
  refine dw_callR 17 (ApSlot (Mut None_ [.cst gt 29 #[.string nu, .slice A n c, .int .i64 3, .slice B m d], .ro (ColsIn A n uCols), .ro (RwsIn B m l)]) (0, (⟨nu, uCols, 3, k7Rows⟩ : Tb))) (f := 12) (args := #[.agg #[.string nu, .slice A n c, .int .i64 3, .slice B m d], .agg #[.slice none 0 0, .slice none 0 0, .slice (some ⟨g15, 0, none⟩) 2 2]]) rfl rfl rfl rfl (fun wv => ?_) (fun wv HC hrm hD => ?_) ?_
  · go_simp <;> rfl
  · have hc : ChgSlot (Mut None_ [.cst gt 29 #[.string nu, .slice A n c, .int .i64 3, .slice B m d], .ro (ColsIn A n uCols), .ro (RwsIn B m l)]) [] [] [(1, vKey 1, vKey 2), (2, vKey 2, vKey 1)] (.agg #[.slice none 0 0, .slice none 0 0, .slice (some ⟨g15, 0, none⟩) 2 2]) wv := deps_at hD 8 rfl (by kernel_rfl) rfl rfl
    have hk := kapply_slot _ wv HC.mutLt _ _ ⟨nu, uCols, 3, pRows⟩ [] [] [(1, vKey 1, vKey 2), (2, vKey 2, vKey 1)] ⟨A, n, c, B, m, d, l, rfl, h1, h2, h3, h4, HC.ro 1 rfl, HC.ro 2 rfl, h7, h8⟩ hc HS.out.1 HS.out.2.1 (by show pRows.length ≤ _; decide) (by decide) (by decide) (by decide)
    rw [show applyC _ _ _ _ _ _ _ = _ from HK1.out] at hk
    refine hk.mono ?_
    rintro e w6 ⟨v, rfl, hv, b6⟩
    exact ⟨_, rfl, hv, HC.call b6, RM.below b6⟩
  rintro u wx HCx ⟨v, rfl, Aa, na, ca, Ba, ma, da, la, hv, -, -, -, -, -, -, -, -⟩
  obtain ⟨sa, xa, rfl⟩ : ∃ s x, v = .agg #[.string s, .slice Aa na ca, .int .i64 x, .slice Ba ma da] := ⟨_, _, hv⟩
  clear HCx hv
  simp only [Act.put, List.setIfInBounds_toArray, List.set_cons_succ, List.set_cons_zero]
  refine dw_valC 7 (ApSlot (Mut None_ [.cst gt 29 #[.string nu, .slice A n c, .int .i64 3, .slice B m d], .ro (ColsIn A n uCols), .ro (RwsIn B m l)]) (0, (⟨nu, uCols, 3, k7Rows⟩ : Tb))) rfl rfl rfl rfl (.tuple #[.agg #[.string sa, .slice Aa na ca, .int .i64 xa, .slice Ba ma da], .int .i64 0]) (fun wv HC => ?_) (fun wv HC hD => ?_) ?_
  · go_simp <;> rfl
  · exact deps_at hD 9 rfl (by kernel_rfl) rfl rfl
  simp only [Act.put, List.setIfInBounds_toArray, List.set_cons_succ, List.set_cons_zero]
  refine dw_val rfl rfl rfl ?_; apply Exists.intro; refine ⟨fun wv HC => ?_, ?_⟩
  ·  go_simp <;> rfl
  simp only [Act.put, List.setIfInBounds_toArray, List.set_cons_succ, List.set_cons_zero]
  refine dw_val rfl rfl rfl ?_; apply Exists.intro; refine ⟨fun wv HC => ?_, ?_⟩
  ·  go_simp <;> rfl
  simp only [Act.put, List.setIfInBounds_toArray, List.set_cons_succ, List.set_cons_zero]
  refine dw_new #[.string ⟨#[]⟩, .slice none 0 0, .int .i64 0, .slice none 0 0] 29 2 (NewSlot (Mut None_ [.cst gt 29 #[.string nu, .slice A n c, .int .i64 3, .slice B m d], .ro (ColsIn A n uCols), .ro (RwsIn B m l)]) Ha 29 #[.string ⟨#[]⟩, .slice none 0 0, .int .i64 0, .slice none 0 0]) (fun g => .pointer (some ⟨g, 0, none⟩)) rfl rfl rfl rfl (fun wv => ?_) (fun wv HC hrm hD hro => ?_) ?_
  · go_simp <;> rfl
  · exact ⟨_, rfl, by have := hrm.1; rw [HHa.out]; exact this, hro _ HC.mutLt⟩
  rintro ga wg HCg hsl
  simp only [Act.put, List.setIfInBounds_toArray, List.set_cons_succ, List.set_cons_zero]
  clear hsl HCg
  refine rel_nil ?_
  rintro wxa HX
  rintro _hrm HGW
  have hap : ApSlot (Mut None_ [.cst gt 29 #[.string nu, .slice A n c, .int .i64 3, .slice B m d], .ro (ColsIn A n uCols), .ro (RwsIn B m l)]) (0, (⟨nu, uCols, 3, k7Rows⟩ : Tb)) (.tuple #[.agg #[.string sa, .slice Aa na ca, .int .i64 xa, .slice Ba ma da], .int .i64 0]) wxa := (GW_on (d := 7) rfl).1 (HGW 10 _ rfl (by omega))
  have hns : NewSlot (Mut None_ [.cst gt 29 #[.string nu, .slice A n c, .int .i64 3, .slice B m d], .ro (ColsIn A n uCols), .ro (RwsIn B m l)]) Ha 29 #[.string ⟨#[]⟩, .slice none 0 0, .int .i64 0, .slice none 0 0] (.pointer (some ⟨ga, 0, none⟩)) wxa := (GW_on (d := 2) rfl).1 (HGW 13 _ rfl (by omega))
  clear HGW
  obtain ⟨g7, hg7, hgH, hgB⟩ := hns
  obtain rfl : ga = g7 := by injection hg7 with hg7; injection hg7 with hg7; injection hg7
  clear hg7
  rw [HHa.out] at hgH
  have HB := Hold.addFreshBlk K2.drew HX _hrm hgH hgB.now
  have hgn := hgB.now
  clear hgB hgH
  obtain ⟨v, hv, TT⟩ := hap
  obtain rfl : _ = v := by injection hv with hv; simpa using hv
  clear hv
  clear K2
  obtain ⟨A1, n1, c1, B1, m1, d1, l1, ev, -, -, -, -, -, q6, -, q8⟩ := TT
  have ev2 := ev.symm
  injection ev2 with ev2
  simp only [Array.mk.injEq, List.cons.injEq, Value.string.injEq, Value.slice.injEq, Value.int.injEq, and_true, true_and] at ev2
  obtain ⟨rfl, ⟨rfl, rfl, rfl⟩, rfl, rfl, rfl, rfl⟩ := ev2
  clear ev
  have HQ8 := hid q8
  have q9 : Ro wxa (Mut None_ (.blk ga 29 #[.string ⟨#[]⟩, .slice none 0 0, .int .i64 0, .slice none 0 0] :: [.cst gt 29 #[.string nu, .slice A n c, .int .i64 3, .slice B m d], .ro (ColsIn A n uCols), .ro (RwsIn B m l)])) (RwsIn B1 m1 l1) := (rows_apart q6 hgn (by rw [q8]; intro r hr; simp only [k7Rows, List.mem_cons, List.not_mem_nil, or_false] at hr; rcases hr with rfl | rfl <;> exact ⟨by decide, _, _, rfl, by decide⟩)).less (fun b hb => (mut_cons.1 hb).imp (fun e => by injection e with e; exact e.symm) id)
  clear hgn q6
  have K4 := ((((HB.add q9).store 1 rfl 0 (.string nu)).store 1 rfl 1 (.slice A1 n1 c1)).store 1 rfl 2 (.int .i64 3)).store 1 rfl 3 (.slice B1 m1 d1)
  have FB := HB.facts
  simp only [factsL, cellsF, Nat.reduceAdd, List.toList_toArray, and_true, true_and] at FB
  go_wp2_with fail
  generalize (((wxa.setCell _ _).setCell _ _).setCell _ _).setCell _ _ = w4 at K4 ⊢
  have K5 := K4.fix_ 1 rfl
  simp only [List.set_cons_zero, List.set_cons_succ, List.setIfInBounds_toArray] at K5
  clear K4 FB HB q9 HX _hrm HHa
  obtain ⟨Hb, hHb⟩ : ∃ H, H = w4.drew.heap.size := ⟨_, rfl⟩
  have HHb := hid hHb
  clear hHb
  refine wp_region_any (by kernel_rfl) ?_
  refine wpAny_holdE [7] 9 51 ([.ro (RwsIn B1 m1 l1), .cst ga 29 #[.string nu, .slice A1 n1 c1, .int .i64 3, .slice B1 m1 d1], .cst gt 29 #[.string nu, .slice A n c, .int .i64 3, .slice B m d], .ro (ColsIn A n uCols), .ro (RwsIn B m l)]) (spL [(22, (VlsSlot (Mut None_ [.ro (RwsIn B1 m1 l1), .cst ga 29 #[.string nu, .slice A1 n1 c1, .int .i64 3, .slice B1 m1 d1], .cst gt 29 #[.string nu, .slice A n c, .int .i64 3, .slice B m d], .ro (ColsIn A n uCols), .ro (RwsIn B m l)]) (vKey 2))), (23, (SlsSlot (Mut None_ [.ro (RwsIn B1 m1 l1), .cst ga 29 #[.string nu, .slice A1 n1 c1, .int .i64 3, .slice B1 m1 d1], .cst gt 29 #[.string nu, .slice A n c, .int .i64 3, .slice B m d], .ro (ColsIn A n uCols), .ro (RwsIn B m l)]) [vKey 2])), (24, (ChgSlot (Mut None_ [.ro (RwsIn B1 m1 l1), .cst ga 29 #[.string nu, .slice A1 n1 c1, .int .i64 3, .slice B1 m1 d1], .cst gt 29 #[.string nu, .slice A n c, .int .i64 3, .slice B m d], .ro (ColsIn A n uCols), .ro (RwsIn B m l)]) [vKey 2] [] [])), (25, (ApSlot (Mut None_ [.ro (RwsIn B1 m1 l1), .cst ga 29 #[.string nu, .slice A1 n1 c1, .int .i64 3, .slice B1 m1 d1], .cst gt 29 #[.string nu, .slice A n c, .int .i64 3, .slice B m d], .ro (ColsIn A n uCols), .ro (RwsIn B m l)]) (9, zeroT))), (20, (ApSlot (Mut None_ [.ro (RwsIn B1 m1 l1), .cst ga 29 #[.string nu, .slice A1 n1 c1, .int .i64 3, .slice B1 m1 d1], .cst gt 29 #[.string nu, .slice A n c, .int .i64 3, .slice B m d], .ro (ColsIn A n uCols), .ro (RwsIn B m l)]) (9, zeroT))), (4, (NewSlot (Mut None_ [.ro (RwsIn B1 m1 l1), .cst ga 29 #[.string nu, .slice A1 n1 c1, .int .i64 3, .slice B1 m1 d1], .cst gt 29 #[.string nu, .slice A n c, .int .i64 3, .slice B m d], .ro (ColsIn A n uCols), .ro (RwsIn B m l)]) Hb 29 #[.string ⟨#[]⟩, .slice none 0 0, .int .i64 0, .slice none 0 0]))]) (by kernel_rfl) (fun _ d _ _ _ h => by cases d <;> exact h) (by kernel_rfl) (by kernel_rfl) rfl ?_ (K5.drew) ?_
  · exact stays_cons vlsSlot_mono (stays_cons slsSlot_mono (stays_cons chgSlot_mono (stays_cons apSlot_mono (stays_cons apSlot_mono (stays_cons newSlot_mono (stays_nil _))))))
  simp only [List.take_succ_cons, List.take_zero, List.drop_succ_cons, List.drop_zero, Act.put, List.getElem_toArray, List.getElem_cons_zero, List.getElem_cons_succ, List.setIfInBounds_toArray, List.set_cons_succ, List.set_cons_zero]
  refine dw_val rfl rfl rfl ?_; apply Exists.intro; refine ⟨fun wv HC => ?_, ?_⟩
  · have FC := HC.facts; simp only [factsL, cellsF, Nat.reduceAdd, List.toList_toArray, and_true, true_and] at FC; go_simp <;> rfl
  simp only [Act.put, List.setIfInBounds_toArray, List.set_cons_succ, List.set_cons_zero]
  refine dw_callR 22 (VlsSlot (Mut None_ [.ro (RwsIn B1 m1 l1), .cst ga 29 #[.string nu, .slice A1 n1 c1, .int .i64 3, .slice B1 m1 d1], .cst gt 29 #[.string nu, .slice A n c, .int .i64 3, .slice B m d], .ro (ColsIn A n uCols), .ro (RwsIn B m l)]) (vKey 2)) (f := 11) (args := #[.int .i64 2]) rfl rfl rfl rfl (fun wv => ?_) (fun wv HC hrm hD => ?_) ?_
  · go_simp <;> rfl
  · refine (keyed_any _ wv HC.mutLt 2).mono ?_
    rintro e w6 ⟨v, rfl, hv, b6⟩
    exact ⟨_, rfl, hv, HC.call b6, RM.below b6⟩
  rintro u wx HCx ⟨A22, n22, c22, rfl, -, -, -, -⟩
  clear HCx
  simp only [Act.put, List.setIfInBounds_toArray, List.set_cons_succ, List.set_cons_zero]
  refine dw_new #[.slice A22 n22 c22] 32 23 (SlsSlot (Mut None_ [.ro (RwsIn B1 m1 l1), .cst ga 29 #[.string nu, .slice A1 n1 c1, .int .i64 3, .slice B1 m1 d1], .cst gt 29 #[.string nu, .slice A n c, .int .i64 3, .slice B m d], .ro (ColsIn A n uCols), .ro (RwsIn B m l)]) [vKey 2]) (fun g => .slice (some ⟨g, 0, none⟩) 1 1) rfl rfl rfl rfl (fun wv => ?_) (fun wv HC _hrm hD hro => ?_) ?_
  · go_simp <;> rfl
  · have h0 : VlsSlot (Mut None_ [.ro (RwsIn B1 m1 l1), .cst ga 29 #[.string nu, .slice A1 n1 c1, .int .i64 3, .slice B1 m1 d1], .cst gt 29 #[.string nu, .slice A n c, .int .i64 3, .slice B m d], .ro (ColsIn A n uCols), .ro (RwsIn B m l)]) (vKey 2) (.slice A22 n22 c22) wv := deps_at hD 1 rfl (by kernel_rfl) rfl rfl
    exact slsSlot_one (hro _ HC.mutLt) (vKey_ok (by unfold I64; omega)) (vlsSlot_mono _ _ _ (RM.alloc (Mut None_ [.ro (RwsIn B1 m1 l1), .cst ga 29 #[.string nu, .slice A1 n1 c1, .int .i64 3, .slice B1 m1 d1], .cst gt 29 #[.string nu, .slice A n c, .int .i64 3, .slice B m d], .ro (ColsIn A n uCols), .ro (RwsIn B m l)]) wv _) h0)
  rintro g23 wg HCg hsl
  simp only [Act.put, List.setIfInBounds_toArray, List.set_cons_succ, List.set_cons_zero]
  clear hsl HCg
  refine dw_valC 24 (ChgSlot (Mut None_ [.ro (RwsIn B1 m1 l1), .cst ga 29 #[.string nu, .slice A1 n1 c1, .int .i64 3, .slice B1 m1 d1], .cst gt 29 #[.string nu, .slice A n c, .int .i64 3, .slice B m d], .ro (ColsIn A n uCols), .ro (RwsIn B m l)]) [vKey 2] [] []) rfl rfl rfl rfl (.agg #[.slice (some ⟨g23, 0, none⟩) 1 1, .slice none 0 0, .slice none 0 0]) (fun wv HC => ?_) (fun wv HC hD => ?_) ?_
  · go_simp <;> rfl
  · have h0 : SlsSlot (Mut None_ [.ro (RwsIn B1 m1 l1), .cst ga 29 #[.string nu, .slice A1 n1 c1, .int .i64 3, .slice B1 m1 d1], .cst gt 29 #[.string nu, .slice A n c, .int .i64 3, .slice B m d], .ro (ColsIn A n uCols), .ro (RwsIn B m l)]) [vKey 2] (.slice (some ⟨g23, 0, none⟩) 1 1) wv := deps_at hD 2 rfl (by kernel_rfl) rfl rfl
    have h1 : IsSlot (Mut None_ [.ro (RwsIn B1 m1 l1), .cst ga 29 #[.string nu, .slice A1 n1 c1, .int .i64 3, .slice B1 m1 d1], .cst gt 29 #[.string nu, .slice A n c, .int .i64 3, .slice B m d], .ro (ColsIn A n uCols), .ro (RwsIn B m l)]) [] (.slice none 0 0) wv := isSlot_nil _
    have h2 : PrsSlot (Mut None_ [.ro (RwsIn B1 m1 l1), .cst ga 29 #[.string nu, .slice A1 n1 c1, .int .i64 3, .slice B1 m1 d1], .cst gt 29 #[.string nu, .slice A n c, .int .i64 3, .slice B m d], .ro (ColsIn A n uCols), .ro (RwsIn B m l)]) [] (.slice none 0 0) wv := prsSlot_nil _
    exact chgSlot_of h0 h1 h2
  simp only [Act.put, List.setIfInBounds_toArray, List.set_cons_succ, List.set_cons_zero]
  refine dw_callR 25 (ApSlot (Mut None_ [.ro (RwsIn B1 m1 l1), .cst ga 29 #[.string nu, .slice A1 n1 c1, .int .i64 3, .slice B1 m1 d1], .cst gt 29 #[.string nu, .slice A n c, .int .i64 3, .slice B m d], .ro (ColsIn A n uCols), .ro (RwsIn B m l)]) (9, zeroT)) (f := 12) (args := #[.agg #[.string nu, .slice A n c, .int .i64 3, .slice B m d], .agg #[.slice (some ⟨g23, 0, none⟩) 1 1, .slice none 0 0, .slice none 0 0]]) rfl rfl rfl rfl (fun wv => ?_) (fun wv HC hrm hD => ?_) ?_
  · go_simp <;> rfl
  · have hc : ChgSlot (Mut None_ [.ro (RwsIn B1 m1 l1), .cst ga 29 #[.string nu, .slice A1 n1 c1, .int .i64 3, .slice B1 m1 d1], .cst gt 29 #[.string nu, .slice A n c, .int .i64 3, .slice B m d], .ro (ColsIn A n uCols), .ro (RwsIn B m l)]) [vKey 2] [] [] (.agg #[.slice (some ⟨g23, 0, none⟩) 1 1, .slice none 0 0, .slice none 0 0]) wv := deps_at hD 3 rfl (by kernel_rfl) rfl rfl
    have hk := kapply_slot _ wv HC.mutLt _ _ ⟨nu, uCols, 3, pRows⟩ [vKey 2] [] [] ⟨A, n, c, B, m, d, l, rfl, h1, h2, h3, h4, HC.ro 3 rfl, HC.ro 4 rfl, h7, h8⟩ hc HS.out.1 HS.out.2.1 (by show pRows.length ≤ _; decide) (by decide) (by decide) (by decide)
    rw [show applyC _ _ _ _ _ _ _ = _ from HK2.out] at hk
    refine hk.mono ?_
    rintro e w6 ⟨v, rfl, hv, b6⟩
    exact ⟨_, rfl, hv, HC.call b6, RM.below b6⟩
  rintro u wx HCx ⟨v, rfl, Ab, nb, cb, Bb, mb, db, lb, hv, -, -, -, -, -, -, -, -⟩
  obtain ⟨sb, xb, rfl⟩ : ∃ s x, v = .agg #[.string s, .slice Ab nb cb, .int .i64 x, .slice Bb mb db] := ⟨_, _, hv⟩
  clear HCx hv
  simp only [Act.put, List.setIfInBounds_toArray, List.set_cons_succ, List.set_cons_zero]
  refine dw_valC 20 (ApSlot (Mut None_ [.ro (RwsIn B1 m1 l1), .cst ga 29 #[.string nu, .slice A1 n1 c1, .int .i64 3, .slice B1 m1 d1], .cst gt 29 #[.string nu, .slice A n c, .int .i64 3, .slice B m d], .ro (ColsIn A n uCols), .ro (RwsIn B m l)]) (9, zeroT)) rfl rfl rfl rfl (.tuple #[.agg #[.string sb, .slice Ab nb cb, .int .i64 xb, .slice Bb mb db], .int .i64 9]) (fun wv HC => ?_) (fun wv HC hD => ?_) ?_
  · go_simp <;> rfl
  · exact deps_at hD 4 rfl (by kernel_rfl) rfl rfl
  simp only [Act.put, List.setIfInBounds_toArray, List.set_cons_succ, List.set_cons_zero]
  refine dw_val rfl rfl rfl ?_; apply Exists.intro; refine ⟨fun wv HC => ?_, ?_⟩
  ·  go_simp <;> rfl
  simp only [Act.put, List.setIfInBounds_toArray, List.set_cons_succ, List.set_cons_zero]
  refine dw_val rfl rfl rfl ?_; apply Exists.intro; refine ⟨fun wv HC => ?_, ?_⟩
  ·  go_simp <;> rfl
  simp only [Act.put, List.setIfInBounds_toArray, List.set_cons_succ, List.set_cons_zero]
  refine dw_new #[.string ⟨#[]⟩, .slice none 0 0, .int .i64 0, .slice none 0 0] 29 4 (NewSlot (Mut None_ [.ro (RwsIn B1 m1 l1), .cst ga 29 #[.string nu, .slice A1 n1 c1, .int .i64 3, .slice B1 m1 d1], .cst gt 29 #[.string nu, .slice A n c, .int .i64 3, .slice B m d], .ro (ColsIn A n uCols), .ro (RwsIn B m l)]) Hb 29 #[.string ⟨#[]⟩, .slice none 0 0, .int .i64 0, .slice none 0 0]) (fun g => .pointer (some ⟨g, 0, none⟩)) rfl rfl rfl rfl (fun wv => ?_) (fun wv HC hrm hD hro => ?_) ?_
  · go_simp <;> rfl
  · exact ⟨_, rfl, by have := hrm.1; rw [HHb.out]; exact this, hro _ HC.mutLt⟩
  rintro gb wg HCg hsl
  simp only [Act.put, List.setIfInBounds_toArray, List.set_cons_succ, List.set_cons_zero]
  clear hsl HCg
  refine rel_nil ?_
  rintro wxb HX
  rintro _hrm HGW
  have hap : ApSlot (Mut None_ [.ro (RwsIn B1 m1 l1), .cst ga 29 #[.string nu, .slice A1 n1 c1, .int .i64 3, .slice B1 m1 d1], .cst gt 29 #[.string nu, .slice A n c, .int .i64 3, .slice B m d], .ro (ColsIn A n uCols), .ro (RwsIn B m l)]) (9, zeroT) (.tuple #[.agg #[.string sb, .slice Ab nb cb, .int .i64 xb, .slice Bb mb db], .int .i64 9]) wxb := (GW_on (d := 20) rfl).1 (HGW 5 _ rfl (by omega))
  have hns : NewSlot (Mut None_ [.ro (RwsIn B1 m1 l1), .cst ga 29 #[.string nu, .slice A1 n1 c1, .int .i64 3, .slice B1 m1 d1], .cst gt 29 #[.string nu, .slice A n c, .int .i64 3, .slice B m d], .ro (ColsIn A n uCols), .ro (RwsIn B m l)]) Hb 29 #[.string ⟨#[]⟩, .slice none 0 0, .int .i64 0, .slice none 0 0] (.pointer (some ⟨gb, 0, none⟩)) wxb := (GW_on (d := 4) rfl).1 (HGW 8 _ rfl (by omega))
  clear HGW
  obtain ⟨g7, hg7, hgH, hgB⟩ := hns
  obtain rfl : gb = g7 := by injection hg7 with hg7; injection hg7 with hg7; injection hg7
  clear hg7
  rw [HHb.out] at hgH
  have HB := Hold.addFreshBlk K5.drew HX _hrm hgH hgB.now
  have hgn := hgB.now
  clear hgB hgH
  obtain ⟨v, hv, TT⟩ := hap
  obtain rfl : _ = v := by injection hv with hv; simpa using hv
  clear hv
  clear K5
  obtain ⟨A2, n2, c2, B2, m2, d2, l2, ev, -, -, -, -, -, -, -, -⟩ := TT
  have ev2 := ev.symm
  simp only [zeroT] at ev2
  injection ev2 with ev2
  simp only [Array.mk.injEq, List.cons.injEq, Value.string.injEq, Value.slice.injEq, Value.int.injEq, and_true, true_and] at ev2
  obtain ⟨rfl, ⟨rfl, rfl, rfl⟩, rfl, rfl, rfl, rfl⟩ := ev2
  clear ev hgn
  have K6 := (((HB.store 0 rfl 0 (.string ⟨#[]⟩)).store 0 rfl 1 (.slice A2 n2 c2)).store 0 rfl 2 (.int .i64 0)).store 0 rfl 3 (.slice B2 m2 d2)
  have FB := HB.facts
  simp only [factsL, cellsF, Nat.reduceAdd, List.toList_toArray, and_true, true_and] at FB
  go_wp2_with fail
  generalize (((wxb.setCell _ _).setCell _ _).setCell _ _).setCell _ _ = w5 at K6 ⊢
  simp only [List.set_cons_zero, List.set_cons_succ, List.setIfInBounds_toArray] at K6
  clear FB HB HX _hrm HHb
  obtain ⟨r1, r2, rfl, e1, e2⟩ : ∃ r1 r2 : Rw, l1 = [r1, r2] ∧ r1.row = (1, vKey 2) ∧ r2.row = (2, vKey 1) := by
    cases l1 with
    | nil => simp [k7Rows] at q8
    | cons r1 l1 => cases l1 with
      | nil => simp [k7Rows] at q8
      | cons r2 l1 => cases l1 with
        | nil => simp [k7Rows] at q8; exact ⟨r1, r2, rfl, q8.1, q8.2⟩
        | cons r3 l1 => simp [k7Rows] at q8
  obtain rfl : 2 = m1 := (K6.ro 1 rfl).now.len
  obtain ⟨b1, o1, rfl, x1, x2⟩ := (K6.ro 1 rfl).rwsAt (k := 0) (x := r1) rfl
  have e3 : r1.vs = vKey 2 := (Prod.mk.inj e1).2
  rw [e3] at x2
  obtain ⟨b2, o2, ha2, x3⟩ := x2.vlsAt (k := 0) (x := vNum 2) rfl
  rw [ha2] at x1
  simp only [Nat.zero_mul, Nat.add_zero] at x1 x3
  have x4 := (K6.ro 1 rfl).imp (fun w h => h.1)
  obtain ⟨n3, hn3⟩ : ∃ n3, n3 = r1.n := ⟨_, rfl⟩
  have hn3p : n3 = 3 := by have := x2.now.len; rw [hn3, ← this]; rfl
  rw [← hn3] at x1
  obtain rfl := hn3p
  clear hn3
  generalize r1.c = c3 at x1
  have K7 := (K6.add x1).add (x3.less (fun b hb => (mut_cons.1 hb).resolve_left (fun h => nomatch h)))
  obtain ⟨KL, hKL, K8⟩ := K7.name
  clear K7
  have HF : Hid (∀ wv, Hold None_ none w wv KL → (wv.cell? ⟨ga, 3, none⟩ = some (.slice (some ⟨b1, o1, none⟩) 2 d1) ∧ ga < wv.heap.size) ∧ (b1 < wv.heap.size ∧ wv.cell? ⟨b1, o1 + 1, none⟩ = some (.slice (some ⟨b2, o2, none⟩) 3 c3)) ∧ b2 < wv.heap.size ∧ wv.cell? ⟨b2, o2, none⟩ = some (.int .i64 1) ∧ wv.cell? ⟨b2, o2 + 1, none⟩ = some (.int .i64 2) ∧ wv.cell? ⟨b2, o2 + 2, none⟩ = some (.string ⟨#[]⟩)) := hid fun wv HC => by
    rw [hKL] at HC
    have y1 := HC.cst_ 4 rfl
    have y2 := (HC.ro 1 rfl).now
    have y3 := (HC.ro 0 rfl).now
    exact ⟨⟨cell_of_row _ _ 3 _ _ _ y1, Blk.lt y1⟩, ⟨y2.1, y2.2.2⟩, y3⟩
  have HKL := hid hKL
  clear hKL x1 x3 x4 K6
  refine wp_region_any (by kernel_rfl) ?_
  refine wpAny_hold 24 51 (KL) (spL [(48, IsV (.agg #[.int .i64 1, .int .i64 2, .string ⟨#[]⟩]))]) (by kernel_rfl) (by kernel_rfl) (by kernel_rfl) rfl ?_ (K8.drew) ?_
  · exact stays_cons isV_mono (stays_nil _)
  simp only [List.take_succ_cons, List.take_zero, List.drop_succ_cons, List.drop_zero, Act.put, List.getElem_toArray, List.getElem_cons_zero, List.getElem_cons_succ, List.setIfInBounds_toArray, List.set_cons_succ, List.set_cons_zero]
  refine dw_val rfl rfl rfl ?_; apply Exists.intro; refine ⟨fun wv HC => ?_, ?_⟩
  · obtain ⟨⟨f0, f1⟩, ⟨f2, f3⟩, f4, f5, f6, f7⟩ := HF.out _ HC; go_simp <;> rfl
  simp only [Act.put, List.setIfInBounds_toArray, List.set_cons_succ, List.set_cons_zero]
  refine dw_val rfl rfl rfl ?_; apply Exists.intro; refine ⟨fun wv HC => ?_, ?_⟩
  · obtain ⟨⟨f0, f1⟩, ⟨f2, f3⟩, f4, f5, f6, f7⟩ := HF.out _ HC; go_simp <;> rfl
  simp only [Act.put, List.setIfInBounds_toArray, List.set_cons_succ, List.set_cons_zero]
  refine dw_val rfl rfl rfl ?_; apply Exists.intro; refine ⟨fun wv HC => ?_, ?_⟩
  · obtain ⟨⟨f0, f1⟩, ⟨f2, f3⟩, f4, f5, f6, f7⟩ := HF.out _ HC; go_simp <;> rfl
  simp only [Act.put, List.setIfInBounds_toArray, List.set_cons_succ, List.set_cons_zero]
  refine dw_val rfl rfl rfl ?_; apply Exists.intro; refine ⟨fun wv HC => ?_, ?_⟩
  · obtain ⟨⟨f0, f1⟩, ⟨f2, f3⟩, f4, f5, f6, f7⟩ := HF.out _ HC; go_simp <;> rfl
  simp only [Act.put, List.setIfInBounds_toArray, List.set_cons_succ, List.set_cons_zero]
  refine dw_val rfl rfl rfl ?_; apply Exists.intro; refine ⟨fun wv HC => ?_, ?_⟩
  · obtain ⟨⟨f0, f1⟩, ⟨f2, f3⟩, f4, f5, f6, f7⟩ := HF.out _ HC; go_simp <;> rfl
  simp only [Act.put, List.setIfInBounds_toArray, List.set_cons_succ, List.set_cons_zero]
  refine dw_val rfl rfl rfl ?_; apply Exists.intro; refine ⟨fun wv HC => ?_, ?_⟩
  · obtain ⟨⟨f0, f1⟩, ⟨f2, f3⟩, f4, f5, f6, f7⟩ := HF.out _ HC; go_simp <;> rfl
  simp only [Act.put, List.setIfInBounds_toArray, List.set_cons_succ, List.set_cons_zero]
  refine dw_val rfl rfl rfl ?_; apply Exists.intro; refine ⟨fun wv HC => ?_, ?_⟩
  · obtain ⟨⟨f0, f1⟩, ⟨f2, f3⟩, f4, f5, f6, f7⟩ := HF.out _ HC; go_simp <;> rfl
  simp only [Act.put, List.setIfInBounds_toArray, List.set_cons_succ, List.set_cons_zero]
  refine dw_val rfl rfl rfl ?_; apply Exists.intro; refine ⟨fun wv HC => ?_, ?_⟩
  · obtain ⟨⟨f0, f1⟩, ⟨f2, f3⟩, f4, f5, f6, f7⟩ := HF.out _ HC; go_simp <;> rfl
  simp only [Act.put, List.setIfInBounds_toArray, List.set_cons_succ, List.set_cons_zero]
  refine dw_val rfl rfl rfl ?_; apply Exists.intro; refine ⟨fun wv HC => ?_, ?_⟩
  · obtain ⟨⟨f0, f1⟩, ⟨f2, f3⟩, f4, f5, f6, f7⟩ := HF.out _ HC; go_simp <;> rfl
  simp only [Act.put, List.setIfInBounds_toArray, List.set_cons_succ, List.set_cons_zero]
  refine dw_val rfl rfl rfl ?_; apply Exists.intro; refine ⟨fun wv HC => ?_, ?_⟩
  · obtain ⟨⟨f0, f1⟩, ⟨f2, f3⟩, f4, f5, f6, f7⟩ := HF.out _ HC; go_simp <;> rfl
  simp only [Act.put, List.setIfInBounds_toArray, List.set_cons_succ, List.set_cons_zero]
  refine dw_val rfl rfl rfl ?_; apply Exists.intro; refine ⟨fun wv HC => ?_, ?_⟩
  · obtain ⟨⟨f0, f1⟩, ⟨f2, f3⟩, f4, f5, f6, f7⟩ := HF.out _ HC; go_simp <;> rfl
  simp only [Act.put, List.setIfInBounds_toArray, List.set_cons_succ, List.set_cons_zero]
  refine dw_val rfl rfl rfl ?_; apply Exists.intro; refine ⟨fun wv HC => ?_, ?_⟩
  · obtain ⟨⟨f0, f1⟩, ⟨f2, f3⟩, f4, f5, f6, f7⟩ := HF.out _ HC; go_simp <;> rfl
  simp only [Act.put, List.setIfInBounds_toArray, List.set_cons_succ, List.set_cons_zero]
  refine dw_val rfl rfl rfl ?_; apply Exists.intro; refine ⟨fun wv HC => ?_, ?_⟩
  · obtain ⟨⟨f0, f1⟩, ⟨f2, f3⟩, f4, f5, f6, f7⟩ := HF.out _ HC; go_simp <;> rfl
  simp only [Act.put, List.setIfInBounds_toArray, List.set_cons_succ, List.set_cons_zero]
  refine dw_val rfl rfl rfl ?_; apply Exists.intro; refine ⟨fun wv HC => ?_, ?_⟩
  · obtain ⟨⟨f0, f1⟩, ⟨f2, f3⟩, f4, f5, f6, f7⟩ := HF.out _ HC; go_simp <;> rfl
  simp only [Act.put, List.setIfInBounds_toArray, List.set_cons_succ, List.set_cons_zero]
  refine dw_val rfl rfl rfl ?_; apply Exists.intro; refine ⟨fun wv HC => ?_, ?_⟩
  · obtain ⟨⟨f0, f1⟩, ⟨f2, f3⟩, f4, f5, f6, f7⟩ := HF.out _ HC; go_simp <;> rfl
  simp only [Act.put, List.setIfInBounds_toArray, List.set_cons_succ, List.set_cons_zero]
  refine dw_val rfl rfl rfl ?_; apply Exists.intro; refine ⟨fun wv HC => ?_, ?_⟩
  · obtain ⟨⟨f0, f1⟩, ⟨f2, f3⟩, f4, f5, f6, f7⟩ := HF.out _ HC; go_simp <;> rfl
  simp only [Act.put, List.setIfInBounds_toArray, List.set_cons_succ, List.set_cons_zero]
  refine dw_val rfl rfl rfl ?_; apply Exists.intro; refine ⟨fun wv HC => ?_, ?_⟩
  · obtain ⟨⟨f0, f1⟩, ⟨f2, f3⟩, f4, f5, f6, f7⟩ := HF.out _ HC; go_simp <;> rfl
  simp only [Act.put, List.setIfInBounds_toArray, List.set_cons_succ, List.set_cons_zero]
  refine dw_val rfl rfl rfl ?_; apply Exists.intro; refine ⟨fun wv HC => ?_, ?_⟩
  · obtain ⟨⟨f0, f1⟩, ⟨f2, f3⟩, f4, f5, f6, f7⟩ := HF.out _ HC; go_simp <;> rfl
  simp only [Act.put, List.setIfInBounds_toArray, List.set_cons_succ, List.set_cons_zero]
  refine dw_val rfl rfl rfl ?_; apply Exists.intro; refine ⟨fun wv HC => ?_, ?_⟩
  · obtain ⟨⟨f0, f1⟩, ⟨f2, f3⟩, f4, f5, f6, f7⟩ := HF.out _ HC; go_simp <;> rfl
  simp only [Act.put, List.setIfInBounds_toArray, List.set_cons_succ, List.set_cons_zero]
  refine dw_val rfl rfl rfl ?_; apply Exists.intro; refine ⟨fun wv HC => ?_, ?_⟩
  · obtain ⟨⟨f0, f1⟩, ⟨f2, f3⟩, f4, f5, f6, f7⟩ := HF.out _ HC; go_simp <;> rfl
  simp only [Act.put, List.setIfInBounds_toArray, List.set_cons_succ, List.set_cons_zero]
  refine dw_callR 48 (IsV (.agg #[.int .i64 1, .int .i64 2, .string ⟨#[]⟩])) (f := 18) (args := #[.int .i64 2]) rfl rfl rfl rfl (fun wv => ?_) (fun wv HC hrm hD => ?_) ?_
  · go_simp <;> rfl
  · refine (num_any 2 wv).mono ?_
    rintro e w6 ⟨rfl, b6⟩
    exact ⟨_, rfl, rfl, HC.call b6, RM.below b6⟩
  rintro u wx HCx hu
  obtain rfl : u = _ := hu
  clear HCx
  simp only [Act.put, List.setIfInBounds_toArray, List.set_cons_succ, List.set_cons_zero]
  refine dw_val rfl rfl rfl ?_; apply Exists.intro; refine ⟨fun wv HC => ?_, ?_⟩
  ·  go_simp <;> rfl
  simp only [Act.put, List.setIfInBounds_toArray, List.set_cons_succ, List.set_cons_zero]
  refine dw_val rfl rfl rfl ?_; apply Exists.intro; refine ⟨fun wv HC => ?_, ?_⟩
  ·  go_simp <;> rfl
  simp only [Act.put, List.setIfInBounds_toArray, List.set_cons_succ, List.set_cons_zero]
  refine dw_val rfl rfl rfl ?_; apply Exists.intro; refine ⟨fun wv HC => ?_, ?_⟩
  ·  go_simp <;> rfl
  simp only [Act.put, List.setIfInBounds_toArray, List.set_cons_succ, List.set_cons_zero]
  refine rel_nil ?_
  rintro wx9 HX9
  rintro _hrm _HG
  go_wp2_with fail
  go_ret
  exact ⟨by first | rfl | simp, HX9.below⟩
end Go.Proofs.Ytphofeeaphkciaa

namespace Go.Proofs.Ytphofeeaphkciaa
open Go.ChangeShapes Go.WideShapes Go.ChangeAt Go.RowKit
set_option linter.unusedVariables false
set_option linter.unusedSimpArgs false

theorem Try.elSl : ElemT Try.prog 43 32 1 24 (.slice none 0 0) := ⟨Try.underlying43, by kernel_rfl, rfl, by omega⟩
set_option maxHeartbeats 4000000 in
set_option maxRecDepth 100000 in
theorem keysLimit_walk (n0 : Int) (w : World) (hI : I64 n0) :
    Calls Try.prog 5 #[.int .i64 n0] w fun e w' => e = .returned (.bool true) ∧ Below w.heap.size w w' := by
  have HS := hid small_u
  have K0 := Hold.begin_ w
  have HI64 := hid hI
  clear hI
  go_enter Try.func5, Try.ntmps5
  go_wp2_with fail
  refine (schema_log _ _ K0.mutLt).mono ?_
  rintro e w1 ⟨A, n, c, rfl, h1, h2, r1, b1⟩
  obtain ⟨nu, hnu⟩ : ∃ nu, nu = nmLog := ⟨_, rfl⟩
  rw [← hnu]
  have HNU := hid hnu
  clear hnu
  have K1 := ((((K0.call b1).add r1).alloc #[.string nu, .slice A n c, .int .i64 101, .slice none 0 0] 29).add (show Ro _ _ (ValsIn []) from fun _ _ _ r hr => nomatch hr)).nil 34 2
  clear K0 r1 b1
  obtain ⟨g, hg⟩ : ∃ g, g = w1.heap.size := ⟨_, rfl⟩
  rw [← hg] at K1
  go_wp2_with fail
  rw [← hg]
  clear hg
  go_loopw [4] (fun iv wr => ∃ (k cap : Nat) (B : Option Addr) (rs : List Rw), k ≤ 100 ∧ iv = .int .i64 ((k : Int) + 1) ∧ k ≤ cap ∧ cap ≤ 9223372036854775807 ∧ Hid (rs.map Rw.row = rowsL k ∧ ∀ r ∈ rs, r.ok) ∧ Hold None_ none w wr [.own 34 2 (.slice B k cap) k (rwCells rs), .ro (ValsIn rs), .blk g 29 #[.string nu, .slice A n c, .int .i64 101, .slice B k cap], .ro (ColsIn A n logCols)]) (fun iv _ => 101 - (intOf iv).toNat)
  case atStart => exact ⟨0, 0, none, [], by omega, rfl, by omega, by omega, hid ⟨rfl, fun r hr => nomatch hr⟩, K1⟩
  case round =>
    clear K1
    obtain ⟨k, cap, B, rs, hk, rfl, hc1, hc2, HR, H⟩ := hrel
    by_cases hlt : k < 100
    · have hd : decide ((k : Int) + 1 ≤ 100) = true := by simp; omega
      have K2 := H.alloc_cst #[.int .i64 0, .int .i64 0, .string ⟨#[]⟩, .int .i64 0, .int .i64 0, .string ⟨#[]⟩] 31
      have F1 := H.facts
      simp only [World.size_alloc, World.size_drew, factsL, cellsF, Nat.reduceAdd, List.toList_toArray, List.set_cons_zero, List.set_cons_succ, List.setIfInBounds_toArray, and_true, true_and] at F1
      have q1 : Ro _ _ (VlsIn (some ⟨wr.heap.size, 0, none⟩) 2 [vNil, vNil]) := ro_block (t := 31) (cs := #[.int .i64 0, .int .i64 0, .string ⟨#[]⟩, .int .i64 0, .int .i64 0, .string ⟨#[]⟩]) (n := 2) (size := 3) (K2.get 0 rfl) rfl
      have q2 := rows_snocL (K2.ro 2 rfl) (r := ⟨(k : Int) + 1, some ⟨wr.heap.size, 0, none⟩, 2, 2, [vNil, vNil]⟩) q1
      have K3 := (K2.swapRo 2 rfl q2).drop (List.sublist_cons_self _ _)
      have HR2 := hid (show (rs ++ [(⟨(k : Int) + 1, some ⟨wr.heap.size, 0, none⟩, 2, 2, [vNil, vNil]⟩ : Rw)]).map Rw.row = rowsL (k + 1) ∧ ∀ r ∈ rs ++ [(⟨(k : Int) + 1, some ⟨wr.heap.size, 0, none⟩, 2, 2, [vNil, vNil]⟩ : Rw)], r.ok from ⟨by
        rw [List.map_append, HR.out.1, rowsL_succ]; rfl, fun r hr => by
        rcases List.mem_append.1 hr with hr | hr
        · exact HR.out.2 r hr
        · simp at hr; subst hr
          exact ⟨show I64 ((k : Int) + 1) by unfold I64; omega, by simp, by simp, vNil_ok3⟩⟩)
      clear q1 q2 K2
      simp only [List.set_cons_zero, List.set_cons_succ, List.drop_succ_cons, List.drop_zero] at K3
      generalize hrs : rs ++ [(⟨(k : Int) + 1, some ⟨wr.heap.size, 0, none⟩, 2, 2, [vNil, vNil]⟩ : Rw)] = rs2 at *
      have e1 : rwCells rs ++ (#[Value.int .i64 ((k : Int) + 1), .slice (some ⟨wr.heap.size, 0, none⟩) 2 2]).toList = rwCells rs2 := by rw [← hrs]; simp [rwCells, Rw.cells]
      clear hrs
      go_wp2_with (at_builtin; go_must (refine wpList_appH K3 0 rfl Try.elRw #[.int .i64 ((k : Int) + 1), .slice (some ⟨wr.heap.size, 0, none⟩) 2 2] rfl (.tmp 19) (.tmp 25) rfl rfl (wr.heap.size + 1) (by simp) rfl rfl (by intro u hu; simp at hu; rcases hu with rfl | rfl <;> rfl) (by omega) (by omega) ?_); intro g6 cap6 w6 hc6 hm6 K6; rw [e1] at K6; simp only [List.set_cons_zero] at K6; have F6 := K6.facts; simp only [World.size_alloc, World.size_drew, factsL, cellsF, Nat.reduceAdd, List.toList_toArray, List.set_cons_zero, List.set_cons_succ, List.setIfInBounds_toArray, and_true, true_and] at F6)
      have K7 := K6.store 2 rfl 3 (.slice (some ⟨g6, 0, none⟩) (k + 1) cap6)
      go_roundw
      case rel => exact ⟨k + 1, cap6, some ⟨g6, 0, none⟩, rs2, by omega, by go_num, by omega, by omega, HR2, K7⟩
      case measure => simp [intOf]; omega
    · obtain rfl : k = 100 := by omega
      have hd : decide (((100 : Nat) : Int) + 1 ≤ 100) = false := by decide
      have KS := H.sealRow 0 rfl
      simp only [List.set_cons_zero] at KS
      clear H
      have hRW : Ro _ _ (RwsIn B 100 rs) := (KS.ro 0 rfl).and (KS.ro 1 rfl)
      have K2 := ((KS.add hRW).drop (List.Sublist.cons_cons _ (List.Sublist.cons _ (List.Sublist.cons _ (List.Sublist.refl _))))).fix_ 1 rfl
      simp only [List.set_cons_zero, List.set_cons_succ] at K2
      clear KS hRW
      go_wp2_with fail
      refine (wmod_any n0 5 _ HI64.out (by omega) (by omega)).mono ?_
      rintro e w5 ⟨rfl, rfl⟩
      have m0 : 0 ≤ n0 % 5 := Int.emod_nonneg _ (by omega)
      have m1 : n0 % 5 < 5 := Int.emod_lt_of_pos _ (by omega)
      obtain ⟨r, hr⟩ := Int.eq_ofNat_of_zero_le m0
      rw [hr]
      have hr5 : r < 5 := by omega
      clear m0 m1 hr
      have K3 := ((K2.alloc #[.slice none 0 0, .slice none 0 0, .slice none 0 0] 46).add (show Ro _ _ (SlVals []) from fun _ _ _ r hr => nomatch hr)).nil 32 1
      obtain ⟨gc, hgc⟩ : ∃ gc, gc = wr.heap.size := ⟨_, rfl⟩
      rw [← hgc] at K3
      clear K2
      go_wp2_with fail
      rw [← hgc]
      clear hgc
      go_loopw [6] (fun iv wq => ∃ (k cq : Nat) (O : Option Addr) (outs : List Sl), k ≤ r ∧ iv = .int .i64 (k : Int) ∧ k ≤ cq ∧ cq ≤ 9223372036854775807 ∧ Hid (outs.map Sl.vs = List.replicate k [vNil, vNil] ∧ ∀ s ∈ outs, s.ok) ∧ Hold None_ none w wq [.own 32 1 (.slice O k cq) k (slCells outs), .ro (SlVals outs), .blk gc 46 #[.slice O k cq, .slice none 0 0, .slice none 0 0], .ro (RwsIn B 100 rs), .cst g 29 #[.string nu, .slice A n c, .int .i64 101, .slice B 100 cap], .ro (ColsIn A n logCols)]) (fun iv _ => r - (intOf iv).toNat)
      case atStart => exact ⟨0, 0, none, [], by omega, rfl, by omega, by omega, hid ⟨rfl, fun r hr => nomatch hr⟩, K3⟩
      case round =>
        clear K3
        obtain ⟨k, cq, O, outs, hk, rfl, hq1, hq2, HO, H⟩ := hrel
        clear hlt hd
        by_cases hlt : k < r
        · have hd : decide ((k : Int) < (r : Int)) = true := by simp; omega
          have K4 := H.alloc_cst #[.int .i64 0, .int .i64 0, .string ⟨#[]⟩, .int .i64 0, .int .i64 0, .string ⟨#[]⟩] 31
          have F1 := H.facts
          simp only [World.size_alloc, World.size_drew, factsL, cellsF, Nat.reduceAdd, List.toList_toArray, List.set_cons_zero, List.set_cons_succ, List.setIfInBounds_toArray, and_true, true_and] at F1
          have q1 : Ro _ _ (VlsIn (some ⟨wr.heap.size, 0, none⟩) 2 [vNil, vNil]) := ro_block (t := 31) (cs := #[.int .i64 0, .int .i64 0, .string ⟨#[]⟩, .int .i64 0, .int .i64 0, .string ⟨#[]⟩]) (n := 2) (size := 3) (K4.get 0 rfl) rfl
          have q2 := sls_snoc (K4.ro 2 rfl) (r := ⟨some ⟨wr.heap.size, 0, none⟩, 2, 2, [vNil, vNil]⟩) q1
          have K5 := (K4.swapRo 2 rfl q2).drop (List.sublist_cons_self _ _)
          have HO2 := hid (show (outs ++ [(⟨some ⟨wr.heap.size, 0, none⟩, 2, 2, [vNil, vNil]⟩ : Sl)]).map Sl.vs = List.replicate (k + 1) [vNil, vNil] ∧ ∀ s ∈ outs ++ [(⟨some ⟨wr.heap.size, 0, none⟩, 2, 2, [vNil, vNil]⟩ : Sl)], s.ok from ⟨by
            rw [List.map_append, HO.out.1, List.replicate_succ']; rfl, fun s hs => by
            rcases List.mem_append.1 hs with hs | hs
            · exact HO.out.2 s hs
            · simp at hs; subst hs
              exact ⟨by simp, by simp, vNil_ok3⟩⟩)
          clear q1 q2 K4
          simp only [List.set_cons_zero, List.set_cons_succ, List.drop_succ_cons, List.drop_zero] at K5
          generalize hrs : outs ++ [(⟨some ⟨wr.heap.size, 0, none⟩, 2, 2, [vNil, vNil]⟩ : Sl)] = outs2 at *
          have e1 : slCells outs ++ (#[Value.slice (some ⟨wr.heap.size, 0, none⟩) 2 2]).toList = slCells outs2 := by rw [← hrs]; simp [slCells, Sl.cells]
          clear hrs
          go_wp2_with (at_builtin; go_must (refine wpList_appH K5 0 rfl Try.elSl #[.slice (some ⟨wr.heap.size, 0, none⟩) 2 2] rfl (.tmp 36) (.tmp 40) rfl rfl (wr.heap.size + 1) (by simp) rfl rfl (by intro u hu; simp at hu; rcases hu with rfl; rfl) (by omega) (by omega) ?_); intro g6 cap6 w6 hc6 hm6 K6; rw [e1] at K6; simp only [List.set_cons_zero] at K6; have F6 := K6.facts; simp only [World.size_alloc, World.size_drew, factsL, cellsF, Nat.reduceAdd, List.toList_toArray, List.set_cons_zero, List.set_cons_succ, List.setIfInBounds_toArray, and_true, true_and] at F6)
          have K7 := K6.store 2 rfl 0 (.slice (some ⟨g6, 0, none⟩) (k + 1) cap6)
          go_roundw
          case rel => exact ⟨k + 1, cap6, some ⟨g6, 0, none⟩, outs2, by omega, by go_num, by omega, by omega, HO2, K7⟩
          case measure => simp [intOf]; omega
        · obtain rfl : k = r := by omega
          have hd : decide ((k : Int) < (k : Int)) = false := by simp
          clear hlt
          have KS := H.sealRow 0 rfl
          simp only [List.set_cons_zero] at KS
          clear H
          have hSL : Ro _ _ (SlsIn O k outs) := (KS.ro 0 rfl).and (KS.ro 1 rfl)
          have K4 := (KS.add hSL).drop (List.Sublist.cons_cons _ (List.Sublist.cons _ (List.Sublist.cons _ (List.Sublist.refl _))))
          clear KS hSL
          have F4 := K4.facts
          simp only [World.size_alloc, World.size_drew, factsL, cellsF, Nat.reduceAdd, List.toList_toArray, List.set_cons_zero, List.set_cons_succ, List.setIfInBounds_toArray, and_true, true_and] at F4
          go_wp2_with fail
          have hT : TbAt _ _ (.agg #[.string nu, .slice A n c, .int .i64 101, .slice B 100 cap]) ⟨nu, logCols, 101, rowsL 100⟩ := ⟨A, n, c, B, 100, cap, rs, rfl, h1, by omega, hc1, hc2, K4.ro 4 rfl, K4.ro 2 rfl, HR.out.2, HR.out.1⟩
          have hC : ChgSlot _ (List.replicate k [vNil, vNil]) [] [] (.agg #[.slice O k cq, .slice none 0 0, .slice none 0 0]) _ := chgSlot_of ⟨O, k, cq, outs, rfl, hq1, hq2, HO.out.1, HO.out.2, K4.ro 0 rfl⟩ (isSlot_nil _) (prsSlot_nil _)
          have hA := kapply_slot _ _ K4.mutLt _ _ ⟨nu, logCols, 101, rowsL 100⟩ (List.replicate k [vNil, vNil]) [] [] hT hC (by show nu.size ≤ maxLen; rw [HNU.out]; exact HS.out.2.2.1) HS.out.2.2.2 (by simp [rowsL]) (by simp; omega) (by simp) (by simp)
          clear hT hC
          obtain ⟨E1, hE1⟩ : ∃ E1 : Int × Tb, E1 = applyC nu logCols 101 (rowsL 100) (List.replicate k [vNil, vNil]) [] [] := ⟨_, rfl⟩
          rw [← hE1] at hA
          have HE1 := hid (show E1.1 = if k = 0 then 0 else 10 by rw [hE1, HNU.out]; exact lim_a k hr5)
          clear hE1
          obtain ⟨e1, nm1, cs1, nx1, rs1⟩ := E1
          refine hA.mono ?_
          clear hA
          rintro e w7 ⟨u, rfl, ⟨v, rfl, A7, n7, c7, B7, m7, d7, l7, rfl, -, -, -, -, -, -, -, -⟩, b7⟩
          have K5 := ((K4.call b7).alloc_cst #[.string nm1, .slice A7 n7 c7, .int .i64 nx1, .slice B7 m7 d7] 29).nil 3 1
          clear K4 b7 F4
          go_wp2_with fail
          obtain ⟨g7, hg7⟩ : ∃ g7, g7 = w7.heap.size := ⟨_, rfl⟩
          rw [← hg7] at K5 ⊢
          clear hg7
          go_loopw [9] (fun iv wq => ∃ (j cq2 : Nat) (D : Option Addr), j ≤ k ∧ iv = .int .i64 (j : Int) ∧ j ≤ cq2 ∧ cq2 ≤ 9223372036854775807 ∧ Hold None_ none w wq [.own 3 1 (.slice D j cq2) j (iCells (delsF j)), .cst g7 29 #[.string nm1, .slice A7 n7 c7, .int .i64 nx1, .slice B7 m7 d7], .ro (SlsIn O k outs), .blk gc 46 #[.slice O k cq, .slice D j cq2, .slice none 0 0], .ro (RwsIn B 100 rs), .cst g 29 #[.string nu, .slice A n c, .int .i64 101, .slice B 100 cap], .ro (ColsIn A n logCols)]) (fun iv _ => k - (intOf iv).toNat)
          case atStart => exact ⟨0, 0, none, by omega, rfl, by omega, by omega, K5⟩
          case round =>
            clear K5
            obtain ⟨j, cq2, D, hj, rfl, hj1, hj2, H⟩ := hrel
            clear hd
            by_cases hlt : j < k
            · have hd : decide ((j : Int) < (k : Int)) = true := by simp; omega
              have F1 := H.facts
              simp only [World.size_alloc, World.size_drew, factsL, cellsF, Nat.reduceAdd, List.toList_toArray, List.set_cons_zero, List.set_cons_succ, List.setIfInBounds_toArray, and_true, true_and] at F1
              have e1 : iCells (delsF j) ++ (#[Value.int .i64 (10 + (j : Int))]).toList = iCells (delsF (j + 1)) := by rw [delsF_succ]; simp [iCells]
              go_wp2_with (at_builtin; go_must (refine wpList_appH H 0 rfl Try.elIntK #[.int .i64 (10 + (j : Int))] rfl (.tmp 55) (.tmp 58) rfl rfl wr.heap.size rfl rfl rfl (by intro u hu; simp at hu; rcases hu with rfl; rfl) (by omega) (by omega) ?_); intro g6 cap6 w6 hc6 hm6 K6; rw [e1] at K6; simp only [List.set_cons_zero] at K6; have F6 := K6.facts; simp only [World.size_alloc, World.size_drew, factsL, cellsF, Nat.reduceAdd, List.toList_toArray, List.set_cons_zero, List.set_cons_succ, List.setIfInBounds_toArray, and_true, true_and] at F6)
              have K7 := K6.store 3 rfl 1 (.slice (some ⟨g6, 0, none⟩) (j + 1) cap6)
              go_roundw
              case rel => exact ⟨j + 1, cap6, some ⟨g6, 0, none⟩, by omega, by go_num, by omega, by omega, K7⟩
              case measure => simp [intOf]; omega
            · obtain rfl : j = k := by omega
              have hd : decide ((j : Int) < (j : Int)) = false := by simp
              clear hlt
              have K4 := H.sealRow 0 rfl
              simp only [List.set_cons_zero] at K4
              clear H
              have F4 := K4.facts
              simp only [World.size_alloc, World.size_drew, factsL, cellsF, Nat.reduceAdd, List.toList_toArray, List.set_cons_zero, List.set_cons_succ, List.setIfInBounds_toArray, and_true, true_and] at F4
              go_wp2_with fail
              have hT : TbAt _ _ (.agg #[.string nu, .slice A n c, .int .i64 101, .slice B 100 cap]) ⟨nu, logCols, 101, rowsL 100⟩ := ⟨A, n, c, B, 100, cap, rs, rfl, h1, by omega, hc1, hc2, K4.ro 6 rfl, K4.ro 4 rfl, HR.out.2, HR.out.1⟩
              have hC : ChgSlot _ (List.replicate j [vNil, vNil]) (delsF j) [] (.agg #[.slice O j cq, .slice D j cq2, .slice none 0 0]) _ := chgSlot_of ⟨O, j, cq, outs, rfl, hq1, hq2, HO.out.1, HO.out.2, K4.ro 2 rfl⟩ ⟨D, j, cq2, rfl, hj1, hj2, K4.ro 0 rfl⟩ (prsSlot_nil _)
              have hA := kapply_slot _ _ K4.mutLt _ _ ⟨nu, logCols, 101, rowsL 100⟩ (List.replicate j [vNil, vNil]) (delsF j) [] hT hC (by show nu.size ≤ maxLen; rw [HNU.out]; exact HS.out.2.2.1) HS.out.2.2.2 (by simp [rowsL]) (by simp; omega) (by simp [delsF]; omega) (by simp)
              clear hT hC
              obtain ⟨E2, hE2⟩ : ∃ E2 : Int × Tb, E2 = applyC nu logCols 101 (rowsL 100) (List.replicate j [vNil, vNil]) (delsF j) [] := ⟨_, rfl⟩
              rw [← hE2] at hA
              have HE2 := hid (show E2.1 = 0 ∧ E2.2.rs.length = 100 by rw [hE2, HNU.out]; exact lim_b j hr5)
              clear hE2
              obtain ⟨e2, nm2, cs2, nx2, rs2⟩ := E2
              refine hA.mono ?_
              clear hA
              rintro e w8 ⟨u, rfl, ⟨v, rfl, A8, n8, c8, B8, m8, d8, l8, rfl, -, -, -, -, -, q8, -, q9⟩, b8⟩
              obtain rfl : e2 = 0 := HE2.out.1
              obtain rfl : 100 = m8 := by
                have h8 := congrArg List.length q9
                have h9 := q8.now.len
                have h10 : rs2.length = 100 := HE2.out.2
                simp only [List.length_map] at h8
                omega
              clear q8 q9
              have K5 := ((K4.call b8).alloc_cst #[.string nm2, .slice A8 n8 c8, .int .i64 nx2, .slice B8 100 d8] 29)
              clear K4 b8 F4
              have F5 := K5.facts
              simp only [World.size_alloc, World.size_drew, factsL, cellsF, Nat.reduceAdd, List.toList_toArray, List.set_cons_zero, List.set_cons_succ, List.setIfInBounds_toArray, and_true, true_and] at F5
              rcases Nat.eq_zero_or_pos j with hj0 | hj0
              · have e1z : e1 = 0 := by have h := HE1.out; rw [if_pos hj0] at h; exact h
                subst e1z
                subst hj0
                go_wp2_with fail
                refine (known7 _).mono ?_
                rintro e w10 ⟨rfl, b10⟩
                have K10 := K5.call b10
                go_wp2_with fail
                go_ret
                exact ⟨by first | rfl | simp, K10.below⟩
              · have e1z : e1 = 10 := by have h := HE1.out; rw [if_neg (by omega)] at h; exact h
                subst e1z
                have z1 : ((j : Int) == 0) = false := by rw [beq_eq_false_iff_ne]; omega
                have z2 : decide ((j : Int) > 0) = true := by simp; omega
                have z3 : decide (0 < (j : Int)) = true := by simp; omega
                go_wp2_with fail
                refine (known7 _).mono ?_
                rintro e w10 ⟨rfl, b10⟩
                have K10 := K5.call b10
                go_wp2_with fail
                go_ret
                exact ⟨by first | rfl | simp, K10.below⟩
set_option maxRecDepth 100000 in
theorem keysLimit_lifted (os : Os) (started : os.Started) (H : Type) (enc : TypeId × Value → H) :
    ReturnsInHanded {} Try.checked os 5 .any (Rows.keysLimitSpec.pre6 enc Try.prog Try.f5 Rows.keysLimitRow.domain false) (Rows.keysLimitSpec.post enc Try.prog Try.f5 false true false false) := by
  refine returnsInHanded_of_change_sized (C := Try.checked) own started (by kernel_rfl) Try.func5
    (ChangeSpec.witness6 (enc := enc) (C := Try.checked) false ⟨#[], #[.int .i64 0], []⟩ 8 (by kernel_rfl) (by kernel_rfl) (by kernel_rfl) (by kernel_rfl)) ?_
  intro W base args ds gs before hval0 hW _ hsz0 _
  have hsz : (DataW.weightsEach Try.prog (Try.f5.params.toList ++ Rows.keysLimitSpec.plain.varTypes Try.prog) (ds ++ gs)).all (· ≤ reachBytes) = true := hsz0
  have hval : ∀ (j : Nat) t v, Try.f5.params[j]? = some t → args[j]? = some v → Value.okWide Try.prog W .any base t v := hval0
  have hW' := hW
  obtain ⟨p, q, hA0, hV, rfl, hfz, hnd⟩ := hW
  have hA : DataW.TrodAll enc Try.prog W 0 (fun _ => true) true Try.f5.params.toList args.toList ds p := hA0
  rw [Try.params5] at hA hval hsz
  obtain ⟨v0, vs0, d0, ds0, p0, q0, hargs, rfl, rfl, h0, r0⟩ := trodAll_cons hA
  obtain ⟨rfl, rfl, rfl⟩ := trodAll_nil r0
  obtain rfl : args = #[v0] := by cases args; simp_all
  obtain ⟨rfl, rfl⟩ := trodVars_none hV
  obtain ⟨a0, rfl, rfl, rfl, w0⟩ := open_int Try.underlying3 (hval 0 3 v0 rfl rfl) h0
  refine (keysLimit_walk _ W (i64_of_wf w0)).mono fun e W' ⟨he, hb⟩ => ?_
  exact ⟨_, he, law_post rfl laidOut (by kernel_rfl) (by kernel_rfl) Try.underlying4 rfl hW' hb⟩

theorem keysLimit_holds : Rows.KeysLimitSaid :=
  OpenClaim.holds_of_wide 5 Try.f5 rfl rfl rfl rfl rfl rfl rfl ⟨rfl, rfl, rfl, rfl, rfl⟩ rfl rfl rfl rfl rfl (by kernel_rfl) Try.func5 (by kernel_rfl)
    (of_decide_eq_true (by kernel_rfl)) (by unfold Func.isWrapper; first | (rw [if_pos (by decide +kernel)]; kernel_rfl) | (rw [if_neg (by decide +kernel)]; exact ⟨rfl, rfl⟩))
    (fun os started H enc _ => keysLimit_lifted os started H enc)
#print axioms keysLimit_holds
end Go.Proofs.Ytphofeeaphkciaa

/- law2.alike answers true where the program's logic and the reference's give the same. -/
import Derived.WalkKit
import Derived.ProofKit
import Derived.OpenShut
import Derived.Below
import Derived.ChangeSame
import Derived.Laws.OwnMore
import Derived.Deep.AppendLies
import Derived.Deep.Draws
import Derived.Deep.QuietTactic
import Derived.IntWalk
import Derived.RowKit
import Derived.Test.YtmopojjhlbjhnaaDoorRows
import Derived.SizedLaws
import Derived.Lib.LaidTab
import Derived.Test.YtmopojjhlbjhnaaDoorProg
import Derived.WalkSpells
import Derived.BigQuiet
import Derived.WalkLawsBesides
import Derived.Deep.RegionHeld3
import Derived.Deep.DeepHandedRow
import Derived.Deep.Slices
import Derived.Deep.Fields
import Derived.Lib.SmallJoins
import Derived.Shelf.Small.Strs
import Derived.Ground.NamesProg
namespace Go.Proofs.YtmopojjhlbjhnaaDoor
open Go.ChangeShapes Go.WideShapes Go.ChangeAt Go.RowKit
set_option linter.unusedVariables false
section
variable {H : Type} {enc : TypeId × Value → H} {P : Program}

theorem post_of_below {f : Func} {s : ChangeSpec} {apart fresh handsOn again : Bool} {W W' : World} {args : Array Value} {v : Value} {ds gs : List (DataW H)} {before pa pv : List MemPlace}
    (hW : DataW.Whole enc P f.params.toList s.vars apart W args.toList ds gs before)
    (hres : ∀ (b : Nat) (sp : Nat → Bool) (hd : Bool), DataW.TrodAll enc P W' b sp hd f.resultTypes.toList (v.resultList f.resultTypes.size) (s.fn H (ds ++ gs)).results [])
    (hargs : ∀ sp : Nat → Bool, (∀ p ∈ before, sp p.block = true) → DataW.TrodAll enc P W' 0 sp true f.params.toList args.toList (s.fn H (ds ++ gs)).args pa)
    (hvars : ∀ sp : Nat → Bool, (∀ p ∈ before, sp p.block = true) → DataW.TrodVars enc P W' sp s.vars (s.fn H (ds ++ gs)).vars pv)
    (hps : before = pa ++ pv) (hb : Below W.heap.size W W')
    (hok : ∀ (j : Nat) (t : TypeId) (r : Value), f.resultTypes[j]? = some t → (v.resultList f.resultTypes.size)[j]? = some r → Value.okWide P W' .any 0 t r) :
    s.post enc P f apart fresh handsOn again W args v W' := by
  have hlt : ∀ p ∈ before, p.block < W.heap.size := fun p hp => hW.lt p hp
  have hold : ∀ p ∈ before, (fun b => decide (b < W.heap.size)) p.block = true := fun p hp => by simpa using hlt p hp
  refine ⟨ds, gs, before, [], pa, pv, hW, hres _ _ _, hargs _ hold, hvars _ hold, World.keptBut_mono (fun p hp => ⟨hp, ?_⟩) (hb.frame (· ∈ before)), fun _ => ?_⟩
  · rw [hps, List.mem_append] at hp
    exact Or.inr hp
  · obtain ⟨_, _, _, _, _, hz, hn⟩ := hW
    refine ⟨hok, _, _, ([] ++ pa) ++ pv, ⟨[] ++ pa, pv, trodAll_append (hargs _ (fun _ _ => rfl)) (hres _ _ _), hvars _ (fun _ _ => rfl), rfl, ?_, ?_⟩, ?_⟩
    · intro b off hp
      have hin : MemPlace.cell b off ∈ before := by rw [hps]; simpa using hp
      rw [hb.frozen (hlt _ hin)]
      exact hz b off hin
    · intro ha
      have := hn ha
      rw [hps] at this
      simpa using this
    · intro p hp _
      rw [hps]
      simpa using hp

/-- All the arguments read as they did. -/
theorem trodAll_stays (hl : laidOutB P = true) {W W' : World} {sp : Nat → Bool} : ∀ {ts : List TypeId} {vs : List Value} {ds : List (DataW H)} {ps : List MemPlace},
    ts.all (fun t => P.readableRec t && decide (t < P.types.size)) = true → DataW.TrodAll enc P W 0 (fun _ => true) true ts vs ds ps → (∀ p ∈ ps, W.sameAt W' p) → (∀ p ∈ ps, sp p.block = true) → DataW.TrodAll enc P W' 0 sp true ts vs ds ps
  | [], vs, ds, ps, _, h, _, _ => by
    obtain ⟨rfl, rfl, rfl⟩ := trodAll_nil h; rfl
  | t :: ts, vs, ds, ps, hr, h, hs, hp => by
    obtain ⟨v, vs1, d, ds1, a, b, rfl, rfl, rfl, h1, h2⟩ := trodAll_cons h
    simp only [List.all_cons, Bool.and_eq_true, decide_eq_true_eq] at hr
    exact ⟨a, b, WideElems.Trod_stays hl hr.1.1 hr.1.2 h1 (fun x hx => hs x (by simp [hx])) (fun x hx => hp x (by simp [hx])),
      trodAll_stays hl (by simpa using hr.2) h2 (fun x hx => hs x (by simp [hx])) (fun x hx => hp x (by simp [hx])), rfl⟩

theorem law_post {f : Func} {s : ChangeSpec} {apart fresh handsOn again : Bool} {W W' : World} {args : Array Value} {ds gs : List (DataW H)} {before : List MemPlace} {tb : TypeId}
    (hvs : s.vars = []) (hl : laidOutB P = true) (hrd : f.params.toList.all (fun t => P.readableRec t && decide (t < P.types.size)) = true)
    (htb : f.resultTypes = #[tb]) (hub : P.underlying tb = some .bool) (hfn : s.fn H (ds ++ gs) = { results := [.lit (.bool true)], args := ds })
    (hW : DataW.Whole enc P f.params.toList s.vars apart W args.toList ds gs before) (hb : Below W.heap.size W W') :
    s.post enc P f apart fresh handsOn again W args (.bool true) W' := by
  have hW' := hW
  obtain ⟨p, q, hA, hV, rfl, hfz, hnd⟩ := hW
  rw [hvs] at hV
  obtain ⟨rfl, rfl⟩ := trodVars_none hV
  have hlt : ∀ x ∈ p ++ [], x.block < W.heap.size := fun x hx => hW'.lt x hx
  refine post_of_below (pa := p) (pv := []) hW' ?_ ?_ ?_ rfl hb ?_
  · intro b sp hd
    rw [hfn, htb]
    exact trodAll_mk1 (shut_bool hub _)
  · intro sp hsp
    rw [hfn]
    exact trodAll_stays hl hrd hA (fun x hx => hb.same (hlt x (by simpa using hx))) (fun x hx => hsp x (by simpa using hx))
  · intro sp hsp
    rw [hfn, hvs]
    rfl
  · exact ok_one htb rfl (okWide_bool_mk hub _)
end
end Go.Proofs.YtmopojjhlbjhnaaDoor

namespace Go.Proofs.YtmopojjhlbjhnaaDoor
open Go.RowKit
set_option linter.unusedVariables false

theorem hid {p : Prop} (h : p) : Hid p := h
def I64 (x : Int) : Prop := -9223372036854775808 ≤ x ∧ x ≤ 9223372036854775807
def Ints (zs : List Int) : Prop := ∀ x ∈ zs, I64 x
theorem Ints.at_ {zs : List Int} (h : Ints zs) (k : Nat) : I64 (zs.getD k 0) := by
  by_cases hk : k < zs.length
  · simp only [List.getD, List.getElem?_eq_getElem hk, Option.getD_some]; exact h _ (List.getElem_mem hk)
  · simp [List.getD, List.getElem?_eq_none (Nat.le_of_not_lt hk), I64]
theorem ints_get (k : IntKind) (zs : List Int) (j : Nat) (hj : j < zs.length) : (zs.map (Value.int k)).getD j undef = .int k (zs.getD j 0) := by
  simp [List.getD, hj]
/-- The slice with address A, n elements of 'size' cells each, reads as the cells xs, all of them in blocks below B. -/
def Rd (w : World) (B size : Nat) (A : Option Addr) (n : Nat) (xs : List Value) : Prop :=
  xs.length = n * size ∧ (0 < n → ∃ b o, A = some ⟨b, o, none⟩ ∧ b < B ∧ ∀ j u, xs[j]? = some u → w.cell? ⟨b, o + j, none⟩ = some u)

section
variable {w w' : World} {B B' size n : Nat} {A : Option Addr} {xs : List Value}
theorem Rd.none_ : Rd w B size A 0 [] := ⟨by simp, fun h => absurd h (by omega)⟩
theorem Rd.keep (h : Rd w B size A n xs) (hk : ∀ p : Addr, p.block < B → w'.cell? p = w.cell? p) : Rd w' B size A n xs :=
  ⟨h.1, fun hn => by
    obtain ⟨b, o, e, hb, hc⟩ := h.2 hn
    exact ⟨b, o, e, hb, fun j u hu => (hk _ hb).trans (hc j u hu)⟩⟩
theorem Rd.more (h : Rd w B size A n xs) (hB : B ≤ B') : Rd w B' size A n xs :=
  ⟨h.1, fun hn => by
    obtain ⟨b, o, e, hb, hc⟩ := h.2 hn
    exact ⟨b, o, e, by omega, hc⟩⟩
theorem Rd.below (h : Rd w B size A n xs) (hb : Below B' w w') (hB : B ≤ B') : Rd w' B size A n xs := h.keep fun _ hp => hb.cell (by omega)
theorem Rd.grown (h : Rd w B size A n xs) {row : Option Nat} (hg : w.grownBy w' row) (hB : B ≤ w.heap.size) (hr : ∀ g, row = some g → B ≤ g) : Rd w' B size A n xs :=
  h.keep fun p hp => World.cell?_of_block (hg.block p.block (by omega) (fun e => by have := hr _ e.symm; omega))
theorem Rd.alloc (h : Rd w B size A n xs) (hB : B ≤ w.heap.size) (o : Obj) : Rd (w.alloc o) B size A n xs := h.keep fun p hp => World.cell?_alloc_lt w o p (by omega)
theorem Rd.drew (h : Rd w B size A n xs) : Rd w.drew B size A n xs := h
theorem Rd.drewN (h : Rd w B size A n xs) (k : Nat) : Rd (w.drewN k) B size A n xs := h
theorem Rd.setCell (h : Rd w B size A n xs) {p : Addr} (hB : B ≤ p.block) (u : Value) : Rd (w.setCell p u) B size A n xs :=
  h.keep fun q hq => World.cell?_setCell_other w p q u (fun e => by subst e; omega)
/-- One-cell elements: the k-th. -/
theorem Rd.at1 (h : Rd w B 1 A n xs) {k : Nat} (hk : k < n) : ∃ b o, A = some ⟨b, o, none⟩ ∧ b < B ∧ w.cell? ⟨b, o + k, none⟩ = some (xs.getD k undef) := by
  obtain ⟨b, o, e, hb, hc⟩ := h.2 (by omega)
  have hl : k < xs.length := by have := h.1; omega
  exact ⟨b, o, e, hb, hc k _ (by simp [List.getD, hl])⟩
theorem Rd.take_ (h : Rd w B size A n xs) {k : Nat} (hk : k ≤ n) : Rd w B size A k (xs.take (k * size)) := by
  refine ⟨by rw [List.length_take, h.1]; exact Nat.min_eq_left (Nat.mul_le_mul_right _ hk), fun hn => ?_⟩
  obtain ⟨b, o, e, hb, hc⟩ := h.2 (by omega)
  exact ⟨b, o, e, hb, fun j u hu => hc j u (by
    have := (List.getElem?_eq_some_iff.1 hu).1
    rw [List.getElem?_take_of_lt (by simp at this; omega)] at hu; exact hu)⟩
end

/-- A block that has just been laid reads as its cells. -/
theorem Rd.lit (w : World) (cs : Array Value) (E : TypeId) {size n : Nat} {xs : List Value} (h : cs.toList = xs) (hn : xs.length = n * size) : Rd (w.alloc (.cells cs E)) (w.heap.size + 1) size (some ⟨w.heap.size, 0, none⟩) n xs := by
  subst h
  refine ⟨hn, fun _ => ⟨_, _, rfl, by omega, fun j u hu => ?_⟩⟩
  have := cell_of_row (w.alloc (.cells cs E)) w.heap.size j cs E (0, 0) (heap_alloc_new w _)
  rw [Nat.zero_add, this]
  simpa using hu

theorem only_drewN {a w : World} {row : Option Nat} (h : a.grownBy w row) (n : Nat) : a.grownBy (w.drewN n) row := ⟨h.os, h.tape, h.output, h.size, h.block⟩
theorem only_drew {a w : World} {row : Option Nat} (h : a.grownBy w row) : a.grownBy w.drew row := ⟨h.os, h.tape, h.output, h.size, h.block⟩
theorem only_alloc {a w : World} {row : Option Nat} (h : a.grownBy w row) (o : Obj) : a.grownBy (w.alloc o) row :=
  ⟨h.os, h.tape, h.output, Nat.le_trans h.size (by simp), fun i hi hne => (Below.heap_alloc w o i (Nat.lt_of_lt_of_le hi h.size)).trans (h.block i hi hne)⟩
theorem only_setCell {a w : World} {g : Nat} (h : a.grownBy w (some g)) {p : Addr} (hp : p.block = g ∨ a.heap.size ≤ p.block) (u : Value) : a.grownBy (w.setCell p u) (some g) :=
  ⟨h.os, h.tape, h.output, by simpa [World.setCell] using h.size, fun i hi hne => (Below.heap_setCell w p u i (by
    rintro rfl
    rcases hp with hp | hp
    · exact hne (by rw [hp])
    · omega)).trans (h.block i hi hne)⟩
theorem only_of_below {a w : World} (h : Below a.heap.size a w) (row : Option Nat) : a.grownBy w row := ⟨h.os, h.tape, h.output, h.size, fun i hi _ => h.block i hi⟩
theorem only_trans {a b c : World} {row : Option Nat} (h : a.grownBy b row) (k : b.grownBy c row) : a.grownBy c row :=
  ⟨k.os.trans h.os, k.tape.trans h.tape, k.output.trans h.output, Nat.le_trans h.size k.size, fun i hi hn => (k.block i (Nat.lt_of_lt_of_le hi h.size) hn).trans (h.block i hi hn)⟩
theorem only_below {a b c : World} {row : Option Nat} (h : a.grownBy b row) (k : Below b.heap.size b c) : a.grownBy c row := only_trans h (only_of_below k row)

theorem frozen_blk {w : World} {g : Nat} {t : TypeId} {cs : Array Value} (h : w.heap[g]? = some (.cells cs t (0, 0))) (i : Nat) : w.frozen? ⟨g, i, none⟩ = false := by simp [World.frozen?, h]
theorem blk_set {w : World} {g : Nat} {t : TypeId} {cs : Array Value} {fr : Nat × Nat} (h : w.heap[g]? = some (.cells cs t fr)) (i : Nat) (u : Value) : (w.setCell ⟨g, i, none⟩ u).heap[g]? = some (.cells (cs.setIfInBounds i u) t fr) := by
  simp [World.setCell, Array.getElem?_modify, h]

theorem quiet_add_left {P : Program} {f : FuncId} {args : Array Value} {w : World} {a n : Nat} {v : Value}
    (h : Calls P f args (w.drewN (a + n)) fun e w' => e = .returned v ∧ w.drewN (a + n) = w') : Calls P f args (w.drewN (a + n)) fun e w'' => e = .returned v ∧ ∃ m, w'' = w.drewN (a + m) :=
  h.mono fun _ _ ⟨he, hm⟩ => ⟨he, n, hm.symm⟩
theorem quiet_left {P : Program} {f : FuncId} {args : Array Value} {w : World} {n : Nat} {v : Value}
    (h : Calls P f args (w.drewN n) fun e w' => e = .returned v ∧ w.drewN n = w') : Calls P f args (w.drewN n) fun e w'' => e = .returned v ∧ ∃ m, w'' = w.drewN m :=
  h.mono fun _ _ ⟨he, hm⟩ => ⟨he, n, hm.symm⟩

theorem below_cells {W w1 : World} {B : Nat} (hb : Below B W w1) : (∀ b o, b < B → w1.cell? ⟨b, o, none⟩ = W.cell? ⟨b, o, none⟩) ∧ (∀ b o, b < B → w1.frozen? ⟨b, o, none⟩ = W.frozen? ⟨b, o, none⟩) :=
  ⟨fun b o h => hb.cell (p := ⟨b, o, none⟩) h, fun b o h => hb.frozen (p := ⟨b, o, none⟩) h⟩
theorem bnext {w w1 w2 : World} {B : Nat} (h : Below B w w1) (k : Below w1.heap.size w1 w2) (hB : B ≤ w.heap.size) : Below B w w2 := h.trans (k.mono (Nat.le_trans hB h.size))
end Go.Proofs.YtmopojjhlbjhnaaDoor

namespace Go.Proofs.YtmopojjhlbjhnaaDoor
open Go.RowKit
set_option linter.unusedVariables false

end Go.Proofs.YtmopojjhlbjhnaaDoor

namespace Go.Proofs.YtmopojjhlbjhnaaDoor
open Go.ChangeShapes Go.WideShapes Go.ChangeAt Go.RowKit
set_option linter.unusedVariables false

theorem own : ownKnob Tryd.prog.godebug = none := by kernel_rfl
theorem laidOut : laidOutB Tryd.prog = true := by kernel_rfl
end Go.Proofs.YtmopojjhlbjhnaaDoor

namespace Go.Proofs.YtmopojjhlbjhnaaDoor
open Go.ChangeShapes Go.WideShapes Go.ChangeAt Go.RowKit
set_option linter.unusedVariables false
section
variable {H : Type} {enc : TypeId × Value → H} {P : Program}
theorem i64_wf {x : Int} (h : (Lit.int .i64 x).wf = true) : I64 x := by
  simp [Lit.wf, IntKind.min, IntKind.max, IntKind.signed, IntKind.bits] at h
  exact ⟨by omega, by omega⟩

theorem open_i64s {t e : TypeId} {W : World} {r : Reach} {b0 : Nat} {v : Value} {d : DataW H} {p : List MemPlace} (ht : P.underlying t = some (.slice e)) (he : P.underlying e = some (.int .i64)) (hc : P.cellsOf e = 1)
    (hok : Value.okWide P W r b0 t v) (h : DataW.Trod enc P W 0 (fun _ => true) true t v d p) :
    ∃ A n c zs, v = .slice A n c ∧ Rd W W.heap.size 1 A n (zs.map (Value.int .i64)) ∧ Ints zs ∧ n ≤ c ∧ c ≤ maxLen ∧ ((d = .nil ∧ n = 0) ∨ ∃ el sp, d = .slice el sp ∧ el.length + sp.length = c) := by
  obtain ⟨A, n, c, rfl⟩ := okWide_slice ht hok
  obtain ⟨fuel, hf⟩ := h
  rcases open_ints ht he hc (by simpa [Value.cells] using hf) with ⟨hcs, hx⟩ | ⟨a, len, cap, zs, hcs, _, hl, hm, hz, hx, hcell, hwz⟩
  · simp at hcs; obtain ⟨rfl, rfl, rfl⟩ := hcs
    simp only [Prod.mk.injEq] at hx
    exact ⟨none, 0, 0, [], rfl, Rd.none_, fun _ h => (nomatch h), Nat.le_refl _, Nat.zero_le _, .inl ⟨hx.1, rfl⟩⟩
  · simp at hcs; obtain ⟨rfl, rfl, rfl⟩ := hcs
    simp only [if_true] at hz
    simp only [Prod.mk.injEq] at hx
    refine ⟨some a, n, c, zs.take n, rfl, ⟨by simp [hz]; omega, fun hn => ?_⟩, fun x hx => i64_wf (hwz x (List.mem_of_mem_take hx)), hl, hm, .inr ⟨_, _, hx.1, by simp [lits, hz]; omega⟩⟩
    obtain ⟨b, off, rfl, hcc⟩ := ints_at hcell (by omega)
    refine ⟨b, off, rfl, World.block_lt_of_cell? W ⟨b, off + 0, none⟩ (hcc 0 (by omega)), fun j u hu => ?_⟩
    have hj : j < n := by have := (List.getElem?_eq_some_iff.1 hu).1; simp [hz] at this; omega
    rw [hcc j (by omega)]
    rw [← hu]
    simp [List.getElem?_take_of_lt hj, List.getD, show j < zs.length by omega]

end
end Go.Proofs.YtmopojjhlbjhnaaDoor

namespace Go.Proofs.YtmopojjhlbjhnaaDoor
open Go.ChangeShapes Go.WideShapes Go.ChangeAt Go.RowKit
set_option linter.unusedVariables false

theorem strs_of_head {P : Program} {W : World} {name : String} {bs : List (List UInt8)} {rest : List (String × DataW Unit)} {g : Nat} {t e : TypeId} {n : Nat}
    (hg : P.globalNamed name = some g) (hty : (P.globals[g]?).map (·.type) = some t) (ht : P.underlying t = some (.array n e)) (he : P.underlying e = some .string) (hce : P.cellsOf e = 1)
    (h : laidMet P ((name, .agg (bs.map fun b => .lit (.string b))) :: rest) W) : ∀ i, i < n → ∃ s : ByteArray, W.cell? ⟨g, i, none⟩ = some (.string s) ∧ bs[i]? = some s.data.toList ∧ s.size ≤ maxLen := by
  obtain ⟨ps, ⟨g', t', cs, fuel, p, q, hg', ht', hvar, hd, _, _⟩, _⟩ := h
  obtain rfl := Option.some.inj (hg.symm.trans hg')
  obtain rfl := Option.some.inj (hty.symm.trans ht')
  obtain ⟨xs, m, _, hx, hlen, hxl, hel⟩ := DataW.trod_array ht hd
  intro i hi
  have h1 := hel i hi
  rw [hce, Nat.mul_one] at h1
  have hxi : xs[i]? = some (xs[i]'(by omega)) := List.getElem?_eq_getElem (by omega)
  rw [hxi] at h1
  obtain ⟨s, hs, hv, hm⟩ := DataW.trod_string he h1
  refine ⟨s, ?_, ?_, hm⟩
  · have hc := World.var?_cell hg hvar i
    rw [hc]
    have : (cs.toList.drop i).take 1 = [.string s] := hs
    have h2 : cs.toList[i]? = some (.string s) := by
      have h3 : ((cs.toList.drop i).take 1)[0]? = some (.string s) := by rw [this]; rfl
      simpa using h3
    simpa using h2
  · have h4 : (xs.map (·.1))[i]? = some (xs[i]'(by omega)).1 := by simp [hxi]
    simp only [Prod.mk.injEq] at hx
    have h5 : (bs.map fun b => (DataW.lit (.string b) : DataW Unit)) = xs.map (·.1) := by
      have := hx.1; injection this
    rw [← h5, hv] at h4
    simp only [List.getElem?_map, Option.map_eq_some_iff] at h4
    obtain ⟨b, hb, hb2⟩ := h4
    injection hb2 with hb3
    injection hb3 with hb4
    rw [hb, hb4]
end Go.Proofs.YtmopojjhlbjhnaaDoor

namespace Go.Proofs.YtmopojjhlbjhnaaDoor
open Go.RowKit
set_option linter.unusedVariables false

/-- Block T is a tape: a list of numbers that lies in older blocks, and a place in it. -/
def Tp (w : World) (T : Nat) : Prop :=
  ∃ (A : Option Addr) (n c p : Nat) (zs : List Int), w.heap[T]? = some (.cells #[.slice A n c, .int .i64 p] 92 (0, 0)) ∧ p ≤ n ∧ n ≤ 500 ∧ Rd w T 1 A n (zs.map (Value.int .i64)) ∧ Ints zs

theorem Tp.lt {w : World} {T : Nat} (h : Tp w T) : T < w.heap.size := by
  obtain ⟨A, n, c, p, zs, h, _⟩ := h
  rcases Nat.lt_or_ge T w.heap.size with hlt | hge
  · exact hlt
  · rw [Array.getElem?_eq_none hge] at h; cases h
theorem Tp.keep {w w' : World} {T : Nat} (h : Tp w T) (hk : ∀ k, k ≤ T → w'.heap[k]? = w.heap[k]?) : Tp w' T := by
  obtain ⟨A, n, c, p, zs, h1, h2, h3, h4, h5⟩ := h
  exact ⟨A, n, c, p, zs, (hk T (Nat.le_refl _)).trans h1, h2, h3, h4.keep fun q hq => World.cell?_of_block (w := w) (hk q.block (by omega)), h5⟩
theorem Tp.below {w w' : World} {T B : Nat} (h : Tp w T) (hb : Below B w w') (hT : T < B) : Tp w' T := h.keep fun k hk => hb.block k (by omega)
theorem Tp.grown {w w' : World} {T : Nat} {row : Option Nat} (h : Tp w T) (hg : w.grownBy w' row) (hr : ∀ g, row = some g → T < g) : Tp w' T :=
  h.keep fun k hk => hg.block k (by have := h.lt; omega) (fun e => by have := hr k e.symm; omega)
theorem Tp.alloc {w : World} {T : Nat} (h : Tp w T) (o : Obj) : Tp (w.alloc o) T := h.keep fun k hk => Below.heap_alloc w o k (by have := h.lt; omega)
theorem Tp.drew {w : World} {T : Nat} (h : Tp w T) : Tp w.drew T := h
theorem Tp.drewN {w : World} {T : Nat} (h : Tp w T) (n : Nat) : Tp (w.drewN n) T := h
theorem Tp.setCell {w : World} {T : Nat} (h : Tp w T) {p : Addr} (hp : T < p.block) (u : Value) : Tp (w.setCell p u) T := h.keep fun k hk => Below.heap_setCell w p u k (by omega)

theorem mod_eq (v n : Int) (h : 0 < n) : (if v.tmod n < 0 then v.tmod n + n else v.tmod n) = v % n := by
  have h1 : -n < v.tmod n := Int.lt_tmod_of_pos v h
  have h2 : v.tmod n < n := Int.tmod_lt_of_pos v h
  have h3 : v = n * (v.tdiv n) + v.tmod n := (Int.mul_tdiv_add_tmod v n).symm
  split
  · rename_i hlt
    have : v = (v.tmod n + n) + n * (v.tdiv n - 1) := by rw [Int.mul_sub, Int.mul_one]; omega
    conv => rhs; rw [this]
    rw [Int.add_mul_emod_self_left, Int.emod_eq_of_lt (by omega) (by omega)]
  · conv => rhs; rw [h3]
    rw [Int.add_comm, Int.add_mul_emod_self_left, Int.emod_eq_of_lt (by omega) (by omega)]

theorem ret_i64 {a b : Int} (h : a = b) : Ending.returned (.int .i64 a) = .returned (.int .i64 b) := by rw [h]

set_option maxHeartbeats 400000 in
theorem wmod_any (v n : Int) (w : World) (hv : I64 v) (h0 : 0 < n) (h1 : n ≤ 9223372036854775807) :
    Calls Tryd.prog 65 #[.int .i64 v, .int .i64 n] w fun e w' => e = .returned (.int .i64 (v % n)) ∧ w = w' := by
  have hm := mod_eq v n h0
  have b1 : -n < v.tmod n := Int.lt_tmod_of_pos v h0
  have b2 : v.tmod n < n := Int.tmod_lt_of_pos v h0
  have hn : (n == 0) = false := by simp; omega
  obtain ⟨t, ht, ht'⟩ : ∃ t, IntKind.i64.wrap (v.tmod n) = t ∧ v.tmod n = t := ⟨_, IntWalk.i64_in _ (by omega), rfl⟩
  rw [ht'] at hm b1 b2
  obtain ⟨hv0, hv1⟩ := hv
  by_cases hlt : t < 0
  · have HM : Hid (t + n = v % n) := by rw [if_pos hlt] at hm; exact hm
    clear hm
    go_enter Tryd.func65, Tryd.ntmps65
    go_wp2
    go_ret
    exact ⟨ret_i64 HM.out, rfl⟩
  · have HM : Hid (t = v % n) := by rw [if_neg hlt] at hm; exact hm
    clear hm
    go_enter Tryd.func65, Tryd.ntmps65
    go_wp2
    go_ret
    exact ⟨ret_i64 HM.out, rfl⟩

/-- What a draw from the tape leaves: a number from 0 to n - 1; the tape's block alone has turned. -/
def Drawn (w : World) (T : Nat) (n : Int) (e : Ending) (w' : World) : Prop :=
  ∃ r : Int, e = .returned (.int .i64 r) ∧ 0 ≤ r ∧ r < n ∧ Tp w' T ∧ w.grownBy w' (some T)

set_option maxHeartbeats 1000000 in
theorem next_any (T : Nat) (n : Int) (w : World) (ht : Tp w T) (h0 : 0 < n) (h1 : n ≤ 9223372036854775807) :
    Calls Tryd.prog 24 #[.pointer (some ⟨T, 0, none⟩), .int .i64 n] w fun e w' => Drawn w T n e w' := by
  obtain ⟨A, m, c, p, zs, hb, hp, hm, hr, hz⟩ := ht
  have hc0 : w.cell? ⟨T, 0, none⟩ = some (.slice A m c) := cell_of_row w T 0 _ _ _ hb
  have hc1 : w.cell? ⟨T, 1, none⟩ = some (.int .i64 p) := cell_of_row w T 1 _ _ _ hb
  have hf : w.frozen? ⟨T, 1, none⟩ = false := by simp [World.frozen?, hb]
  have hl : zs.length = m := by simpa using hr.1
  have HL := hid hl; clear hl
  have HB := hid hb; clear hb
  by_cases hlt : p < m
  · obtain ⟨b, o, rfl, hbT, hc⟩ := hr.at1 hlt
    rw [ints_get _ _ _ (by rw [HL.out]; omega)] at hc
    have bz := hz.at_ p
    have HZ := hid bz; clear bz
    go_enter Tryd.func24, Tryd.ntmps24
    go_wp2_with fail
    go_quiet (fail)
    go_wp2_with fail
    go_quiet ((go_at_call 65; first | exact quiet_left (wmod_any _ _ _ HZ.out h0 h1) | exact quiet_add_left (wmod_any _ _ _ HZ.out h0 h1)))
    go_wp2_with fail
    go_ret
    refine ⟨zs.getD p 0 % n, by simp [List.getD], Int.emod_nonneg _ (by omega), Int.emod_lt_of_pos _ h0, Tp.drewN ⟨_, m, c, p + 1, zs, blk_set (g := T) (w := World.drewN _ _) HB.out 1 _, by omega, hm, Rd.setCell (Rd.drewN hr _) (Nat.le_refl _) _, hz⟩ _, ?_⟩
    exact only_drewN (only_setCell (only_drewN (World.grownBy.refl _ _) _) (.inl rfl) _) _
  · go_enter Tryd.func24, Tryd.ntmps24
    go_wp2_with fail
    go_quiet (fail)
    go_wp2_with fail
    go_ret
    exact ⟨0, rfl, by omega, h0, Tp.drewN ⟨A, m, c, p, zs, HB.out, hp, hm, hr, hz⟩ _, only_drewN (World.grownBy.refl _ _) _⟩

/-- '1<<n' of the draws: one in n. -/
def Drawn64 (w : World) (T : Nat) (e : Ending) (w' : World) : Prop :=
  ∃ r : Int, e = .returned (.int .i64 r) ∧ I64 r ∧ Tp w' T ∧ w.grownBy w' (some T)

set_option maxHeartbeats 1000000 in
theorem number_any (T : Nat) (w : World) (ht : Tp w T) :
    Calls Tryd.prog 38 #[.pointer (some ⟨T, 0, none⟩)] w fun e w' => Drawn64 w T e w' := by
  go_enter Tryd.func38, Tryd.ntmps38
  go_wp2_with fail
  refine (next_any T 8 _ ht (by omega) (by omega)).mono ?_
  rintro e w1 ⟨r, rfl, r0, r1, t1, g1⟩
  have hcase : r = 0 ∨ r = 1 ∨ r = 2 ∨ ((r == 0) = false ∧ (r == 1) = false ∧ (r == 2) = false) := by
    simp only [beq_eq_false_iff_ne]; omega
  rcases hcase with rfl | rfl | rfl | ⟨k0, k1, k2⟩
  · go_wp2_with fail
    refine (next_any T 3 _ t1 (by omega) (by omega)).mono ?_
    rintro e w2 ⟨s, rfl, s0, s1, t2, g2⟩
    go_wp2
    go_ret
    exact ⟨9223372036854775807 - s, rfl, by unfold I64; omega, t2, only_trans g1 g2⟩
  · go_wp2_with fail
    refine (next_any T 3 _ t1 (by omega) (by omega)).mono ?_
    rintro e w2 ⟨s, rfl, s0, s1, t2, g2⟩
    go_wp2
    go_ret
    exact ⟨-9223372036854775808 + s, rfl, by unfold I64; omega, t2, only_trans g1 g2⟩
  · go_wp2_with fail
    refine (next_any T 9 _ t1 (by omega) (by omega)).mono ?_
    rintro e w2 ⟨s, rfl, s0, s1, t2, g2⟩
    go_wp2
    go_ret
    exact ⟨-s, rfl, by unfold I64; omega, t2, only_trans g1 g2⟩
  · go_wp2_with fail
    refine (next_any T 9 _ t1 (by omega) (by omega)).mono ?_
    rintro e w2 ⟨s, rfl, s0, s1, t2, g2⟩
    go_wp2
    go_ret
    exact ⟨s, rfl, by unfold I64; omega, t2, only_trans g1 g2⟩

/-- What New leaves: a pointer to a new tape. -/
def NewTape (w : World) (e : Ending) (w' : World) : Prop :=
  ∃ T, e = .returned (.pointer (some ⟨T, 0, none⟩)) ∧ w.heap.size ≤ T ∧ Tp w' T ∧ Below w.heap.size w w'

set_option maxHeartbeats 1000000 in
theorem new_any (A : Option Addr) (n c : Nat) (zs : List Int) (w : World) (hr : Rd w w.heap.size 1 A n (zs.map (Value.int .i64))) (hz : Ints zs) (hn : n ≤ c) (hc : c ≤ 9223372036854775807) :
    Calls Tryd.prog 13 #[.slice A n c] w fun e w' => NewTape w e w' := by
  by_cases hlt : 500 < n
  · go_enter Tryd.func13, Tryd.ntmps13
    go_wp2
    go_ret
    refine ⟨w.heap.size, rfl, Nat.le_refl _, ⟨A, 500, c, 0, zs.take 500, heap_alloc_new w _, by omega, by omega, ?_, fun x hx => hz x (List.mem_of_mem_take hx)⟩, (Below.refl _ _).alloc (Nat.le_refl _) _⟩
    have := (hr.take_ (k := 500) (by omega)).alloc (Nat.le_refl _) (.cells #[.slice A 500 c, .int .i64 0] 92)
    simpa [List.map_take] using this
  · go_enter Tryd.func13, Tryd.ntmps13
    go_wp2
    go_ret
    exact ⟨w.heap.size, rfl, Nat.le_refl _, ⟨A, n, c, 0, zs, heap_alloc_new w _, by omega, by omega, hr.alloc (Nat.le_refl _) _, hz⟩, (Below.refl _ _).alloc (Nat.le_refl _) _⟩
end Go.Proofs.YtmopojjhlbjhnaaDoor

namespace Go.Proofs.YtmopojjhlbjhnaaDoor
open Go.RowKit
set_option linter.unusedVariables false
set_option linter.unusedSimpArgs false

end Go.Proofs.YtmopojjhlbjhnaaDoor

namespace Go.Proofs.YtmopojjhlbjhnaaDoor
open Go.RowKit
set_option linter.unusedVariables false

/-- A value of the store: its kind, its number, its text. -/
structure Vl where
  k : Int
  i : Int
  s : ByteArray
deriving DecidableEq

def okByte (c : UInt8) : Bool := decide (32 ≤ c.toNat ∧ c.toNat ≤ 126)
def plainB (s : ByteArray) : Bool := s.data.toList.all okByte && decide (s.size ≤ 64)

set_option maxHeartbeats 1000000 in
theorem plain_any (s : ByteArray) (w : World) (hs : s.size ≤ maxLen) :
    Calls Tryd.prog 153 #[.string s] w fun e w' => e = .returned (.bool (plainB s)) ∧ w = w' := by
  unfold maxLen at hs
  go_enter Tryd.func153, Tryd.ntmps153
  go_wp2_with fail
  go_loop [6] (fun i => ∃ k : Nat, k ≤ s.size ∧ i = .int .i64 k ∧ (s.data.toList.take k).all okByte = true) (fun i => s.size - (intOf i).toNat)
  case atStart => exact ⟨0, by omega, rfl, rfl⟩
  case round =>
    obtain ⟨k, hk, rfl, hall⟩ := hrel
    have HA := hid hall; clear hall
    by_cases hlt : k < s.size
    · have hts : Hid (s.data.toList.take (k + 1) = s.data.toList.take k ++ [s[k]]) := by
        unfold Hid; rw [List.take_succ_eq_append_getElem (by simpa using hlt)]; rfl
      by_cases hb : 32 ≤ s[k].toNat ∧ s[k].toNat ≤ 126
      · have b1 : (32 : Int) ≤ (s[k].toNat : Int) := by omega
        have b2 : (s[k].toNat : Int) ≤ 126 := by omega
        have HB := hid hb; clear hb
        go_wp2_with fail
        go_round
        case rel => exact ⟨k + 1, by omega, by go_num, by rw [hts.out, List.all_append, HA.out]; simp [okByte, HB.out]⟩
        case measure => simp [intOf]; omega
      · have hno : Hid (plainB s = false) := by
          unfold Hid plainB
          have : s.data.toList.all okByte = false := by
            rw [List.all_eq_false]
            exact ⟨s[k], List.mem_of_getElem (i := k) (h := by simpa using hlt) rfl, by simp [okByte]; omega⟩
          rw [this]; rfl
        by_cases h32 : (s[k].toNat : Int) < 32
        · clear hb
          go_wp2
          go_ret
          exact ⟨by rw [hno.out]; rfl, rfl⟩
        · have h126 : (126 : Int) < (s[k].toNat : Int) := by omega
          clear hb
          go_wp2
          go_ret
          exact ⟨by rw [hno.out]; rfl, rfl⟩
    · obtain rfl : k = s.size := by omega
      have hyes : Hid (plainB s = decide (s.size ≤ 64)) := by
        unfold Hid plainB
        have h := HA.out
        rw [List.take_of_length_le (by simp)] at h
        rw [h]; rfl
      go_wp2
      go_ret
      exact ⟨by rw [hyes.out]; congr 2; simp; omega, rfl⟩

/-- Which values are valid. -/
def validB (k i : Int) (s : ByteArray) : Bool :=
  if k = 0 then i == 0 && s.toList.isEmpty else if k = 1 then s.toList.isEmpty else if k = 2 then (i == 0 || i == 1) && s.toList.isEmpty else if k = 3 then i == 0 && plainB s else false

set_option maxHeartbeats 1000000 in
theorem valid_any (k i : Int) (s : ByteArray) (w : World) (hs : s.size ≤ maxLen) :
    Calls Tryd.prog 121 #[.agg #[.int .i64 k, .int .i64 i, .string s]] w fun e w' => e = .returned (.bool (validB k i s)) ∧ w.alloc (.cells #[.int .i64 k, .int .i64 i, .string s] 57) = w' := by
  by_cases h0 : k = 0
  · subst h0
    cases hi : (i == 0) <;> cases he : s.toList.isEmpty
    all_goals
      go_enter Tryd.func121, Tryd.ntmps121
      go_wp2_with fail
      go_ret
      refine ⟨?_, rfl⟩
      simp [validB, hi, he]
  by_cases h1 : k = 1
  · subst h1
    go_enter Tryd.func121, Tryd.ntmps121
    go_wp2_with fail
    go_ret
    refine ⟨?_, rfl⟩
    simp [validB]
  by_cases h2 : k = 2
  · subst h2
    cases hi : (i == 0) <;> cases hj : (i == 1)
    all_goals
      go_enter Tryd.func121, Tryd.ntmps121
      go_wp2_with fail
      go_ret
      refine ⟨?_, rfl⟩
      simp [validB, hi, hj]
  by_cases h3 : k = 3
  · subst h3
    cases hi : (i == 0)
    · go_enter Tryd.func121, Tryd.ntmps121
      go_wp2_with fail
      go_ret
      refine ⟨?_, rfl⟩
      simp [validB, hi]
    · go_enter Tryd.func121, Tryd.ntmps121
      go_wp2_with fail
      refine (plain_any s _ hs).mono ?_
      rintro e w1 ⟨rfl, rfl⟩
      go_wp2_with fail
      go_ret
      refine ⟨?_, rfl⟩
      simp [validB, hi]
  · have k0 : (k == 0) = false := by simpa using h0
    have k1 : (k == 1) = false := by simpa using h1
    have k2 : (k == 2) = false := by simpa using h2
    have k3 : (k == 3) = false := by simpa using h3
    go_enter Tryd.func121, Tryd.ntmps121
    go_wp2_with fail
    go_ret
    refine ⟨?_, rfl⟩
    simp [validB, h0, h1, h2, h3]
end Go.Proofs.YtmopojjhlbjhnaaDoor

namespace Go.Proofs.YtmopojjhlbjhnaaDoor
open Go.RowKit
set_option linter.unusedVariables false

def Blk (w : World) (g : Nat) (t : TypeId) (cs : Array Value) : Prop := w.heap[g]? = some (.cells cs t (0, 0))

section
variable {w w' w1 : World} {g : Nat} {t : TypeId} {cs : Array Value}
theorem Blk.lt (h : Blk w g t cs) : g < w.heap.size := by
  rcases Nat.lt_or_ge g w.heap.size with hlt | hge
  · exact hlt
  · unfold Blk at h; rw [Array.getElem?_eq_none hge] at h; cases h
theorem Blk.cell (h : Blk w g t cs) (i : Nat) : w.cell? ⟨g, i, none⟩ = cs[i]? := cell_of_row w g i cs t (0, 0) h
theorem Blk.frozen (h : Blk w g t cs) (i : Nat) : w.frozen? ⟨g, i, none⟩ = false := frozen_blk h i
theorem Blk.new (w : World) (t : TypeId) (cs : Array Value) : Blk (w.alloc (.cells cs t)) w.heap.size t cs := heap_alloc_new w _
theorem Blk.alloc (h : Blk w g t cs) (o : Obj) : Blk (w.alloc o) g t cs := (Below.heap_alloc w o g h.lt).trans h
theorem Blk.below {B : Nat} (h : Blk w g t cs) (hb : Below B w w') (hg : g < B) : Blk w' g t cs := (hb.block g hg).trans h
theorem Blk.over (h : Blk w g t cs) (hb : Below w.heap.size w w') : Blk w' g t cs := h.below hb h.lt
theorem Blk.set_ (h : Blk w g t cs) (i : Nat) (u : Value) : Blk (w.setCell ⟨g, i, none⟩ u) g t (cs.setIfInBounds i u) := blk_set h i u
theorem Blk.far (h : Blk w g t cs) {p : Addr} (hp : g ≠ p.block) (u : Value) : Blk (w.setCell p u) g t cs := (Below.heap_setCell w p u g hp).trans h
theorem Blk.drew (h : Blk w g t cs) : Blk w.drew g t cs := h
theorem Blk.drewN (h : Blk w g t cs) (n : Nat) : Blk (w.drewN n) g t cs := h
theorem Blk.grown {row : Option Nat} (h : Blk w g t cs) (hb : w.grownBy w' row) (hg : some g ≠ row) : Blk w' g t cs := (hb.block g h.lt hg).trans h
/-- three cells -/
theorem Blk.c3 {x y z : Value} (h : Blk w g t #[x, y, z]) : w.cell? ⟨g, 0, none⟩ = some x ∧ w.cell? ⟨g, 1, none⟩ = some y ∧ w.cell? ⟨g, 2, none⟩ = some z ∧ g < w.heap.size := ⟨h.cell 0, h.cell 1, h.cell 2, h.lt⟩
end
theorem ext1 (w : World) (o : Obj) : Below w.heap.size w (w.alloc o) := (Below.refl _ _).alloc (Nat.le_refl _) _
theorem ext2 (w : World) (o o' : Obj) : Below w.heap.size w ((w.alloc o).alloc o') := (ext1 w o).alloc (by simp) _
theorem ext3 (w : World) (o o' o'' : Obj) : Below w.heap.size w (((w.alloc o).alloc o').alloc o'') := (ext2 w o o').alloc (by simp; omega) _
theorem ext4 (w : World) (o o' o'' o3 : Obj) : Below w.heap.size w ((((w.alloc o).alloc o').alloc o'').alloc o3) := (ext3 w o o' o'').alloc (by simp; omega) _
theorem Blk.new3a {w w1 : World} {t t' t'' : TypeId} {cs cs' cs'' : Array Value} (hb : Below (((w.alloc (.cells cs t)).alloc (.cells cs' t')).alloc (.cells cs'' t'')).heap.size (((w.alloc (.cells cs t)).alloc (.cells cs' t')).alloc (.cells cs'' t'')) w1) :
    Blk w1 w.heap.size t cs ∧ Blk w1 (w.heap.size + 1) t' cs' ∧ Blk w1 (w.heap.size + 1 + 1) t'' cs'' :=
  ⟨(((Blk.new w t cs).alloc _).alloc _).over hb, by have := ((Blk.new (w.alloc (.cells cs t)) t' cs').alloc (.cells cs'' t'')).over hb; simpa using this,
   by have := (Blk.new ((w.alloc (.cells cs t)).alloc (.cells cs' t')) t'' cs'').over hb; simpa using this⟩
end Go.Proofs.YtmopojjhlbjhnaaDoor

namespace Go.Proofs.YtmopojjhlbjhnaaDoor
open Go.RowKit
set_option linter.unusedVariables false
set_option linter.unusedSimpArgs false

/-- The table of words: six texts that are valid. -/
def Wds (w : World) : Prop := ∀ j, j < 6 → ∃ s : ByteArray, w.cell? ⟨1, j, none⟩ = some (.string s) ∧ plainB s = true ∧ s.size ≤ 4
theorem Wds.keep {w w' : World} (h : Wds w) (hk : w'.heap[1]? = w.heap[1]?) : Wds w' := fun j hj => by
  obtain ⟨s, h1, h2⟩ := h j hj
  exact ⟨s, (World.cell?_of_block (w := w) (a := ⟨1, j, none⟩) hk).trans h1, h2⟩
theorem Wds.below {w w' : World} {B : Nat} (h : Wds w) (hb : Below B w w') (hB : 1 < B) : Wds w' := h.keep (hb.block _ hB)
theorem Wds.lt {w : World} (h : Wds w) : 1 < w.heap.size := by
  obtain ⟨s, h1, _⟩ := h 0 (by omega)
  exact World.block_lt_of_cell? w ⟨1, 0, none⟩ h1
theorem Wds.grown {w w' : World} {row : Option Nat} (h : Wds w) (hg : w.grownBy w' row) (hr : some 1 ≠ row) : Wds w' := h.keep (hg.block _ h.lt hr)

def DrawnS (w : World) (T : Nat) (e : Ending) (w' : World) : Prop :=
  ∃ s : ByteArray, e = .returned (.string s) ∧ plainB s = true ∧ s.size ≤ 4 ∧ Tp w' T ∧ w.grownBy w' (some T)

set_option maxHeartbeats 400000 in
theorem word_any (T : Nat) (w : World) (ht : Tp w T) (hw : Wds w) (hT : 1 < T) :
    Calls Tryd.prog 116 #[.pointer (some ⟨T, 0, none⟩)] w fun e w' => DrawnS w T e w' := by
  go_enter Tryd.func116, Tryd.ntmps116
  go_wp2_with fail
  refine (next_any T 6 _ ht (by omega) (by omega)).mono ?_
  rintro e w1 ⟨r, rfl, r0, r1, t1, g1⟩
  have hw1 := hw.grown g1 (by intro e; injection e with e; omega)
  obtain ⟨r, rfl⟩ := Int.eq_ofNat_of_zero_le r0
  obtain ⟨s, hs, hp, hl⟩ := hw1 r (by omega)
  have HP := hid hp; clear hp hw1 hw
  go_wp2
  go_ret
  exact ⟨s, rfl, HP.out, hl, t1, g1⟩

/-- A value drawn: of the kind asked for, valid. -/
def DrawnV (w : World) (T : Nat) (K : Int → Int → ByteArray → Prop) (e : Ending) (w' : World) : Prop :=
  ∃ (k i : Int) (s : ByteArray), e = .returned (.agg #[.int .i64 k, .int .i64 i, .string s]) ∧ K k i s ∧ s.size ≤ 80 ∧ I64 i ∧ Tp w' T ∧ Wds w' ∧ w.grownBy w' (some T)
/-- valid, and of the kind 'kind' where that is 1, 2 or 3; else null -/
def OfKind (kind k i : Int) (s : ByteArray) : Prop := validB k i s = true ∧ ((kind = 1 ∨ kind = 2 ∨ kind = 3) → k = kind) ∧ (¬ (kind = 1 ∨ kind = 2 ∨ kind = 3) → k = 0)

theorem empty_toList : (⟨#[]⟩ : ByteArray).toList = [] := by kernel_rfl
theorem tp_set3 {w : World} {T g : Nat} (h : Tp w T) (hg : T < g) (x y z : Value) : Tp (((w.setCell ⟨g, 0, none⟩ x).setCell ⟨g, 1, none⟩ y).setCell ⟨g, 2, none⟩ z) T :=
  Tp.setCell (p := ⟨g, 2, none⟩) (Tp.setCell (p := ⟨g, 1, none⟩) (Tp.setCell (p := ⟨g, 0, none⟩) h hg x) hg y) hg z
theorem only_set3 {a w : World} {T g : Nat} (h : a.grownBy w (some T)) (hg : a.heap.size ≤ g) (x y z : Value) : a.grownBy (((w.setCell ⟨g, 0, none⟩ x).setCell ⟨g, 1, none⟩ y).setCell ⟨g, 2, none⟩ z) (some T) :=
  only_setCell (p := ⟨g, 2, none⟩) (only_setCell (p := ⟨g, 1, none⟩) (only_setCell (p := ⟨g, 0, none⟩) h (.inr hg) x) (.inr hg) y) (.inr hg) z
theorem drawnV_mk {w w1 : World} {T g : Nat} {K : Int → Int → ByteArray → Prop} {k i : Int} {s : ByteArray} (hK : K k i s) (hs : s.size ≤ 80) (hi : I64 i) (t1 : Tp w1 T) (hTw : T < w.heap.size) (hw : Wds w) (hT : 1 < T)
    (g1 : w.grownBy w1 (some T)) (hg : w.heap.size ≤ g) : DrawnV w T K (.returned (.agg #[.int .i64 k, .int .i64 i, .string s])) (((w1.setCell ⟨g, 0, none⟩ (.int .i64 k)).setCell ⟨g, 1, none⟩ (.int .i64 i)).setCell ⟨g, 2, none⟩ (.string s)) := by
  have g2 := only_set3 g1 hg (.int .i64 k) (.int .i64 i) (.string s)
  exact ⟨k, i, s, rfl, hK, hs, hi, tp_set3 t1 (by omega) _ _ _, hw.grown g2 (by intro e; injection e with e; omega), g2⟩
theorem kind_null {kind : Int} (h : ¬ (kind = 1 ∨ kind = 2 ∨ kind = 3)) : OfKind kind 0 0 ⟨#[]⟩ := ⟨by kernel_rfl, fun k => absurd k h, fun _ => rfl⟩
theorem kind_int (x : Int) : OfKind 1 1 x ⟨#[]⟩ := ⟨by simp [validB, empty_toList], fun _ => rfl, fun h => absurd (.inl rfl) h⟩
theorem kind_bool {x : Int} (h0 : 0 ≤ x) (h1 : x < 2) : OfKind 2 2 x ⟨#[]⟩ := ⟨by
  obtain rfl | rfl : x = 0 ∨ x = 1 := by omega
  all_goals simp [validB, empty_toList], fun _ => rfl, fun h => absurd (.inr (.inl rfl)) h⟩
theorem kind_text {s : ByteArray} (h : plainB s = true) : OfKind 3 3 0 s := ⟨by simp [validB, h], fun _ => rfl, fun h => absurd (.inr (.inr rfl)) h⟩

set_option maxHeartbeats 1000000 in
theorem typed_any (T : Nat) (kind : Int) (w : World) (ht : Tp w T) (hw : Wds w) (hT : 1 < T) :
    Calls Tryd.prog 74 #[.pointer (some ⟨T, 0, none⟩), .int .i64 kind] w fun e w' => DrawnV w T (OfKind kind) e w' := by
  have hlt := ht.lt
  have B0 := Blk.new w 57 #[.int .i64 0, .int .i64 0, .string ⟨#[]⟩]
  have t0 := ht.alloc (.cells #[.int .i64 0, .int .i64 0, .string ⟨#[]⟩] 57)
  have g0 : w.grownBy (w.alloc (.cells #[.int .i64 0, .int .i64 0, .string ⟨#[]⟩] 57)) (some T) := only_alloc (World.grownBy.refl _ _) _
  have w0 : Wds (w.alloc (.cells #[.int .i64 0, .int .i64 0, .string ⟨#[]⟩] 57)) := hw.grown g0 (by intro e; injection e with e; omega)
  have hI0 : I64 0 := by unfold I64; omega
  by_cases h1 : kind = 1
  · subst h1
    go_enter Tryd.func74, Tryd.ntmps74
    go_wp2_with fail
    refine (number_any T _ t0).mono ?_
    rintro e w1 ⟨x, rfl, hx, t1, g1⟩
    have B1 := B0.grown g1 (by intro e; injection e with e; omega)
    have g2 := only_trans g0 g1
    obtain ⟨c0, c1, c2, cl⟩ := B1.c3
    have f0 := B1.frozen 0; have f1 := B1.frozen 1; have f2 := B1.frozen 2
    clear t0 g0 B0 w0 g1
    go_wp2
    exact bodyPost_ret (v := .agg #[.int .i64 1, .int .i64 x, .string ⟨#[]⟩]) (by simp [results, Tryd.results74, go_sem, c0, c1, c2]) rfl (drawnV_mk (kind_int x) (by decide) hx t1 hlt hw hT g2 (Nat.le_refl _))
  by_cases h2 : kind = 2
  · subst h2
    go_enter Tryd.func74, Tryd.ntmps74
    go_wp2_with fail
    refine (next_any T 2 _ t0 (by omega) (by omega)).mono ?_
    rintro e w1 ⟨x, rfl, x0, x1, t1, g1⟩
    have B1 := B0.grown g1 (by intro e; injection e with e; omega)
    have g2 := only_trans g0 g1
    obtain ⟨c0, c1, c2, cl⟩ := B1.c3
    have f0 := B1.frozen 0; have f1 := B1.frozen 1; have f2 := B1.frozen 2
    clear t0 g0 B0 w0 g1
    go_wp2
    exact bodyPost_ret (v := .agg #[.int .i64 2, .int .i64 x, .string ⟨#[]⟩]) (by simp [results, Tryd.results74, go_sem, c0, c1, c2]) rfl (drawnV_mk (kind_bool x0 x1) (by decide) (by unfold I64; omega) t1 hlt hw hT g2 (Nat.le_refl _))
  by_cases h3 : kind = 3
  · subst h3
    go_enter Tryd.func74, Tryd.ntmps74
    go_wp2_with fail
    refine (word_any T _ t0 w0 hT).mono ?_
    rintro e w1 ⟨s, rfl, hp, hs, t1, g1⟩
    have B1 := B0.grown g1 (by intro e; injection e with e; omega)
    have g2 := only_trans g0 g1
    obtain ⟨c0, c1, c2, cl⟩ := B1.c3
    have f0 := B1.frozen 0; have f1 := B1.frozen 1; have f2 := B1.frozen 2
    clear t0 g0 B0 w0 g1
    go_wp2
    exact bodyPost_ret (v := .agg #[.int .i64 3, .int .i64 0, .string s]) (by simp [results, Tryd.results74, go_sem, c0, c1, c2]) rfl (drawnV_mk (kind_text hp) (by omega) hI0 t1 hlt hw hT g2 (Nat.le_refl _))
  · have k1 : (kind == 1) = false := by simpa using h1
    have k2 : (kind == 2) = false := by simpa using h2
    have k3 : (kind == 3) = false := by simpa using h3
    have hn : ¬ (kind = 1 ∨ kind = 2 ∨ kind = 3) := by omega
    have HN := hid (kind_null hn); clear hn
    go_enter Tryd.func74, Tryd.ntmps74
    clear h1 h2 h3
    go_wp2
    refine bodyPost_ret (v := .agg #[.int .i64 0, .int .i64 0, .string ⟨#[]⟩]) (by simp [results, Tryd.results74, go_sem]) rfl ?_
    exact ⟨0, 0, ⟨#[]⟩, rfl, HN.out, by decide, hI0, t0, w0, g0⟩

set_option maxHeartbeats 1000000 in
theorem value_any (T : Nat) (w : World) (ht : Tp w T) (hw : Wds w) (hT : 1 < T) :
    Calls Tryd.prog 35 #[.pointer (some ⟨T, 0, none⟩)] w fun e w' => DrawnV w T (fun k i s => validB k i s = true) e w' := by
  have hlt := ht.lt
  have B0 := Blk.new w 57 #[.int .i64 0, .int .i64 0, .string ⟨#[]⟩]
  have t0 := ht.alloc (.cells #[.int .i64 0, .int .i64 0, .string ⟨#[]⟩] 57)
  have g0 : w.grownBy (w.alloc (.cells #[.int .i64 0, .int .i64 0, .string ⟨#[]⟩] 57)) (some T) := only_alloc (World.grownBy.refl _ _) _
  have w0 : Wds (w.alloc (.cells #[.int .i64 0, .int .i64 0, .string ⟨#[]⟩] 57)) := hw.grown g0 (by intro e; injection e with e; omega)
  go_enter Tryd.func35, Tryd.ntmps35
  go_wp2_with fail
  refine (next_any T 4 _ t0 (by omega) (by omega)).mono ?_
  rintro e w1 ⟨x, rfl, x0, x1, t1, g1⟩
  have w1' := w0.grown g1 (by intro e; injection e with e; omega)
  have B1 := B0.grown g1 (by intro e; injection e with e; omega)
  go_wp2_with fail
  refine (typed_any T x _ t1 w1' hT).mono ?_
  rintro e w2 ⟨k, i, s, rfl, ⟨hv, _, _⟩, hs, hi, t2, _, g2⟩
  have B2 := B1.grown g2 (by intro e; injection e with e; omega)
  have g3 := only_trans (only_trans g0 g1) g2
  obtain ⟨c0, c1, c2, cl⟩ := B2.c3
  have f0 := B2.frozen 0; have f1 := B2.frozen 1; have f2 := B2.frozen 2
  have HV := hid hv
  clear t0 g0 B0 w0 g1 B1 g2 w1' t1 hv
  go_wp2
  exact bodyPost_ret (v := .agg #[.int .i64 k, .int .i64 i, .string s]) (by simp [results, Tryd.results35, go_sem, c0, c1, c2]) rfl (drawnV_mk HV.out hs hi t2 hlt hw hT g3 (Nat.le_refl _))
end Go.Proofs.YtmopojjhlbjhnaaDoor

namespace Go.Proofs.YtmopojjhlbjhnaaDoor
open Go.ChangeShapes Go.WideShapes Go.ChangeAt Go.RowKit
set_option linter.unusedVariables false
set_option linter.unusedSimpArgs false

theorem gWords : Tryd.prog.globalNamed "triggerstore/triggerstoreworld.words" = some 1 := by kernel_rfl
theorem gWordsType : (Tryd.prog.globals[1]?).map (·.type) = some 161 := by kernel_rfl
def wordBytes : List (List UInt8) := [[], [97], [98], [105, 116, 39, 115], [90, 32, 122], [126]]
theorem words_all : ∀ b ∈ wordBytes, (b.all okByte && decide (b.length ≤ 4)) = true := by decide

theorem wds_of_laid {W : World} {rest : List (String × DataW Unit)} (h : laidMet Tryd.prog (("triggerstore/triggerstoreworld.words", Rows.laid_triggerstore_triggerstoreworld_words) :: rest) W) : Wds W := by
  intro j hj
  obtain ⟨s, h1, h2, _⟩ := strs_of_head (bs := wordBytes) (rest := rest) gWords gWordsType Tryd.underlying161 Tryd.underlying9 (by kernel_rfl) h j hj
  have h3 := words_all _ (List.mem_of_getElem? h2)
  simp only [Bool.and_eq_true, decide_eq_true_eq] at h3
  have hs : s.size = s.data.toList.length := (Array.length_toList (xs := s.data)).symm
  refine ⟨s, h1, ?_, by omega⟩
  unfold plainB
  rw [h3.1, Bool.true_and, decide_eq_true_eq]
  omega

/-- A world for the witness of a row: the settled one, the table of words laid. -/
noncomputable def wordsWorld (os : Os) : World :=
  { World.holding Tryd.prog os ⟨#[], #[], []⟩ with heap := (World.holding Tryd.prog os ⟨#[], #[], []⟩).heap.modify 1 fun
      | .cells _ t frozen => .cells #[.string ⟨#[]⟩, .string ⟨#[97]⟩, .string ⟨#[98]⟩, .string ⟨#[105, 116, 39, 115]⟩, .string ⟨#[90, 32, 122]⟩, .string ⟨#[126]⟩] t frozen
      | o => o }
end Go.Proofs.YtmopojjhlbjhnaaDoor

namespace Go.Proofs.YtmopojjhlbjhnaaDoor
open Go.RowKit
set_option linter.unusedVariables false

theorem flat_get {α β : Type} (f : α → List β) (n : Nat) (hf : ∀ a, (f a).length = n) : ∀ (l : List α) (k j : Nat) (a : α), j < n → l[k]? = some a → (l.flatMap f)[k * n + j]? = (f a)[j]?
  | [], k, j, a, _, h => by simp at h
  | x :: l, 0, j, a, hj, h => by
    simp only [List.getElem?_cons_zero, Option.some.injEq] at h
    subst h
    simp only [List.flatMap_cons, Nat.zero_mul, Nat.zero_add]
    rw [List.getElem?_append_left (by rw [hf]; exact hj)]
  | x :: l, k + 1, j, a, hj, h => by
    simp only [List.getElem?_cons_succ] at h
    simp only [List.flatMap_cons]
    rw [List.getElem?_append_right (by rw [hf, Nat.succ_mul]; omega), hf, show (k + 1) * n + j - n = k * n + j by rw [Nat.succ_mul]; omega]
    exact flat_get f n hf l k j a hj h
theorem flat_len {α β : Type} (f : α → List β) (n : Nat) (hf : ∀ a, (f a).length = n) (l : List α) : (l.flatMap f).length = l.length * n := by
  induction l with
  | nil => simp
  | cons x l ih => simp [List.flatMap_cons, hf, ih, Nat.succ_mul]; omega
/-- A column. -/
structure Col where
  name : ByteArray
  ty : Int
  nn : Bool
  key : Bool
deriving DecidableEq
def Col.cells (c : Col) : List Value := [.string c.name, .int .i64 c.ty, .bool c.nn, .bool c.key]
def colCells (l : List Col) : List Value := l.flatMap Col.cells
theorem colCells_len (l : List Col) : (colCells l).length = l.length * 4 := flat_len _ 4 (fun _ => rfl) l
theorem colCells_at {l : List Col} {k : Nat} {c : Col} (h : l[k]? = some c) : (colCells l)[k * 4]? = some (.string c.name) ∧ (colCells l)[k * 4 + 1]? = some (.int .i64 c.ty) ∧ (colCells l)[k * 4 + 2]? = some (.bool c.nn) ∧ (colCells l)[k * 4 + 3]? = some (.bool c.key) :=
  ⟨flat_get Col.cells 4 (fun _ => rfl) l k 0 c (by omega) h, flat_get Col.cells 4 (fun _ => rfl) l k 1 c (by omega) h, flat_get Col.cells 4 (fun _ => rfl) l k 2 c (by omega) h, flat_get Col.cells 4 (fun _ => rfl) l k 3 c (by omega) h⟩

/-- The slice with address A and n elements reads as the columns l. -/
def RdC (w : World) (B : Nat) (A : Option Addr) (n : Nat) (l : List Col) : Prop := Rd w B 4 A n (colCells l)
theorem RdC.len {w : World} {B n : Nat} {A : Option Addr} {l : List Col} (h : RdC w B A n l) : l.length = n := by
  have := h.1
  rw [colCells_len] at this
  omega
theorem RdC.at_ {w : World} {B n : Nat} {A : Option Addr} {l : List Col} (h : RdC w B A n l) {k : Nat} {c : Col} (hc : l[k]? = some c) :
    ∃ b o, A = some ⟨b, o, none⟩ ∧ b < B ∧ w.cell? ⟨b, o + k * 4, none⟩ = some (.string c.name) ∧ w.cell? ⟨b, o + k * 4 + 1, none⟩ = some (.int .i64 c.ty) ∧ w.cell? ⟨b, o + k * 4 + 2, none⟩ = some (.bool c.nn) ∧ w.cell? ⟨b, o + k * 4 + 3, none⟩ = some (.bool c.key) := by
  have hk : k < n := by rw [← h.len]; exact (List.getElem?_eq_some_iff.1 hc).1
  obtain ⟨b, o, e, hb, hcell⟩ := h.2 (by omega)
  obtain ⟨h0, h1, h2, h3⟩ := colCells_at hc
  exact ⟨b, o, e, hb, hcell _ _ h0, hcell _ _ h1, hcell _ _ h2, hcell _ _ h3⟩
end Go.Proofs.YtmopojjhlbjhnaaDoor

namespace Go.Proofs.YtmopojjhlbjhnaaDoor
open Go.Joins Go.ChangeShapes Go.WideShapes Go.ChangeAt Go.RowKit Go.Deep
set_option linter.unusedVariables false
section
variable {H : Type} {enc : TypeId × Value → H} {P : Program} {w : World} {base : Nat} {spare : Nat → Bool} {held : Bool}
theorem open_slice_fields {t e : TypeId} {fs : Array Field} {fuel : Nat} {cs : List Value} {x : DataW H × List MemPlace} (ht : P.underlying t = some (.slice e)) (he : P.underlying e = some (.struct fs))
    (hone : oneCellFields P fs = true) (hC : P.cellsOf e = fs.size) (h : DataW.trod enc P w base spare held fuel t cs = some x) :
    (cs = [.slice none 0 0] ∧ x = (.nil, [])) ∨
    ∃ (a : Addr) (len cap m : Nat) (D : Nat → DataW H) (Pl : Nat → List MemPlace), cs = [.slice (some a) len cap] ∧ base ≤ a.block ∧ len ≤ cap ∧ cap ≤ maxLen ∧ m = (if spare a.block then cap else len) ∧
      x = (.slice ((List.range len).map D) ((List.range (m - len)).map fun j => D (len + j)), MemPlace.row a (m * fs.size) ++ (List.range m).flatMap Pl) ∧
      ∀ i, i < m → ∃ (ys : List (DataW H × List MemPlace)) (n : Nat), D i = .agg (ys.map (·.1)) ∧ Pl i = ys.flatMap (·.2) ∧ ys.length = fs.size ∧
        ∀ (j : Nat) (f : Field), fs[j]? = some f → ∃ (v : Value) (y : DataW H × List MemPlace), w.cell? (a.add (i * fs.size + j)) = some v ∧ ys[j]? = some y ∧ DataW.trod enc P w base spare held n f.type [v] = some y := by
  rcases open_slice ht h with h0 | ⟨a, len, cap, m, n, D, Pl, hcs, hb, hl, hm, hmm, hx, hi⟩
  · exact .inl h0
  · refine .inr ⟨a, len, cap, m, D, Pl, hcs, hb, hl, hm, hmm, by rw [hC] at hx; exact hx, fun i him => ?_⟩
    obtain ⟨cs', hc, ht'⟩ := hi i him
    rw [hC] at hc
    obtain ⟨ys, n', hn', hy, hlen, hyl, hf⟩ := DataW.trod_struct he ht'
    obtain ⟨_, hcl, hat⟩ := World.cells?_some hc
    simp only [Prod.mk.injEq] at hy
    refine ⟨ys, n', hy.1, hy.2, hyl, fun j f hj => ?_⟩
    obtain ⟨ho, hk⟩ := hone_of hone j f hj
    have hjl : j < fs.size := (Array.getElem?_eq_some_iff.1 hj).1
    have hcell := hat j hjl
    have hv : cs'[j]? = some (cs'[j]'(by omega)) := List.getElem?_eq_getElem (by omega)
    have h1 := hf j f hj
    rw [ho, hk] at h1
    have hone' : (cs'.drop j).take 1 = [cs'[j]'(by omega)] := by
      rw [List.drop_eq_getElem_cons (by omega)]
      rfl
    rw [hone'] at h1
    have hys : ys[j]? = some (ys[j]'(by omega)) := List.getElem?_eq_getElem (by omega)
    refine ⟨_, _, ?_, hys, h1.trans hys⟩
    rw [← Go.Deep.add_add, hcell, hv]
end

section
variable {H : Type} {enc : TypeId × Value → H} {P : Program}
theorem open_vl {t : TypeId} {W : World} {r : Reach} {b0 : Nat} {v : Value} {d : DataW H} {p : List MemPlace} {f0 f1 f2 : Field} (hs : P.underlying t = some (.struct #[f0, f1, f2])) (hone : oneCellFields P #[f0, f1, f2] = true) (hC : P.cellsOf t = 3)
    (u0 : P.underlying f0.type = some (.int .i64)) (u1 : P.underlying f1.type = some (.int .i64)) (u2 : P.underlying f2.type = some .string)
    (hok : Value.okWide P W r b0 t v) (h : DataW.Trod enc P W 0 (fun _ => true) true t v d p) :
    ∃ k i s, v = .agg #[.int .i64 k, .int .i64 i, .string s] ∧ I64 k ∧ I64 i ∧ s.size ≤ maxLen := by
  obtain ⟨v0, v1, v2, y0, y1, y2, n, rfl, hd, hp, h0, h1, h2⟩ := open_agg3 hs hone hC hok h
  obtain ⟨k, e0, _, w0⟩ := DataW.trod_int u0 h0
  obtain ⟨i, e1, _, w1⟩ := DataW.trod_int u1 h1
  obtain ⟨s, e2, _, w2⟩ := DataW.trod_string u2 h2
  simp only [List.cons.injEq, and_true] at e0 e1 e2
  subst e0 e1 e2
  exact ⟨k, i, s, rfl, i64_wf w0, i64_wf w1, w2⟩

end
end Go.Proofs.YtmopojjhlbjhnaaDoor

namespace Go.Proofs.YtmopojjhlbjhnaaDoor
open Go.RowKit
set_option linter.unusedVariables false

/-- An item of memory: a block known whole, a row that grows, a tape, or a statement on cells that are never written again. -/
inductive Hp where
  | blk (g : Nat) (t : TypeId) (cs : Array Value)
  | own (e : TypeId) (size : Nat) (v : Value) (n : Nat) (xs : List Value)
  | tp (T : Nat)
  | ro (S : World → Prop)
  | cst (g : Nat) (t : TypeId) (cs : Array Value)
  | ob (g : Nat) (F : World → Prop)

/-- the block that the item may write -/
def Hp.foot : Hp → Option Nat
  | .blk g _ _ => some g
  | .own _ _ v _ _ => v.ownBlock
  | .tp T => some T
  | .ro _ => none
  | .cst _ _ _ => none
  | .ob g _ => some g

/-- the blocks that may be written: a caller's own (M), and those of the items -/
def Mut (M : Nat → Prop) (L : List Hp) (b : Nat) : Prop := M b ∨ ∃ h ∈ L, h.foot = some b

/-- S holds in w, and as long as nothing but the blocks of M and new ones turns -/
def Ro (w : World) (M : Nat → Prop) (S : World → Prop) : Prop :=
  ∀ w' : World, w.heap.size ≤ w'.heap.size → (∀ b, b < w.heap.size → ¬ M b → w'.heap[b]? = w.heap[b]?) → S w'

theorem Ro.now {w : World} {M : Nat → Prop} {S : World → Prop} (h : Ro w M S) : S w := h w (Nat.le_refl _) (fun _ _ _ => rfl)
theorem Ro.step {w w' : World} {M M' : Nat → Prop} {S : World → Prop} (h : Ro w M S) (hs : w.heap.size ≤ w'.heap.size) (hb : ∀ b, b < w.heap.size → ¬ M b → w'.heap[b]? = w.heap[b]?)
    (hM : ∀ b, b < w.heap.size → M' b → M b) : Ro w' M' S := fun w2 h1 h2 => h w2 (Nat.le_trans hs h1) fun b hbl hn => (h2 b (Nat.lt_of_lt_of_le hbl hs) (fun hm => hn (hM b hbl hm))).trans (hb b hbl hn)
theorem Ro.less {w : World} {M M' : Nat → Prop} {S : World → Prop} (h : Ro w M S) (hM : ∀ b, M' b → M b) : Ro w M' S := h.step (Nat.le_refl _) (fun _ _ _ => rfl) (fun b _ hb => hM b hb)
theorem Ro.imp {w : World} {M : Nat → Prop} {S S' : World → Prop} (h : Ro w M S) (hi : ∀ w, S w → S' w) : Ro w M S' := fun w2 h1 h2 => hi _ (h w2 h1 h2)
theorem Ro.and {w : World} {M : Nat → Prop} {S S' : World → Prop} (h : Ro w M S) (k : Ro w M S') : Ro w M (fun w => S w ∧ S' w) := fun w2 h1 h2 => ⟨h w2 h1 h2, k w2 h1 h2⟩
theorem Ro.below {w w' : World} {M : Nat → Prop} {S : World → Prop} (h : Ro w M S) (hb : Below w.heap.size w w') : Ro w' M S := h.step hb.size (fun b hl _ => hb.block b hl) (fun _ _ hm => hm)
theorem Ro.grown {w w' : World} {M : Nat → Prop} {S : World → Prop} {T : Nat} (h : Ro w M S) (hb : w.grownBy w' (some T)) (hT : M T) : Ro w' M S :=
  h.step hb.size (fun b hl hn => hb.block b hl (fun e => by injection e with e; subst e; exact hn hT)) (fun _ _ hm => hm)
def Hp.sat (B : Nat) (w : World) (M : Nat → Prop) : Hp → Prop
  | .blk g t cs => w.heap[g]? = some (.cells cs t (0, 0))
  | .own e size v n xs => w.ownsRow B e size v n xs
  | .tp T => Tp w T ∧ ∀ b, M b → T ≤ b
  | .ro S => Ro w M S
  | .cst g t cs => Ro w M (fun w => w.heap[g]? = some (.cells cs t (0, 0)))
  | .ob g F => ∀ w' : World, w'.heap[g]? = w.heap[g]? → F w'

/-- no two items may write one block -/
def Apart : List Hp → Prop
  | [] => True
  | h :: L => (∀ b, h.foot = some b → ∀ k ∈ L, k.foot ≠ some b) ∧ Apart L

/-- From w0 to w nothing turned but the block 'row' and new ones; the items of L hold in w. M: blocks of the caller's that it may write. -/
structure Hold (M : Nat → Prop) (row : Option Nat) (w0 w : World) (L : List Hp) : Prop where
  grow : w0.grownBy w row
  low : ∀ b, M b → b < w0.heap.size
  sat : ∀ h ∈ L, h.sat w0.heap.size w (Mut M L)
  fresh : ∀ h ∈ L, ∀ b, h.foot = some b → (w0.heap.size ≤ b ∨ (row = some b ∧ h = .tp b)) ∧ b < w.heap.size
  sep : Apart L

section
variable {M : Nat → Prop} {row : Option Nat} {w0 w w' : World} {L L' : List Hp}

theorem Hold.start (M : Nat → Prop) (w : World) (h : ∀ b, M b → b < w.heap.size) : Hold M none w w [] :=
  ⟨World.grownBy.refl _ _, h, (fun _ h => nomatch h), (fun _ h => nomatch h), trivial⟩
theorem Hold.below (h : Hold M none w0 w L) : Below w0.heap.size w0 w := ⟨h.grow.os, h.grow.tape, h.grow.output, h.grow.size, fun k hk => h.grow.block k hk (by simp)⟩
theorem mut_cons {k : Hp} {b : Nat} : Mut M (k :: L) b ↔ (k.foot = some b ∨ Mut M L b) := by
  unfold Mut; simp only [List.mem_cons, exists_eq_or_imp]
  constructor
  · rintro (h | h | h)
    · exact .inr (.inl h)
    · exact .inl h
    · exact .inr (.inr h)
  · rintro (h | h | h)
    · exact .inr (.inl h)
    · exact .inl h
    · exact .inr (.inr h)

/-- An item's truth over a step that leaves all that may not be written, and the item's own block. -/
theorem Hp.sat_step {B : Nat} {M M' : Nat → Prop} {k : Hp} (h : k.sat B w M) (hs : w.heap.size ≤ w'.heap.size) (hb : ∀ b, b < w.heap.size → ¬ M b → w'.heap[b]? = w.heap[b]?)
    (hM : ∀ b, b < w.heap.size → M' b → M b) (hT : ∀ b, k.foot = some b → w'.heap[b]? = w.heap[b]?) (hlow : ∀ T, k = .tp T → (∀ b, b < T → w'.heap[b]? = w.heap[b]?)) : k.sat B w' M' := by
  cases k with
  | blk g t cs => exact (hT g rfl).trans h
  | own e size v n xs =>
    refine ⟨h.1, ?_⟩
    rcases h.2 with hn | ⟨g, cap, cur, rfl, hb', hgg, rest⟩
    · exact .inl hn
    · exact .inr ⟨g, cap, cur, rfl, hb', (hT g rfl).trans hgg, rest⟩
  | tp T =>
    refine ⟨h.1.keep fun b hbT => ?_, fun b hb' => ?_⟩
    · rcases Nat.lt_or_ge b T with hlt | hge
      · exact hlow T rfl b hlt
      · obtain rfl : b = T := by omega
        exact hT b rfl
    · rcases Nat.lt_or_ge b w.heap.size with hlt | hge
      · exact h.2 b (hM b hlt hb')
      · have := h.1.lt; omega
  | ro S => exact h.step hs hb hM
  | cst g t cs => exact Ro.step h hs hb hM
  | ob g F => exact fun w2 h2 => h w2 (h2.trans (hT g rfl))

/-- The step of a call that leaves old memory (and the caller's blocks). -/
theorem Hold.call (h : Hold M row w0 w L) (hb : Below w.heap.size w w') : Hold M row w0 w' L :=
  ⟨only_below h.grow hb, h.low,
   fun k hk => Hp.sat_step (k := k) (h.sat k hk) hb.size (fun b hl _ => hb.block b hl) (fun _ _ hm => hm) (fun b hf => hb.block b (h.fresh k hk b hf).2)
     (fun T hT b hlt => by
        have := h.fresh k hk T (by subst hT; rfl)
        exact hb.block b (by omega)),
   fun k hk b hf => ⟨(h.fresh k hk b hf).1, Nat.lt_of_lt_of_le (h.fresh k hk b hf).2 hb.size⟩, h.sep⟩

theorem Hold.drew (h : Hold M row w0 w L) : Hold M row w0 w.drew L :=
  ⟨only_drew h.grow, h.low, fun k hk => Hp.sat_step (k := k) (h.sat k hk) (Nat.le_refl _) (fun _ _ _ => rfl) (fun _ _ hm => hm) (fun _ _ => rfl) (fun _ _ _ _ => rfl), h.fresh, h.sep⟩
theorem Hold.drewN (h : Hold M row w0 w L) (n : Nat) : Hold M row w0 (w.drewN n) L :=
  ⟨only_drewN h.grow n, h.low, fun k hk => Hp.sat_step (k := k) (h.sat k hk) (Nat.le_refl _) (fun _ _ _ => rfl) (fun _ _ hm => hm) (fun _ _ => rfl) (fun _ _ _ _ => rfl), h.fresh, h.sep⟩

/-- A new block. -/
theorem Hold.alloc (h : Hold M row w0 w L) (cs : Array Value) (t : TypeId) : Hold M row w0 (w.alloc (.cells cs t)) (.blk w.heap.size t cs :: L) := by
  have hsz : (w.alloc (.cells cs t)).heap.size = w.heap.size + 1 := by simp
  have hMM : ∀ b, b < w.heap.size → Mut M (.blk w.heap.size t cs :: L) b → Mut M L b := fun b hl hm => by
    rcases mut_cons.1 hm with hf | hm
    · injection hf with hf; omega
    · exact hm
  refine ⟨only_alloc h.grow _, h.low, fun k hk => ?_, fun k hk b hf => ?_, ⟨fun b hf k hk he => ?_, h.sep⟩⟩
  · rcases List.mem_cons.1 hk with rfl | hk
    · exact heap_alloc_new w _
    · exact Hp.sat_step (k := k) (h.sat k hk) (by omega) (fun b hl _ => Below.heap_alloc w _ b hl) hMM (fun b hf => Below.heap_alloc w _ b (h.fresh k hk b hf).2)
        (fun T hT b hlt => by
          have := h.fresh k hk T (by subst hT; rfl)
          exact Below.heap_alloc w _ b (by omega))
  · rcases List.mem_cons.1 hk with rfl | hk
    · injection hf with hf; subst hf; exact ⟨.inl h.grow.size, by omega⟩
    · exact ⟨(h.fresh k hk b hf).1, by have := (h.fresh k hk b hf).2; omega⟩
  · injection hf with hf; subst hf
    have := (h.fresh k hk _ he).2; omega

/-- An item that may be written is replaced by one of the same block, or of a new one; a step of the world that turns nothing but that block. -/
theorem Apart.mem (h : Apart L) {i j : Nat} {a b : Hp} (hi : L[i]? = some a) (hj : L[j]? = some b) (hij : i ≠ j) {x : Nat} (ha : a.foot = some x) : b.foot ≠ some x := by
  induction L generalizing i j with
  | nil => cases hi
  | cons c L ih =>
    obtain ⟨h1, h2⟩ := h
    cases i with
    | zero =>
      cases j with
      | zero => exact absurd rfl hij
      | succ j => simp only [List.getElem?_cons_zero, Option.some.injEq] at hi; subst hi; exact h1 x ha b (List.mem_of_getElem? (by simpa using hj))
    | succ i =>
      cases j with
      | zero =>
        simp only [List.getElem?_cons_zero, Option.some.injEq] at hj; subst hj
        intro hb
        exact h1 x hb a (List.mem_of_getElem? (by simpa using hi)) ha
      | succ j => exact ih h2 (by simpa using hi) (by simpa using hj) (fun e => hij (by omega))
theorem apart_of (h : ∀ (i j : Nat) (a b : Hp), L[i]? = some a → L[j]? = some b → i ≠ j → ∀ x, a.foot = some x → b.foot ≠ some x) : Apart L := by
  induction L with
  | nil => trivial
  | cons c L ih =>
    refine ⟨fun x hx k hk => ?_, ih fun i j a b hi hj hij => h (i + 1) (j + 1) a b (by simpa using hi) (by simpa using hj) (by omega)⟩
    obtain ⟨n, hn⟩ := List.getElem?_of_mem hk
    exact h 0 (n + 1) c k rfl (by simpa using hn) (by omega) x hx

theorem set_get {k : Hp} {i j : Nat} {a : Hp} (h : (L.set i k)[j]? = some a) : (i = j ∧ a = k) ∨ (i ≠ j ∧ L[j]? = some a) := by
  by_cases e : i = j
  · subst e
    left
    rw [List.getElem?_set] at h
    simp only [if_true] at h
    split at h
    · injection h with h; exact ⟨rfl, h.symm⟩
    · cases h
  · right
    rw [List.getElem?_set, if_neg e] at h
    exact ⟨e, h⟩

theorem Hold.turn (h : Hold M row w0 w L) (i : Nat) {k k' : Hp} (hi : L[i]? = some k) (hsz : w.heap.size ≤ w'.heap.size) (hos : w'.os = w.os ∧ w'.tape = w.tape ∧ w'.output = w.output)
    (hb : ∀ b, b < w.heap.size → k.foot ≠ some b → w'.heap[b]? = w.heap[b]?)
    (hf : ∀ b, k'.foot = some b → (k.foot = some b ∨ w.heap.size ≤ b) ∧ b < w'.heap.size)
    (hs : k'.sat w0.heap.size w' (Mut M (L.set i k'))) (hnt : ∀ T, k = .tp T → k' = .tp T) : Hold M row w0 w' (L.set i k') := by
  have hkm : k ∈ L := List.mem_of_getElem? hi
  have hMM : ∀ b, b < w.heap.size → Mut M (L.set i k') b → Mut M L b := fun b hl hm => by
    rcases hm with hm | ⟨a, ha, hfa⟩
    · exact .inl hm
    · obtain ⟨j, hj⟩ := List.getElem?_of_mem ha
      rcases set_get hj with ⟨rfl, rfl⟩ | ⟨_, hj⟩
      · rcases (hf b hfa).1 with h1 | h1
        · exact .inr ⟨k, hkm, h1⟩
        · omega
      · exact .inr ⟨a, List.mem_of_getElem? hj, hfa⟩
  have hkM : ∀ b, k.foot = some b → Mut M L b := fun b hb => .inr ⟨k, hkm, hb⟩
  refine ⟨⟨hos.1.trans h.grow.os, hos.2.1.trans h.grow.tape, hos.2.2.trans h.grow.output, Nat.le_trans h.grow.size hsz, fun b hl hne => ?_⟩, h.low, fun a ha => ?_, fun a ha b hfa => ?_, ?_⟩
  · refine (hb b (Nat.lt_of_lt_of_le hl h.grow.size) fun hk => ?_).trans (h.grow.block b hl hne)
    rcases (h.fresh k hkm b hk).1 with h1 | h1
    · omega
    · exact hne h1.1.symm
  · obtain ⟨j, hj⟩ := List.getElem?_of_mem ha
    rcases set_get hj with ⟨rfl, rfl⟩ | ⟨hij, hj⟩
    · exact hs
    · have ham := List.mem_of_getElem? hj
      refine Hp.sat_step (k := a) (h.sat a ham) hsz (fun b hl hn => hb b hl fun hk => hn (hkM b hk)) hMM (fun b hfb => hb b (h.fresh a ham b hfb).2 (h.sep.mem hj hi (fun e => hij e.symm) hfb)) (fun T hT b hlt => ?_)
      subst hT
      have h1 := (h.fresh _ ham T rfl).2
      refine hb b (by omega) fun hk => ?_
      have h2 := (h.sat _ ham).2 b (hkM b hk)
      omega
  · obtain ⟨j, hj⟩ := List.getElem?_of_mem ha
    rcases set_get hj with ⟨rfl, rfl⟩ | ⟨hij, hj⟩
    · obtain ⟨h1, h2⟩ := hf b hfa
      rcases h1 with h1 | h1
      · refine ⟨?_, h2⟩
        rcases (h.fresh k hkm b h1).1 with h3 | ⟨h3, h4⟩
        · exact .inl h3
        · exact .inr ⟨h3, hnt b h4⟩
      · exact ⟨.inl (Nat.le_trans h.grow.size h1), h2⟩
    · have ham := List.mem_of_getElem? hj
      exact ⟨(h.fresh a ham b hfa).1, Nat.lt_of_lt_of_le (h.fresh a ham b hfa).2 hsz⟩
  · refine apart_of fun x y a b hx hy hxy g hg => ?_
    rcases set_get hx with ⟨rfl, rfl⟩ | ⟨hix, hx'⟩ <;> rcases set_get hy with ⟨rfl, rfl⟩ | ⟨hiy, hy'⟩
    · exact absurd rfl hxy
    · rcases (hf g hg).1 with h1 | h1
      · exact h.sep.mem hi hy' hxy h1
      · intro he; have := (h.fresh b (List.mem_of_getElem? hy') g he).2; omega
    · intro he
      rcases (hf g he).1 with h1 | h1
      · exact h.sep.mem hx' hi hxy hg h1
      · have := (h.fresh a (List.mem_of_getElem? hx') g hg).2; omega
    · exact h.sep.mem hx' hy' hxy hg

/-- A store into a block that is known whole. -/
theorem Hold.store (h : Hold M row w0 w L) (i : Nat) {g : Nat} {t : TypeId} {cs : Array Value} (hi : L[i]? = some (.blk g t cs)) (j : Nat) (u : Value) :
    Hold M row w0 (w.setCell ⟨g, j, none⟩ u) (L.set i (.blk g t (cs.setIfInBounds j u))) := by
  have hkm := List.mem_of_getElem? hi
  refine h.turn i hi (by simp [World.setCell]) ⟨rfl, rfl, rfl⟩ (fun b _ hne => Below.heap_setCell w _ u b fun e => hne (by rw [e]; rfl)) (fun b hf => ?_) (blk_set (h.sat _ hkm) j u) (fun T hT => by cases hT)
  have : some g = some b := hf
  injection this with this
  subst this
  exact ⟨.inl rfl, by have := (h.fresh _ hkm g rfl).2; simpa [World.setCell] using this⟩

/-- A call that turns the tape. -/
theorem Hold.callT (h : Hold M row w0 w L) (i : Nat) {T : Nat} (hi : L[i]? = some (.tp T)) (hg : w.grownBy w' (some T)) (ht : Tp w' T) : Hold M row w0 w' L := by
  have hkm := List.mem_of_getElem? hi
  have hlt := (h.fresh _ hkm T rfl).2
  have := h.turn (k' := .tp T) i hi hg.size ⟨hg.os, hg.tape, hg.output⟩ (fun b hl hne => hg.block b hl fun e => hne e.symm) (fun b hf => ⟨.inl hf, by
    injection hf with hf; subst hf; exact Nat.lt_of_lt_of_le hlt hg.size⟩) ⟨ht, fun b hb => by
      have hb' : Mut M L b := by
        rcases hb with hb | ⟨a, ha, hfa⟩
        · exact .inl hb
        · obtain ⟨j, hj⟩ := List.getElem?_of_mem ha
          rcases set_get hj with ⟨rfl, rfl⟩ | ⟨_, hj⟩
          · exact .inr ⟨_, hkm, hfa⟩
          · exact .inr ⟨a, List.mem_of_getElem? hj, hfa⟩
      exact (h.sat _ hkm).2 b hb'⟩ (fun T' hT' => by injection hT' with hT'; rw [hT'])
  have e : L.set i (.tp T) = L := by
    apply List.ext_getElem?
    intro j
    rw [List.getElem?_set]
    split
    · subst i; split
      · exact hi.symm
      · rw [List.getElem?_eq_none (by omega)]
    · rfl
  rwa [e] at this

/-- More is known. -/
theorem Hold.add (h : Hold M row w0 w L) {S : World → Prop} (hr : Ro w (Mut M L) S) : Hold M row w0 w (.ro S :: L) := by
  have e : ∀ b, Mut M (.ro S :: L) b → Mut M L b := fun b hb => by
    rcases mut_cons.1 hb with hf | hm
    · cases hf
    · exact hm
  refine ⟨h.grow, h.low, fun k hk => ?_, fun k hk b hf => ?_, ⟨(fun b hf => nomatch hf), h.sep⟩⟩
  · rcases List.mem_cons.1 hk with rfl | hk
    · exact hr.less e
    · exact Hp.sat_step (k := k) (h.sat k hk) (Nat.le_refl _) (fun _ _ _ => rfl) (fun b _ hb => e b hb) (fun _ _ => rfl) (fun _ _ _ _ => rfl)
  · rcases List.mem_cons.1 hk with rfl | hk
    · cases hf
    · exact h.fresh k hk b hf

/-- A row of the call's own, empty. -/
theorem Hold.nil (h : Hold M row w0 w L) (e : TypeId) (size : Nat) : Hold M row w0 w (.own e size (.slice none 0 0) 0 [] :: L) := by
  have ee : ∀ b, Mut M (.own e size (.slice none 0 0) 0 [] :: L) b → Mut M L b := fun b hb => by
    rcases mut_cons.1 hb with hf | hm
    · cases hf
    · exact hm
  refine ⟨h.grow, h.low, fun k hk => ?_, fun k hk b hf => ?_, ⟨(fun b hf => nomatch hf), h.sep⟩⟩
  · rcases List.mem_cons.1 hk with rfl | hk
    · exact World.ownsRow_nil _ _ _ _
    · exact Hp.sat_step (k := k) (h.sat k hk) (Nat.le_refl _) (fun _ _ _ => rfl) (fun b _ hb => ee b hb) (fun _ _ => rfl) (fun _ _ _ _ => rfl)
  · rcases List.mem_cons.1 hk with rfl | hk
    · cases hf
    · exact h.fresh k hk b hf

/-- Less is known. -/
theorem Hold.drop (h : Hold M row w0 w L) (hL : List.Sublist L' L) : Hold M row w0 w L' := by
  have e : ∀ b, Mut M L' b → Mut M L b := fun b hb => by
    rcases hb with hb | ⟨k, hk, hf⟩
    · exact .inl hb
    · exact .inr ⟨k, hL.subset hk, hf⟩
  refine ⟨h.grow, h.low, fun k hk => Hp.sat_step (k := k) (h.sat k (hL.subset hk)) (Nat.le_refl _) (fun _ _ _ => rfl) (fun b _ hb => e b hb) (fun _ _ => rfl) (fun _ _ _ _ => rfl), fun k hk => h.fresh k (hL.subset hk), ?_⟩
  have h1 := h.sep
  clear h e
  induction hL with
  | slnil => trivial
  | cons _ _ ih => exact ih h1.2
  | cons_cons a hs ih => exact ⟨fun b hb k hk => h1.1 b hb k (hs.subset hk), ih h1.2⟩

/-- An item that may be written is laid down for good: whatever its block says. -/
theorem Hold.sealTo (h : Hold M row w0 w L) (i : Nat) {k k' : Hp} (hi : L[i]? = some k) (hk : ∀ T, k ≠ .tp T) (hk' : k'.foot = none) {S : World → Prop}
    (hS : ∀ w2 : World, k.sat w0.heap.size w (Mut M L) → (∀ b, k.foot = some b → w2.heap[b]? = w.heap[b]?) → S w2) (hs : Ro w (Mut M (L.set i k')) S → k'.sat w0.heap.size w (Mut M (L.set i k'))) : Hold M row w0 w (L.set i k') := by
  have hkm := List.mem_of_getElem? hi
  refine h.turn i hi (Nat.le_refl _) ⟨rfl, rfl, rfl⟩ (fun _ _ _ => rfl) (fun b hf => by rw [hk'] at hf; cases hf) (hs ?_) (fun T hT => absurd hT (hk T))
  intro w2 h1 h2
  refine hS w2 (h.sat k hkm) fun b hf => h2 b (h.fresh k hkm b hf).2 ?_
  rintro (hm | ⟨a, ha, hfa⟩)
  · rcases (h.fresh k hkm b hf).1 with h3 | ⟨h3, h4⟩
    · have := h.low b hm; omega
    · exact absurd h4 (hk b)
  · obtain ⟨j, hj⟩ := List.getElem?_of_mem ha
    rcases set_get hj with ⟨rfl, rfl⟩ | ⟨hij, hj⟩
    · rw [hk'] at hfa; cases hfa
    · exact h.sep.mem hi hj hij hf hfa
/-- A block that will not be written again. -/
theorem Hold.fix_ (h : Hold M row w0 w L) (i : Nat) {g : Nat} {t : TypeId} {cs : Array Value} (hi : L[i]? = some (.blk g t cs)) : Hold M row w0 w (L.set i (.cst g t cs)) :=
  h.sealTo i hi (fun T e => nomatch e) rfl (S := fun w => w.heap[g]? = some (.cells cs t (0, 0))) (fun w2 h1 h2 => (h2 g rfl).trans h1) id
/-- A new block that will not be written again. -/
theorem Hold.alloc_cst (h : Hold M row w0 w L) (cs : Array Value) (t : TypeId) : Hold M row w0 (w.alloc (.cells cs t)) (.cst w.heap.size t cs :: L) := (h.alloc cs t).fix_ 0 rfl
/-- A new tape, where nothing that may be written is known. -/
theorem Hold.newTape (h : Hold M row w0 w L) {T : Nat} (hb : Below w.heap.size w w') (ht : Tp w' T) (hT : w.heap.size ≤ T) (hm : ∀ b, ¬ Mut M L b) : Hold M row w0 w' (.tp T :: L) := by
  have h1 := h.call hb
  have hM : ∀ b, Mut M (.tp T :: L) b → b = T := fun b hb => by
    rcases mut_cons.1 hb with hf | hm'
    · injection hf with hf; exact hf.symm
    · exact absurd hm' (hm b)
  have hfo : ∀ k ∈ L, ∀ b, k.foot ≠ some b := fun k hk b hf => hm b (.inr ⟨k, hk, hf⟩)
  refine ⟨h1.grow, h.low, fun k hk => ?_, fun k hk b hf => ?_, ⟨fun b _ k hk => hfo k hk b, h.sep⟩⟩
  · rcases List.mem_cons.1 hk with rfl | hk
    · exact ⟨ht, fun b hb => by rw [hM b hb]; exact Nat.le_refl _⟩
    · exact Hp.sat_step (k := k) (h.sat k hk) hb.size (fun b hl _ => hb.block b hl) (fun b hl hm' => by have := hM b hm'; omega) (fun b hf => absurd hf (hfo k hk b)) (fun T' hT' => absurd (by rw [hT']; rfl) (hfo k hk T'))
  · rcases List.mem_cons.1 hk with rfl | hk
    · injection hf with hf; subst hf; exact ⟨.inl (Nat.le_trans h.grow.size hT), ht.lt⟩
    · exact absurd hf (hfo k hk b)
end
/-- The cells of a block, one by one: what the walk reads. -/
def cellsF (w : World) (g : Nat) : Nat → List Value → Prop
  | _, [] => True
  | i, x :: r => w.cell? ⟨g, i, none⟩ = some x ∧ w.frozen? ⟨g, i, none⟩ = false ∧ cellsF w g (i + 1) r
def factsL (w : World) : List Hp → Prop
  | [] => True
  | .blk g t cs :: L => g < w.heap.size ∧ cellsF w g 0 cs.toList ∧ factsL w L
  | .own _ _ _ _ _ :: L => factsL w L
  | .tp _ :: L => factsL w L
  | .ro _ :: L => factsL w L
  | .cst g t cs :: L => g < w.heap.size ∧ cellsF w g 0 cs.toList ∧ factsL w L
  | .ob _ _ :: L => factsL w L
theorem cellsF_of {w : World} {g : Nat} {t : TypeId} {cs : Array Value} (h : w.heap[g]? = some (.cells cs t (0, 0))) : ∀ (l : List Value) (i : Nat), (∀ j, l[j]? = cs[i + j]?) → cellsF w g i l
  | [], _, _ => trivial
  | x :: r, i, hl => by
    refine ⟨?_, frozen_blk h i, cellsF_of h r (i + 1) fun j => ?_⟩
    · rw [cell_of_row w g i cs t (0, 0) h]; exact (hl 0).symm
    · have := hl (j + 1); rw [show i + 1 + j = i + (j + 1) from by omega]; simpa using this
theorem factsL_of {w : World} {B : Nat} {M : Nat → Prop} : ∀ {L : List Hp}, (∀ h ∈ L, h.sat B w M) → (∀ h ∈ L, ∀ b, h.foot = some b → b < w.heap.size) → factsL w L
  | [], _, _ => trivial
  | .blk g t cs :: L, h, k => ⟨k _ (List.mem_cons_self ..) g rfl, cellsF_of (h _ (List.mem_cons_self ..)) cs.toList 0 (by simp), factsL_of (fun a ha => h a (List.mem_cons_of_mem _ ha)) (fun a ha => k a (List.mem_cons_of_mem _ ha))⟩
  | .own .. :: L, h, k => factsL_of (L := L) (fun a ha => h a (List.mem_cons_of_mem _ ha)) (fun a ha => k a (List.mem_cons_of_mem _ ha))
  | .tp _ :: L, h, k => factsL_of (L := L) (fun a ha => h a (List.mem_cons_of_mem _ ha)) (fun a ha => k a (List.mem_cons_of_mem _ ha))
  | .ro _ :: L, h, k => factsL_of (L := L) (fun a ha => h a (List.mem_cons_of_mem _ ha)) (fun a ha => k a (List.mem_cons_of_mem _ ha))
  | .ob _ _ :: L, h, k => factsL_of (L := L) (fun a ha => h a (List.mem_cons_of_mem _ ha)) (fun a ha => k a (List.mem_cons_of_mem _ ha))
  | .cst g t cs :: L, h, k => by
    have h1 : w.heap[g]? = some (.cells cs t (0, 0)) := Ro.now (show Ro w M (fun w => w.heap[g]? = some (.cells cs t (0, 0))) from h _ (List.mem_cons_self ..))
    refine ⟨?_, cellsF_of h1 cs.toList 0 (by simp), factsL_of (fun a ha => h a (List.mem_cons_of_mem _ ha)) (fun a ha => k a (List.mem_cons_of_mem _ ha))⟩
    rcases Nat.lt_or_ge g w.heap.size with hlt | hge
    · exact hlt
    · rw [Array.getElem?_eq_none hge] at h1; cases h1
theorem Hold.facts {M : Nat → Prop} {row : Option Nat} {w0 w : World} {L : List Hp} (h : Hold M row w0 w L) : factsL w L := factsL_of h.sat fun a ha b hb => (h.fresh a ha b hb).2
/-- The blocks differ. -/
def neF (g : Nat) : List Hp → Prop
  | [] => True
  | .blk g' _ _ :: L => ¬ g = g' ∧ ¬ g' = g ∧ neF g L
  | .own _ _ _ _ _ :: L => neF g L
  | .tp T :: L => ¬ g = T ∧ ¬ T = g ∧ neF g L
  | .ro _ :: L => neF g L
  | .cst _ _ _ :: L => neF g L
  | .ob g' _ :: L => ¬ g = g' ∧ ¬ g' = g ∧ neF g L
def nesL : List Hp → Prop
  | [] => True
  | .blk g _ _ :: L => neF g L ∧ nesL L
  | .own _ _ _ _ _ :: L => nesL L
  | .tp T :: L => neF T L ∧ nesL L
  | .ro _ :: L => nesL L
  | .cst _ _ _ :: L => nesL L
  | .ob g _ :: L => neF g L ∧ nesL L
theorem neF_of {g : Nat} : ∀ {L : List Hp}, (∀ k ∈ L, k.foot ≠ some g) → neF g L
  | [], _ => trivial
  | .blk g' _ _ :: L, h => ⟨fun e => h _ (List.mem_cons_self ..) (by rw [e]; rfl), fun e => h _ (List.mem_cons_self ..) (by rw [← e]; rfl), neF_of fun k hk => h k (List.mem_cons_of_mem _ hk)⟩
  | .own .. :: L, h => neF_of (L := L) fun k hk => h k (List.mem_cons_of_mem _ hk)
  | .tp T :: L, h => ⟨fun e => h _ (List.mem_cons_self ..) (by rw [e]; rfl), fun e => h _ (List.mem_cons_self ..) (by rw [← e]; rfl), neF_of fun k hk => h k (List.mem_cons_of_mem _ hk)⟩
  | .ro _ :: L, h => neF_of (L := L) fun k hk => h k (List.mem_cons_of_mem _ hk)
  | .cst .. :: L, h => neF_of (L := L) fun k hk => h k (List.mem_cons_of_mem _ hk)
  | .ob g' _ :: L, h => ⟨fun e => h _ (List.mem_cons_self ..) (by rw [e]; rfl), fun e => h _ (List.mem_cons_self ..) (by rw [← e]; rfl), neF_of fun k hk => h k (List.mem_cons_of_mem _ hk)⟩
theorem nesL_of : ∀ {L : List Hp}, Apart L → nesL L
  | [], _ => trivial
  | .blk g _ _ :: L, h => ⟨neF_of (h.1 g rfl), nesL_of h.2⟩
  | .own .. :: L, h => nesL_of (L := L) h.2
  | .tp T :: L, h => ⟨neF_of (h.1 T rfl), nesL_of h.2⟩
  | .ro _ :: L, h => nesL_of (L := L) h.2
  | .cst .. :: L, h => nesL_of (L := L) h.2
  | .ob g _ :: L, h => ⟨neF_of (h.1 g rfl), nesL_of h.2⟩
theorem Hold.nes {M : Nat → Prop} {row : Option Nat} {w0 w : World} {L : List Hp} (h : Hold M row w0 w L) : nesL L := nesL_of h.sep
/-- an item by its place -/
theorem Hold.get {M : Nat → Prop} {row : Option Nat} {w0 w : World} {L : List Hp} (h : Hold M row w0 w L) (i : Nat) {k : Hp} (hi : L[i]? = some k) : k.sat w0.heap.size w (Mut M L) := h.sat k (List.mem_of_getElem? hi)
theorem Hold.ro {M : Nat → Prop} {row : Option Nat} {w0 w : World} {L : List Hp} (h : Hold M row w0 w L) (i : Nat) {S : World → Prop} (hi : L[i]? = some (.ro S)) : Ro w (Mut M L) S := h.get i hi
theorem Hold.cst_ {M : Nat → Prop} {row : Option Nat} {w0 w : World} {L : List Hp} (h : Hold M row w0 w L) (i : Nat) {g : Nat} {t : TypeId} {cs : Array Value} (hi : L[i]? = some (.cst g t cs)) : Blk w g t cs := Ro.now (S := fun w => w.heap[g]? = some (.cells cs t (0, 0))) (h.get i hi)
theorem Hold.tp_ {M : Nat → Prop} {row : Option Nat} {w0 w : World} {L : List Hp} (h : Hold M row w0 w L) (i : Nat) {T : Nat} (hi : L[i]? = some (.tp T)) : Tp w T := (h.get i hi).1
/-- no block of a caller's that may be written -/
def None_ (b : Nat) : Prop := False
theorem Hold.begin_ (w : World) : Hold None_ none w w [] := Hold.start None_ w (fun b hb => hb.elim)
end Go.Proofs.YtmopojjhlbjhnaaDoor

namespace Go.Proofs.YtmopojjhlbjhnaaDoor
open Go.RowKit
set_option linter.unusedVariables false

def cmpI (a b : Int) : Int := if a < b then -1 else if b < a then 1 else 0
def cmpS (a b : ByteArray) : Int := if Op.bytesLess a.toList b.toList then -1 else if a.toList == b.toList then 0 else 1

theorem cmp_int (a b : Int) (w : World) :
    Calls Tryd.prog 107 #[.int .i64 a, .int .i64 b] w fun e w' => e = .returned (.int .i64 (cmpI a b)) ∧ w = w' := by
  by_cases h1 : a < b
  · go_enter Tryd.func107, Tryd.ntmps107
    go_wp2
    go_ret
    exact ⟨by simp [cmpI, h1], rfl⟩
  · by_cases h2 : b < a
    · go_enter Tryd.func107, Tryd.ntmps107
      go_wp2
      go_ret
      exact ⟨by simp [cmpI, h1, h2], rfl⟩
    · go_enter Tryd.func107, Tryd.ntmps107
      go_wp2
      go_ret
      exact ⟨by rw [show cmpI a b = 0 from by unfold cmpI; rw [if_neg (by omega), if_neg (by omega)]]; rfl, rfl⟩

theorem cmp_int64 (a b : Int) (w : World) :
    Calls Tryd.prog 138 #[.int .i64 a, .int .i64 b] w fun e w' => e = .returned (.int .i64 (cmpI a b)) ∧ w = w' := by
  by_cases h1 : a < b
  · go_enter Tryd.func138, Tryd.ntmps138
    go_wp2
    go_ret
    exact ⟨by simp [cmpI, h1], rfl⟩
  · by_cases h2 : b < a
    · go_enter Tryd.func138, Tryd.ntmps138
      go_wp2
      go_ret
      exact ⟨by simp [cmpI, h1, h2], rfl⟩
    · go_enter Tryd.func138, Tryd.ntmps138
      go_wp2
      go_ret
      exact ⟨by rw [show cmpI a b = 0 from by unfold cmpI; rw [if_neg (by omega), if_neg (by omega)]]; rfl, rfl⟩

theorem cmp_string (a b : ByteArray) (w : World) :
    Calls Tryd.prog 139 #[.string a, .string b] w fun e w' => e = .returned (.int .i64 (cmpS a b)) ∧ w = w' := by
  cases h1 : Op.bytesLess a.toList b.toList
  · cases h2 : (a.toList == b.toList)
    · go_enter Tryd.func139, Tryd.ntmps139
      go_wp2
      go_ret
      exact ⟨by simp [cmpS, h1, h2], rfl⟩
    · go_enter Tryd.func139, Tryd.ntmps139
      go_wp2
      go_ret
      exact ⟨by simp [cmpS, h1, h2], rfl⟩
  · go_enter Tryd.func139, Tryd.ntmps139
    go_wp2
    go_ret
    exact ⟨by simp [cmpS, h1], rfl⟩

/-- The first number that is not 0, or 0. -/
def firstNZ : List Int → Int
  | [] => 0
  | x :: r => if x = 0 then firstNZ r else x

theorem firstNZ_skip (l : List Int) (k : Nat) (h : ∀ j, j < k → l.getD j 0 = 0) : firstNZ l = firstNZ (l.drop k) := by
  induction k generalizing l with
  | zero => simp
  | succ k ih =>
    cases l with
    | nil => simp
    | cons x r =>
      have h0 : x = 0 := by simpa using h 0 (by omega)
      simp only [firstNZ, h0, if_true, List.drop_succ_cons]
      exact ih r (fun j hj => by simpa using h (j + 1) (by omega))

set_option maxHeartbeats 1000000 in
theorem or_int (A : Option Addr) (n c : Nat) (zs : List Int) (w : World) (B : Nat) (hr : Rd w B 1 A n (zs.map (Value.int .i64))) (hn : n ≤ 9223372036854775807) :
    Calls Tryd.prog 137 #[.slice A n c] w fun e w' => e = .returned (.int .i64 (firstNZ zs)) ∧ w = w' := by
  have hl : zs.length = n := by simpa using hr.1
  have HL := hid hl; clear hl
  go_enter Tryd.func137, Tryd.ntmps137
  go_wp2_with fail
  go_loop [8] (fun i => ∃ k : Nat, k ≤ n ∧ i = .int .i64 k ∧ ∀ j, j < k → zs.getD j 0 = 0) (fun i => n - (intOf i).toNat)
  case atStart => exact ⟨0, by omega, rfl, fun j hj => absurd hj (by omega)⟩
  case round =>
    obtain ⟨k, hk, rfl, hz⟩ := hrel
    have HZ := hid hz; clear hz
    by_cases hlt : k < n
    · obtain ⟨b, o, rfl, hb, hc⟩ := hr.at1 hlt
      rw [ints_get _ _ _ (by rw [HL.out]; omega)] at hc
      obtain ⟨x, hx⟩ : ∃ x, x = zs.getD k 0 := ⟨_, rfl⟩
      rw [← hx] at hc
      have HX := hid hx; clear hx
      by_cases h0 : x = 0
      · have k0 : (x != 0) = false := by simpa using h0
        have H0 := hid h0; clear h0
        go_wp2_with fail
        go_round
        case rel =>
          refine ⟨k + 1, by omega, by go_num, fun j hj => ?_⟩
          by_cases e : j = k
          · subst e; rw [← HX.out]; exact H0.out
          · exact HZ.out j (by omega)
        case measure => simp [intOf]; omega
      · have k0 : (x != 0) = true := by simpa using h0
        have HF : Hid (firstNZ zs = x) := by
          unfold Hid
          rw [firstNZ_skip zs k HZ.out, List.drop_eq_getElem_cons (by rw [HL.out]; omega)]
          have : zs[k]'(by rw [HL.out]; omega) = x := by rw [HX.out]; simp [List.getD, show k < zs.length by rw [HL.out]; omega]
          rw [this, firstNZ, if_neg h0]
        clear h0
        go_wp2_with fail
        go_ret
        exact ⟨by rw [HF.out]; rfl, rfl⟩
    · obtain rfl : k = n := by omega
      have HF : Hid (firstNZ zs = 0) := by
        unfold Hid
        rw [firstNZ_skip zs k HZ.out, List.drop_of_length_le (by rw [HL.out]; omega)]; rfl
      go_wp2
      go_ret
      exact ⟨by rw [HF.out]; rfl, rfl⟩

theorem six {w : World} {g g' : Nat} {t : TypeId} {x y z x' y' z' : Value} (h : Blk w g t #[x, y, z]) (h' : Blk w g' t #[x', y', z']) :
    w.cell? ⟨g, 0, none⟩ = some x ∧ w.cell? ⟨g, 1, none⟩ = some y ∧ w.cell? ⟨g, 2, none⟩ = some z ∧ w.cell? ⟨g', 0, none⟩ = some x' ∧ w.cell? ⟨g', 1, none⟩ = some y' ∧ w.cell? ⟨g', 2, none⟩ = some z' := ⟨h.cell 0, h.cell 1, h.cell 2, h'.cell 0, h'.cell 1, h'.cell 2⟩

/-- The comparison of two values. -/
def cmpV (k1 i1 : Int) (s1 : ByteArray) (k2 i2 : Int) (s2 : ByteArray) : Int := firstNZ [cmpI k1 k2, cmpI i1 i2, cmpS s1 s2]

set_option maxHeartbeats 1000000 in
theorem vcompare_any (k1 i1 : Int) (s1 : ByteArray) (k2 i2 : Int) (s2 : ByteArray) (w : World) :
    Calls Tryd.prog 106 #[.agg #[.int .i64 k1, .int .i64 i1, .string s1], .agg #[.int .i64 k2, .int .i64 i2, .string s2]] w fun e w' => e = .returned (.int .i64 (cmpV k1 i1 s1 k2 i2 s2)) ∧ Below w.heap.size w w' := by
  obtain ⟨x, hx⟩ : ∃ x, x = cmpI k1 k2 := ⟨_, rfl⟩
  obtain ⟨y, hy⟩ : ∃ y, y = cmpI i1 i2 := ⟨_, rfl⟩
  obtain ⟨z, hz⟩ : ∃ z, z = cmpS s1 s2 := ⟨_, rfl⟩
  have c1 := fun w => cmp_int k1 k2 w
  have c2 := fun w => cmp_int64 i1 i2 w
  have c3 := fun w => cmp_string s1 s2 w
  rw [← hx] at c1
  rw [← hy] at c2
  rw [← hz] at c3
  have HF : Hid (cmpV k1 i1 s1 k2 i2 s2 = firstNZ [x, y, z]) := by unfold Hid cmpV; rw [hx, hy, hz]
  have C1 := hid c1; have C2 := hid c2; have C3 := hid c3
  clear c1 c2 c3 hx hy hz
  have B0 := (Blk.new w 57 #[.int .i64 k1, .int .i64 i1, .string s1]).alloc (.cells #[.int .i64 k2, .int .i64 i2, .string s2] 57)
  have B1 : Blk ((w.alloc (.cells #[.int .i64 k1, .int .i64 i1, .string s1] 57)).alloc (.cells #[.int .i64 k2, .int .i64 i2, .string s2] 57)) (w.heap.size + 1) 57 #[.int .i64 k2, .int .i64 i2, .string s2] := by
    have := Blk.new (w.alloc (.cells #[.int .i64 k1, .int .i64 i1, .string s1] 57)) 57 #[.int .i64 k2, .int .i64 i2, .string s2]
    simpa using this
  have RO : Rd (((w.alloc (.cells #[.int .i64 k1, .int .i64 i1, .string s1] 57)).alloc (.cells #[.int .i64 k2, .int .i64 i2, .string s2] 57)).alloc (.cells #[.int .i64 x, .int .i64 y, .int .i64 z] 3)) (w.heap.size + 1 + 1 + 1) 1 (some ⟨w.heap.size + 1 + 1, 0, none⟩) 3 ([x, y, z].map (Value.int .i64)) := by
    have := Rd.lit ((w.alloc (.cells #[.int .i64 k1, .int .i64 i1, .string s1] 57)).alloc (.cells #[.int .i64 k2, .int .i64 i2, .string s2] 57)) #[.int .i64 x, .int .i64 y, .int .i64 z] 3 (size := 1) (n := 3) (xs := [x, y, z].map (Value.int .i64)) rfl rfl
    simpa using this
  go_enter Tryd.func106, Tryd.ntmps106
  go_wp2_with fail
  go_region_held3 (fun w' => w'.cell? ⟨w.heap.size, 0, none⟩ = some (.int .i64 k1) ∧ w'.cell? ⟨w.heap.size, 1, none⟩ = some (.int .i64 i1) ∧ w'.cell? ⟨w.heap.size, 2, none⟩ = some (.string s1) ∧ w'.cell? ⟨w.heap.size + 1, 0, none⟩ = some (.int .i64 k2) ∧ w'.cell? ⟨w.heap.size + 1, 1, none⟩ = some (.int .i64 i2) ∧ w'.cell? ⟨w.heap.size + 1, 2, none⟩ = some (.string s2))
    (first | exact six B0 B1 | exact six (B0.alloc _) (B1.alloc _))
    (first
      | (go_at_call 107; ((with_reducible refine (C1.out _).mono ?_); rintro e w3 ⟨rfl, rfl⟩))
      | (go_at_call 138; ((with_reducible refine (C2.out _).mono ?_); rintro e w3 ⟨rfl, rfl⟩))
      | (go_at_call 139; ((with_reducible refine (C3.out _).mono ?_); rintro e w3 ⟨rfl, rfl⟩))
      | (go_at_call 137; ((with_reducible refine (or_int _ 3 3 [x, y, z] _ _ (Rd.drew RO) (by omega)).mono ?_); rintro e w4 ⟨rfl, rfl⟩)))
  go_wp2_with fail
  go_ret
  exact ⟨by rw [HF.out]; rfl, (ext3 _ _ _ _).drew⟩
end Go.Proofs.YtmopojjhlbjhnaaDoor

namespace Go.Proofs.YtmopojjhlbjhnaaDoor
open Go.RowKit
set_option linter.unusedVariables false

/-- Null, false, true as values of the store. -/
def tv : Option Bool → Value
  | none => .agg #[.int .i64 0, .int .i64 0, .string ⟨#[]⟩]
  | some false => .agg #[.int .i64 2, .int .i64 0, .string ⟨#[]⟩]
  | some true => .agg #[.int .i64 2, .int .i64 1, .string ⟨#[]⟩]
def not3 : Option Bool → Option Bool
  | none => none
  | some b => some (!b)
def and3 : Option Bool → Option Bool → Option Bool
  | some false, _ => some false
  | _, some false => some false
  | some true, some true => some true
  | _, _ => none
def or3 (x y : Option Bool) : Option Bool := not3 (and3 (not3 x) (not3 y))

set_option maxHeartbeats 400000 in
theorem truth_any (b : Bool) (w : World) :
    Calls Tryd.prog 117 #[.bool b] w fun e w' => e = .returned (.agg #[.int .i64 2, .int .i64 (bif b then 1 else 0), .string ⟨#[]⟩]) ∧ Below w.heap.size w w' := by
  cases b
  all_goals
    go_enter Tryd.func117, Tryd.ntmps117
    go_wp2
    refine bodyPost_ret (v := .agg #[.int .i64 2, .int .i64 _, .string ⟨#[]⟩]) (by simp [results, Tryd.results117, go_sem]) rfl ⟨rfl, ?_⟩
    exact ((Below.refl _ _).alloc (Nat.le_refl _) _).alloc (by simp) _

theorem set3 {B g : Nat} {a w : World} (h : Below B a w) (hg : B ≤ g) (x y z : Value) : Below B a (((w.setCell ⟨g, 0, none⟩ x).setCell ⟨g, 1, none⟩ y).setCell ⟨g, 2, none⟩ z) :=
  Below.setCell (p := ⟨g, 2, none⟩) (Below.setCell (p := ⟨g, 1, none⟩) (Below.setCell (p := ⟨g, 0, none⟩) h hg _) hg _) hg _
theorem size_set (w : World) (p : Addr) (u : Value) : (w.setCell p u).heap.size = w.heap.size := by simp [World.setCell]
theorem below_size {W w1 : World} {B : Nat} (hb : Below B W w1) {n : Nat} (h : n < W.heap.size) : n < w1.heap.size := Nat.lt_of_lt_of_le h hb.size

set_option maxHeartbeats 1000000 in
theorem not_tv (x : Option Bool) (w : World) :
    Calls Tryd.prog 75 #[tv x] w fun e w' => e = .returned (.tuple #[tv (not3 x), .bool true]) ∧ Below w.heap.size w w' := by
  rcases x with _ | _ | _
  · simp only [tv, not3]
    go_enter Tryd.func75, Tryd.ntmps75
    go_wp2
    refine bodyPost_ret (v := .tuple #[tv none, .bool true]) (by simp [results, Tryd.results75, go_sem, tv]) rfl ⟨rfl, ?_⟩
    repeat (first | exact Below.refl _ _ | refine Below.alloc ?_ (by first | exact Nat.le_refl _ | (simp only [World.size_alloc]; omega)) _)
  all_goals
    simp only [tv, not3, Bool.not_true, Bool.not_false]
    go_enter Tryd.func75, Tryd.ntmps75
    go_wp2_with (first | (go_at_call 117; refine (truth_any _ _).mono ?_; rintro e w1 ⟨rfl, b1⟩; obtain ⟨hc, hf⟩ := below_cells b1; have hz := below_size b1 (n := w.heap.size + 1) (by simp only [World.size_alloc]; omega)) | go_in)
    refine bodyPost_ret (v := .tuple #[.agg #[.int .i64 2, .int .i64 _, .string ⟨#[]⟩], .bool true]) (by simp [results, Tryd.results75, go_sem, hc]) rfl ⟨rfl, ?_⟩
    refine Below.setCell (p := ⟨w.heap.size + 1, 2, none⟩) (Below.setCell (p := ⟨w.heap.size + 1, 1, none⟩) (Below.setCell (p := ⟨w.heap.size + 1, 0, none⟩) ?_ (by simp) _) (by simp) _) (by simp) _
    refine Below.trans ?_ (b1.mono (by simp only [World.size_alloc]; omega))
    repeat (first | exact Below.refl _ _ | refine Below.alloc ?_ (by first | exact Nat.le_refl _ | (simp only [World.size_alloc]; omega)) _)

set_option maxHeartbeats 2000000 in
theorem and1_tv (x y : Option Bool) (w : World) :
    Calls Tryd.prog 118 #[tv x, tv y] w fun e w' => e = .returned (tv (and3 x y)) ∧ Below w.heap.size w w' := by
  rcases x with _ | _ | _ <;> rcases y with _ | _ | _
  all_goals
    simp only [tv, and3]
    go_enter Tryd.func118, Tryd.ntmps118
    go_wp2_with fail
    refine (truth_any _ _).mono ?_; rintro e w1 ⟨rfl, b1⟩; obtain ⟨hc, hf⟩ := below_cells b1; have hz := below_size b1 (n := w.heap.size + 1 + 1) (by simp only [World.size_alloc]; omega); have hz1 : w.heap.size + 1 < w1.heap.size := by omega
    have hz0 : w.heap.size < w1.heap.size := by omega
    go_wp2_with (go_at_call 117; refine (truth_any _ _).mono ?_; rintro e w2 ⟨rfl, b2⟩; obtain ⟨hc2, hf2⟩ := below_cells b2; have hzz := below_size b2 (n := w.heap.size + 1 + 1) (by simp only [World.size_alloc]; omega))
    first
      | (refine bodyPost_ret (v := .agg #[.int .i64 _, .int .i64 _, .string ⟨#[]⟩]) (by simp [results, Tryd.results118, go_sem, hc2, hc, hz, hz1]) rfl ⟨rfl, ?_⟩
         refine set3 ?_ (by omega) _ _ _
         refine Below.trans (Below.alloc (Below.trans ?_ (b1.mono (by simp only [World.size_alloc]; omega))) (by omega) _) (b2.mono (by simp only [World.size_alloc]; omega))
         repeat (first | exact Below.refl _ _ | refine Below.alloc ?_ (by first | exact Nat.le_refl _ | (simp only [World.size_alloc]; omega)) _))
      | (refine bodyPost_ret (v := .agg #[.int .i64 _, .int .i64 _, .string ⟨#[]⟩]) (by simp [results, Tryd.results118, go_sem, hc, hz]) rfl ⟨rfl, ?_⟩
         refine Below.alloc (set3 (Below.trans ?_ (b1.mono (by simp only [World.size_alloc]; omega))) (by omega) _ _ _) (by simp only [size_set]; omega) _
         repeat (first | exact Below.refl _ _ | refine Below.alloc ?_ (by first | exact Nat.le_refl _ | (simp only [World.size_alloc]; omega)) _))
end Go.Proofs.YtmopojjhlbjhnaaDoor

namespace Go.Proofs.YtmopojjhlbjhnaaDoor
open Go.RowKit
set_option linter.unusedVariables false

/-- A call that gives a value, and turns nothing that was there. -/
def Gives (f : FuncId) (args : Array Value) (v : Value) : Prop :=
  ∀ w : World, Calls Tryd.prog f args w fun e w' => e = .returned v ∧ Below w.heap.size w w'

end Go.Proofs.YtmopojjhlbjhnaaDoor

namespace Go.Proofs.YtmopojjhlbjhnaaDoor
open Go.RowKit
set_option linter.unusedVariables false

set_option maxHeartbeats 2000000 in
theorem and_tv (x y : Option Bool) (w : World) :
    Calls Tryd.prog 77 #[tv x, tv y] w fun e w' => e = .returned (.tuple #[tv (and3 x y), .bool true]) ∧ Below w.heap.size w w' := by
  have hA := and1_tv x y
  obtain ⟨r, hr⟩ : ∃ r, r = and3 x y := ⟨_, rfl⟩
  rcases x with _ | _ | _ <;> rcases y with _ | _ | _
  all_goals
    simp only [and3] at hr
    subst hr
    simp only [tv, and3] at hA ⊢
    have HA := hid hA; clear hA
    go_enter Tryd.func77, Tryd.ntmps77
    go_wp2_with (first | (go_at_call 118; refine (HA.out _).mono ?_; rintro e w1 ⟨rfl, b1⟩; obtain ⟨hc, hf⟩ := below_cells b1; have hz := below_size b1 (n := w.heap.size + 1 + 1) (by simp only [World.size_alloc]; omega)) | go_in)
    refine bodyPost_ret (v := .tuple #[.agg #[.int .i64 _, .int .i64 _, .string ⟨#[]⟩], .bool true]) (by simp [results, Tryd.results77, go_sem, hc]) rfl ⟨rfl, ?_⟩
    refine set3 (Below.trans ?_ (b1.mono (by simp only [World.size_alloc]; omega))) (by omega) _ _ _
    repeat (first | exact Below.refl _ _ | refine Below.alloc ?_ (by first | exact Nat.le_refl _ | (simp only [World.size_alloc]; omega)) _)

theorem lvalid_tv (x : Option Bool) : Gives 85 #[tv x] (.bool true) := by
  intro w
  rcases x with _ | _ | _
  all_goals
    simp only [tv]
    go_enter Tryd.func85, Tryd.ntmps85
    go_wp2
    go_ret
    exact ⟨rfl, ((Below.refl _ _).alloc (Nat.le_refl _) _).alloc (by simp) _⟩

set_option maxHeartbeats 2000000 in
theorem or_core (k1 i1 k2 i2 kp ip kq iq kr ir kt it : Int) (s1 s2 sp sq sr st : ByteArray) (t1 t2 t3 : Bool)
    (v1 : Gives 85 #[.agg #[.int .i64 k1, .int .i64 i1, .string s1]] (.bool true)) (v2 : Gives 85 #[.agg #[.int .i64 k2, .int .i64 i2, .string s2]] (.bool true))
    (n1 : Gives 75 #[.agg #[.int .i64 k1, .int .i64 i1, .string s1]] (.tuple #[.agg #[.int .i64 kp, .int .i64 ip, .string sp], .bool t1]))
    (n2 : Gives 75 #[.agg #[.int .i64 k2, .int .i64 i2, .string s2]] (.tuple #[.agg #[.int .i64 kq, .int .i64 iq, .string sq], .bool t2]))
    (c : Gives 118 #[.agg #[.int .i64 kp, .int .i64 ip, .string sp], .agg #[.int .i64 kq, .int .i64 iq, .string sq]] (.agg #[.int .i64 kr, .int .i64 ir, .string sr]))
    (n3 : Gives 75 #[.agg #[.int .i64 kr, .int .i64 ir, .string sr]] (.tuple #[.agg #[.int .i64 kt, .int .i64 it, .string st], .bool t3])) :
    Gives 79 #[.agg #[.int .i64 k1, .int .i64 i1, .string s1], .agg #[.int .i64 k2, .int .i64 i2, .string s2]] (.tuple #[.agg #[.int .i64 kt, .int .i64 it, .string st], .bool t3]) := by
  intro w
  go_enter Tryd.func79, Tryd.ntmps79
  go_wp2_with fail
  refine (v1 _).mono ?_
  rintro e w1 ⟨rfl, b1⟩
  obtain ⟨hc1, hf1⟩ := below_cells b1
  have z12 := below_size b1 (n := w.heap.size + 1 + 1) (by simp only [World.size_alloc]; omega)
  have z11 : w.heap.size + 1 < w1.heap.size := by omega
  have z10 : w.heap.size < w1.heap.size := by omega
  go_wp2_with fail
  refine (v2 _).mono ?_
  rintro e w2 ⟨rfl, b2⟩
  obtain ⟨hc2, hf2⟩ := below_cells b2
  have z22 := below_size b2 (n := w.heap.size + 1 + 1) (by omega)
  have z21 : w.heap.size + 1 < w2.heap.size := by omega
  have z20 : w.heap.size < w2.heap.size := by omega
  go_wp2_with fail
  refine (n1 _).mono ?_
  rintro e w3 ⟨rfl, b3⟩
  obtain ⟨hc3, hf3⟩ := below_cells b3
  have z32 := below_size b3 (n := w.heap.size + 1 + 1) (by omega)
  have z31 : w.heap.size + 1 < w3.heap.size := by omega
  have z30 : w.heap.size < w3.heap.size := by omega
  go_wp2_with fail
  refine (n2 _).mono ?_
  rintro e w4 ⟨rfl, b4⟩
  obtain ⟨hc4, hf4⟩ := below_cells b4
  have z43 := below_size b4 (n := w3.heap.size) (by simp only [World.size_alloc]; omega)
  have z42 : w.heap.size + 1 + 1 < w4.heap.size := by omega
  have z41 : w.heap.size + 1 < w4.heap.size := by omega
  have z40 : w.heap.size < w4.heap.size := by omega
  go_wp2_with fail
  refine (c _).mono ?_
  rintro e w5 ⟨rfl, b5⟩
  obtain ⟨hc5, hf5⟩ := below_cells b5
  have z52 := below_size b5 (n := w.heap.size + 1 + 1) (by simp only [World.size_alloc]; omega)
  go_wp2_with fail
  refine (n3 _).mono ?_
  rintro e w6 ⟨rfl, b6⟩
  obtain ⟨hc6, hf6⟩ := below_cells b6
  have z62 := below_size b6 (n := w.heap.size + 1 + 1) (by omega)
  have y31 : w.heap.size + 1 + 1 < w3.heap.size + 1 := by omega
  have y41 : w.heap.size + 1 + 1 < w4.heap.size + 1 := by omega
  go_wp2_with fail
  refine bodyPost_ret (v := .tuple #[.agg #[.int .i64 _, .int .i64 _, .string _], .bool _]) (by simp [results, Tryd.results79, go_sem, hc6, hc5, hc4, hc3, hc2, hc1, z52, z42, z32, z22, z12, y31, y41]) rfl ⟨rfl, ?_⟩
  refine set3 ?_ (by omega) _ _ _
  have l := Nat.le_refl w.heap.size
  have a1 : Below w.heap.size w w1 := Below.trans (by repeat (first | exact Below.refl _ _ | refine Below.alloc ?_ (by first | exact Nat.le_refl _ | (simp only [World.size_alloc]; omega)) _)) (b1.mono (by simp only [World.size_alloc]; omega))
  have a2 := bnext a1 b2 l
  have a3 := bnext a2 b3 l
  have a4 : Below w.heap.size w w4 := bnext (a3.alloc (by omega) _) b4 l
  exact bnext (bnext (a4.alloc (by omega) _) b5 l) b6 l

theorem or_tv (x y : Option Bool) : Gives 79 #[tv x, tv y] (.tuple #[tv (or3 x y), .bool true]) := by
  have v1 := lvalid_tv x
  have v2 := lvalid_tv y
  have hN1 := not_tv x
  have hN2 := not_tv y
  have hA := and1_tv (not3 x) (not3 y)
  have hN3 := not_tv (and3 (not3 x) (not3 y))
  rcases x with _ | _ | _ <;> rcases y with _ | _ | _ <;> exact or_core _ _ _ _ _ _ _ _ _ _ _ _ _ _ _ _ _ _ _ _ _ v1 v2 hN1 hN2 hA hN3
end Go.Proofs.YtmopojjhlbjhnaaDoor

namespace Go.Proofs.YtmopojjhlbjhnaaDoor
open Go.RowKit
set_option linter.unusedVariables false
set_option linter.unusedSimpArgs false

def cmp3 (k1 i1 : Int) (s1 : ByteArray) (k2 i2 : Int) (s2 : ByteArray) : Int × Bool × Bool :=
  if validB k1 i1 s1 && validB k2 i2 s2 then (if k1 == 0 || k2 == 0 then (0, true, true) else if k1 == k2 then (cmpV k1 i1 s1 k2 i2 s2, false, true) else (0, false, false)) else (0, false, false)

set_option maxHeartbeats 1000000 in
theorem lcompare_any (k1 i1 : Int) (s1 : ByteArray) (k2 i2 : Int) (s2 : ByteArray) (h1 : s1.size ≤ maxLen) (h2 : s2.size ≤ maxLen) (w : World) :
    Calls Tryd.prog 119 #[.agg #[.int .i64 k1, .int .i64 i1, .string s1], .agg #[.int .i64 k2, .int .i64 i2, .string s2]] w fun e w' =>
      e = .returned (.tuple #[.int .i64 (cmp3 k1 i1 s1 k2 i2 s2).1, .bool (cmp3 k1 i1 s1 k2 i2 s2).2.1, .bool (cmp3 k1 i1 s1 k2 i2 s2).2.2]) ∧ Below w.heap.size w w' := by
  have v1 := fun w => valid_any k1 i1 s1 w h1
  have v2 := fun w => valid_any k2 i2 s2 w h2
  cases e1 : validB k1 i1 s1
  · rw [e1] at v1
    have V1 := hid v1; clear v1 v2
    go_enter Tryd.func119, Tryd.ntmps119
    go_wp2_with fail
    refine (V1.out _).mono ?_
    rintro e w1 ⟨rfl, rfl⟩
    go_wp2_with fail
    go_ret3
    exact ⟨by simp [cmp3, e1], ext3 _ _ _ _⟩
  rw [e1] at v1
  have V1 := hid v1; clear v1
  cases e2 : validB k2 i2 s2
  · rw [e2] at v2
    have V2 := hid v2; clear v2
    go_enter Tryd.func119, Tryd.ntmps119
    go_wp2_with fail
    refine (V1.out _).mono ?_
    rintro e w1 ⟨rfl, rfl⟩
    go_wp2_with fail
    refine (V2.out _).mono ?_
    rintro e w1 ⟨rfl, rfl⟩
    go_wp2_with fail
    go_ret3
    exact ⟨by simp [cmp3, e1, e2], ext4 _ _ _ _ _⟩
  rw [e2] at v2
  have V2 := hid v2; clear v2
  have HC := hid (fun w => vcompare_any k1 i1 s1 k2 i2 s2 w)
  obtain ⟨c, hc⟩ : ∃ c, c = cmpV k1 i1 s1 k2 i2 s2 := ⟨_, rfl⟩
  cases z1 : (k1 == 0) <;> cases z2 : (k2 == 0)
  · cases ek : (k1 == k2)
    · have ek' : (k1 != k2) = true := by simp only [bne, ek, Bool.not_false]
      go_enter Tryd.func119, Tryd.ntmps119
      go_wp2_with fail
      refine (V1.out _).mono ?_
      rintro e w1 ⟨rfl, rfl⟩
      go_wp2_with fail
      refine (V2.out _).mono ?_
      rintro e w1 ⟨rfl, rfl⟩
      go_wp2_with fail
      go_ret3
      exact ⟨by simp [cmp3, e1, e2, z1, z2, ek], ext4 _ _ _ _ _⟩
    · have ek' : (k1 != k2) = false := by simp only [bne, ek, Bool.not_true]
      go_enter Tryd.func119, Tryd.ntmps119
      go_wp2_with fail
      refine (V1.out _).mono ?_
      rintro e w1 ⟨rfl, rfl⟩
      go_wp2_with fail
      refine (V2.out _).mono ?_
      rintro e w1 ⟨rfl, rfl⟩
      go_wp2_with fail
      refine (HC.out _).mono ?_
      rintro e w1 ⟨rfl, b1⟩
      go_wp2_with fail
      go_ret3
      exact ⟨by simp [cmp3, e1, e2, z1, z2, ek], bnext (ext4 _ _ _ _ _) b1 (Nat.le_refl _)⟩
  all_goals
    go_enter Tryd.func119, Tryd.ntmps119
    go_wp2_with fail
    refine (V1.out _).mono ?_
    rintro e w1 ⟨rfl, rfl⟩
    go_wp2_with fail
    refine (V2.out _).mono ?_
    rintro e w1 ⟨rfl, rfl⟩
    go_wp2_with fail
    go_ret3
    exact ⟨by simp [cmp3, e1, e2, z1, z2], ext4 _ _ _ _ _⟩

/-- The answer of Equal and Less: null where one is null, else the truth of the test. -/
def ansV (t : Int → Bool) (r : Int × Bool × Bool) : Value :=
  if r.2.2 && !r.2.1 then .agg #[.int .i64 2, .int .i64 (bif t r.1 then 1 else 0), .string ⟨#[]⟩] else .agg #[.int .i64 0, .int .i64 0, .string ⟨#[]⟩]

set_option maxHeartbeats 1000000 in
theorem equal_any (k1 i1 : Int) (s1 : ByteArray) (k2 i2 : Int) (s2 : ByteArray) (h1 : s1.size ≤ maxLen) (h2 : s2.size ≤ maxLen) :
    Gives 81 #[.agg #[.int .i64 k1, .int .i64 i1, .string s1], .agg #[.int .i64 k2, .int .i64 i2, .string s2]] (.tuple #[ansV (fun c => c == 0) (cmp3 k1 i1 s1 k2 i2 s2), .bool (cmp3 k1 i1 s1 k2 i2 s2).2.2]) := by
  intro w
  have hc := lcompare_any k1 i1 s1 k2 i2 s2 h1 h2
  obtain ⟨⟨c, n, ok⟩, hr⟩ : ∃ r, r = cmp3 k1 i1 s1 k2 i2 s2 := ⟨_, rfl⟩
  rw [← hr] at hc ⊢
  simp only at hc
  have HC := hid hc; clear hc hr
  have HT := hid (fun b w => truth_any b w)
  cases ok <;> cases n
  case' true.false =>
    simp only [ansV, Bool.not_false, Bool.and_true, if_true]
    go_enter Tryd.func81, Tryd.ntmps81
    go_wp2_with fail
    refine (HC.out _).mono ?_
    rintro e w1 ⟨rfl, b1⟩
    obtain ⟨hc1, hf1⟩ := below_cells b1
    have z12 := below_size b1 (n := w.heap.size + 1 + 1) (by simp only [World.size_alloc]; omega)
    go_wp2_with fail
    refine (HT.out _ _).mono ?_
    rintro e w2 ⟨rfl, b2⟩
    obtain ⟨hc2, hf2⟩ := below_cells b2
    have z22 := below_size b2 (n := w.heap.size + 1 + 1) (by omega)
    go_wp2_with fail
    refine bodyPost_ret (v := .tuple #[.agg #[.int .i64 2, .int .i64 _, .string ⟨#[]⟩], .bool true]) (by simp [results, Tryd.results81, go_sem, hc2, hc1, z12, z22]) rfl ⟨rfl, ?_⟩
    have a1 : Below w.heap.size w w1 := (ext3 _ _ _ _).trans (b1.mono (by simp only [World.size_alloc]; omega))
    exact set3 (bnext a1 b2 (Nat.le_refl _)) (by omega) _ _ _
  all_goals
    simp only [ansV, Bool.not_false, Bool.not_true, Bool.and_true, Bool.and_false, Bool.false_and, if_false, Bool.false_eq_true]
    go_enter Tryd.func81, Tryd.ntmps81
    go_wp2_with fail
    refine (HC.out _).mono ?_
    rintro e w1 ⟨rfl, b1⟩
    obtain ⟨hc1, hf1⟩ := below_cells b1
    have z12 := below_size b1 (n := w.heap.size + 1 + 1) (by simp only [World.size_alloc]; omega)
    go_wp2_with fail
    refine bodyPost_ret (v := .tuple #[.agg #[.int .i64 0, .int .i64 0, .string ⟨#[]⟩], .bool _]) (by simp [results, Tryd.results81, go_sem, hc1, z12]) rfl ⟨rfl, ?_⟩
    exact set3 ((ext3 _ _ _ _).trans (b1.mono (by simp only [World.size_alloc]; omega))) (by omega) _ _ _

set_option maxHeartbeats 1000000 in
theorem less_any (k1 i1 : Int) (s1 : ByteArray) (k2 i2 : Int) (s2 : ByteArray) (h1 : s1.size ≤ maxLen) (h2 : s2.size ≤ maxLen) :
    Gives 83 #[.agg #[.int .i64 k1, .int .i64 i1, .string s1], .agg #[.int .i64 k2, .int .i64 i2, .string s2]] (.tuple #[ansV (fun c => decide (c < 0)) (cmp3 k1 i1 s1 k2 i2 s2), .bool (cmp3 k1 i1 s1 k2 i2 s2).2.2]) := by
  intro w
  have hc := lcompare_any k1 i1 s1 k2 i2 s2 h1 h2
  obtain ⟨⟨c, n, ok⟩, hr⟩ : ∃ r, r = cmp3 k1 i1 s1 k2 i2 s2 := ⟨_, rfl⟩
  rw [← hr] at hc ⊢
  simp only at hc
  have HC := hid hc; clear hc hr
  have HT := hid (fun b w => truth_any b w)
  cases ok <;> cases n
  case' true.false =>
    simp only [ansV, Bool.not_false, Bool.and_true, if_true]
    go_enter Tryd.func83, Tryd.ntmps83
    go_wp2_with fail
    refine (HC.out _).mono ?_
    rintro e w1 ⟨rfl, b1⟩
    obtain ⟨hc1, hf1⟩ := below_cells b1
    have z12 := below_size b1 (n := w.heap.size + 1 + 1) (by simp only [World.size_alloc]; omega)
    go_wp2_with fail
    refine (HT.out _ _).mono ?_
    rintro e w2 ⟨rfl, b2⟩
    obtain ⟨hc2, hf2⟩ := below_cells b2
    have z22 := below_size b2 (n := w.heap.size + 1 + 1) (by omega)
    go_wp2_with fail
    refine bodyPost_ret (v := .tuple #[.agg #[.int .i64 2, .int .i64 _, .string ⟨#[]⟩], .bool true]) (by simp [results, Tryd.results83, go_sem, hc2, hc1, z12, z22]) rfl ⟨rfl, ?_⟩
    have a1 : Below w.heap.size w w1 := (ext3 _ _ _ _).trans (b1.mono (by simp only [World.size_alloc]; omega))
    exact set3 (bnext a1 b2 (Nat.le_refl _)) (by omega) _ _ _
  all_goals
    simp only [ansV, Bool.not_false, Bool.not_true, Bool.and_true, Bool.and_false, Bool.false_and, if_false, Bool.false_eq_true]
    go_enter Tryd.func83, Tryd.ntmps83
    go_wp2_with fail
    refine (HC.out _).mono ?_
    rintro e w1 ⟨rfl, b1⟩
    obtain ⟨hc1, hf1⟩ := below_cells b1
    have z12 := below_size b1 (n := w.heap.size + 1 + 1) (by simp only [World.size_alloc]; omega)
    go_wp2_with fail
    refine bodyPost_ret (v := .tuple #[.agg #[.int .i64 0, .int .i64 0, .string ⟨#[]⟩], .bool _]) (by simp [results, Tryd.results83, go_sem, hc1, z12]) rfl ⟨rfl, ?_⟩
    exact set3 ((ext3 _ _ _ _).trans (b1.mono (by simp only [World.size_alloc]; omega))) (by omega) _ _ _
end Go.Proofs.YtmopojjhlbjhnaaDoor

namespace Go.Proofs.YtmopojjhlbjhnaaDoor
open Go.RowKit
set_option linter.unusedVariables false

set_option maxHeartbeats 400000 in
theorem rtruth_any (b : Bool) (w : World) :
    Calls Tryd.prog 34 #[.bool b] w fun e w' => e = .returned (.agg #[.int .i64 2, .int .i64 (bif b then 1 else 0), .string ⟨#[]⟩]) ∧ Below w.heap.size w w' := by
  cases b
  all_goals
    go_enter Tryd.func34, Tryd.ntmps34
    go_wp2
    refine bodyPost_ret (v := .agg #[.int .i64 2, .int .i64 _, .string ⟨#[]⟩]) (by simp [results, Tryd.results34, go_sem]) rfl ⟨rfl, ?_⟩
    exact (Below.refl _ _).alloc (Nat.le_refl _) _

end Go.Proofs.YtmopojjhlbjhnaaDoor

namespace Go.Proofs.YtmopojjhlbjhnaaDoor
open Go.RowKit
set_option linter.unusedVariables false

theorem cells3 {w : World} {g : Nat} {t : TypeId} {x y z : Value} (h : Blk w g t #[x, y, z]) : w.cell? ⟨g, 0, none⟩ = some x ∧ w.cell? ⟨g, 1, none⟩ = some y ∧ w.cell? ⟨g, 2, none⟩ = some z := ⟨h.cell 0, h.cell 1, h.cell 2⟩

/-- IsTrue: is it the value of true? -/
def isTrueB (k i : Int) (s : ByteArray) : Bool := k == 2 && (i == 1 && s.toList.isEmpty)

set_option maxHeartbeats 1000000 in
theorem istrue_any (k i : Int) (s : ByteArray) : Gives 87 #[.agg #[.int .i64 k, .int .i64 i, .string s]] (.bool (isTrueB k i s)) := by
  intro w
  cases h2 : (k == 2) <;> cases h1 : (i == 1) <;> cases he : s.toList.isEmpty
  all_goals
    have B0 := Blk.new w 57 #[.int .i64 k, .int .i64 i, .string s]
    go_enter Tryd.func87, Tryd.ntmps87
    go_wp2_with fail
    go_region_held3 (fun w' => w'.cell? ⟨w.heap.size, 0, none⟩ = some (.int .i64 k) ∧ w'.cell? ⟨w.heap.size, 1, none⟩ = some (.int .i64 i) ∧ w'.cell? ⟨w.heap.size, 2, none⟩ = some (.string s))
      (first | exact cells3 B0 | exact cells3 B1)
      (first | (go_at_call 117; refine (truth_any _ _).mono ?_; rintro e w4 ⟨rfl, b1⟩; have B1 : Blk w4 w.heap.size 57 #[.int .i64 k, .int .i64 i, .string s] := (b1.block _ B0.lt).trans B0))
    go_wp2_with fail
    go_ret
    exact ⟨by simp [isTrueB, h2, h1, he], ((Below.refl _ _).alloc (Nat.le_refl _) _).drew.trans (b1.mono (by simp))⟩

theorem ist_t : Gives 87 #[.agg #[.int .i64 2, .int .i64 1, .string ⟨#[]⟩]] (.bool true) := by
  have h := istrue_any 2 1 ⟨#[]⟩
  rwa [show isTrueB 2 1 ⟨#[]⟩ = true from by kernel_rfl] at h
theorem ist_0 : Gives 87 #[.agg #[.int .i64 0, .int .i64 0, .string ⟨#[]⟩]] (.bool false) := by
  have h := istrue_any 0 0 ⟨#[]⟩
  rwa [show isTrueB 0 0 ⟨#[]⟩ = false from by kernel_rfl] at h
theorem rtr_t (w : World) : Calls Tryd.prog 34 #[.bool true] w fun e w' => e = .returned (.agg #[.int .i64 2, .int .i64 1, .string ⟨#[]⟩]) ∧ Below w.heap.size w w' := rtruth_any true w
theorem rtr_f (w : World) : Calls Tryd.prog 34 #[.bool false] w fun e w' => e = .returned (.agg #[.int .i64 2, .int .i64 0, .string ⟨#[]⟩]) ∧ Below w.heap.size w w' := rtruth_any false w
theorem ist_tw (w : World) : Calls Tryd.prog 87 #[.agg #[.int .i64 2, .int .i64 1, .string ⟨#[]⟩]] w fun e w' => e = .returned (.bool true) ∧ Below w.heap.size w w' := ist_t w
theorem ist_0w (w : World) : Calls Tryd.prog 87 #[.agg #[.int .i64 0, .int .i64 0, .string ⟨#[]⟩]] w fun e w' => e = .returned (.bool false) ∧ Below w.heap.size w w' := ist_0 w
theorem and_nf : Gives 77 #[.agg #[.int .i64 0, .int .i64 0, .string ⟨#[]⟩], .agg #[.int .i64 2, .int .i64 0, .string ⟨#[]⟩]] (.tuple #[.agg #[.int .i64 2, .int .i64 0, .string ⟨#[]⟩], .bool true]) := fun w => and_tv none (some false) w

set_option maxHeartbeats 2000000 in
theorem known2 : Gives 40 #[] (.bool true) := by
  intro w
  go_enter Tryd.func40, Tryd.ntmps40
  go_wp2_with fail
  refine (rtr_f _).mono ?_
  rintro e w1 ⟨rfl, b1⟩
  go_wp2_with fail
  refine (and_nf _).mono ?_
  rintro e w2 ⟨rfl, b2⟩
  have a2 : Below w.heap.size w w2 := bnext b1 b2 (Nat.le_refl _)
  clear b1 b2
  go_wp2_with fail
  have B0 := Blk.new w2 57 #[.int .i64 2, .int .i64 0, .string ⟨#[]⟩]
  have l0 := ext1 w2 (.cells #[.int .i64 2, .int .i64 0, .string ⟨#[]⟩] 57)
  go_region_held3 (fun w' => w'.cell? ⟨w2.heap.size, 0, none⟩ = some (.int .i64 2) ∧ w'.cell? ⟨w2.heap.size, 1, none⟩ = some (.int .i64 0) ∧ w'.cell? ⟨w2.heap.size, 2, none⟩ = some (.string ⟨#[]⟩))
    (first | exact cells3 B0 | exact cells3 B1 | exact cells3 B2 | exact cells3 B3 | exact cells3 B4)
    (first
      | (go_at_call 34; ((with_reducible refine (rtr_f _).mono ?_); rintro e w3 ⟨rfl, b3⟩; have B1 : Blk w3 w2.heap.size 57 #[.int .i64 2, .int .i64 0, .string ⟨#[]⟩] := (b3.block _ B0.lt).trans B0))
      | (go_at_call 34; ((with_reducible refine (rtr_t _).mono ?_); rintro e w4 ⟨rfl, b4⟩; have B2 : Blk w4 w2.heap.size 57 #[.int .i64 2, .int .i64 0, .string ⟨#[]⟩] := (b4.block _ B1.lt).trans B1))
      | (go_at_call 87; ((with_reducible refine (ist_tw _).mono ?_); rintro e w5 ⟨rfl, b5⟩; have B3 : Blk w5 w2.heap.size 57 #[.int .i64 2, .int .i64 0, .string ⟨#[]⟩] := (b5.block _ B2.lt).trans B2))
      | (go_at_call 87; ((with_reducible refine (ist_0w _).mono ?_); rintro e w6 ⟨rfl, b6⟩; have B4 : Blk w6 w2.heap.size 57 #[.int .i64 2, .int .i64 0, .string ⟨#[]⟩] := (b6.block _ B3.lt).trans B3)))
  go_wp2_with fail
  go_ret
  have l := Nat.le_refl w.heap.size
  have a3 : Below w.heap.size w w3 := ((a2.trans (l0.mono a2.size)).drew).trans (b3.mono (by have := a2.size; simp; omega))
  exact ⟨rfl, bnext (bnext (bnext a3 b4 l) b5 l) b6 l⟩
end Go.Proofs.YtmopojjhlbjhnaaDoor

namespace Go.Proofs.YtmopojjhlbjhnaaDoor
open Go.RowKit
set_option linter.unusedVariables false
set_option linter.unusedSimpArgs false

set_option maxHeartbeats 1000000 in
theorem rvalid_any (k i : Int) (s : ByteArray) (w : World) (hs : s.size ≤ maxLen) :
    Calls Tryd.prog 122 #[.agg #[.int .i64 k, .int .i64 i, .string s]] w fun e w' => e = .returned (.bool (validB k i s)) ∧ w.alloc (.cells #[.int .i64 k, .int .i64 i, .string s] 57) = w' := by
  unfold maxLen at hs
  by_cases h0 : k = 0
  · subst h0
    cases hi : (i == 0) <;> cases he : s.toList.isEmpty
    all_goals
      go_enter Tryd.func122, Tryd.ntmps122
      go_wp2_with fail
      go_ret
      refine ⟨?_, rfl⟩
      simp [validB, hi, he]
  by_cases h1 : k = 1
  · subst h1
    go_enter Tryd.func122, Tryd.ntmps122
    go_wp2_with fail
    go_ret
    refine ⟨?_, rfl⟩
    simp [validB]
  by_cases h2 : k = 2
  · subst h2
    cases hi : (i == 0) <;> cases hj : (i == 1)
    all_goals
      go_enter Tryd.func122, Tryd.ntmps122
      go_wp2_with fail
      go_ret
      refine ⟨?_, rfl⟩
      simp [validB, hi, hj]
  by_cases h3 : k = 3
  · subst h3
    cases hi : (i == 0)
    · have hi' : (i != 0) = true := by simp only [bne, hi, Bool.not_false]
      go_enter Tryd.func122, Tryd.ntmps122
      go_wp2_with fail
      go_ret
      refine ⟨?_, rfl⟩
      simp [validB, hi]
    · have hi' : (i != 0) = false := by simp only [bne, hi, Bool.not_true]
      by_cases hl : s.size ≤ 64
      · have l0 : ((s.size : Int)) ≤ 64 := by omega
        have HV : Hid (validB 3 i s = plainB s) := by unfold Hid; simp [validB, hi]
        have B0 := Blk.new w 57 #[.int .i64 3, .int .i64 i, .string s]
        obtain ⟨c0, c1, c2, cl⟩ := B0.c3
        go_enter Tryd.func122, Tryd.ntmps122
        go_wp2_with fail
        go_loop [3] (fun j => ∃ k : Nat, k ≤ s.size ∧ j = .int .i64 k ∧ (s.data.toList.take k).all okByte = true) (fun j => s.size - (intOf j).toNat)
        case atStart => exact ⟨0, by omega, rfl, rfl⟩
        case round =>
          obtain ⟨k, hk, rfl, hall⟩ := hrel
          have HA := hid hall; clear hall
          by_cases hlt : k < s.size
          · have hts : Hid (s.data.toList.take (k + 1) = s.data.toList.take k ++ [s[k]]) := by
              unfold Hid; rw [List.take_succ_eq_append_getElem (by simpa using hlt)]; rfl
            by_cases hb : 32 ≤ s[k].toNat ∧ s[k].toNat ≤ 126
            · have b1 : (32 : Int) ≤ (s[k].toNat : Int) := by omega
              have b2 : (s[k].toNat : Int) ≤ 126 := by omega
              have HB := hid hb; clear hb
              go_wp2_with fail
              go_round
              case rel => exact ⟨k + 1, by omega, by go_num, by rw [hts.out, List.all_append, HA.out]; simp [okByte, HB.out]⟩
              case measure => simp [intOf]; omega
            · have hno : Hid (plainB s = false) := by
                unfold Hid plainB
                have : s.data.toList.all okByte = false := by
                  rw [List.all_eq_false]
                  exact ⟨s[k], List.mem_of_getElem (i := k) (h := by simpa using hlt) rfl, by simp [okByte]; omega⟩
                rw [this]; rfl
              by_cases h32 : (s[k].toNat : Int) < 32
              · clear hb
                go_wp2
                go_ret
                exact ⟨by rw [HV.out, hno.out]; rfl, rfl⟩
              · have h126 : (126 : Int) < (s[k].toNat : Int) := by omega
                clear hb
                go_wp2
                go_ret
                exact ⟨by rw [HV.out, hno.out]; rfl, rfl⟩
          · obtain rfl : k = s.size := by omega
            have hyes : Hid (plainB s = true) := by
              unfold Hid plainB
              have h := HA.out
              rw [List.take_of_length_le (by simp)] at h
              rw [h]; simpa using hl
            go_wp2
            go_ret
            exact ⟨by rw [HV.out, hyes.out]; rfl, rfl⟩
      · have l0 : (64 : Int) < (s.size : Int) := by omega
        have HV : Hid (validB 3 i s = false) := by unfold Hid; simp [validB, hi, plainB]; omega
        go_enter Tryd.func122, Tryd.ntmps122
        go_wp2_with fail
        go_ret
        exact ⟨by rw [HV.out]; rfl, rfl⟩
  · have k0 : (k == 0) = false := by simpa using h0
    have k1 : (k == 1) = false := by simpa using h1
    have k2 : (k == 2) = false := by simpa using h2
    have k3 : (k == 3) = false := by simpa using h3
    go_enter Tryd.func122, Tryd.ntmps122
    go_wp2_with fail
    go_ret
    refine ⟨?_, rfl⟩
    simp [validB, h0, h1, h2, h3]

end Go.Proofs.YtmopojjhlbjhnaaDoor

namespace Go.Proofs.YtmopojjhlbjhnaaDoor
open Go.RowKit
set_option linter.unusedVariables false
set_option linter.unusedSimpArgs false

end Go.Proofs.YtmopojjhlbjhnaaDoor

namespace Go.Proofs.YtmopojjhlbjhnaaDoor
open Go.RowKit
set_option linter.unusedVariables false
set_option linter.unusedSimpArgs false

/-- Valid values of the logic. -/
def lvB (k i : Int) (s : ByteArray) : Bool := validB k i s && (k == 2 || k == 0)
set_option maxHeartbeats 1000000 in
theorem lvalid_any (k i : Int) (s : ByteArray) (hs : s.size ≤ maxLen) : Gives 85 #[.agg #[.int .i64 k, .int .i64 i, .string s]] (.bool (lvB k i s)) := by
  intro w
  have v1 := fun w => valid_any k i s w hs
  cases e1 : validB k i s <;> cases e2 : (k == 2) <;> cases e0 : (k == 0)
  all_goals
    rw [e1] at v1
    have V1 := hid v1; clear v1
    go_enter Tryd.func85, Tryd.ntmps85
    go_wp2_with fail
    refine (V1.out _).mono ?_
    rintro e w1 ⟨rfl, rfl⟩
    go_wp2_with fail
    go_ret
    exact ⟨by simp [lvB, e1, e2, e0], ext2 _ _ _⟩
set_option maxHeartbeats 1000000 in
theorem rlvalid_any (k i : Int) (s : ByteArray) (hs : s.size ≤ maxLen) : Gives 86 #[.agg #[.int .i64 k, .int .i64 i, .string s]] (.bool (lvB k i s)) := by
  intro w
  have v1 := fun w => rvalid_any k i s w hs
  cases e1 : validB k i s <;> cases e2 : (k == 2) <;> cases e0 : (k == 0)
  all_goals
    rw [e1] at v1
    have V1 := hid v1; clear v1
    go_enter Tryd.func86, Tryd.ntmps86
    go_wp2_with fail
    refine (V1.out _).mono ?_
    rintro e w1 ⟨rfl, rfl⟩
    go_wp2_with fail
    go_ret
    exact ⟨by simp [lvB, e1, e2, e0], ext2 _ _ _⟩

def Tryd.lays106_ren : Go.Shelf.Ren := ⟨fun | 106 => 110 | 213 => 151 | 265 => 165 | n => n, fun | 9 => 9 | 3 => 3 | n => n, fun | n => n⟩
theorem Tryd.lays106 : Go.Proofs.Lays.n106 Tryd.prog Tryd.lays106_ren := {
  mixed := by kernel_rfl
  f106 := Tryd.func110.trans (congrArg some (by kernel_rfl))
  f213 := Tryd.func151.trans (congrArg some (by kernel_rfl))
  f265 := Tryd.func165.trans (congrArg some (by kernel_rfl))
  t3 := Tryd.underlying3
  a3 := Tryd.isAgg3
  z3 := Tryd.sizeOf3
  v3 := Tryd.zeroValue3
  t9 := Tryd.underlying9
  a9 := Tryd.isAgg9
  z9 := Tryd.sizeOf9
  v9 := Tryd.zeroValue9 }
theorem cb_eq : ∀ x y : List UInt8, Lib.compareBytes x y = if Op.bytesLess x y then -1 else if x == y then 0 else 1
  | [], [] => by simp [Lib.compareBytes, Op.bytesLess]
  | [], b :: y => by simp [Lib.compareBytes, Op.bytesLess]
  | a :: x, [] => by simp [Lib.compareBytes, Op.bytesLess]
  | a :: x, b :: y => by
    simp only [Lib.compareBytes, Op.bytesLess]
    by_cases h1 : a < b
    · simp [h1]
    · by_cases h2 : b < a
      · have hne : a ≠ b := by
          rintro rfl
          exact h1 h2
        simp [h1, h2, hne]
      · have he : a = b := by
          have h1' : ¬ a.toNat < b.toNat := h1
          have h2' : ¬ b.toNat < a.toNat := h2
          exact UInt8.toNat_inj.1 (by omega)
        subst he
        have := cb_eq x y
        simp [h1, this]
theorem toList_data (s : ByteArray) : s.toList = s.data.toList := by
  rw [ByteArray.toList_eq]
theorem scompare_any (a b : ByteArray) (w : World) : Calls Tryd.prog 110 #[.string a, .string b] w fun e w' => e = .returned (.int .i64 (cmpS a b)) ∧ w = w' := by
  have h := Any.strings_Compare Tryd.lays106 a b w
  change Calls Tryd.prog 110 _ _ _ at h
  refine h.mono ?_
  rintro e w' ⟨rfl, rfl⟩
  exact ⟨by rw [cb_eq]; unfold cmpS; rw [toList_data, toList_data], rfl⟩
end Go.Proofs.YtmopojjhlbjhnaaDoor

namespace Go.Proofs.YtmopojjhlbjhnaaDoor
open Go.RowKit
set_option linter.unusedVariables false
set_option linter.unusedSimpArgs false

theorem cmpI_lt {a b : Int} (h : a < b) : cmpI a b = -1 := by unfold cmpI; rw [if_pos h]
theorem cmpI_gt {a b : Int} (h : b < a) : cmpI a b = 1 := by unfold cmpI; rw [if_neg (by omega), if_pos h]
theorem cmpI_self (a : Int) : cmpI a a = 0 := by unfold cmpI; rw [if_neg (by omega), if_neg (by omega)]
set_option maxHeartbeats 1000000 in
theorem rcompare_any (k1 i1 : Int) (s1 : ByteArray) (k2 i2 : Int) (s2 : ByteArray) :
    Gives 66 #[.agg #[.int .i64 k1, .int .i64 i1, .string s1], .agg #[.int .i64 k2, .int .i64 i2, .string s2]] (.int .i64 (cmpV k1 i1 s1 k2 i2 s2)) := by
  intro w
  by_cases h1 : k1 = k2
  · subst h1
    by_cases h2 : i1 = i2
    · subst h2
      have HF : Hid (cmpV k1 i1 s1 k1 i1 s2 = cmpS s1 s2) := by
        unfold Hid cmpV
        rw [cmpI_self, cmpI_self]
        simp only [firstNZ, if_true]
        split <;> simp_all
      have HS := hid (fun w => scompare_any s1 s2 w)
      go_enter Tryd.func66, Tryd.ntmps66
      go_wp2_with fail
      refine (HS.out _).mono ?_
      rintro e w1 ⟨rfl, rfl⟩
      go_wp2_with fail
      go_ret
      exact ⟨by rw [HF.out]; rfl, ext2 _ _ _⟩
    · have n2 : (i1 != i2) = true := by simpa using h2
      by_cases l : i1 < i2
      · have HF : Hid (cmpV k1 i1 s1 k1 i2 s2 = -1) := by
          unfold Hid cmpV
          rw [cmpI_self, cmpI_lt l]; rfl
        clear h2
        go_enter Tryd.func66, Tryd.ntmps66
        go_wp2_with fail
        go_ret
        exact ⟨by rw [HF.out]; rfl, ext2 _ _ _⟩
      · have l' : i2 < i1 := by omega
        have HF : Hid (cmpV k1 i1 s1 k1 i2 s2 = 1) := by
          unfold Hid cmpV
          rw [cmpI_self, cmpI_gt l']; rfl
        clear h2
        go_enter Tryd.func66, Tryd.ntmps66
        go_wp2_with fail
        go_ret
        exact ⟨by rw [HF.out]; rfl, ext2 _ _ _⟩
  · have n1 : (k1 != k2) = true := by simpa using h1
    by_cases l : k1 < k2
    · have HF : Hid (cmpV k1 i1 s1 k2 i2 s2 = -1) := by
        unfold Hid cmpV
        rw [cmpI_lt l]; rfl
      clear h1
      go_enter Tryd.func66, Tryd.ntmps66
      go_wp2_with fail
      go_ret
      exact ⟨by rw [HF.out]; rfl, ext2 _ _ _⟩
    · have l' : k2 < k1 := by omega
      have HF : Hid (cmpV k1 i1 s1 k2 i2 s2 = 1) := by
        unfold Hid cmpV
        rw [cmpI_gt l']; rfl
      clear h1
      go_enter Tryd.func66, Tryd.ntmps66
      go_wp2_with fail
      go_ret
      exact ⟨by rw [HF.out]; rfl, ext2 _ _ _⟩

def comparableB (k1 i1 : Int) (s1 : ByteArray) (k2 i2 : Int) (s2 : ByteArray) : Bool := validB k1 i1 s1 && validB k2 i2 s2 && (k1 == k2 || k1 == 0 || k2 == 0)
set_option maxHeartbeats 1000000 in
theorem comparable_any (k1 i1 : Int) (s1 : ByteArray) (k2 i2 : Int) (s2 : ByteArray) (h1 : s1.size ≤ maxLen) (h2 : s2.size ≤ maxLen) :
    Gives 120 #[.agg #[.int .i64 k1, .int .i64 i1, .string s1], .agg #[.int .i64 k2, .int .i64 i2, .string s2]] (.bool (comparableB k1 i1 s1 k2 i2 s2)) := by
  intro w
  have v1 := fun w => rvalid_any k1 i1 s1 w h1
  have v2 := fun w => rvalid_any k2 i2 s2 w h2
  cases e1 : validB k1 i1 s1
  · rw [e1] at v1
    have V1 := hid v1; clear v1 v2
    go_enter Tryd.func120, Tryd.ntmps120
    go_wp2_with fail
    refine (V1.out _).mono ?_
    rintro e w1 ⟨rfl, rfl⟩
    go_wp2_with fail
    go_ret
    exact ⟨by simp [comparableB, e1], ext3 _ _ _ _⟩
  cases e2 : validB k2 i2 s2 <;> cases ek : (k1 == k2) <;> cases z1 : (k1 == 0) <;> cases z2 : (k2 == 0)
  all_goals
    rw [e1] at v1
    rw [e2] at v2
    have V1 := hid v1
    have V2 := hid v2
    clear v1 v2
    go_enter Tryd.func120, Tryd.ntmps120
    go_wp2_with fail
    refine (V1.out _).mono ?_
    rintro e w1 ⟨rfl, rfl⟩
    go_wp2_with fail
    refine (V2.out _).mono ?_
    rintro e w1 ⟨rfl, rfl⟩
    go_wp2_with fail
    go_ret
    exact ⟨by simp [comparableB, e1, e2, ek, z1, z2], ext4 _ _ _ _ _⟩
end Go.Proofs.YtmopojjhlbjhnaaDoor

namespace Go.Proofs.YtmopojjhlbjhnaaDoor
open Go.RowKit
set_option linter.unusedVariables false
set_option linter.unusedSimpArgs false

section
variable {k1 i1 : Int} {s1 : ByteArray} {k2 i2 : Int} {s2 : ByteArray}
theorem cmp3_no (h : comparableB k1 i1 s1 k2 i2 s2 = false) : (cmp3 k1 i1 s1 k2 i2 s2).2.2 = false := by
  revert h
  unfold comparableB cmp3
  generalize validB k1 i1 s1 = a; generalize validB k2 i2 s2 = b; generalize (k1 == k2) = e; generalize (k1 == 0) = p; generalize (k2 == 0) = q
  cases a <;> cases b <;> cases e <;> cases p <;> cases q <;> simp
theorem cmp3_null (h : comparableB k1 i1 s1 k2 i2 s2 = true) (z : (k1 == 0) = true ∨ (k2 == 0) = true) : cmp3 k1 i1 s1 k2 i2 s2 = (0, true, true) := by
  revert h z
  unfold comparableB cmp3
  generalize validB k1 i1 s1 = a; generalize validB k2 i2 s2 = b; generalize (k1 == k2) = e; generalize (k1 == 0) = p; generalize (k2 == 0) = q
  cases a <;> cases b <;> cases e <;> cases p <;> cases q <;> simp
theorem cmp3_yes (h : comparableB k1 i1 s1 k2 i2 s2 = true) (z1 : (k1 == 0) = false) (z2 : (k2 == 0) = false) : cmp3 k1 i1 s1 k2 i2 s2 = (cmpV k1 i1 s1 k2 i2 s2, false, true) := by
  revert h z1 z2
  unfold comparableB cmp3
  generalize validB k1 i1 s1 = a; generalize validB k2 i2 s2 = b; generalize (k1 == k2) = e; generalize (k1 == 0) = p; generalize (k2 == 0) = q
  cases a <;> cases b <;> cases e <;> cases p <;> cases q <;> simp
end
theorem ansV_no {t : Int → Bool} {r : Int × Bool × Bool} (h : r.2.2 = false) : ansV t r = .agg #[.int .i64 0, .int .i64 0, .string ⟨#[]⟩] := by simp [ansV, h]

set_option maxHeartbeats 1000000 in
theorem requal_any (k1 i1 : Int) (s1 : ByteArray) (k2 i2 : Int) (s2 : ByteArray) (h1 : s1.size ≤ maxLen) (h2 : s2.size ≤ maxLen) :
    Gives 82 #[.agg #[.int .i64 k1, .int .i64 i1, .string s1], .agg #[.int .i64 k2, .int .i64 i2, .string s2]] (.tuple #[ansV (fun c => c == 0) (cmp3 k1 i1 s1 k2 i2 s2), .bool (cmp3 k1 i1 s1 k2 i2 s2).2.2]) := by
  intro w
  have hc := comparable_any k1 i1 s1 k2 i2 s2 h1 h2
  have hv := rcompare_any k1 i1 s1 k2 i2 s2
  have HT := hid (fun b w => rtruth_any b w)
  cases cb : comparableB k1 i1 s1 k2 i2 s2
  · rw [cb] at hc
    have n1 := cmp3_no cb
    rw [ansV_no n1, n1]
    have HC := hid hc; clear hc hv n1 cb
    go_enter Tryd.func82, Tryd.ntmps82
    go_wp2_with fail
    refine (HC.out _).mono ?_
    rintro e w1 ⟨rfl, b1⟩
    obtain ⟨hc1, hf1⟩ := below_cells b1
    have z12 := below_size b1 (n := w.heap.size + 1 + 1) (by simp only [World.size_alloc]; omega)
    go_wp2_with fail
    refine bodyPost_ret (v := .tuple #[.agg #[.int .i64 0, .int .i64 0, .string ⟨#[]⟩], .bool false]) (by simp [results, Tryd.results82, go_sem, hc1, z12]) rfl ⟨rfl, ?_⟩
    exact set3 ((ext3 _ _ _ _).trans (b1.mono (by simp only [World.size_alloc]; omega))) (by omega) _ _ _
  rw [cb] at hc
  cases z1 : (k1 == 0)
  · cases z2 : (k2 == 0)
    · rw [cmp3_yes cb z1 z2]
      simp only [ansV, Bool.not_false, Bool.and_true, if_true]
      obtain ⟨c, hcc⟩ : ∃ c, c = cmpV k1 i1 s1 k2 i2 s2 := ⟨_, rfl⟩
      rw [← hcc] at hv ⊢
      have HC := hid hc; have HV := hid hv; clear hc hv cb hcc
      go_enter Tryd.func82, Tryd.ntmps82
      go_wp2_with fail
      refine (HC.out _).mono ?_
      rintro e w1 ⟨rfl, b1⟩
      obtain ⟨hc1, hf1⟩ := below_cells b1
      have z12 := below_size b1 (n := w.heap.size + 1 + 1) (by simp only [World.size_alloc]; omega)
      have z11 : w.heap.size + 1 < w1.heap.size := by omega
      have z10 : w.heap.size < w1.heap.size := by omega
      go_wp2_with fail
      refine (HV.out _).mono ?_
      rintro e w2 ⟨rfl, b2⟩
      go_wp2_with fail
      refine (HT.out _ _).mono ?_
      rintro e w3 ⟨rfl, b3⟩
      obtain ⟨hc2, hf2⟩ := below_cells b2
      obtain ⟨hc3, hf3⟩ := below_cells b3
      have z22 := below_size b2 z12
      have z32 := below_size b3 z22
      go_wp2_with fail
      refine bodyPost_ret (v := .tuple #[.agg #[.int .i64 2, .int .i64 _, .string ⟨#[]⟩], .bool true]) (by simp [results, Tryd.results82, go_sem, hc3, hc2, hc1, z12, z22]) rfl ⟨rfl, ?_⟩
      have a1 : Below w.heap.size w w1 := (ext3 _ _ _ _).trans (b1.mono (by simp only [World.size_alloc]; omega))
      exact set3 (bnext (bnext a1 b2 (Nat.le_refl _)) b3 (Nat.le_refl _)) (by omega) _ _ _
    · rw [cmp3_null cb (.inr z2)]
      simp only [ansV, Bool.not_true, Bool.and_false, Bool.false_eq_true, if_false]
      have HC := hid hc; clear hc hv cb
      go_enter Tryd.func82, Tryd.ntmps82
      go_wp2_with fail
      refine (HC.out _).mono ?_
      rintro e w1 ⟨rfl, b1⟩
      obtain ⟨hc1, hf1⟩ := below_cells b1
      have z12 := below_size b1 (n := w.heap.size + 1 + 1) (by simp only [World.size_alloc]; omega)
      have z11 : w.heap.size + 1 < w1.heap.size := by omega
      have z10 : w.heap.size < w1.heap.size := by omega
      go_wp2_with fail
      refine bodyPost_ret (v := .tuple #[.agg #[.int .i64 0, .int .i64 0, .string ⟨#[]⟩], .bool true]) (by simp [results, Tryd.results82, go_sem, hc1, z12]) rfl ⟨rfl, ?_⟩
      exact set3 ((ext3 _ _ _ _).trans (b1.mono (by simp only [World.size_alloc]; omega))) (by omega) _ _ _
  · rw [cmp3_null cb (.inl z1)]
    simp only [ansV, Bool.not_true, Bool.and_false, Bool.false_eq_true, if_false]
    have HC := hid hc; clear hc hv cb
    go_enter Tryd.func82, Tryd.ntmps82
    go_wp2_with fail
    refine (HC.out _).mono ?_
    rintro e w1 ⟨rfl, b1⟩
    obtain ⟨hc1, hf1⟩ := below_cells b1
    have z12 := below_size b1 (n := w.heap.size + 1 + 1) (by simp only [World.size_alloc]; omega)
    have z11 : w.heap.size + 1 < w1.heap.size := by omega
    have z10 : w.heap.size < w1.heap.size := by omega
    go_wp2_with fail
    refine bodyPost_ret (v := .tuple #[.agg #[.int .i64 0, .int .i64 0, .string ⟨#[]⟩], .bool true]) (by simp [results, Tryd.results82, go_sem, hc1, z12]) rfl ⟨rfl, ?_⟩
    exact set3 ((ext3 _ _ _ _).trans (b1.mono (by simp only [World.size_alloc]; omega))) (by omega) _ _ _

set_option maxHeartbeats 1000000 in
theorem rless_any (k1 i1 : Int) (s1 : ByteArray) (k2 i2 : Int) (s2 : ByteArray) (h1 : s1.size ≤ maxLen) (h2 : s2.size ≤ maxLen) :
    Gives 84 #[.agg #[.int .i64 k1, .int .i64 i1, .string s1], .agg #[.int .i64 k2, .int .i64 i2, .string s2]] (.tuple #[ansV (fun c => decide (c < 0)) (cmp3 k1 i1 s1 k2 i2 s2), .bool (cmp3 k1 i1 s1 k2 i2 s2).2.2]) := by
  intro w
  have hc := comparable_any k1 i1 s1 k2 i2 s2 h1 h2
  have hv := rcompare_any k1 i1 s1 k2 i2 s2
  have HT := hid (fun b w => rtruth_any b w)
  cases cb : comparableB k1 i1 s1 k2 i2 s2
  · rw [cb] at hc
    have n1 := cmp3_no cb
    rw [ansV_no n1, n1]
    have HC := hid hc; clear hc hv n1 cb
    go_enter Tryd.func84, Tryd.ntmps84
    go_wp2_with fail
    refine (HC.out _).mono ?_
    rintro e w1 ⟨rfl, b1⟩
    obtain ⟨hc1, hf1⟩ := below_cells b1
    have z12 := below_size b1 (n := w.heap.size + 1 + 1) (by simp only [World.size_alloc]; omega)
    go_wp2_with fail
    refine bodyPost_ret (v := .tuple #[.agg #[.int .i64 0, .int .i64 0, .string ⟨#[]⟩], .bool false]) (by simp [results, Tryd.results84, go_sem, hc1, z12]) rfl ⟨rfl, ?_⟩
    exact set3 ((ext3 _ _ _ _).trans (b1.mono (by simp only [World.size_alloc]; omega))) (by omega) _ _ _
  rw [cb] at hc
  cases z1 : (k1 == 0)
  · cases z2 : (k2 == 0)
    · rw [cmp3_yes cb z1 z2]
      simp only [ansV, Bool.not_false, Bool.and_true, if_true]
      obtain ⟨c, hcc⟩ : ∃ c, c = cmpV k1 i1 s1 k2 i2 s2 := ⟨_, rfl⟩
      rw [← hcc] at hv ⊢
      have HC := hid hc; have HV := hid hv; clear hc hv cb hcc
      go_enter Tryd.func84, Tryd.ntmps84
      go_wp2_with fail
      refine (HC.out _).mono ?_
      rintro e w1 ⟨rfl, b1⟩
      obtain ⟨hc1, hf1⟩ := below_cells b1
      have z12 := below_size b1 (n := w.heap.size + 1 + 1) (by simp only [World.size_alloc]; omega)
      have z11 : w.heap.size + 1 < w1.heap.size := by omega
      have z10 : w.heap.size < w1.heap.size := by omega
      go_wp2_with fail
      refine (HV.out _).mono ?_
      rintro e w2 ⟨rfl, b2⟩
      go_wp2_with fail
      refine (HT.out _ _).mono ?_
      rintro e w3 ⟨rfl, b3⟩
      obtain ⟨hc2, hf2⟩ := below_cells b2
      obtain ⟨hc3, hf3⟩ := below_cells b3
      have z22 := below_size b2 z12
      have z32 := below_size b3 z22
      go_wp2_with fail
      refine bodyPost_ret (v := .tuple #[.agg #[.int .i64 2, .int .i64 _, .string ⟨#[]⟩], .bool true]) (by simp [results, Tryd.results84, go_sem, hc3, hc2, hc1, z12, z22]) rfl ⟨rfl, ?_⟩
      have a1 : Below w.heap.size w w1 := (ext3 _ _ _ _).trans (b1.mono (by simp only [World.size_alloc]; omega))
      exact set3 (bnext (bnext a1 b2 (Nat.le_refl _)) b3 (Nat.le_refl _)) (by omega) _ _ _
    · rw [cmp3_null cb (.inr z2)]
      simp only [ansV, Bool.not_true, Bool.and_false, Bool.false_eq_true, if_false]
      have HC := hid hc; clear hc hv cb
      go_enter Tryd.func84, Tryd.ntmps84
      go_wp2_with fail
      refine (HC.out _).mono ?_
      rintro e w1 ⟨rfl, b1⟩
      obtain ⟨hc1, hf1⟩ := below_cells b1
      have z12 := below_size b1 (n := w.heap.size + 1 + 1) (by simp only [World.size_alloc]; omega)
      have z11 : w.heap.size + 1 < w1.heap.size := by omega
      have z10 : w.heap.size < w1.heap.size := by omega
      go_wp2_with fail
      refine bodyPost_ret (v := .tuple #[.agg #[.int .i64 0, .int .i64 0, .string ⟨#[]⟩], .bool true]) (by simp [results, Tryd.results84, go_sem, hc1, z12]) rfl ⟨rfl, ?_⟩
      exact set3 ((ext3 _ _ _ _).trans (b1.mono (by simp only [World.size_alloc]; omega))) (by omega) _ _ _
  · rw [cmp3_null cb (.inl z1)]
    simp only [ansV, Bool.not_true, Bool.and_false, Bool.false_eq_true, if_false]
    have HC := hid hc; clear hc hv cb
    go_enter Tryd.func84, Tryd.ntmps84
    go_wp2_with fail
    refine (HC.out _).mono ?_
    rintro e w1 ⟨rfl, b1⟩
    obtain ⟨hc1, hf1⟩ := below_cells b1
    have z12 := below_size b1 (n := w.heap.size + 1 + 1) (by simp only [World.size_alloc]; omega)
    have z11 : w.heap.size + 1 < w1.heap.size := by omega
    have z10 : w.heap.size < w1.heap.size := by omega
    go_wp2_with fail
    refine bodyPost_ret (v := .tuple #[.agg #[.int .i64 0, .int .i64 0, .string ⟨#[]⟩], .bool true]) (by simp [results, Tryd.results84, go_sem, hc1, z12]) rfl ⟨rfl, ?_⟩
    exact set3 ((ext3 _ _ _ _).trans (b1.mono (by simp only [World.size_alloc]; omega))) (by omega) _ _ _
end Go.Proofs.YtmopojjhlbjhnaaDoor

namespace Go.Proofs.YtmopojjhlbjhnaaDoor
open Go.RowKit
set_option linter.unusedVariables false
set_option linter.unusedSimpArgs false

set_option maxHeartbeats 1000000 in
theorem logic_not_inv (k1 i1 : Int) (s1 : ByteArray) (h1 : s1.size ≤ maxLen) (e1 : lvB k1 i1 s1 = false) : Gives 75 #[.agg #[.int .i64 k1, .int .i64 i1, .string s1]] (.tuple #[.agg #[.int .i64 0, .int .i64 0, .string ⟨#[]⟩], .bool false]) := by
  intro w
  have v1 := lvalid_any k1 i1 s1 h1
  rw [e1] at v1
  have V1 := hid v1; clear v1 e1
  go_enter Tryd.func75, Tryd.ntmps75
  go_wp2_with fail
  refine (V1.out _).mono ?_
  rintro e w1 ⟨rfl, b1⟩
  obtain ⟨hc1, hf1⟩ := below_cells b1
  have z12 := below_size b1 (n := w.heap.size + 1) (by simp only [World.size_alloc]; omega)
  go_wp2_with fail
  refine bodyPost_ret (v := .tuple #[.agg #[.int .i64 0, .int .i64 0, .string ⟨#[]⟩], .bool false]) (by simp [results, Tryd.results75, go_sem, hc1, z12]) rfl ⟨rfl, ?_⟩
  exact set3 ((ext2 _ _ _).trans (b1.mono (by simp only [World.size_alloc]; omega))) (by omega) _ _ _

set_option maxHeartbeats 1000000 in
theorem logic_And_inv (k1 i1 : Int) (s1 : ByteArray) (k2 i2 : Int) (s2 : ByteArray) (h1 : s1.size ≤ maxLen) (h2 : s2.size ≤ maxLen) (hh : lvB k1 i1 s1 = false ∨ lvB k2 i2 s2 = false) : Gives 77 #[.agg #[.int .i64 k1, .int .i64 i1, .string s1], .agg #[.int .i64 k2, .int .i64 i2, .string s2]] (.tuple #[.agg #[.int .i64 0, .int .i64 0, .string ⟨#[]⟩], .bool false]) := by
  intro w
  have v1 := lvalid_any k1 i1 s1 h1
  have v2 := lvalid_any k2 i2 s2 h2
  cases e1 : lvB k1 i1 s1
  · rw [e1] at v1
    have V1 := hid v1; clear v1 v2 e1 hh
    go_enter Tryd.func77, Tryd.ntmps77
    go_wp2_with fail
    refine (V1.out _).mono ?_
    rintro e w1 ⟨rfl, b1⟩
    obtain ⟨hc1, hf1⟩ := below_cells b1
    have z12 := below_size b1 (n := w.heap.size + 1 + 1) (by simp only [World.size_alloc]; omega)
    go_wp2_with fail
    refine bodyPost_ret (v := .tuple #[.agg #[.int .i64 0, .int .i64 0, .string ⟨#[]⟩], .bool false]) (by simp [results, Tryd.results77, go_sem, hc1, z12]) rfl ⟨rfl, ?_⟩
    exact set3 ((ext3 _ _ _ _).trans (b1.mono (by simp only [World.size_alloc]; omega))) (by omega) _ _ _
  · have e2 : lvB k2 i2 s2 = false := by
      rcases hh with hh | hh
      · rw [e1] at hh; cases hh
      · exact hh
    rw [e1] at v1
    rw [e2] at v2
    have V1 := hid v1; have V2 := hid v2; clear v1 v2 e1 e2 hh
    go_enter Tryd.func77, Tryd.ntmps77
    go_wp2_with fail
    refine (V1.out _).mono ?_
    rintro e w1 ⟨rfl, b1⟩
    obtain ⟨hc1, hf1⟩ := below_cells b1
    have z12 := below_size b1 (n := w.heap.size + 1 + 1) (by simp only [World.size_alloc]; omega)
    have z11 : w.heap.size + 1 < w1.heap.size := by omega
    have z10 : w.heap.size < w1.heap.size := by omega
    go_wp2_with fail
    refine (V2.out _).mono ?_
    rintro e w2 ⟨rfl, b2⟩
    obtain ⟨hc2, hf2⟩ := below_cells b2
    have z22 := below_size b2 z12
    go_wp2_with fail
    refine bodyPost_ret (v := .tuple #[.agg #[.int .i64 0, .int .i64 0, .string ⟨#[]⟩], .bool false]) (by simp [results, Tryd.results77, go_sem, hc2, hc1, z12, z22]) rfl ⟨rfl, ?_⟩
    exact set3 (bnext ((ext3 _ _ _ _).trans (b1.mono (by simp only [World.size_alloc]; omega))) b2 (Nat.le_refl _)) (by omega) _ _ _

set_option maxHeartbeats 1000000 in
theorem logic_Or_inv (k1 i1 : Int) (s1 : ByteArray) (k2 i2 : Int) (s2 : ByteArray) (h1 : s1.size ≤ maxLen) (h2 : s2.size ≤ maxLen) (hh : lvB k1 i1 s1 = false ∨ lvB k2 i2 s2 = false) : Gives 79 #[.agg #[.int .i64 k1, .int .i64 i1, .string s1], .agg #[.int .i64 k2, .int .i64 i2, .string s2]] (.tuple #[.agg #[.int .i64 0, .int .i64 0, .string ⟨#[]⟩], .bool false]) := by
  intro w
  have v1 := lvalid_any k1 i1 s1 h1
  have v2 := lvalid_any k2 i2 s2 h2
  cases e1 : lvB k1 i1 s1
  · rw [e1] at v1
    have V1 := hid v1; clear v1 v2 e1 hh
    go_enter Tryd.func79, Tryd.ntmps79
    go_wp2_with fail
    refine (V1.out _).mono ?_
    rintro e w1 ⟨rfl, b1⟩
    obtain ⟨hc1, hf1⟩ := below_cells b1
    have z12 := below_size b1 (n := w.heap.size + 1 + 1) (by simp only [World.size_alloc]; omega)
    go_wp2_with fail
    refine bodyPost_ret (v := .tuple #[.agg #[.int .i64 0, .int .i64 0, .string ⟨#[]⟩], .bool false]) (by simp [results, Tryd.results79, go_sem, hc1, z12]) rfl ⟨rfl, ?_⟩
    exact set3 ((ext3 _ _ _ _).trans (b1.mono (by simp only [World.size_alloc]; omega))) (by omega) _ _ _
  · have e2 : lvB k2 i2 s2 = false := by
      rcases hh with hh | hh
      · rw [e1] at hh; cases hh
      · exact hh
    rw [e1] at v1
    rw [e2] at v2
    have V1 := hid v1; have V2 := hid v2; clear v1 v2 e1 e2 hh
    go_enter Tryd.func79, Tryd.ntmps79
    go_wp2_with fail
    refine (V1.out _).mono ?_
    rintro e w1 ⟨rfl, b1⟩
    obtain ⟨hc1, hf1⟩ := below_cells b1
    have z12 := below_size b1 (n := w.heap.size + 1 + 1) (by simp only [World.size_alloc]; omega)
    have z11 : w.heap.size + 1 < w1.heap.size := by omega
    have z10 : w.heap.size < w1.heap.size := by omega
    go_wp2_with fail
    refine (V2.out _).mono ?_
    rintro e w2 ⟨rfl, b2⟩
    obtain ⟨hc2, hf2⟩ := below_cells b2
    have z22 := below_size b2 z12
    go_wp2_with fail
    refine bodyPost_ret (v := .tuple #[.agg #[.int .i64 0, .int .i64 0, .string ⟨#[]⟩], .bool false]) (by simp [results, Tryd.results79, go_sem, hc2, hc1, z12, z22]) rfl ⟨rfl, ?_⟩
    exact set3 (bnext ((ext3 _ _ _ _).trans (b1.mono (by simp only [World.size_alloc]; omega))) b2 (Nat.le_refl _)) (by omega) _ _ _

set_option maxHeartbeats 1000000 in
theorem ref2_not_inv (k1 i1 : Int) (s1 : ByteArray) (h1 : s1.size ≤ maxLen) (e1 : lvB k1 i1 s1 = false) : Gives 76 #[.agg #[.int .i64 k1, .int .i64 i1, .string s1]] (.tuple #[.agg #[.int .i64 0, .int .i64 0, .string ⟨#[]⟩], .bool false]) := by
  intro w
  have v1 := rlvalid_any k1 i1 s1 h1
  rw [e1] at v1
  have V1 := hid v1; clear v1 e1
  go_enter Tryd.func76, Tryd.ntmps76
  go_wp2_with fail
  refine (V1.out _).mono ?_
  rintro e w1 ⟨rfl, b1⟩
  obtain ⟨hc1, hf1⟩ := below_cells b1
  have z12 := below_size b1 (n := w.heap.size + 1) (by simp only [World.size_alloc]; omega)
  go_wp2_with fail
  refine bodyPost_ret (v := .tuple #[.agg #[.int .i64 0, .int .i64 0, .string ⟨#[]⟩], .bool false]) (by simp [results, Tryd.results76, go_sem, hc1, z12]) rfl ⟨rfl, ?_⟩
  exact set3 ((ext2 _ _ _).trans (b1.mono (by simp only [World.size_alloc]; omega))) (by omega) _ _ _

set_option maxHeartbeats 1000000 in
theorem ref2_And_inv (k1 i1 : Int) (s1 : ByteArray) (k2 i2 : Int) (s2 : ByteArray) (h1 : s1.size ≤ maxLen) (h2 : s2.size ≤ maxLen) (hh : lvB k1 i1 s1 = false ∨ lvB k2 i2 s2 = false) : Gives 78 #[.agg #[.int .i64 k1, .int .i64 i1, .string s1], .agg #[.int .i64 k2, .int .i64 i2, .string s2]] (.tuple #[.agg #[.int .i64 0, .int .i64 0, .string ⟨#[]⟩], .bool false]) := by
  intro w
  have v1 := rlvalid_any k1 i1 s1 h1
  have v2 := rlvalid_any k2 i2 s2 h2
  cases e1 : lvB k1 i1 s1
  · rw [e1] at v1
    have V1 := hid v1; clear v1 v2 e1 hh
    go_enter Tryd.func78, Tryd.ntmps78
    go_wp2_with fail
    refine (V1.out _).mono ?_
    rintro e w1 ⟨rfl, b1⟩
    obtain ⟨hc1, hf1⟩ := below_cells b1
    have z12 := below_size b1 (n := w.heap.size + 1 + 1) (by simp only [World.size_alloc]; omega)
    go_wp2_with fail
    refine bodyPost_ret (v := .tuple #[.agg #[.int .i64 0, .int .i64 0, .string ⟨#[]⟩], .bool false]) (by simp [results, Tryd.results78, go_sem, hc1, z12]) rfl ⟨rfl, ?_⟩
    exact set3 ((ext3 _ _ _ _).trans (b1.mono (by simp only [World.size_alloc]; omega))) (by omega) _ _ _
  · have e2 : lvB k2 i2 s2 = false := by
      rcases hh with hh | hh
      · rw [e1] at hh; cases hh
      · exact hh
    rw [e1] at v1
    rw [e2] at v2
    have V1 := hid v1; have V2 := hid v2; clear v1 v2 e1 e2 hh
    go_enter Tryd.func78, Tryd.ntmps78
    go_wp2_with fail
    refine (V1.out _).mono ?_
    rintro e w1 ⟨rfl, b1⟩
    obtain ⟨hc1, hf1⟩ := below_cells b1
    have z12 := below_size b1 (n := w.heap.size + 1 + 1) (by simp only [World.size_alloc]; omega)
    have z11 : w.heap.size + 1 < w1.heap.size := by omega
    have z10 : w.heap.size < w1.heap.size := by omega
    go_wp2_with fail
    refine (V2.out _).mono ?_
    rintro e w2 ⟨rfl, b2⟩
    obtain ⟨hc2, hf2⟩ := below_cells b2
    have z22 := below_size b2 z12
    go_wp2_with fail
    refine bodyPost_ret (v := .tuple #[.agg #[.int .i64 0, .int .i64 0, .string ⟨#[]⟩], .bool false]) (by simp [results, Tryd.results78, go_sem, hc2, hc1, z12, z22]) rfl ⟨rfl, ?_⟩
    exact set3 (bnext ((ext3 _ _ _ _).trans (b1.mono (by simp only [World.size_alloc]; omega))) b2 (Nat.le_refl _)) (by omega) _ _ _

set_option maxHeartbeats 1000000 in
theorem ref2_Or_inv (k1 i1 : Int) (s1 : ByteArray) (k2 i2 : Int) (s2 : ByteArray) (h1 : s1.size ≤ maxLen) (h2 : s2.size ≤ maxLen) (hh : lvB k1 i1 s1 = false ∨ lvB k2 i2 s2 = false) : Gives 80 #[.agg #[.int .i64 k1, .int .i64 i1, .string s1], .agg #[.int .i64 k2, .int .i64 i2, .string s2]] (.tuple #[.agg #[.int .i64 0, .int .i64 0, .string ⟨#[]⟩], .bool false]) := by
  intro w
  have v1 := rlvalid_any k1 i1 s1 h1
  have v2 := rlvalid_any k2 i2 s2 h2
  cases e1 : lvB k1 i1 s1
  · rw [e1] at v1
    have V1 := hid v1; clear v1 v2 e1 hh
    go_enter Tryd.func80, Tryd.ntmps80
    go_wp2_with fail
    refine (V1.out _).mono ?_
    rintro e w1 ⟨rfl, b1⟩
    obtain ⟨hc1, hf1⟩ := below_cells b1
    have z12 := below_size b1 (n := w.heap.size + 1 + 1) (by simp only [World.size_alloc]; omega)
    go_wp2_with fail
    refine bodyPost_ret (v := .tuple #[.agg #[.int .i64 0, .int .i64 0, .string ⟨#[]⟩], .bool false]) (by simp [results, Tryd.results80, go_sem, hc1, z12]) rfl ⟨rfl, ?_⟩
    exact set3 ((ext3 _ _ _ _).trans (b1.mono (by simp only [World.size_alloc]; omega))) (by omega) _ _ _
  · have e2 : lvB k2 i2 s2 = false := by
      rcases hh with hh | hh
      · rw [e1] at hh; cases hh
      · exact hh
    rw [e1] at v1
    rw [e2] at v2
    have V1 := hid v1; have V2 := hid v2; clear v1 v2 e1 e2 hh
    go_enter Tryd.func80, Tryd.ntmps80
    go_wp2_with fail
    refine (V1.out _).mono ?_
    rintro e w1 ⟨rfl, b1⟩
    obtain ⟨hc1, hf1⟩ := below_cells b1
    have z12 := below_size b1 (n := w.heap.size + 1 + 1) (by simp only [World.size_alloc]; omega)
    have z11 : w.heap.size + 1 < w1.heap.size := by omega
    have z10 : w.heap.size < w1.heap.size := by omega
    go_wp2_with fail
    refine (V2.out _).mono ?_
    rintro e w2 ⟨rfl, b2⟩
    obtain ⟨hc2, hf2⟩ := below_cells b2
    have z22 := below_size b2 z12
    go_wp2_with fail
    refine bodyPost_ret (v := .tuple #[.agg #[.int .i64 0, .int .i64 0, .string ⟨#[]⟩], .bool false]) (by simp [results, Tryd.results80, go_sem, hc2, hc1, z12, z22]) rfl ⟨rfl, ?_⟩
    exact set3 (bnext ((ext3 _ _ _ _).trans (b1.mono (by simp only [World.size_alloc]; omega))) b2 (Nat.le_refl _)) (by omega) _ _ _
end Go.Proofs.YtmopojjhlbjhnaaDoor

namespace Go.Proofs.YtmopojjhlbjhnaaDoor
open Go.RowKit
set_option linter.unusedVariables false
set_option linter.unusedSimpArgs false

theorem rlv_tv (x : Option Bool) (w : World) : Calls Tryd.prog 86 #[tv x] w fun e w' => e = .returned (.bool true) ∧ Below w.heap.size w w' := by
  rcases x with _ | _ | _
  · have h := rlvalid_any 0 0 ⟨#[]⟩ (by decide) w
    rwa [show lvB 0 0 ⟨#[]⟩ = true from by kernel_rfl] at h
  · have h := rlvalid_any 2 0 ⟨#[]⟩ (by decide) w
    rwa [show lvB 2 0 ⟨#[]⟩ = true from by kernel_rfl] at h
  · have h := rlvalid_any 2 1 ⟨#[]⟩ (by decide) w
    rwa [show lvB 2 1 ⟨#[]⟩ = true from by kernel_rfl] at h

set_option maxHeartbeats 1000000 in
theorem rnot_tv (x : Option Bool) : Gives 76 #[tv x] (.tuple #[tv (not3 x), .bool true]) := by
  intro w
  have v1 := rlv_tv x
  rcases x with _ | _ | _
  · simp only [tv, not3] at v1 ⊢
    have V1 := hid v1; clear v1
    go_enter Tryd.func76, Tryd.ntmps76
    go_wp2_with fail
    refine (V1.out _).mono ?_
    rintro e w1 ⟨rfl, b1⟩
    obtain ⟨hc1, hf1⟩ := below_cells b1
    have z12 := below_size b1 (n := w.heap.size + 1) (by simp only [World.size_alloc]; omega)
    have z11 : w.heap.size < w1.heap.size := by omega
    go_wp2_with fail
    refine bodyPost_ret (v := .tuple #[.agg #[.int .i64 0, .int .i64 0, .string ⟨#[]⟩], .bool true]) (by simp [results, Tryd.results76, go_sem, hc1, z12, z11]) rfl ⟨rfl, ?_⟩
    exact set3 ((ext2 _ _ _).trans (b1.mono (by simp only [World.size_alloc]; omega))) (by omega) _ _ _
  all_goals
    simp only [tv, not3, Bool.not_true, Bool.not_false] at v1 ⊢
    have V1 := hid v1; clear v1
    go_enter Tryd.func76, Tryd.ntmps76
    go_wp2_with fail
    refine (V1.out _).mono ?_
    rintro e w1 ⟨rfl, b1⟩
    obtain ⟨hc1, hf1⟩ := below_cells b1
    have z12 := below_size b1 (n := w.heap.size + 1) (by simp only [World.size_alloc]; omega)
    have z11 : w.heap.size < w1.heap.size := by omega
    go_wp2_with fail
    refine (rtruth_any _ _).mono ?_
    rintro e w2 ⟨rfl, b2⟩
    obtain ⟨hc2, hf2⟩ := below_cells b2
    have z22 := below_size b2 z12
    go_wp2_with fail
    refine bodyPost_ret (v := .tuple #[.agg #[.int .i64 2, .int .i64 _, .string ⟨#[]⟩], .bool true]) (by simp [results, Tryd.results76, go_sem, hc2, hc1, z12, z22]) rfl ⟨rfl, ?_⟩
    exact set3 (bnext ((ext2 _ _ _).trans (b1.mono (by simp only [World.size_alloc]; omega))) b2 (Nat.le_refl _)) (by omega) _ _ _

set_option maxHeartbeats 1000000 in
theorem ristrue_any (k i : Int) (s : ByteArray) : Gives 88 #[.agg #[.int .i64 k, .int .i64 i, .string s]] (.bool (isTrueB k i s)) := by
  intro w
  cases h2 : (k == 2) <;> cases h1 : (i == 1) <;> cases he : s.toList.isEmpty
  all_goals
    have B0 := Blk.new w 57 #[.int .i64 k, .int .i64 i, .string s]
    go_enter Tryd.func88, Tryd.ntmps88
    go_wp2_with fail
    go_region_held3 (fun w' => w'.cell? ⟨w.heap.size, 0, none⟩ = some (.int .i64 k) ∧ w'.cell? ⟨w.heap.size, 1, none⟩ = some (.int .i64 i) ∧ w'.cell? ⟨w.heap.size, 2, none⟩ = some (.string s))
      (first | exact cells3 B0 | exact cells3 B1)
      (first | (go_at_call 34; refine (rtruth_any _ _).mono ?_; rintro e w4 ⟨rfl, b1⟩; have B1 : Blk w4 w.heap.size 57 #[.int .i64 k, .int .i64 i, .string s] := (b1.block _ B0.lt).trans B0))
    go_wp2_with fail
    go_ret
    exact ⟨by simp [isTrueB, h2, h1, he], ((Below.refl _ _).alloc (Nat.le_refl _) _).drew.trans (b1.mono (by simp))⟩
end Go.Proofs.YtmopojjhlbjhnaaDoor

namespace Go.Proofs.YtmopojjhlbjhnaaDoor
open Go.RowKit
set_option linter.unusedVariables false
set_option linter.unusedSimpArgs false

def isT : Option Bool → Bool
  | some true => true
  | _ => false
theorem ri_tv (x : Option Bool) : Gives 88 #[tv x] (.bool (isT x)) := by
  rcases x with _ | _ | _
  · have h := ristrue_any 0 0 ⟨#[]⟩
    rwa [show isTrueB 0 0 ⟨#[]⟩ = isT none from by kernel_rfl] at h
  · have h := ristrue_any 2 0 ⟨#[]⟩
    rwa [show isTrueB 2 0 ⟨#[]⟩ = isT (some false) from by kernel_rfl] at h
  · have h := ristrue_any 2 1 ⟨#[]⟩
    rwa [show isTrueB 2 1 ⟨#[]⟩ = isT (some true) from by kernel_rfl] at h

set_option maxHeartbeats 4000000 in
theorem ror_tv (x y : Option Bool) : Gives 80 #[tv x, tv y] (.tuple #[tv (or3 x y), .bool true]) := by
  intro w
  have v1 := rlv_tv x
  have v2 := rlv_tv y
  have r1 := ri_tv x
  have r2 := ri_tv y
  rcases x with _ | _ | _ <;> rcases y with _ | _ | _
  all_goals
    simp only [tv, or3, and3, not3, isT, Bool.not_true, Bool.not_false] at v1 v2 r1 r2 ⊢
    have V1 := hid v1; have V2 := hid v2; have R1 := hid r1; have R2 := hid r2; clear v1 v2 r1 r2
    go_enter Tryd.func80, Tryd.ntmps80
    go_wp2_with fail
    refine (V1.out _).mono ?_
    rintro e w1 ⟨rfl, b1⟩
    obtain ⟨hc1, hf1⟩ := below_cells b1
    have z12 := below_size b1 (n := w.heap.size + 1 + 1) (by simp only [World.size_alloc]; omega)
    have z11 : w.heap.size + 1 < w1.heap.size := by omega
    have z10 : w.heap.size < w1.heap.size := by omega
    go_wp2_with fail
    refine (V2.out _).mono ?_
    rintro e w2 ⟨rfl, b2⟩
    obtain ⟨hc2, hf2⟩ := below_cells b2
    have z22 := below_size b2 z12
    have z21 : w.heap.size + 1 < w2.heap.size := by omega
    have z20 : w.heap.size < w2.heap.size := by omega
    go_wp2_with fail
    refine (R1.out _).mono ?_
    rintro e w3 ⟨rfl, b3⟩
    obtain ⟨hc3, hf3⟩ := below_cells b3
    have z32 := below_size b3 z22
    have z31 : w.heap.size + 1 < w3.heap.size := by omega
    have z30 : w.heap.size < w3.heap.size := by omega
    have a3 : Below w.heap.size w w3 := bnext (bnext ((ext3 _ _ _ _).trans (b1.mono (by simp only [World.size_alloc]; omega))) b2 (Nat.le_refl _)) b3 (Nat.le_refl _)
    first
      | (go_wp2_with fail
         refine (R2.out _).mono ?_
         rintro e w4 ⟨rfl, b4⟩
         obtain ⟨hc4, hf4⟩ := below_cells b4
         have z42 := below_size b4 z32
         have z41 : w.heap.size + 1 < w4.heap.size := by omega
         have z40 : w.heap.size < w4.heap.size := by omega
         have a4 := bnext a3 b4 (Nat.le_refl _)
         first
           | (go_wp2_with fail
              refine (rtruth_any _ _).mono ?_
              rintro e w5 ⟨rfl, b5⟩
              obtain ⟨hc5, hf5⟩ := below_cells b5
              have z52 := below_size b5 z42
              go_wp2_with fail
              refine bodyPost_ret (v := .tuple #[.agg #[.int .i64 2, .int .i64 _, .string ⟨#[]⟩], .bool true]) (by simp [results, Tryd.results80, go_sem, hc5, hc4, hc3, hc2, hc1, z12, z22, z32, z42]) rfl ⟨rfl, ?_⟩
              exact set3 (bnext a4 b5 (Nat.le_refl _)) (by omega) _ _ _)
           | (go_wp2_with fail
              refine bodyPost_ret (v := .tuple #[.agg #[.int .i64 0, .int .i64 0, .string ⟨#[]⟩], .bool true]) (by simp [results, Tryd.results80, go_sem, hc4, hc3, hc2, hc1, z12, z22, z32]) rfl ⟨rfl, ?_⟩
              exact set3 a4 (by omega) _ _ _))
      | (go_wp2_with fail
         refine (rtruth_any _ _).mono ?_
         rintro e w5 ⟨rfl, b5⟩
         obtain ⟨hc5, hf5⟩ := below_cells b5
         have z52 := below_size b5 z32
         go_wp2_with fail
         refine bodyPost_ret (v := .tuple #[.agg #[.int .i64 2, .int .i64 _, .string ⟨#[]⟩], .bool true]) (by simp [results, Tryd.results80, go_sem, hc5, hc3, hc2, hc1, z12, z22, z32]) rfl ⟨rfl, ?_⟩
         exact set3 (bnext a3 b5 (Nat.le_refl _)) (by omega) _ _ _)
end Go.Proofs.YtmopojjhlbjhnaaDoor

namespace Go.Proofs.YtmopojjhlbjhnaaDoor
open Go.RowKit
set_option linter.unusedVariables false
set_option linter.unusedSimpArgs false

set_option maxHeartbeats 4000000 in
theorem rand_1 : Gives 78 #[.agg #[.int .i64 0, .int .i64 0, .string ⟨#[]⟩], .agg #[.int .i64 0, .int .i64 0, .string ⟨#[]⟩]] (.tuple #[.agg #[.int .i64 0, .int .i64 0, .string ⟨#[]⟩], .bool true]) := by
  intro w
  have V1 := hid (rlv_tv none); have V2 := hid (rlv_tv none)
  simp only [tv] at V1 V2
  go_enter Tryd.func78, Tryd.ntmps78
  go_wp2_with fail
  refine (V1.out _).mono ?_
  rintro e w1 ⟨rfl, b1⟩
  obtain ⟨hc1, hf1⟩ := below_cells b1
  have z12 := below_size b1 (n := w.heap.size + 1 + 1) (by simp only [World.size_alloc]; omega)
  have z11 : w.heap.size + 1 < w1.heap.size := by omega
  have z10 : w.heap.size < w1.heap.size := by omega
  go_wp2_with fail
  refine (V2.out _).mono ?_
  rintro e w2 ⟨rfl, b2⟩
  have A2 : Blk w2 w.heap.size 57 #[.int .i64 0, .int .i64 0, .string ⟨#[]⟩] := (Blk.new3a b1).1.over b2
  have B2 : Blk w2 (w.heap.size + 1) 57 #[.int .i64 0, .int .i64 0, .string ⟨#[]⟩] := (Blk.new3a b1).2.1.over b2
  have R2 : Blk w2 (w.heap.size + 1 + 1) 57 #[.int .i64 0, .int .i64 0, .string ⟨#[]⟩] := (Blk.new3a b1).2.2.over b2
  have a2 : Below w.heap.size w w2 := bnext ((ext3 _ _ _ _).trans (b1.mono (by simp only [World.size_alloc]; omega))) b2 (Nat.le_refl _)
  clear hc1 hf1 z12 z11 z10 b1 b2 V1 V2
  go_wp2_with fail
  go_region_held3 (fun w' => w'.cell? ⟨w.heap.size, 0, none⟩ = some (.int .i64 0) ∧ w'.cell? ⟨w.heap.size, 1, none⟩ = some (.int .i64 0) ∧ w'.cell? ⟨w.heap.size, 2, none⟩ = some (.string ⟨#[]⟩) ∧ w'.cell? ⟨w.heap.size + 1, 0, none⟩ = some (.int .i64 0) ∧ w'.cell? ⟨w.heap.size + 1, 1, none⟩ = some (.int .i64 0) ∧ w'.cell? ⟨w.heap.size + 1, 2, none⟩ = some (.string ⟨#[]⟩))
    (first | exact six A2 B2 | exact six A3 B3 | exact six A4 B4)
    (first
      | (go_at_call 34; ((with_reducible refine (rtr_f _).mono ?_); rintro e w3 ⟨rfl, b3⟩; have A3 : Blk w3 w.heap.size 57 #[.int .i64 0, .int .i64 0, .string ⟨#[]⟩] := (b3.block _ A2.lt).trans A2; have B3 : Blk w3 (w.heap.size + 1) 57 #[.int .i64 0, .int .i64 0, .string ⟨#[]⟩] := (b3.block _ B2.lt).trans B2; have R3 : Blk w3 (w.heap.size + 1 + 1) 57 #[.int .i64 0, .int .i64 0, .string ⟨#[]⟩] := (b3.block _ R2.lt).trans R2))
      | (go_at_call 34; ((with_reducible refine (rtr_f _).mono ?_); rintro e w4 ⟨rfl, b4⟩; have A4 : Blk w4 w.heap.size 57 #[.int .i64 0, .int .i64 0, .string ⟨#[]⟩] := (b4.block _ A3.lt).trans A3; have B4 : Blk w4 (w.heap.size + 1) 57 #[.int .i64 0, .int .i64 0, .string ⟨#[]⟩] := (b4.block _ B3.lt).trans B3; have R4 : Blk w4 (w.heap.size + 1 + 1) 57 #[.int .i64 0, .int .i64 0, .string ⟨#[]⟩] := (b4.block _ R3.lt).trans R3)))
  obtain ⟨c0, c1, c2, cl⟩ := A4.c3
  obtain ⟨d0, d1, d2, dl⟩ := B4.c3
  obtain ⟨r0, r1, r2, rl⟩ := R4.c3
  have f0 := R4.frozen 0; have f1 := R4.frozen 1; have f2 := R4.frozen 2
  have a3 : Below w.heap.size w w3 := (a2.drew).trans (b3.mono a2.size)
  have a4 : Below w.heap.size w w4 := a3.trans (b4.mono a3.size)
  go_wp2_with fail
  refine bodyPost_ret (v := .tuple #[.agg #[.int .i64 0, .int .i64 0, .string ⟨#[]⟩], .bool true]) (by simp [results, Tryd.results78, go_sem, r0, r1, r2, rl]) rfl ⟨rfl, ?_⟩
  exact set3 a4 (by omega) _ _ _

set_option maxHeartbeats 4000000 in
theorem rand_2 : Gives 78 #[.agg #[.int .i64 0, .int .i64 0, .string ⟨#[]⟩], .agg #[.int .i64 2, .int .i64 0, .string ⟨#[]⟩]] (.tuple #[.agg #[.int .i64 2, .int .i64 0, .string ⟨#[]⟩], .bool true]) := by
  intro w
  have V1 := hid (rlv_tv none); have V2 := hid (rlv_tv (some false))
  simp only [tv] at V1 V2
  go_enter Tryd.func78, Tryd.ntmps78
  go_wp2_with fail
  refine (V1.out _).mono ?_
  rintro e w1 ⟨rfl, b1⟩
  obtain ⟨hc1, hf1⟩ := below_cells b1
  have z12 := below_size b1 (n := w.heap.size + 1 + 1) (by simp only [World.size_alloc]; omega)
  have z11 : w.heap.size + 1 < w1.heap.size := by omega
  have z10 : w.heap.size < w1.heap.size := by omega
  go_wp2_with fail
  refine (V2.out _).mono ?_
  rintro e w2 ⟨rfl, b2⟩
  have A2 : Blk w2 w.heap.size 57 #[.int .i64 0, .int .i64 0, .string ⟨#[]⟩] := (Blk.new3a b1).1.over b2
  have B2 : Blk w2 (w.heap.size + 1) 57 #[.int .i64 2, .int .i64 0, .string ⟨#[]⟩] := (Blk.new3a b1).2.1.over b2
  have R2 : Blk w2 (w.heap.size + 1 + 1) 57 #[.int .i64 0, .int .i64 0, .string ⟨#[]⟩] := (Blk.new3a b1).2.2.over b2
  have a2 : Below w.heap.size w w2 := bnext ((ext3 _ _ _ _).trans (b1.mono (by simp only [World.size_alloc]; omega))) b2 (Nat.le_refl _)
  clear hc1 hf1 z12 z11 z10 b1 b2 V1 V2
  go_wp2_with fail
  go_region_held3 (fun w' => w'.cell? ⟨w.heap.size, 0, none⟩ = some (.int .i64 0) ∧ w'.cell? ⟨w.heap.size, 1, none⟩ = some (.int .i64 0) ∧ w'.cell? ⟨w.heap.size, 2, none⟩ = some (.string ⟨#[]⟩) ∧ w'.cell? ⟨w.heap.size + 1, 0, none⟩ = some (.int .i64 2) ∧ w'.cell? ⟨w.heap.size + 1, 1, none⟩ = some (.int .i64 0) ∧ w'.cell? ⟨w.heap.size + 1, 2, none⟩ = some (.string ⟨#[]⟩))
    (first | exact six A2 B2 | exact six A3 B3 | exact six A4 B4)
    (first
      | (go_at_call 34; ((with_reducible refine (rtr_f _).mono ?_); rintro e w3 ⟨rfl, b3⟩; have A3 : Blk w3 w.heap.size 57 #[.int .i64 0, .int .i64 0, .string ⟨#[]⟩] := (b3.block _ A2.lt).trans A2; have B3 : Blk w3 (w.heap.size + 1) 57 #[.int .i64 2, .int .i64 0, .string ⟨#[]⟩] := (b3.block _ B2.lt).trans B2; have R3 : Blk w3 (w.heap.size + 1 + 1) 57 #[.int .i64 0, .int .i64 0, .string ⟨#[]⟩] := (b3.block _ R2.lt).trans R2))
      | (go_at_call 34; ((with_reducible refine (rtr_f _).mono ?_); rintro e w4 ⟨rfl, b4⟩; have A4 : Blk w4 w.heap.size 57 #[.int .i64 0, .int .i64 0, .string ⟨#[]⟩] := (b4.block _ A3.lt).trans A3; have B4 : Blk w4 (w.heap.size + 1) 57 #[.int .i64 2, .int .i64 0, .string ⟨#[]⟩] := (b4.block _ B3.lt).trans B3; have R4 : Blk w4 (w.heap.size + 1 + 1) 57 #[.int .i64 0, .int .i64 0, .string ⟨#[]⟩] := (b4.block _ R3.lt).trans R3)))
  obtain ⟨c0, c1, c2, cl⟩ := A4.c3
  obtain ⟨d0, d1, d2, dl⟩ := B4.c3
  obtain ⟨r0, r1, r2, rl⟩ := R4.c3
  have f0 := R4.frozen 0; have f1 := R4.frozen 1; have f2 := R4.frozen 2
  have a3 : Below w.heap.size w w3 := (a2.drew).trans (b3.mono a2.size)
  have a4 : Below w.heap.size w w4 := a3.trans (b4.mono a3.size)
  go_wp2_with fail
  refine (rtruth_any _ _).mono ?_
  rintro e w5 ⟨rfl, b5⟩
  have R5 := R4.over b5
  obtain ⟨s0, s1, s2, sl⟩ := R5.c3
  have g0 := R5.frozen 0; have g1 := R5.frozen 1; have g2 := R5.frozen 2
  go_wp2_with fail
  refine bodyPost_ret (v := .tuple #[.agg #[.int .i64 2, .int .i64 _, .string ⟨#[]⟩], .bool true]) (by simp [results, Tryd.results78, go_sem, s0, s1, s2, sl]) rfl ⟨rfl, ?_⟩
  exact set3 (a4.trans (b5.mono a4.size)) (by omega) _ _ _

set_option maxHeartbeats 4000000 in
theorem rand_3 : Gives 78 #[.agg #[.int .i64 0, .int .i64 0, .string ⟨#[]⟩], .agg #[.int .i64 2, .int .i64 1, .string ⟨#[]⟩]] (.tuple #[.agg #[.int .i64 0, .int .i64 0, .string ⟨#[]⟩], .bool true]) := by
  intro w
  have V1 := hid (rlv_tv none); have V2 := hid (rlv_tv (some true))
  simp only [tv] at V1 V2
  go_enter Tryd.func78, Tryd.ntmps78
  go_wp2_with fail
  refine (V1.out _).mono ?_
  rintro e w1 ⟨rfl, b1⟩
  obtain ⟨hc1, hf1⟩ := below_cells b1
  have z12 := below_size b1 (n := w.heap.size + 1 + 1) (by simp only [World.size_alloc]; omega)
  have z11 : w.heap.size + 1 < w1.heap.size := by omega
  have z10 : w.heap.size < w1.heap.size := by omega
  go_wp2_with fail
  refine (V2.out _).mono ?_
  rintro e w2 ⟨rfl, b2⟩
  have A2 : Blk w2 w.heap.size 57 #[.int .i64 0, .int .i64 0, .string ⟨#[]⟩] := (Blk.new3a b1).1.over b2
  have B2 : Blk w2 (w.heap.size + 1) 57 #[.int .i64 2, .int .i64 1, .string ⟨#[]⟩] := (Blk.new3a b1).2.1.over b2
  have R2 : Blk w2 (w.heap.size + 1 + 1) 57 #[.int .i64 0, .int .i64 0, .string ⟨#[]⟩] := (Blk.new3a b1).2.2.over b2
  have a2 : Below w.heap.size w w2 := bnext ((ext3 _ _ _ _).trans (b1.mono (by simp only [World.size_alloc]; omega))) b2 (Nat.le_refl _)
  clear hc1 hf1 z12 z11 z10 b1 b2 V1 V2
  go_wp2_with fail
  go_region_held3 (fun w' => w'.cell? ⟨w.heap.size, 0, none⟩ = some (.int .i64 0) ∧ w'.cell? ⟨w.heap.size, 1, none⟩ = some (.int .i64 0) ∧ w'.cell? ⟨w.heap.size, 2, none⟩ = some (.string ⟨#[]⟩) ∧ w'.cell? ⟨w.heap.size + 1, 0, none⟩ = some (.int .i64 2) ∧ w'.cell? ⟨w.heap.size + 1, 1, none⟩ = some (.int .i64 1) ∧ w'.cell? ⟨w.heap.size + 1, 2, none⟩ = some (.string ⟨#[]⟩))
    (first | exact six A2 B2 | exact six A3 B3 | exact six A4 B4)
    (first
      | (go_at_call 34; ((with_reducible refine (rtr_f _).mono ?_); rintro e w3 ⟨rfl, b3⟩; have A3 : Blk w3 w.heap.size 57 #[.int .i64 0, .int .i64 0, .string ⟨#[]⟩] := (b3.block _ A2.lt).trans A2; have B3 : Blk w3 (w.heap.size + 1) 57 #[.int .i64 2, .int .i64 1, .string ⟨#[]⟩] := (b3.block _ B2.lt).trans B2; have R3 : Blk w3 (w.heap.size + 1 + 1) 57 #[.int .i64 0, .int .i64 0, .string ⟨#[]⟩] := (b3.block _ R2.lt).trans R2))
      | (go_at_call 34; ((with_reducible refine (rtr_f _).mono ?_); rintro e w4 ⟨rfl, b4⟩; have A4 : Blk w4 w.heap.size 57 #[.int .i64 0, .int .i64 0, .string ⟨#[]⟩] := (b4.block _ A3.lt).trans A3; have B4 : Blk w4 (w.heap.size + 1) 57 #[.int .i64 2, .int .i64 1, .string ⟨#[]⟩] := (b4.block _ B3.lt).trans B3; have R4 : Blk w4 (w.heap.size + 1 + 1) 57 #[.int .i64 0, .int .i64 0, .string ⟨#[]⟩] := (b4.block _ R3.lt).trans R3)))
  obtain ⟨c0, c1, c2, cl⟩ := A4.c3
  obtain ⟨d0, d1, d2, dl⟩ := B4.c3
  obtain ⟨r0, r1, r2, rl⟩ := R4.c3
  have f0 := R4.frozen 0; have f1 := R4.frozen 1; have f2 := R4.frozen 2
  have a3 : Below w.heap.size w w3 := (a2.drew).trans (b3.mono a2.size)
  have a4 : Below w.heap.size w w4 := a3.trans (b4.mono a3.size)
  go_wp2_with fail
  refine bodyPost_ret (v := .tuple #[.agg #[.int .i64 0, .int .i64 0, .string ⟨#[]⟩], .bool true]) (by simp [results, Tryd.results78, go_sem, r0, r1, r2, rl]) rfl ⟨rfl, ?_⟩
  exact set3 a4 (by omega) _ _ _

set_option maxHeartbeats 4000000 in
theorem rand_4 : Gives 78 #[.agg #[.int .i64 2, .int .i64 0, .string ⟨#[]⟩], .agg #[.int .i64 0, .int .i64 0, .string ⟨#[]⟩]] (.tuple #[.agg #[.int .i64 2, .int .i64 0, .string ⟨#[]⟩], .bool true]) := by
  intro w
  have V1 := hid (rlv_tv (some false)); have V2 := hid (rlv_tv none)
  simp only [tv] at V1 V2
  go_enter Tryd.func78, Tryd.ntmps78
  go_wp2_with fail
  refine (V1.out _).mono ?_
  rintro e w1 ⟨rfl, b1⟩
  obtain ⟨hc1, hf1⟩ := below_cells b1
  have z12 := below_size b1 (n := w.heap.size + 1 + 1) (by simp only [World.size_alloc]; omega)
  have z11 : w.heap.size + 1 < w1.heap.size := by omega
  have z10 : w.heap.size < w1.heap.size := by omega
  go_wp2_with fail
  refine (V2.out _).mono ?_
  rintro e w2 ⟨rfl, b2⟩
  have A2 : Blk w2 w.heap.size 57 #[.int .i64 2, .int .i64 0, .string ⟨#[]⟩] := (Blk.new3a b1).1.over b2
  have B2 : Blk w2 (w.heap.size + 1) 57 #[.int .i64 0, .int .i64 0, .string ⟨#[]⟩] := (Blk.new3a b1).2.1.over b2
  have R2 : Blk w2 (w.heap.size + 1 + 1) 57 #[.int .i64 0, .int .i64 0, .string ⟨#[]⟩] := (Blk.new3a b1).2.2.over b2
  have a2 : Below w.heap.size w w2 := bnext ((ext3 _ _ _ _).trans (b1.mono (by simp only [World.size_alloc]; omega))) b2 (Nat.le_refl _)
  clear hc1 hf1 z12 z11 z10 b1 b2 V1 V2
  go_wp2_with fail
  obtain ⟨o0, o1, o2, ol⟩ := A2.c3
  go_region_with (first
      | (go_at_call 34; ((with_reducible refine (rtr_f _).mono ?_); rintro e w3 ⟨rfl, b3⟩; have A3 : Blk w3 w.heap.size 57 #[.int .i64 2, .int .i64 0, .string ⟨#[]⟩] := (b3.block _ A2.lt).trans A2; have B3 : Blk w3 (w.heap.size + 1) 57 #[.int .i64 0, .int .i64 0, .string ⟨#[]⟩] := (b3.block _ B2.lt).trans B2; have R3 : Blk w3 (w.heap.size + 1 + 1) 57 #[.int .i64 0, .int .i64 0, .string ⟨#[]⟩] := (b3.block _ R2.lt).trans R2); obtain ⟨p0, p1, p2, pl⟩ := A3.c3))
  all_goals
    obtain ⟨c0, c1, c2, cl⟩ := A3.c3
    obtain ⟨d0, d1, d2, dl⟩ := B3.c3
    obtain ⟨r0, r1, r2, rl⟩ := R3.c3
    have f0 := R3.frozen 0; have f1 := R3.frozen 1; have f2 := R3.frozen 2
    have a3 : Below w.heap.size w w3 := (a2.drew).trans (b3.mono a2.size)
    go_wp2_with fail
    refine (rtruth_any _ _).mono ?_
    rintro e w5 ⟨rfl, b5⟩
    have R5 := R3.over b5
    obtain ⟨s0, s1, s2, sl⟩ := R5.c3
    have g0 := R5.frozen 0; have g1 := R5.frozen 1; have g2 := R5.frozen 2
    go_wp2_with fail
    refine bodyPost_ret (v := .tuple #[.agg #[.int .i64 2, .int .i64 _, .string ⟨#[]⟩], .bool true]) (by simp [results, Tryd.results78, go_sem, s0, s1, s2, sl]) rfl ⟨rfl, ?_⟩
    exact set3 (a3.trans (b5.mono a3.size)) (by omega) _ _ _

set_option maxHeartbeats 4000000 in
theorem rand_5 : Gives 78 #[.agg #[.int .i64 2, .int .i64 0, .string ⟨#[]⟩], .agg #[.int .i64 2, .int .i64 0, .string ⟨#[]⟩]] (.tuple #[.agg #[.int .i64 2, .int .i64 0, .string ⟨#[]⟩], .bool true]) := by
  intro w
  have V1 := hid (rlv_tv (some false)); have V2 := hid (rlv_tv (some false))
  simp only [tv] at V1 V2
  go_enter Tryd.func78, Tryd.ntmps78
  go_wp2_with fail
  refine (V1.out _).mono ?_
  rintro e w1 ⟨rfl, b1⟩
  obtain ⟨hc1, hf1⟩ := below_cells b1
  have z12 := below_size b1 (n := w.heap.size + 1 + 1) (by simp only [World.size_alloc]; omega)
  have z11 : w.heap.size + 1 < w1.heap.size := by omega
  have z10 : w.heap.size < w1.heap.size := by omega
  go_wp2_with fail
  refine (V2.out _).mono ?_
  rintro e w2 ⟨rfl, b2⟩
  have A2 : Blk w2 w.heap.size 57 #[.int .i64 2, .int .i64 0, .string ⟨#[]⟩] := (Blk.new3a b1).1.over b2
  have B2 : Blk w2 (w.heap.size + 1) 57 #[.int .i64 2, .int .i64 0, .string ⟨#[]⟩] := (Blk.new3a b1).2.1.over b2
  have R2 : Blk w2 (w.heap.size + 1 + 1) 57 #[.int .i64 0, .int .i64 0, .string ⟨#[]⟩] := (Blk.new3a b1).2.2.over b2
  have a2 : Below w.heap.size w w2 := bnext ((ext3 _ _ _ _).trans (b1.mono (by simp only [World.size_alloc]; omega))) b2 (Nat.le_refl _)
  clear hc1 hf1 z12 z11 z10 b1 b2 V1 V2
  go_wp2_with fail
  obtain ⟨o0, o1, o2, ol⟩ := A2.c3
  go_region_with (first
      | (go_at_call 34; ((with_reducible refine (rtr_f _).mono ?_); rintro e w3 ⟨rfl, b3⟩; have A3 : Blk w3 w.heap.size 57 #[.int .i64 2, .int .i64 0, .string ⟨#[]⟩] := (b3.block _ A2.lt).trans A2; have B3 : Blk w3 (w.heap.size + 1) 57 #[.int .i64 2, .int .i64 0, .string ⟨#[]⟩] := (b3.block _ B2.lt).trans B2; have R3 : Blk w3 (w.heap.size + 1 + 1) 57 #[.int .i64 0, .int .i64 0, .string ⟨#[]⟩] := (b3.block _ R2.lt).trans R2); obtain ⟨p0, p1, p2, pl⟩ := A3.c3))
  all_goals
    obtain ⟨c0, c1, c2, cl⟩ := A3.c3
    obtain ⟨d0, d1, d2, dl⟩ := B3.c3
    obtain ⟨r0, r1, r2, rl⟩ := R3.c3
    have f0 := R3.frozen 0; have f1 := R3.frozen 1; have f2 := R3.frozen 2
    have a3 : Below w.heap.size w w3 := (a2.drew).trans (b3.mono a2.size)
    go_wp2_with fail
    refine (rtruth_any _ _).mono ?_
    rintro e w5 ⟨rfl, b5⟩
    have R5 := R3.over b5
    obtain ⟨s0, s1, s2, sl⟩ := R5.c3
    have g0 := R5.frozen 0; have g1 := R5.frozen 1; have g2 := R5.frozen 2
    go_wp2_with fail
    refine bodyPost_ret (v := .tuple #[.agg #[.int .i64 2, .int .i64 _, .string ⟨#[]⟩], .bool true]) (by simp [results, Tryd.results78, go_sem, s0, s1, s2, sl]) rfl ⟨rfl, ?_⟩
    exact set3 (a3.trans (b5.mono a3.size)) (by omega) _ _ _

set_option maxHeartbeats 4000000 in
theorem rand_6 : Gives 78 #[.agg #[.int .i64 2, .int .i64 0, .string ⟨#[]⟩], .agg #[.int .i64 2, .int .i64 1, .string ⟨#[]⟩]] (.tuple #[.agg #[.int .i64 2, .int .i64 0, .string ⟨#[]⟩], .bool true]) := by
  intro w
  have V1 := hid (rlv_tv (some false)); have V2 := hid (rlv_tv (some true))
  simp only [tv] at V1 V2
  go_enter Tryd.func78, Tryd.ntmps78
  go_wp2_with fail
  refine (V1.out _).mono ?_
  rintro e w1 ⟨rfl, b1⟩
  obtain ⟨hc1, hf1⟩ := below_cells b1
  have z12 := below_size b1 (n := w.heap.size + 1 + 1) (by simp only [World.size_alloc]; omega)
  have z11 : w.heap.size + 1 < w1.heap.size := by omega
  have z10 : w.heap.size < w1.heap.size := by omega
  go_wp2_with fail
  refine (V2.out _).mono ?_
  rintro e w2 ⟨rfl, b2⟩
  have A2 : Blk w2 w.heap.size 57 #[.int .i64 2, .int .i64 0, .string ⟨#[]⟩] := (Blk.new3a b1).1.over b2
  have B2 : Blk w2 (w.heap.size + 1) 57 #[.int .i64 2, .int .i64 1, .string ⟨#[]⟩] := (Blk.new3a b1).2.1.over b2
  have R2 : Blk w2 (w.heap.size + 1 + 1) 57 #[.int .i64 0, .int .i64 0, .string ⟨#[]⟩] := (Blk.new3a b1).2.2.over b2
  have a2 : Below w.heap.size w w2 := bnext ((ext3 _ _ _ _).trans (b1.mono (by simp only [World.size_alloc]; omega))) b2 (Nat.le_refl _)
  clear hc1 hf1 z12 z11 z10 b1 b2 V1 V2
  go_wp2_with fail
  obtain ⟨o0, o1, o2, ol⟩ := A2.c3
  go_region_with (first
      | (go_at_call 34; ((with_reducible refine (rtr_f _).mono ?_); rintro e w3 ⟨rfl, b3⟩; have A3 : Blk w3 w.heap.size 57 #[.int .i64 2, .int .i64 0, .string ⟨#[]⟩] := (b3.block _ A2.lt).trans A2; have B3 : Blk w3 (w.heap.size + 1) 57 #[.int .i64 2, .int .i64 1, .string ⟨#[]⟩] := (b3.block _ B2.lt).trans B2; have R3 : Blk w3 (w.heap.size + 1 + 1) 57 #[.int .i64 0, .int .i64 0, .string ⟨#[]⟩] := (b3.block _ R2.lt).trans R2); obtain ⟨p0, p1, p2, pl⟩ := A3.c3))
  all_goals
    obtain ⟨c0, c1, c2, cl⟩ := A3.c3
    obtain ⟨d0, d1, d2, dl⟩ := B3.c3
    obtain ⟨r0, r1, r2, rl⟩ := R3.c3
    have f0 := R3.frozen 0; have f1 := R3.frozen 1; have f2 := R3.frozen 2
    have a3 : Below w.heap.size w w3 := (a2.drew).trans (b3.mono a2.size)
    go_wp2_with fail
    refine (rtruth_any _ _).mono ?_
    rintro e w5 ⟨rfl, b5⟩
    have R5 := R3.over b5
    obtain ⟨s0, s1, s2, sl⟩ := R5.c3
    have g0 := R5.frozen 0; have g1 := R5.frozen 1; have g2 := R5.frozen 2
    go_wp2_with fail
    refine bodyPost_ret (v := .tuple #[.agg #[.int .i64 2, .int .i64 _, .string ⟨#[]⟩], .bool true]) (by simp [results, Tryd.results78, go_sem, s0, s1, s2, sl]) rfl ⟨rfl, ?_⟩
    exact set3 (a3.trans (b5.mono a3.size)) (by omega) _ _ _

set_option maxHeartbeats 4000000 in
theorem rand_7 : Gives 78 #[.agg #[.int .i64 2, .int .i64 1, .string ⟨#[]⟩], .agg #[.int .i64 0, .int .i64 0, .string ⟨#[]⟩]] (.tuple #[.agg #[.int .i64 0, .int .i64 0, .string ⟨#[]⟩], .bool true]) := by
  intro w
  have V1 := hid (rlv_tv (some true)); have V2 := hid (rlv_tv none)
  simp only [tv] at V1 V2
  go_enter Tryd.func78, Tryd.ntmps78
  go_wp2_with fail
  refine (V1.out _).mono ?_
  rintro e w1 ⟨rfl, b1⟩
  obtain ⟨hc1, hf1⟩ := below_cells b1
  have z12 := below_size b1 (n := w.heap.size + 1 + 1) (by simp only [World.size_alloc]; omega)
  have z11 : w.heap.size + 1 < w1.heap.size := by omega
  have z10 : w.heap.size < w1.heap.size := by omega
  go_wp2_with fail
  refine (V2.out _).mono ?_
  rintro e w2 ⟨rfl, b2⟩
  have A2 : Blk w2 w.heap.size 57 #[.int .i64 2, .int .i64 1, .string ⟨#[]⟩] := (Blk.new3a b1).1.over b2
  have B2 : Blk w2 (w.heap.size + 1) 57 #[.int .i64 0, .int .i64 0, .string ⟨#[]⟩] := (Blk.new3a b1).2.1.over b2
  have R2 : Blk w2 (w.heap.size + 1 + 1) 57 #[.int .i64 0, .int .i64 0, .string ⟨#[]⟩] := (Blk.new3a b1).2.2.over b2
  have a2 : Below w.heap.size w w2 := bnext ((ext3 _ _ _ _).trans (b1.mono (by simp only [World.size_alloc]; omega))) b2 (Nat.le_refl _)
  clear hc1 hf1 z12 z11 z10 b1 b2 V1 V2
  go_wp2_with fail
  go_region_held3 (fun w' => w'.cell? ⟨w.heap.size, 0, none⟩ = some (.int .i64 2) ∧ w'.cell? ⟨w.heap.size, 1, none⟩ = some (.int .i64 1) ∧ w'.cell? ⟨w.heap.size, 2, none⟩ = some (.string ⟨#[]⟩) ∧ w'.cell? ⟨w.heap.size + 1, 0, none⟩ = some (.int .i64 0) ∧ w'.cell? ⟨w.heap.size + 1, 1, none⟩ = some (.int .i64 0) ∧ w'.cell? ⟨w.heap.size + 1, 2, none⟩ = some (.string ⟨#[]⟩))
    (first | exact six A2 B2 | exact six A3 B3 | exact six A4 B4)
    (first
      | (go_at_call 34; ((with_reducible refine (rtr_f _).mono ?_); rintro e w3 ⟨rfl, b3⟩; have A3 : Blk w3 w.heap.size 57 #[.int .i64 2, .int .i64 1, .string ⟨#[]⟩] := (b3.block _ A2.lt).trans A2; have B3 : Blk w3 (w.heap.size + 1) 57 #[.int .i64 0, .int .i64 0, .string ⟨#[]⟩] := (b3.block _ B2.lt).trans B2; have R3 : Blk w3 (w.heap.size + 1 + 1) 57 #[.int .i64 0, .int .i64 0, .string ⟨#[]⟩] := (b3.block _ R2.lt).trans R2))
      | (go_at_call 34; ((with_reducible refine (rtr_f _).mono ?_); rintro e w4 ⟨rfl, b4⟩; have A4 : Blk w4 w.heap.size 57 #[.int .i64 2, .int .i64 1, .string ⟨#[]⟩] := (b4.block _ A3.lt).trans A3; have B4 : Blk w4 (w.heap.size + 1) 57 #[.int .i64 0, .int .i64 0, .string ⟨#[]⟩] := (b4.block _ B3.lt).trans B3; have R4 : Blk w4 (w.heap.size + 1 + 1) 57 #[.int .i64 0, .int .i64 0, .string ⟨#[]⟩] := (b4.block _ R3.lt).trans R3)))
  obtain ⟨c0, c1, c2, cl⟩ := A4.c3
  obtain ⟨d0, d1, d2, dl⟩ := B4.c3
  obtain ⟨r0, r1, r2, rl⟩ := R4.c3
  have f0 := R4.frozen 0; have f1 := R4.frozen 1; have f2 := R4.frozen 2
  have a3 : Below w.heap.size w w3 := (a2.drew).trans (b3.mono a2.size)
  have a4 : Below w.heap.size w w4 := a3.trans (b4.mono a3.size)
  go_wp2_with fail
  refine bodyPost_ret (v := .tuple #[.agg #[.int .i64 0, .int .i64 0, .string ⟨#[]⟩], .bool true]) (by simp [results, Tryd.results78, go_sem, r0, r1, r2, rl]) rfl ⟨rfl, ?_⟩
  exact set3 a4 (by omega) _ _ _

set_option maxHeartbeats 4000000 in
theorem rand_8 : Gives 78 #[.agg #[.int .i64 2, .int .i64 1, .string ⟨#[]⟩], .agg #[.int .i64 2, .int .i64 0, .string ⟨#[]⟩]] (.tuple #[.agg #[.int .i64 2, .int .i64 0, .string ⟨#[]⟩], .bool true]) := by
  intro w
  have V1 := hid (rlv_tv (some true)); have V2 := hid (rlv_tv (some false))
  simp only [tv] at V1 V2
  go_enter Tryd.func78, Tryd.ntmps78
  go_wp2_with fail
  refine (V1.out _).mono ?_
  rintro e w1 ⟨rfl, b1⟩
  obtain ⟨hc1, hf1⟩ := below_cells b1
  have z12 := below_size b1 (n := w.heap.size + 1 + 1) (by simp only [World.size_alloc]; omega)
  have z11 : w.heap.size + 1 < w1.heap.size := by omega
  have z10 : w.heap.size < w1.heap.size := by omega
  go_wp2_with fail
  refine (V2.out _).mono ?_
  rintro e w2 ⟨rfl, b2⟩
  have A2 : Blk w2 w.heap.size 57 #[.int .i64 2, .int .i64 1, .string ⟨#[]⟩] := (Blk.new3a b1).1.over b2
  have B2 : Blk w2 (w.heap.size + 1) 57 #[.int .i64 2, .int .i64 0, .string ⟨#[]⟩] := (Blk.new3a b1).2.1.over b2
  have R2 : Blk w2 (w.heap.size + 1 + 1) 57 #[.int .i64 0, .int .i64 0, .string ⟨#[]⟩] := (Blk.new3a b1).2.2.over b2
  have a2 : Below w.heap.size w w2 := bnext ((ext3 _ _ _ _).trans (b1.mono (by simp only [World.size_alloc]; omega))) b2 (Nat.le_refl _)
  clear hc1 hf1 z12 z11 z10 b1 b2 V1 V2
  go_wp2_with fail
  go_region_held3 (fun w' => w'.cell? ⟨w.heap.size, 0, none⟩ = some (.int .i64 2) ∧ w'.cell? ⟨w.heap.size, 1, none⟩ = some (.int .i64 1) ∧ w'.cell? ⟨w.heap.size, 2, none⟩ = some (.string ⟨#[]⟩) ∧ w'.cell? ⟨w.heap.size + 1, 0, none⟩ = some (.int .i64 2) ∧ w'.cell? ⟨w.heap.size + 1, 1, none⟩ = some (.int .i64 0) ∧ w'.cell? ⟨w.heap.size + 1, 2, none⟩ = some (.string ⟨#[]⟩))
    (first | exact six A2 B2 | exact six A3 B3 | exact six A4 B4)
    (first
      | (go_at_call 34; ((with_reducible refine (rtr_f _).mono ?_); rintro e w3 ⟨rfl, b3⟩; have A3 : Blk w3 w.heap.size 57 #[.int .i64 2, .int .i64 1, .string ⟨#[]⟩] := (b3.block _ A2.lt).trans A2; have B3 : Blk w3 (w.heap.size + 1) 57 #[.int .i64 2, .int .i64 0, .string ⟨#[]⟩] := (b3.block _ B2.lt).trans B2; have R3 : Blk w3 (w.heap.size + 1 + 1) 57 #[.int .i64 0, .int .i64 0, .string ⟨#[]⟩] := (b3.block _ R2.lt).trans R2))
      | (go_at_call 34; ((with_reducible refine (rtr_f _).mono ?_); rintro e w4 ⟨rfl, b4⟩; have A4 : Blk w4 w.heap.size 57 #[.int .i64 2, .int .i64 1, .string ⟨#[]⟩] := (b4.block _ A3.lt).trans A3; have B4 : Blk w4 (w.heap.size + 1) 57 #[.int .i64 2, .int .i64 0, .string ⟨#[]⟩] := (b4.block _ B3.lt).trans B3; have R4 : Blk w4 (w.heap.size + 1 + 1) 57 #[.int .i64 0, .int .i64 0, .string ⟨#[]⟩] := (b4.block _ R3.lt).trans R3)))
  obtain ⟨c0, c1, c2, cl⟩ := A4.c3
  obtain ⟨d0, d1, d2, dl⟩ := B4.c3
  obtain ⟨r0, r1, r2, rl⟩ := R4.c3
  have f0 := R4.frozen 0; have f1 := R4.frozen 1; have f2 := R4.frozen 2
  have a3 : Below w.heap.size w w3 := (a2.drew).trans (b3.mono a2.size)
  have a4 : Below w.heap.size w w4 := a3.trans (b4.mono a3.size)
  go_wp2_with fail
  refine (rtruth_any _ _).mono ?_
  rintro e w5 ⟨rfl, b5⟩
  have R5 := R4.over b5
  obtain ⟨s0, s1, s2, sl⟩ := R5.c3
  have g0 := R5.frozen 0; have g1 := R5.frozen 1; have g2 := R5.frozen 2
  go_wp2_with fail
  refine bodyPost_ret (v := .tuple #[.agg #[.int .i64 2, .int .i64 _, .string ⟨#[]⟩], .bool true]) (by simp [results, Tryd.results78, go_sem, s0, s1, s2, sl]) rfl ⟨rfl, ?_⟩
  exact set3 (a4.trans (b5.mono a4.size)) (by omega) _ _ _

set_option maxHeartbeats 4000000 in
theorem rand_9 : Gives 78 #[.agg #[.int .i64 2, .int .i64 1, .string ⟨#[]⟩], .agg #[.int .i64 2, .int .i64 1, .string ⟨#[]⟩]] (.tuple #[.agg #[.int .i64 2, .int .i64 1, .string ⟨#[]⟩], .bool true]) := by
  intro w
  have V1 := hid (rlv_tv (some true)); have V2 := hid (rlv_tv (some true))
  simp only [tv] at V1 V2
  go_enter Tryd.func78, Tryd.ntmps78
  go_wp2_with fail
  refine (V1.out _).mono ?_
  rintro e w1 ⟨rfl, b1⟩
  obtain ⟨hc1, hf1⟩ := below_cells b1
  have z12 := below_size b1 (n := w.heap.size + 1 + 1) (by simp only [World.size_alloc]; omega)
  have z11 : w.heap.size + 1 < w1.heap.size := by omega
  have z10 : w.heap.size < w1.heap.size := by omega
  go_wp2_with fail
  refine (V2.out _).mono ?_
  rintro e w2 ⟨rfl, b2⟩
  have A2 : Blk w2 w.heap.size 57 #[.int .i64 2, .int .i64 1, .string ⟨#[]⟩] := (Blk.new3a b1).1.over b2
  have B2 : Blk w2 (w.heap.size + 1) 57 #[.int .i64 2, .int .i64 1, .string ⟨#[]⟩] := (Blk.new3a b1).2.1.over b2
  have R2 : Blk w2 (w.heap.size + 1 + 1) 57 #[.int .i64 0, .int .i64 0, .string ⟨#[]⟩] := (Blk.new3a b1).2.2.over b2
  have a2 : Below w.heap.size w w2 := bnext ((ext3 _ _ _ _).trans (b1.mono (by simp only [World.size_alloc]; omega))) b2 (Nat.le_refl _)
  clear hc1 hf1 z12 z11 z10 b1 b2 V1 V2
  go_wp2_with fail
  go_region_held3 (fun w' => w'.cell? ⟨w.heap.size, 0, none⟩ = some (.int .i64 2) ∧ w'.cell? ⟨w.heap.size, 1, none⟩ = some (.int .i64 1) ∧ w'.cell? ⟨w.heap.size, 2, none⟩ = some (.string ⟨#[]⟩) ∧ w'.cell? ⟨w.heap.size + 1, 0, none⟩ = some (.int .i64 2) ∧ w'.cell? ⟨w.heap.size + 1, 1, none⟩ = some (.int .i64 1) ∧ w'.cell? ⟨w.heap.size + 1, 2, none⟩ = some (.string ⟨#[]⟩))
    (first | exact six A2 B2 | exact six A3 B3 | exact six A4 B4)
    (first
      | (go_at_call 34; ((with_reducible refine (rtr_f _).mono ?_); rintro e w3 ⟨rfl, b3⟩; have A3 : Blk w3 w.heap.size 57 #[.int .i64 2, .int .i64 1, .string ⟨#[]⟩] := (b3.block _ A2.lt).trans A2; have B3 : Blk w3 (w.heap.size + 1) 57 #[.int .i64 2, .int .i64 1, .string ⟨#[]⟩] := (b3.block _ B2.lt).trans B2; have R3 : Blk w3 (w.heap.size + 1 + 1) 57 #[.int .i64 0, .int .i64 0, .string ⟨#[]⟩] := (b3.block _ R2.lt).trans R2))
      | (go_at_call 34; ((with_reducible refine (rtr_f _).mono ?_); rintro e w4 ⟨rfl, b4⟩; have A4 : Blk w4 w.heap.size 57 #[.int .i64 2, .int .i64 1, .string ⟨#[]⟩] := (b4.block _ A3.lt).trans A3; have B4 : Blk w4 (w.heap.size + 1) 57 #[.int .i64 2, .int .i64 1, .string ⟨#[]⟩] := (b4.block _ B3.lt).trans B3; have R4 : Blk w4 (w.heap.size + 1 + 1) 57 #[.int .i64 0, .int .i64 0, .string ⟨#[]⟩] := (b4.block _ R3.lt).trans R3)))
  obtain ⟨c0, c1, c2, cl⟩ := A4.c3
  obtain ⟨d0, d1, d2, dl⟩ := B4.c3
  obtain ⟨r0, r1, r2, rl⟩ := R4.c3
  have f0 := R4.frozen 0; have f1 := R4.frozen 1; have f2 := R4.frozen 2
  have a3 : Below w.heap.size w w3 := (a2.drew).trans (b3.mono a2.size)
  have a4 : Below w.heap.size w w4 := a3.trans (b4.mono a3.size)
  go_wp2_with fail
  refine (rtruth_any _ _).mono ?_
  rintro e w5 ⟨rfl, b5⟩
  have R5 := R4.over b5
  obtain ⟨s0, s1, s2, sl⟩ := R5.c3
  have g0 := R5.frozen 0; have g1 := R5.frozen 1; have g2 := R5.frozen 2
  go_wp2_with fail
  refine bodyPost_ret (v := .tuple #[.agg #[.int .i64 2, .int .i64 _, .string ⟨#[]⟩], .bool true]) (by simp [results, Tryd.results78, go_sem, s0, s1, s2, sl]) rfl ⟨rfl, ?_⟩
  exact set3 (a4.trans (b5.mono a4.size)) (by omega) _ _ _

theorem rand_tv (x y : Option Bool) : Gives 78 #[tv x, tv y] (.tuple #[tv (and3 x y), .bool true]) := by
  rcases x with _ | _ | _ <;> rcases y with _ | _ | _
  · exact rand_1
  · exact rand_2
  · exact rand_3
  · exact rand_4
  · exact rand_5
  · exact rand_6
  · exact rand_7
  · exact rand_8
  · exact rand_9
end Go.Proofs.YtmopojjhlbjhnaaDoor

namespace Go.Proofs.YtmopojjhlbjhnaaDoor
open Go.RowKit
set_option linter.unusedVariables false
set_option linter.unusedSimpArgs false

theorem empty_of {s : ByteArray} (h : s.toList.isEmpty = true) : s = ⟨#[]⟩ := by
  rw [ByteArray.toList_eq] at h
  obtain ⟨⟨l⟩⟩ := s
  cases l with
  | nil => rfl
  | cons a r => simp at h
theorem lv_tv {k i : Int} {s : ByteArray} (h : lvB k i s = true) : ∃ x, (.agg #[.int .i64 k, .int .i64 i, .string s] : Value) = tv x := by
  simp only [lvB, Bool.and_eq_true, Bool.or_eq_true, beq_iff_eq] at h
  obtain ⟨hv, hk | hk⟩ := h
  · subst hk
    simp only [validB, show ((2 : Int) = 0) = False by simp, show ((2 : Int) = 1) = False by simp, if_true, if_false, Bool.and_eq_true, Bool.or_eq_true, beq_iff_eq] at hv
    obtain ⟨hi | hi, hs⟩ := hv
    · subst hi; rw [empty_of hs]; exact ⟨some false, rfl⟩
    · subst hi; rw [empty_of hs]; exact ⟨some true, rfl⟩
  · subst hk
    simp only [validB, if_true, Bool.and_eq_true, beq_iff_eq] at hv
    obtain ⟨hi, hs⟩ := hv
    subst hi; rw [empty_of hs]; exact ⟨none, rfl⟩
end Go.Proofs.YtmopojjhlbjhnaaDoor

namespace Go.Proofs.YtmopojjhlbjhnaaDoor
open Go.RowKit
set_option linter.unusedVariables false
set_option linter.unusedSimpArgs false

theorem fifteen {w : World} {a b c d e : Nat} {t : TypeId} {x0 x1 x2 y0 y1 y2 z0 z1 z2 u0 u1 u2 v0 v1 v2 : Value} (ha : Blk w a t #[x0, x1, x2]) (hb : Blk w b t #[y0, y1, y2]) (hc : Blk w c t #[z0, z1, z2]) (hd : Blk w d t #[u0, u1, u2]) (he : Blk w e t #[v0, v1, v2]) :
    w.cell? ⟨a, 0, none⟩ = some x0 ∧ w.cell? ⟨a, 1, none⟩ = some x1 ∧ w.cell? ⟨a, 2, none⟩ = some x2 ∧ w.cell? ⟨b, 0, none⟩ = some y0 ∧ w.cell? ⟨b, 1, none⟩ = some y1 ∧ w.cell? ⟨b, 2, none⟩ = some y2 ∧ w.cell? ⟨c, 0, none⟩ = some z0 ∧ w.cell? ⟨c, 1, none⟩ = some z1 ∧ w.cell? ⟨c, 2, none⟩ = some z2 ∧
    w.cell? ⟨d, 0, none⟩ = some u0 ∧ w.cell? ⟨d, 1, none⟩ = some u1 ∧ w.cell? ⟨d, 2, none⟩ = some u2 ∧ w.cell? ⟨e, 0, none⟩ = some v0 ∧ w.cell? ⟨e, 1, none⟩ = some v1 ∧ w.cell? ⟨e, 2, none⟩ = some v2 :=
  ⟨ha.cell 0, ha.cell 1, ha.cell 2, hb.cell 0, hb.cell 1, hb.cell 2, hc.cell 0, hc.cell 1, hc.cell 2, hd.cell 0, hd.cell 1, hd.cell 2, he.cell 0, he.cell 1, he.cell 2⟩

set_option maxHeartbeats 8000000 in
theorem alike_core (ka ia kb ib kn in0 kc ic ke ie kq iq kl il : Int) (sa sb sn sc se sq sl : ByteArray) (jn jc je jq jl v t : Bool)
    (h1 : Gives 75 #[.agg #[.int .i64 ka, .int .i64 ia, .string sa]] (.tuple #[.agg #[.int .i64 kn, .int .i64 in0, .string sn], .bool jn]))
    (h2 : Gives 76 #[.agg #[.int .i64 ka, .int .i64 ia, .string sa]] (.tuple #[.agg #[.int .i64 kn, .int .i64 in0, .string sn], .bool jn]))
    (h3 : Gives 77 #[.agg #[.int .i64 ka, .int .i64 ia, .string sa], .agg #[.int .i64 kb, .int .i64 ib, .string sb]] (.tuple #[.agg #[.int .i64 kc, .int .i64 ic, .string sc], .bool jc]))
    (h4 : Gives 78 #[.agg #[.int .i64 ka, .int .i64 ia, .string sa], .agg #[.int .i64 kb, .int .i64 ib, .string sb]] (.tuple #[.agg #[.int .i64 kc, .int .i64 ic, .string sc], .bool jc]))
    (h5 : Gives 79 #[.agg #[.int .i64 ka, .int .i64 ia, .string sa], .agg #[.int .i64 kb, .int .i64 ib, .string sb]] (.tuple #[.agg #[.int .i64 ke, .int .i64 ie, .string se], .bool je]))
    (h6 : Gives 80 #[.agg #[.int .i64 ka, .int .i64 ia, .string sa], .agg #[.int .i64 kb, .int .i64 ib, .string sb]] (.tuple #[.agg #[.int .i64 ke, .int .i64 ie, .string se], .bool je]))
    (h7 : Gives 81 #[.agg #[.int .i64 ka, .int .i64 ia, .string sa], .agg #[.int .i64 kb, .int .i64 ib, .string sb]] (.tuple #[.agg #[.int .i64 kq, .int .i64 iq, .string sq], .bool jq]))
    (h8 : Gives 82 #[.agg #[.int .i64 ka, .int .i64 ia, .string sa], .agg #[.int .i64 kb, .int .i64 ib, .string sb]] (.tuple #[.agg #[.int .i64 kq, .int .i64 iq, .string sq], .bool jq]))
    (h9 : Gives 83 #[.agg #[.int .i64 ka, .int .i64 ia, .string sa], .agg #[.int .i64 kb, .int .i64 ib, .string sb]] (.tuple #[.agg #[.int .i64 kl, .int .i64 il, .string sl], .bool jl]))
    (h10 : Gives 84 #[.agg #[.int .i64 ka, .int .i64 ia, .string sa], .agg #[.int .i64 kb, .int .i64 ib, .string sb]] (.tuple #[.agg #[.int .i64 kl, .int .i64 il, .string sl], .bool jl]))
    (h11 : Gives 85 #[.agg #[.int .i64 ka, .int .i64 ia, .string sa]] (.bool v))
    (h12 : Gives 86 #[.agg #[.int .i64 ka, .int .i64 ia, .string sa]] (.bool v))
    (h13 : Gives 87 #[.agg #[.int .i64 ka, .int .i64 ia, .string sa]] (.bool t))
    (h14 : Gives 88 #[.agg #[.int .i64 ka, .int .i64 ia, .string sa]] (.bool t))
    : Gives 39 #[.agg #[.int .i64 ka, .int .i64 ia, .string sa], .agg #[.int .i64 kb, .int .i64 ib, .string sb]] (.bool true) := by
  intro w
  have H1 := hid h1
  have H2 := hid h2
  have H3 := hid h3
  have H4 := hid h4
  have H5 := hid h5
  have H6 := hid h6
  have H7 := hid h7
  have H8 := hid h8
  have H9 := hid h9
  have H10 := hid h10
  have H11 := hid h11
  have H12 := hid h12
  have H13 := hid h13
  have H14 := hid h14
  clear h1 h2 h3 h4 h5 h6 h7 h8 h9 h10 h11 h12 h13 h14
  have K0 := Hold.begin_ w
  go_enter Tryd.func39, Tryd.ntmps39
  go_wp2_with fail
  refine (H1.out _).mono ?_
  rintro e w1 ⟨rfl, b1⟩
  have K1 := Hold.call ((K0.alloc _ _).alloc _ _) b1
  clear b1
  try simp only [World.size_alloc] at K1
  have F1 := K1.facts
  simp only [World.size_alloc, World.size_drew, factsL, cellsF, Nat.reduceAdd, List.toList_toArray, List.set_cons_zero, List.set_cons_succ, List.setIfInBounds_toArray, and_true, true_and] at F1
  go_wp2_with fail
  refine (H2.out _).mono ?_
  rintro e w2 ⟨rfl, b2⟩
  have K2 := Hold.call (K1.alloc _ _) b2
  clear b2
  try simp only [World.size_alloc] at K2
  clear F1
  have F2 := K2.facts
  simp only [World.size_alloc, World.size_drew, factsL, cellsF, Nat.reduceAdd, List.toList_toArray, List.set_cons_zero, List.set_cons_succ, List.setIfInBounds_toArray, and_true, true_and] at F2
  go_wp2_with fail
  refine (H3.out _).mono ?_
  rintro e w3 ⟨rfl, b3⟩
  have K3 := Hold.call (K2.alloc _ _) b3
  clear b3
  try simp only [World.size_alloc] at K3
  clear F2
  have F3 := K3.facts
  simp only [World.size_alloc, World.size_drew, factsL, cellsF, Nat.reduceAdd, List.toList_toArray, List.set_cons_zero, List.set_cons_succ, List.setIfInBounds_toArray, and_true, true_and] at F3
  go_wp2_with fail
  refine (H4.out _).mono ?_
  rintro e w4 ⟨rfl, b4⟩
  have K4 := Hold.call (K3.alloc _ _) b4
  clear b4
  try simp only [World.size_alloc] at K4
  clear F3
  have F4 := K4.facts
  simp only [World.size_alloc, World.size_drew, factsL, cellsF, Nat.reduceAdd, List.toList_toArray, List.set_cons_zero, List.set_cons_succ, List.setIfInBounds_toArray, and_true, true_and] at F4
  go_wp2_with fail
  refine (H5.out _).mono ?_
  rintro e w5 ⟨rfl, b5⟩
  have K5 := Hold.call (K4.alloc _ _) b5
  clear b5
  try simp only [World.size_alloc] at K5
  clear F4
  have F5 := K5.facts
  simp only [World.size_alloc, World.size_drew, factsL, cellsF, Nat.reduceAdd, List.toList_toArray, List.set_cons_zero, List.set_cons_succ, List.setIfInBounds_toArray, and_true, true_and] at F5
  go_wp2_with fail
  refine (H6.out _).mono ?_
  rintro e w6 ⟨rfl, b6⟩
  have K6 := Hold.call (K5.alloc _ _) b6
  clear b6
  try simp only [World.size_alloc] at K6
  clear F5
  have F6 := K6.facts
  simp only [World.size_alloc, World.size_drew, factsL, cellsF, Nat.reduceAdd, List.toList_toArray, List.set_cons_zero, List.set_cons_succ, List.setIfInBounds_toArray, and_true, true_and] at F6
  go_wp2_with fail
  refine (H7.out _).mono ?_
  rintro e w7 ⟨rfl, b7⟩
  have K7 := Hold.call (K6.alloc _ _) b7
  clear b7
  try simp only [World.size_alloc] at K7
  clear F6
  have F7 := K7.facts
  simp only [World.size_alloc, World.size_drew, factsL, cellsF, Nat.reduceAdd, List.toList_toArray, List.set_cons_zero, List.set_cons_succ, List.setIfInBounds_toArray, and_true, true_and] at F7
  have N7 := K7.nes
  simp only [World.size_alloc, nesL, neF, List.set_cons_zero, List.set_cons_succ, and_true, true_and] at N7
  go_wp2_with fail
  refine (H8.out _).mono ?_
  rintro e w8 ⟨rfl, b8⟩
  have K8 := Hold.call (((K7.store 3 rfl 0 _).store 3 rfl 1 _).store 3 rfl 2 _) b8
  clear b8
  try simp only [World.size_alloc] at K8
  clear F7
  have F8 := K8.facts
  simp only [World.size_alloc, World.size_drew, factsL, cellsF, Nat.reduceAdd, List.toList_toArray, List.set_cons_zero, List.set_cons_succ, List.setIfInBounds_toArray, and_true, true_and] at F8
  go_wp2_with fail
  refine (H9.out _).mono ?_
  rintro e w9 ⟨rfl, b9⟩
  have K9 := Hold.call (((K8.store 2 rfl 0 _).store 2 rfl 1 _).store 2 rfl 2 _) b9
  clear b9
  try simp only [World.size_alloc] at K9
  clear F8
  have F9 := K9.facts
  simp only [World.size_alloc, World.size_drew, factsL, cellsF, Nat.reduceAdd, List.toList_toArray, List.set_cons_zero, List.set_cons_succ, List.setIfInBounds_toArray, and_true, true_and] at F9
  go_wp2_with fail
  refine (H10.out _).mono ?_
  rintro e w10 ⟨rfl, b10⟩
  have K10 := Hold.call (((K9.store 1 rfl 0 _).store 1 rfl 1 _).store 1 rfl 2 _) b10
  clear b10
  try simp only [World.size_alloc] at K10
  clear F9
  have F10 := K10.facts
  simp only [World.size_alloc, World.size_drew, factsL, cellsF, Nat.reduceAdd, List.toList_toArray, List.set_cons_zero, List.set_cons_succ, List.setIfInBounds_toArray, and_true, true_and] at F10
  have KR := ((K10.store 0 rfl 0 (.int .i64 kl)).store 0 rfl 1 (.int .i64 il)).store 0 rfl 2 (.string sl)
  have HS := hid (fifteen (KR.get 3 rfl) (KR.get 2 rfl) (KR.get 1 rfl) (KR.get 0 rfl) (KR.get 7 rfl))
  go_wp2_with fail
  go_region_held3 (fun w' => w'.cell? ⟨w3.heap.size, 0, none⟩ = some (.int .i64 kq) ∧ w'.cell? ⟨w3.heap.size, 1, none⟩ = some (.int .i64 iq) ∧ w'.cell? ⟨w3.heap.size, 2, none⟩ = some (.string sq) ∧ w'.cell? ⟨w4.heap.size, 0, none⟩ = some (.int .i64 kq) ∧ w'.cell? ⟨w4.heap.size, 1, none⟩ = some (.int .i64 iq) ∧ w'.cell? ⟨w4.heap.size, 2, none⟩ = some (.string sq) ∧ w'.cell? ⟨w5.heap.size, 0, none⟩ = some (.int .i64 kl) ∧ w'.cell? ⟨w5.heap.size, 1, none⟩ = some (.int .i64 il) ∧ w'.cell? ⟨w5.heap.size, 2, none⟩ = some (.string sl) ∧ w'.cell? ⟨w6.heap.size, 0, none⟩ = some (.int .i64 kl) ∧ w'.cell? ⟨w6.heap.size, 1, none⟩ = some (.int .i64 il) ∧ w'.cell? ⟨w6.heap.size, 2, none⟩ = some (.string sl) ∧ w'.cell? ⟨w.heap.size, 0, none⟩ = some (.int .i64 ka) ∧ w'.cell? ⟨w.heap.size, 1, none⟩ = some (.int .i64 ia) ∧ w'.cell? ⟨w.heap.size, 2, none⟩ = some (.string sa))
    (first | exact fifteen (KR.get 3 rfl) (KR.get 2 rfl) (KR.get 1 rfl) (KR.get 0 rfl) (KR.get 7 rfl) | exact fifteen (K11.get 3 rfl) (K11.get 2 rfl) (K11.get 1 rfl) (K11.get 0 rfl) (K11.get 7 rfl) | exact fifteen (K12.get 3 rfl) (K12.get 2 rfl) (K12.get 1 rfl) (K12.get 0 rfl) (K12.get 7 rfl) | exact fifteen (K13.get 3 rfl) (K13.get 2 rfl) (K13.get 1 rfl) (K13.get 0 rfl) (K13.get 7 rfl) | exact fifteen (K14.get 3 rfl) (K14.get 2 rfl) (K14.get 1 rfl) (K14.get 0 rfl) (K14.get 7 rfl))
    (first
      | (go_at_call 85; refine (H11.out _).mono ?_; rintro e w11 ⟨rfl, b11⟩; have K11 := Hold.call KR.drew b11)
      | (go_at_call 86; refine (H12.out _).mono ?_; rintro e w12 ⟨rfl, b12⟩; have K12 := Hold.call K11 b12)
      | (go_at_call 87; refine (H13.out _).mono ?_; rintro e w13 ⟨rfl, b13⟩; have K13 := Hold.call K12 b13)
      | (go_at_call 88; refine (H14.out _).mono ?_; rintro e w14 ⟨rfl, b14⟩; have K14 := Hold.call K13 b14))
  go_wp2_with fail
  go_ret
  exact ⟨by simp, K14.below⟩
end Go.Proofs.YtmopojjhlbjhnaaDoor

/- OPl: the closure by names, one after the other, in plain words. No program in sight. -/
import Derived.WalkKit
import Derived.ProofKit
import Derived.OpenShut
import Derived.Below
import Derived.ChangeSame
import Derived.Laws.OwnMore
import Derived.Deep.AppendLies
import Derived.Deep.Draws
import Derived.Deep.QuietTactic
import Derived.IntWalk
import Derived.RowKit
import Derived.Test.YtkjnoekclfdjiaaDoorRows
import Derived.SizedLaws
import Derived.Lib.LaidTab
import Derived.Test.YtkjnoekclfdjiaaDoorProg
import Derived.WalkSpells
import Derived.BigQuiet
import Derived.Maps.AppendAt
import Derived.OwnWalk
import Derived.Laws.MakeOwn
import Derived.WalkLawsBesides
import Derived.StillTailTactics
import Derived.Deep.LoopGhost
import Derived.WideShapes
import Derived.StillTail
import Derived.Tactics
import Derived.KernelRfl
import Derived.Orders
namespace Go.Proofs.YtkjnoekclfdjiaaDoor
open Go.ChangeShapes Go.WideShapes Go.ChangeAt Go.RowKit
set_option linter.unusedVariables false
section
variable {H : Type} {enc : TypeId × Value → H} {P : Program}

theorem post_of_below {f : Func} {s : ChangeSpec} {apart fresh handsOn again : Bool} {W W' : World} {args : Array Value} {v : Value} {ds gs : List (DataW H)} {before pa pv : List MemPlace}
    (hW : DataW.Whole enc P f.params.toList s.vars apart W args.toList ds gs before)
    (hres : ∀ (b : Nat) (sp : Nat → Bool) (hd : Bool), DataW.TrodAll enc P W' b sp hd f.resultTypes.toList (v.resultList f.resultTypes.size) (s.fn H (ds ++ gs)).results [])
    (hargs : ∀ sp : Nat → Bool, (∀ p ∈ before, sp p.block = true) → DataW.TrodAll enc P W' 0 sp true f.params.toList args.toList (s.fn H (ds ++ gs)).args pa)
    (hvars : ∀ sp : Nat → Bool, (∀ p ∈ before, sp p.block = true) → DataW.TrodVars enc P W' sp s.vars (s.fn H (ds ++ gs)).vars pv)
    (hps : before = pa ++ pv) (hb : Below W.heap.size W W')
    (hok : ∀ (j : Nat) (t : TypeId) (r : Value), f.resultTypes[j]? = some t → (v.resultList f.resultTypes.size)[j]? = some r → Value.okWide P W' .any 0 t r) :
    s.post enc P f apart fresh handsOn again W args v W' := by
  have hlt : ∀ p ∈ before, p.block < W.heap.size := fun p hp => hW.lt p hp
  have hold : ∀ p ∈ before, (fun b => decide (b < W.heap.size)) p.block = true := fun p hp => by simpa using hlt p hp
  refine ⟨ds, gs, before, [], pa, pv, hW, hres _ _ _, hargs _ hold, hvars _ hold, World.keptBut_mono (fun p hp => ⟨hp, ?_⟩) (hb.frame (· ∈ before)), fun _ => ?_⟩
  · rw [hps, List.mem_append] at hp
    exact Or.inr hp
  · obtain ⟨_, _, _, _, _, hz, hn⟩ := hW
    refine ⟨hok, _, _, ([] ++ pa) ++ pv, ⟨[] ++ pa, pv, trodAll_append (hargs _ (fun _ _ => rfl)) (hres _ _ _), hvars _ (fun _ _ => rfl), rfl, ?_, ?_⟩, ?_⟩
    · intro b off hp
      have hin : MemPlace.cell b off ∈ before := by rw [hps]; simpa using hp
      rw [hb.frozen (hlt _ hin)]
      exact hz b off hin
    · intro ha
      have := hn ha
      rw [hps] at this
      simpa using this
    · intro p hp _
      rw [hps]
      simpa using hp

/-- All the arguments read as they did. -/
theorem trodAll_stays (hl : laidOutB P = true) {W W' : World} {sp : Nat → Bool} : ∀ {ts : List TypeId} {vs : List Value} {ds : List (DataW H)} {ps : List MemPlace},
    ts.all (fun t => P.readableRec t && decide (t < P.types.size)) = true → DataW.TrodAll enc P W 0 (fun _ => true) true ts vs ds ps → (∀ p ∈ ps, W.sameAt W' p) → (∀ p ∈ ps, sp p.block = true) → DataW.TrodAll enc P W' 0 sp true ts vs ds ps
  | [], vs, ds, ps, _, h, _, _ => by
    obtain ⟨rfl, rfl, rfl⟩ := trodAll_nil h; rfl
  | t :: ts, vs, ds, ps, hr, h, hs, hp => by
    obtain ⟨v, vs1, d, ds1, a, b, rfl, rfl, rfl, h1, h2⟩ := trodAll_cons h
    simp only [List.all_cons, Bool.and_eq_true, decide_eq_true_eq] at hr
    exact ⟨a, b, WideElems.Trod_stays hl hr.1.1 hr.1.2 h1 (fun x hx => hs x (by simp [hx])) (fun x hx => hp x (by simp [hx])),
      trodAll_stays hl (by simpa using hr.2) h2 (fun x hx => hs x (by simp [hx])) (fun x hx => hp x (by simp [hx])), rfl⟩

theorem law_post {f : Func} {s : ChangeSpec} {apart fresh handsOn again : Bool} {W W' : World} {args : Array Value} {ds gs : List (DataW H)} {before : List MemPlace} {tb : TypeId}
    (hvs : s.vars = []) (hl : laidOutB P = true) (hrd : f.params.toList.all (fun t => P.readableRec t && decide (t < P.types.size)) = true)
    (htb : f.resultTypes = #[tb]) (hub : P.underlying tb = some .bool) (hfn : s.fn H (ds ++ gs) = { results := [.lit (.bool true)], args := ds })
    (hW : DataW.Whole enc P f.params.toList s.vars apart W args.toList ds gs before) (hb : Below W.heap.size W W') :
    s.post enc P f apart fresh handsOn again W args (.bool true) W' := by
  have hW' := hW
  obtain ⟨p, q, hA, hV, rfl, hfz, hnd⟩ := hW
  rw [hvs] at hV
  obtain ⟨rfl, rfl⟩ := trodVars_none hV
  have hlt : ∀ x ∈ p ++ [], x.block < W.heap.size := fun x hx => hW'.lt x hx
  refine post_of_below (pa := p) (pv := []) hW' ?_ ?_ ?_ rfl hb ?_
  · intro b sp hd
    rw [hfn, htb]
    exact trodAll_mk1 (shut_bool hub _)
  · intro sp hsp
    rw [hfn]
    exact trodAll_stays hl hrd hA (fun x hx => hb.same (hlt x (by simpa using hx))) (fun x hx => hsp x (by simpa using hx))
  · intro sp hsp
    rw [hfn, hvs]
    rfl
  · exact ok_one htb rfl (okWide_bool_mk hub _)
end
end Go.Proofs.YtkjnoekclfdjiaaDoor

namespace Go.Proofs.YtkjnoekclfdjiaaDoor
open Go.RowKit
set_option linter.unusedVariables false

theorem hid {p : Prop} (h : p) : Hid p := h
def I64 (x : Int) : Prop := -9223372036854775808 ≤ x ∧ x ≤ 9223372036854775807
def Ints (zs : List Int) : Prop := ∀ x ∈ zs, I64 x
theorem Ints.at_ {zs : List Int} (h : Ints zs) (k : Nat) : I64 (zs.getD k 0) := by
  by_cases hk : k < zs.length
  · simp only [List.getD, List.getElem?_eq_getElem hk, Option.getD_some]; exact h _ (List.getElem_mem hk)
  · simp [List.getD, List.getElem?_eq_none (Nat.le_of_not_lt hk), I64]
theorem ints_get (k : IntKind) (zs : List Int) (j : Nat) (hj : j < zs.length) : (zs.map (Value.int k)).getD j undef = .int k (zs.getD j 0) := by
  simp [List.getD, hj]
/-- The slice with address A, n elements of 'size' cells each, reads as the cells xs, all of them in blocks below B. -/
def Rd (w : World) (B size : Nat) (A : Option Addr) (n : Nat) (xs : List Value) : Prop :=
  xs.length = n * size ∧ (0 < n → ∃ b o, A = some ⟨b, o, none⟩ ∧ b < B ∧ ∀ j u, xs[j]? = some u → w.cell? ⟨b, o + j, none⟩ = some u)

section
variable {w w' : World} {B B' size n : Nat} {A : Option Addr} {xs : List Value}
theorem Rd.none_ : Rd w B size A 0 [] := ⟨by simp, fun h => absurd h (by omega)⟩
theorem Rd.keep (h : Rd w B size A n xs) (hk : ∀ p : Addr, p.block < B → w'.cell? p = w.cell? p) : Rd w' B size A n xs :=
  ⟨h.1, fun hn => by
    obtain ⟨b, o, e, hb, hc⟩ := h.2 hn
    exact ⟨b, o, e, hb, fun j u hu => (hk _ hb).trans (hc j u hu)⟩⟩
theorem Rd.more (h : Rd w B size A n xs) (hB : B ≤ B') : Rd w B' size A n xs :=
  ⟨h.1, fun hn => by
    obtain ⟨b, o, e, hb, hc⟩ := h.2 hn
    exact ⟨b, o, e, by omega, hc⟩⟩
theorem Rd.below (h : Rd w B size A n xs) (hb : Below B' w w') (hB : B ≤ B') : Rd w' B size A n xs := h.keep fun _ hp => hb.cell (by omega)
theorem Rd.grown (h : Rd w B size A n xs) {row : Option Nat} (hg : w.grownBy w' row) (hB : B ≤ w.heap.size) (hr : ∀ g, row = some g → B ≤ g) : Rd w' B size A n xs :=
  h.keep fun p hp => World.cell?_of_block (hg.block p.block (by omega) (fun e => by have := hr _ e.symm; omega))
theorem Rd.alloc (h : Rd w B size A n xs) (hB : B ≤ w.heap.size) (o : Obj) : Rd (w.alloc o) B size A n xs := h.keep fun p hp => World.cell?_alloc_lt w o p (by omega)
theorem Rd.drew (h : Rd w B size A n xs) : Rd w.drew B size A n xs := h
theorem Rd.drewN (h : Rd w B size A n xs) (k : Nat) : Rd (w.drewN k) B size A n xs := h
theorem Rd.setCell (h : Rd w B size A n xs) {p : Addr} (hB : B ≤ p.block) (u : Value) : Rd (w.setCell p u) B size A n xs :=
  h.keep fun q hq => World.cell?_setCell_other w p q u (fun e => by subst e; omega)
/-- One-cell elements: the k-th. -/
theorem Rd.at1 (h : Rd w B 1 A n xs) {k : Nat} (hk : k < n) : ∃ b o, A = some ⟨b, o, none⟩ ∧ b < B ∧ w.cell? ⟨b, o + k, none⟩ = some (xs.getD k undef) := by
  obtain ⟨b, o, e, hb, hc⟩ := h.2 (by omega)
  have hl : k < xs.length := by have := h.1; omega
  exact ⟨b, o, e, hb, hc k _ (by simp [List.getD, hl])⟩
theorem Rd.take_ (h : Rd w B size A n xs) {k : Nat} (hk : k ≤ n) : Rd w B size A k (xs.take (k * size)) := by
  refine ⟨by rw [List.length_take, h.1]; exact Nat.min_eq_left (Nat.mul_le_mul_right _ hk), fun hn => ?_⟩
  obtain ⟨b, o, e, hb, hc⟩ := h.2 (by omega)
  exact ⟨b, o, e, hb, fun j u hu => hc j u (by
    have := (List.getElem?_eq_some_iff.1 hu).1
    rw [List.getElem?_take_of_lt (by simp at this; omega)] at hu; exact hu)⟩
theorem Rd.of_own {base : Nat} {e : TypeId} {c : Nat} (h : w.ownsRow base e size (.slice A n c) n xs) : Rd w w.heap.size size A n xs := by
  refine ⟨h.1, fun hn => ?_⟩
  obtain ⟨g, cap, hv, _, hlt⟩ := h.form hn
  have hA : A = some ⟨g, 0, none⟩ := by injection hv
  subst hA
  refine ⟨g, 0, rfl, hlt, fun j u hu => ?_⟩
  have := h.cells (g := g) rfl j u hu
  rwa [Addr.add_lit] at this
end

/-- A block that has just been laid reads as its cells. -/
theorem Rd.lit (w : World) (cs : Array Value) (E : TypeId) {size n : Nat} {xs : List Value} (h : cs.toList = xs) (hn : xs.length = n * size) : Rd (w.alloc (.cells cs E)) (w.heap.size + 1) size (some ⟨w.heap.size, 0, none⟩) n xs := by
  subst h
  refine ⟨hn, fun _ => ⟨_, _, rfl, by omega, fun j u hu => ?_⟩⟩
  have := cell_of_row (w.alloc (.cells cs E)) w.heap.size j cs E (0, 0) (heap_alloc_new w _)
  rw [Nat.zero_add, this]
  simpa using hu

theorem only_drewN {a w : World} {row : Option Nat} (h : a.grownBy w row) (n : Nat) : a.grownBy (w.drewN n) row := ⟨h.os, h.tape, h.output, h.size, h.block⟩
theorem only_drew {a w : World} {row : Option Nat} (h : a.grownBy w row) : a.grownBy w.drew row := ⟨h.os, h.tape, h.output, h.size, h.block⟩
theorem only_alloc {a w : World} {row : Option Nat} (h : a.grownBy w row) (o : Obj) : a.grownBy (w.alloc o) row :=
  ⟨h.os, h.tape, h.output, Nat.le_trans h.size (by simp), fun i hi hne => (Below.heap_alloc w o i (Nat.lt_of_lt_of_le hi h.size)).trans (h.block i hi hne)⟩
theorem only_setCell {a w : World} {g : Nat} (h : a.grownBy w (some g)) {p : Addr} (hp : p.block = g ∨ a.heap.size ≤ p.block) (u : Value) : a.grownBy (w.setCell p u) (some g) :=
  ⟨h.os, h.tape, h.output, by simpa [World.setCell] using h.size, fun i hi hne => (Below.heap_setCell w p u i (by
    rintro rfl
    rcases hp with hp | hp
    · exact hne (by rw [hp])
    · omega)).trans (h.block i hi hne)⟩
theorem only_of_below {a w : World} (h : Below a.heap.size a w) (row : Option Nat) : a.grownBy w row := ⟨h.os, h.tape, h.output, h.size, fun i hi _ => h.block i hi⟩
theorem only_trans {a b c : World} {row : Option Nat} (h : a.grownBy b row) (k : b.grownBy c row) : a.grownBy c row :=
  ⟨k.os.trans h.os, k.tape.trans h.tape, k.output.trans h.output, Nat.le_trans h.size k.size, fun i hi hn => (k.block i (Nat.lt_of_lt_of_le hi h.size) hn).trans (h.block i hi hn)⟩
theorem only_below {a b c : World} {row : Option Nat} (h : a.grownBy b row) (k : Below b.heap.size b c) : a.grownBy c row := only_trans h (only_of_below k row)

/-- An own row keeps when another row is written. -/
theorem own_form {w : World} {base : Nat} {e : TypeId} {size : Nat} {v : Value} {n : Nat} {xs : List Value} (h : w.ownsRow base e size v n xs) : ∃ A c, v = .slice A n c := by
  obtain ⟨_, h | ⟨g, cap, _, h, _⟩⟩ := h
  · obtain ⟨rfl, rfl⟩ := h; exact ⟨_, _, rfl⟩
  · exact ⟨_, _, h⟩

theorem frozen_blk {w : World} {g : Nat} {t : TypeId} {cs : Array Value} (h : w.heap[g]? = some (.cells cs t (0, 0))) (i : Nat) : w.frozen? ⟨g, i, none⟩ = false := by simp [World.frozen?, h]
theorem blk_set {w : World} {g : Nat} {t : TypeId} {cs : Array Value} {fr : Nat × Nat} (h : w.heap[g]? = some (.cells cs t fr)) (i : Nat) (u : Value) : (w.setCell ⟨g, i, none⟩ u).heap[g]? = some (.cells (cs.setIfInBounds i u) t fr) := by
  simp [World.setCell, Array.getElem?_modify, h]

theorem quiet_add_left {P : Program} {f : FuncId} {args : Array Value} {w : World} {a n : Nat} {v : Value}
    (h : Calls P f args (w.drewN (a + n)) fun e w' => e = .returned v ∧ w.drewN (a + n) = w') : Calls P f args (w.drewN (a + n)) fun e w'' => e = .returned v ∧ ∃ m, w'' = w.drewN (a + m) :=
  h.mono fun _ _ ⟨he, hm⟩ => ⟨he, n, hm.symm⟩
theorem quiet_left {P : Program} {f : FuncId} {args : Array Value} {w : World} {n : Nat} {v : Value}
    (h : Calls P f args (w.drewN n) fun e w' => e = .returned v ∧ w.drewN n = w') : Calls P f args (w.drewN n) fun e w'' => e = .returned v ∧ ∃ m, w'' = w.drewN m :=
  h.mono fun _ _ ⟨he, hm⟩ => ⟨he, n, hm.symm⟩

end Go.Proofs.YtkjnoekclfdjiaaDoor

namespace Go.Proofs.YtkjnoekclfdjiaaDoor
open Go.RowKit
set_option linter.unusedVariables false

end Go.Proofs.YtkjnoekclfdjiaaDoor

namespace Go.Proofs.YtkjnoekclfdjiaaDoor
open Go.ChangeShapes Go.WideShapes Go.ChangeAt Go.RowKit
set_option linter.unusedVariables false

theorem own : ownKnob Tryd.prog.godebug = none := by kernel_rfl
theorem laidOut : laidOutB Tryd.prog = true := by kernel_rfl
end Go.Proofs.YtkjnoekclfdjiaaDoor

namespace Go.Proofs.YtkjnoekclfdjiaaDoor
open Go.ChangeShapes Go.WideShapes Go.ChangeAt Go.RowKit
set_option linter.unusedVariables false
section
variable {H : Type} {enc : TypeId × Value → H} {P : Program}
theorem i64_wf {x : Int} (h : (Lit.int .i64 x).wf = true) : I64 x := by
  simp [Lit.wf, IntKind.min, IntKind.max, IntKind.signed, IntKind.bits] at h
  exact ⟨by omega, by omega⟩

theorem open_i64s {t e : TypeId} {W : World} {r : Reach} {b0 : Nat} {v : Value} {d : DataW H} {p : List MemPlace} (ht : P.underlying t = some (.slice e)) (he : P.underlying e = some (.int .i64)) (hc : P.cellsOf e = 1)
    (hok : Value.okWide P W r b0 t v) (h : DataW.Trod enc P W 0 (fun _ => true) true t v d p) :
    ∃ A n c zs, v = .slice A n c ∧ Rd W W.heap.size 1 A n (zs.map (Value.int .i64)) ∧ Ints zs ∧ n ≤ c ∧ c ≤ maxLen ∧ ((d = .nil ∧ n = 0) ∨ ∃ el sp, d = .slice el sp ∧ el.length + sp.length = c) := by
  obtain ⟨A, n, c, rfl⟩ := okWide_slice ht hok
  obtain ⟨fuel, hf⟩ := h
  rcases open_ints ht he hc (by simpa [Value.cells] using hf) with ⟨hcs, hx⟩ | ⟨a, len, cap, zs, hcs, _, hl, hm, hz, hx, hcell, hwz⟩
  · simp at hcs; obtain ⟨rfl, rfl, rfl⟩ := hcs
    simp only [Prod.mk.injEq] at hx
    exact ⟨none, 0, 0, [], rfl, Rd.none_, fun _ h => (nomatch h), Nat.le_refl _, Nat.zero_le _, .inl ⟨hx.1, rfl⟩⟩
  · simp at hcs; obtain ⟨rfl, rfl, rfl⟩ := hcs
    simp only [if_true] at hz
    simp only [Prod.mk.injEq] at hx
    refine ⟨some a, n, c, zs.take n, rfl, ⟨by simp [hz]; omega, fun hn => ?_⟩, fun x hx => i64_wf (hwz x (List.mem_of_mem_take hx)), hl, hm, .inr ⟨_, _, hx.1, by simp [lits, hz]; omega⟩⟩
    obtain ⟨b, off, rfl, hcc⟩ := ints_at hcell (by omega)
    refine ⟨b, off, rfl, World.block_lt_of_cell? W ⟨b, off + 0, none⟩ (hcc 0 (by omega)), fun j u hu => ?_⟩
    have hj : j < n := by have := (List.getElem?_eq_some_iff.1 hu).1; simp [hz] at this; omega
    rw [hcc j (by omega)]
    rw [← hu]
    simp [List.getElem?_take_of_lt hj, List.getD, show j < zs.length by omega]

end
end Go.Proofs.YtkjnoekclfdjiaaDoor

namespace Go.Proofs.YtkjnoekclfdjiaaDoor
open Go.ChangeShapes Go.WideShapes Go.ChangeAt Go.RowKit
set_option linter.unusedVariables false

theorem strs_of_head {P : Program} {W : World} {name : String} {bs : List (List UInt8)} {rest : List (String × DataW Unit)} {g : Nat} {t e : TypeId} {n : Nat}
    (hg : P.globalNamed name = some g) (hty : (P.globals[g]?).map (·.type) = some t) (ht : P.underlying t = some (.array n e)) (he : P.underlying e = some .string) (hce : P.cellsOf e = 1)
    (h : laidMet P ((name, .agg (bs.map fun b => .lit (.string b))) :: rest) W) : ∀ i, i < n → ∃ s : ByteArray, W.cell? ⟨g, i, none⟩ = some (.string s) ∧ bs[i]? = some s.data.toList ∧ s.size ≤ maxLen := by
  obtain ⟨ps, ⟨g', t', cs, fuel, p, q, hg', ht', hvar, hd, _, _⟩, _⟩ := h
  obtain rfl := Option.some.inj (hg.symm.trans hg')
  obtain rfl := Option.some.inj (hty.symm.trans ht')
  obtain ⟨xs, m, _, hx, hlen, hxl, hel⟩ := DataW.trod_array ht hd
  intro i hi
  have h1 := hel i hi
  rw [hce, Nat.mul_one] at h1
  have hxi : xs[i]? = some (xs[i]'(by omega)) := List.getElem?_eq_getElem (by omega)
  rw [hxi] at h1
  obtain ⟨s, hs, hv, hm⟩ := DataW.trod_string he h1
  refine ⟨s, ?_, ?_, hm⟩
  · have hc := World.var?_cell hg hvar i
    rw [hc]
    have : (cs.toList.drop i).take 1 = [.string s] := hs
    have h2 : cs.toList[i]? = some (.string s) := by
      have h3 : ((cs.toList.drop i).take 1)[0]? = some (.string s) := by rw [this]; rfl
      simpa using h3
    simpa using h2
  · have h4 : (xs.map (·.1))[i]? = some (xs[i]'(by omega)).1 := by simp [hxi]
    simp only [Prod.mk.injEq] at hx
    have h5 : (bs.map fun b => (DataW.lit (.string b) : DataW Unit)) = xs.map (·.1) := by
      have := hx.1; injection this
    rw [← h5, hv] at h4
    simp only [List.getElem?_map, Option.map_eq_some_iff] at h4
    obtain ⟨b, hb, hb2⟩ := h4
    injection hb2 with hb3
    injection hb3 with hb4
    rw [hb, hb4]
end Go.Proofs.YtkjnoekclfdjiaaDoor

namespace Go.Proofs.YtkjnoekclfdjiaaDoor
open Go.RowKit
set_option linter.unusedVariables false

/-- Block T is a tape: a list of numbers that lies in older blocks, and a place in it. -/
def Tp (w : World) (T : Nat) : Prop :=
  ∃ (A : Option Addr) (n c p : Nat) (zs : List Int), w.heap[T]? = some (.cells #[.slice A n c, .int .i64 p] 47 (0, 0)) ∧ p ≤ n ∧ n ≤ 500 ∧ Rd w T 1 A n (zs.map (Value.int .i64)) ∧ Ints zs

theorem Tp.lt {w : World} {T : Nat} (h : Tp w T) : T < w.heap.size := by
  obtain ⟨A, n, c, p, zs, h, _⟩ := h
  rcases Nat.lt_or_ge T w.heap.size with hlt | hge
  · exact hlt
  · rw [Array.getElem?_eq_none hge] at h; cases h
theorem Tp.keep {w w' : World} {T : Nat} (h : Tp w T) (hk : ∀ k, k ≤ T → w'.heap[k]? = w.heap[k]?) : Tp w' T := by
  obtain ⟨A, n, c, p, zs, h1, h2, h3, h4, h5⟩ := h
  exact ⟨A, n, c, p, zs, (hk T (Nat.le_refl _)).trans h1, h2, h3, h4.keep fun q hq => World.cell?_of_block (w := w) (hk q.block (by omega)), h5⟩
theorem Tp.below {w w' : World} {T B : Nat} (h : Tp w T) (hb : Below B w w') (hT : T < B) : Tp w' T := h.keep fun k hk => hb.block k (by omega)
theorem Tp.grown {w w' : World} {T : Nat} {row : Option Nat} (h : Tp w T) (hg : w.grownBy w' row) (hr : ∀ g, row = some g → T < g) : Tp w' T :=
  h.keep fun k hk => hg.block k (by have := h.lt; omega) (fun e => by have := hr k e.symm; omega)
theorem Tp.alloc {w : World} {T : Nat} (h : Tp w T) (o : Obj) : Tp (w.alloc o) T := h.keep fun k hk => Below.heap_alloc w o k (by have := h.lt; omega)
theorem Tp.drew {w : World} {T : Nat} (h : Tp w T) : Tp w.drew T := h
theorem Tp.drewN {w : World} {T : Nat} (h : Tp w T) (n : Nat) : Tp (w.drewN n) T := h
theorem Tp.setCell {w : World} {T : Nat} (h : Tp w T) {p : Addr} (hp : T < p.block) (u : Value) : Tp (w.setCell p u) T := h.keep fun k hk => Below.heap_setCell w p u k (by omega)

theorem mod_eq (v n : Int) (h : 0 < n) : (if v.tmod n < 0 then v.tmod n + n else v.tmod n) = v % n := by
  have h1 : -n < v.tmod n := Int.lt_tmod_of_pos v h
  have h2 : v.tmod n < n := Int.tmod_lt_of_pos v h
  have h3 : v = n * (v.tdiv n) + v.tmod n := (Int.mul_tdiv_add_tmod v n).symm
  split
  · rename_i hlt
    have : v = (v.tmod n + n) + n * (v.tdiv n - 1) := by rw [Int.mul_sub, Int.mul_one]; omega
    conv => rhs; rw [this]
    rw [Int.add_mul_emod_self_left, Int.emod_eq_of_lt (by omega) (by omega)]
  · conv => rhs; rw [h3]
    rw [Int.add_comm, Int.add_mul_emod_self_left, Int.emod_eq_of_lt (by omega) (by omega)]

theorem ret_i64 {a b : Int} (h : a = b) : Ending.returned (.int .i64 a) = .returned (.int .i64 b) := by rw [h]

set_option maxHeartbeats 400000 in
theorem wmod_any (v n : Int) (w : World) (hv : I64 v) (h0 : 0 < n) (h1 : n ≤ 9223372036854775807) :
    Calls Tryd.prog 23 #[.int .i64 v, .int .i64 n] w fun e w' => e = .returned (.int .i64 (v % n)) ∧ w = w' := by
  have hm := mod_eq v n h0
  have b1 : -n < v.tmod n := Int.lt_tmod_of_pos v h0
  have b2 : v.tmod n < n := Int.tmod_lt_of_pos v h0
  have hn : (n == 0) = false := by simp; omega
  obtain ⟨t, ht, ht'⟩ : ∃ t, IntKind.i64.wrap (v.tmod n) = t ∧ v.tmod n = t := ⟨_, IntWalk.i64_in _ (by omega), rfl⟩
  rw [ht'] at hm b1 b2
  obtain ⟨hv0, hv1⟩ := hv
  by_cases hlt : t < 0
  · have HM : Hid (t + n = v % n) := by rw [if_pos hlt] at hm; exact hm
    clear hm
    go_enter Tryd.func23, Tryd.ntmps23
    go_wp2
    go_ret
    exact ⟨ret_i64 HM.out, rfl⟩
  · have HM : Hid (t = v % n) := by rw [if_neg hlt] at hm; exact hm
    clear hm
    go_enter Tryd.func23, Tryd.ntmps23
    go_wp2
    go_ret
    exact ⟨ret_i64 HM.out, rfl⟩

/-- What a draw from the tape leaves: a number from 0 to n - 1; the tape's block alone has turned. -/
def Drawn (w : World) (T : Nat) (n : Int) (e : Ending) (w' : World) : Prop :=
  ∃ r : Int, e = .returned (.int .i64 r) ∧ 0 ≤ r ∧ r < n ∧ Tp w' T ∧ w.grownBy w' (some T)

set_option maxHeartbeats 1000000 in
theorem next_any (T : Nat) (n : Int) (w : World) (ht : Tp w T) (h0 : 0 < n) (h1 : n ≤ 9223372036854775807) :
    Calls Tryd.prog 9 #[.pointer (some ⟨T, 0, none⟩), .int .i64 n] w fun e w' => Drawn w T n e w' := by
  obtain ⟨A, m, c, p, zs, hb, hp, hm, hr, hz⟩ := ht
  have hc0 : w.cell? ⟨T, 0, none⟩ = some (.slice A m c) := cell_of_row w T 0 _ _ _ hb
  have hc1 : w.cell? ⟨T, 1, none⟩ = some (.int .i64 p) := cell_of_row w T 1 _ _ _ hb
  have hf : w.frozen? ⟨T, 1, none⟩ = false := by simp [World.frozen?, hb]
  have hl : zs.length = m := by simpa using hr.1
  have HL := hid hl; clear hl
  have HB := hid hb; clear hb
  by_cases hlt : p < m
  · obtain ⟨b, o, rfl, hbT, hc⟩ := hr.at1 hlt
    rw [ints_get _ _ _ (by rw [HL.out]; omega)] at hc
    have bz := hz.at_ p
    have HZ := hid bz; clear bz
    go_enter Tryd.func9, Tryd.ntmps9
    go_wp2_with fail
    go_quiet (fail)
    go_wp2_with fail
    go_quiet ((go_at_call 23; first | exact quiet_left (wmod_any _ _ _ HZ.out h0 h1) | exact quiet_add_left (wmod_any _ _ _ HZ.out h0 h1)))
    go_wp2_with fail
    go_ret
    refine ⟨zs.getD p 0 % n, by simp [List.getD], Int.emod_nonneg _ (by omega), Int.emod_lt_of_pos _ h0, Tp.drewN ⟨_, m, c, p + 1, zs, blk_set (g := T) (w := World.drewN _ _) HB.out 1 _, by omega, hm, Rd.setCell (Rd.drewN hr _) (Nat.le_refl _) _, hz⟩ _, ?_⟩
    exact only_drewN (only_setCell (only_drewN (World.grownBy.refl _ _) _) (.inl rfl) _) _
  · go_enter Tryd.func9, Tryd.ntmps9
    go_wp2_with fail
    go_quiet (fail)
    go_wp2_with fail
    go_ret
    exact ⟨0, rfl, by omega, h0, Tp.drewN ⟨A, m, c, p, zs, HB.out, hp, hm, hr, hz⟩ _, only_drewN (World.grownBy.refl _ _) _⟩

/-- What New leaves: a pointer to a new tape. -/
def NewTape (w : World) (e : Ending) (w' : World) : Prop :=
  ∃ T, e = .returned (.pointer (some ⟨T, 0, none⟩)) ∧ w.heap.size ≤ T ∧ Tp w' T ∧ Below w.heap.size w w'

set_option maxHeartbeats 1000000 in
theorem new_any (A : Option Addr) (n c : Nat) (zs : List Int) (w : World) (hr : Rd w w.heap.size 1 A n (zs.map (Value.int .i64))) (hz : Ints zs) (hn : n ≤ c) (hc : c ≤ 9223372036854775807) :
    Calls Tryd.prog 6 #[.slice A n c] w fun e w' => NewTape w e w' := by
  by_cases hlt : 500 < n
  · go_enter Tryd.func6, Tryd.ntmps6
    go_wp2
    go_ret
    refine ⟨w.heap.size, rfl, Nat.le_refl _, ⟨A, 500, c, 0, zs.take 500, heap_alloc_new w _, by omega, by omega, ?_, fun x hx => hz x (List.mem_of_mem_take hx)⟩, (Below.refl _ _).alloc (Nat.le_refl _) _⟩
    have := (hr.take_ (k := 500) (by omega)).alloc (Nat.le_refl _) (.cells #[.slice A 500 c, .int .i64 0] 47)
    simpa [List.map_take] using this
  · go_enter Tryd.func6, Tryd.ntmps6
    go_wp2
    go_ret
    exact ⟨w.heap.size, rfl, Nat.le_refl _, ⟨A, n, c, 0, zs, heap_alloc_new w _, by omega, by omega, hr.alloc (Nat.le_refl _) _, hz⟩, (Below.refl _ _).alloc (Nat.le_refl _) _⟩
end Go.Proofs.YtkjnoekclfdjiaaDoor

namespace Go.Proofs.YtkjnoekclfdjiaaDoor
open Go.RowKit
set_option linter.unusedVariables false

def Blk (w : World) (g : Nat) (t : TypeId) (cs : Array Value) : Prop := w.heap[g]? = some (.cells cs t (0, 0))

section
variable {w w' w1 : World} {g : Nat} {t : TypeId} {cs : Array Value}
theorem Blk.lt (h : Blk w g t cs) : g < w.heap.size := by
  rcases Nat.lt_or_ge g w.heap.size with hlt | hge
  · exact hlt
  · unfold Blk at h; rw [Array.getElem?_eq_none hge] at h; cases h
theorem Blk.cell (h : Blk w g t cs) (i : Nat) : w.cell? ⟨g, i, none⟩ = cs[i]? := cell_of_row w g i cs t (0, 0) h
theorem Blk.frozen (h : Blk w g t cs) (i : Nat) : w.frozen? ⟨g, i, none⟩ = false := frozen_blk h i
theorem Blk.new (w : World) (t : TypeId) (cs : Array Value) : Blk (w.alloc (.cells cs t)) w.heap.size t cs := heap_alloc_new w _
theorem Blk.alloc (h : Blk w g t cs) (o : Obj) : Blk (w.alloc o) g t cs := (Below.heap_alloc w o g h.lt).trans h
theorem Blk.below {B : Nat} (h : Blk w g t cs) (hb : Below B w w') (hg : g < B) : Blk w' g t cs := (hb.block g hg).trans h
theorem Blk.over (h : Blk w g t cs) (hb : Below w.heap.size w w') : Blk w' g t cs := h.below hb h.lt
theorem Blk.far (h : Blk w g t cs) {p : Addr} (hp : g ≠ p.block) (u : Value) : Blk (w.setCell p u) g t cs := (Below.heap_setCell w p u g hp).trans h
theorem Blk.drew (h : Blk w g t cs) : Blk w.drew g t cs := h
theorem Blk.drewN (h : Blk w g t cs) (n : Nat) : Blk (w.drewN n) g t cs := h
theorem Blk.grown {row : Option Nat} (h : Blk w g t cs) (hb : w.grownBy w' row) (hg : some g ≠ row) : Blk w' g t cs := (hb.block g h.lt hg).trans h
end
theorem ext1 (w : World) (o : Obj) : Below w.heap.size w (w.alloc o) := (Below.refl _ _).alloc (Nat.le_refl _) _
theorem ext2 (w : World) (o o' : Obj) : Below w.heap.size w ((w.alloc o).alloc o') := (ext1 w o).alloc (by simp) _
end Go.Proofs.YtkjnoekclfdjiaaDoor

namespace Go.Proofs.YtkjnoekclfdjiaaDoor
open Go.RowKit
set_option linter.unusedVariables false

/-- An item of memory: a block known whole, a row that grows, a tape, or a statement on cells that are never written again. -/
inductive Hp where
  | blk (g : Nat) (t : TypeId) (cs : Array Value)
  | own (e : TypeId) (size : Nat) (v : Value) (n : Nat) (xs : List Value)
  | tp (T : Nat)
  | ro (S : World → Prop)
  | cst (g : Nat) (t : TypeId) (cs : Array Value)
  | ob (g : Nat) (F : World → Prop)

/-- the block that the item may write -/
def Hp.foot : Hp → Option Nat
  | .blk g _ _ => some g
  | .own _ _ v _ _ => v.ownBlock
  | .tp T => some T
  | .ro _ => none
  | .cst _ _ _ => none
  | .ob g _ => some g

/-- the blocks that may be written: a caller's own (M), and those of the items -/
def Mut (M : Nat → Prop) (L : List Hp) (b : Nat) : Prop := M b ∨ ∃ h ∈ L, h.foot = some b

/-- S holds in w, and as long as nothing but the blocks of M and new ones turns -/
def Ro (w : World) (M : Nat → Prop) (S : World → Prop) : Prop :=
  ∀ w' : World, w.heap.size ≤ w'.heap.size → (∀ b, b < w.heap.size → ¬ M b → w'.heap[b]? = w.heap[b]?) → S w'

theorem Ro.now {w : World} {M : Nat → Prop} {S : World → Prop} (h : Ro w M S) : S w := h w (Nat.le_refl _) (fun _ _ _ => rfl)
theorem Ro.step {w w' : World} {M M' : Nat → Prop} {S : World → Prop} (h : Ro w M S) (hs : w.heap.size ≤ w'.heap.size) (hb : ∀ b, b < w.heap.size → ¬ M b → w'.heap[b]? = w.heap[b]?)
    (hM : ∀ b, b < w.heap.size → M' b → M b) : Ro w' M' S := fun w2 h1 h2 => h w2 (Nat.le_trans hs h1) fun b hbl hn => (h2 b (Nat.lt_of_lt_of_le hbl hs) (fun hm => hn (hM b hbl hm))).trans (hb b hbl hn)
theorem Ro.less {w : World} {M M' : Nat → Prop} {S : World → Prop} (h : Ro w M S) (hM : ∀ b, M' b → M b) : Ro w M' S := h.step (Nat.le_refl _) (fun _ _ _ => rfl) (fun b _ hb => hM b hb)
theorem Ro.imp {w : World} {M : Nat → Prop} {S S' : World → Prop} (h : Ro w M S) (hi : ∀ w, S w → S' w) : Ro w M S' := fun w2 h1 h2 => hi _ (h w2 h1 h2)
theorem Ro.and {w : World} {M : Nat → Prop} {S S' : World → Prop} (h : Ro w M S) (k : Ro w M S') : Ro w M (fun w => S w ∧ S' w) := fun w2 h1 h2 => ⟨h w2 h1 h2, k w2 h1 h2⟩
theorem Ro.below {w w' : World} {M : Nat → Prop} {S : World → Prop} (h : Ro w M S) (hb : Below w.heap.size w w') : Ro w' M S := h.step hb.size (fun b hl _ => hb.block b hl) (fun _ _ hm => hm)
theorem Ro.grown {w w' : World} {M : Nat → Prop} {S : World → Prop} {T : Nat} (h : Ro w M S) (hb : w.grownBy w' (some T)) (hT : M T) : Ro w' M S :=
  h.step hb.size (fun b hl hn => hb.block b hl (fun e => by injection e with e; subst e; exact hn hT)) (fun _ _ hm => hm)
def Hp.sat (B : Nat) (w : World) (M : Nat → Prop) : Hp → Prop
  | .blk g t cs => w.heap[g]? = some (.cells cs t (0, 0))
  | .own e size v n xs => w.ownsRow B e size v n xs
  | .tp T => Tp w T ∧ ∀ b, M b → T ≤ b
  | .ro S => Ro w M S
  | .cst g t cs => Ro w M (fun w => w.heap[g]? = some (.cells cs t (0, 0)))
  | .ob g F => ∀ w' : World, w'.heap[g]? = w.heap[g]? → F w'

/-- no two items may write one block -/
def Apart : List Hp → Prop
  | [] => True
  | h :: L => (∀ b, h.foot = some b → ∀ k ∈ L, k.foot ≠ some b) ∧ Apart L

/-- From w0 to w nothing turned but the block 'row' and new ones; the items of L hold in w. M: blocks of the caller's that it may write. -/
structure Hold (M : Nat → Prop) (row : Option Nat) (w0 w : World) (L : List Hp) : Prop where
  grow : w0.grownBy w row
  low : ∀ b, M b → b < w0.heap.size
  sat : ∀ h ∈ L, h.sat w0.heap.size w (Mut M L)
  fresh : ∀ h ∈ L, ∀ b, h.foot = some b → (w0.heap.size ≤ b ∨ (row = some b ∧ h = .tp b)) ∧ b < w.heap.size
  sep : Apart L

section
variable {M : Nat → Prop} {row : Option Nat} {w0 w w' : World} {L L' : List Hp}

theorem Hold.start (M : Nat → Prop) (w : World) (h : ∀ b, M b → b < w.heap.size) : Hold M none w w [] :=
  ⟨World.grownBy.refl _ _, h, (fun _ h => nomatch h), (fun _ h => nomatch h), trivial⟩
theorem Hold.startT (M : Nat → Prop) (w : World) (T : Nat) (h : ∀ b, M b → b < w.heap.size) (ht : Tp w T) (hM : ∀ b, M b → T ≤ b) : Hold M (some T) w w [.tp T] := by
  refine ⟨World.grownBy.refl _ _, h, fun k hm => ?_, fun k hm b hf => ?_, ⟨fun _ _ k hk => by simp at hk, trivial⟩⟩
  · simp only [List.mem_singleton] at hm; subst hm
    refine ⟨ht, fun b hb => ?_⟩
    rcases hb with hb | ⟨k, hm, hf⟩
    · exact hM b hb
    · simp only [List.mem_singleton] at hm; subst hm; injection hf with hf; omega
  · simp only [List.mem_singleton] at hm; subst hm; injection hf with hf; subst hf; exact ⟨.inr ⟨rfl, rfl⟩, ht.lt⟩

theorem Hold.mutLt (h : Hold M row w0 w L) : ∀ b, Mut M L b → b < w.heap.size := fun b hb => by
  rcases hb with hb | ⟨k, hk, hf⟩
  · exact Nat.lt_of_lt_of_le (h.low b hb) h.grow.size
  · exact (h.fresh k hk b hf).2
theorem Hold.below (h : Hold M none w0 w L) : Below w0.heap.size w0 w := ⟨h.grow.os, h.grow.tape, h.grow.output, h.grow.size, fun k hk => h.grow.block k hk (by simp)⟩
theorem mut_cons {k : Hp} {b : Nat} : Mut M (k :: L) b ↔ (k.foot = some b ∨ Mut M L b) := by
  unfold Mut; simp only [List.mem_cons, exists_eq_or_imp]
  constructor
  · rintro (h | h | h)
    · exact .inr (.inl h)
    · exact .inl h
    · exact .inr (.inr h)
  · rintro (h | h | h)
    · exact .inr (.inl h)
    · exact .inl h
    · exact .inr (.inr h)

/-- An item's truth over a step that leaves all that may not be written, and the item's own block. -/
theorem Hp.sat_step {B : Nat} {M M' : Nat → Prop} {k : Hp} (h : k.sat B w M) (hs : w.heap.size ≤ w'.heap.size) (hb : ∀ b, b < w.heap.size → ¬ M b → w'.heap[b]? = w.heap[b]?)
    (hM : ∀ b, b < w.heap.size → M' b → M b) (hT : ∀ b, k.foot = some b → w'.heap[b]? = w.heap[b]?) (hlow : ∀ T, k = .tp T → (∀ b, b < T → w'.heap[b]? = w.heap[b]?)) : k.sat B w' M' := by
  cases k with
  | blk g t cs => exact (hT g rfl).trans h
  | own e size v n xs =>
    refine ⟨h.1, ?_⟩
    rcases h.2 with hn | ⟨g, cap, cur, rfl, hb', hgg, rest⟩
    · exact .inl hn
    · exact .inr ⟨g, cap, cur, rfl, hb', (hT g rfl).trans hgg, rest⟩
  | tp T =>
    refine ⟨h.1.keep fun b hbT => ?_, fun b hb' => ?_⟩
    · rcases Nat.lt_or_ge b T with hlt | hge
      · exact hlow T rfl b hlt
      · obtain rfl : b = T := by omega
        exact hT b rfl
    · rcases Nat.lt_or_ge b w.heap.size with hlt | hge
      · exact h.2 b (hM b hlt hb')
      · have := h.1.lt; omega
  | ro S => exact h.step hs hb hM
  | cst g t cs => exact Ro.step h hs hb hM
  | ob g F => exact fun w2 h2 => h w2 (h2.trans (hT g rfl))

/-- The step of a call that leaves old memory (and the caller's blocks). -/
theorem Hold.call (h : Hold M row w0 w L) (hb : Below w.heap.size w w') : Hold M row w0 w' L :=
  ⟨only_below h.grow hb, h.low,
   fun k hk => Hp.sat_step (k := k) (h.sat k hk) hb.size (fun b hl _ => hb.block b hl) (fun _ _ hm => hm) (fun b hf => hb.block b (h.fresh k hk b hf).2)
     (fun T hT b hlt => by
        have := h.fresh k hk T (by subst hT; rfl)
        exact hb.block b (by omega)),
   fun k hk b hf => ⟨(h.fresh k hk b hf).1, Nat.lt_of_lt_of_le (h.fresh k hk b hf).2 hb.size⟩, h.sep⟩

theorem Hold.drew (h : Hold M row w0 w L) : Hold M row w0 w.drew L :=
  ⟨only_drew h.grow, h.low, fun k hk => Hp.sat_step (k := k) (h.sat k hk) (Nat.le_refl _) (fun _ _ _ => rfl) (fun _ _ hm => hm) (fun _ _ => rfl) (fun _ _ _ _ => rfl), h.fresh, h.sep⟩
theorem Hold.drewN (h : Hold M row w0 w L) (n : Nat) : Hold M row w0 (w.drewN n) L :=
  ⟨only_drewN h.grow n, h.low, fun k hk => Hp.sat_step (k := k) (h.sat k hk) (Nat.le_refl _) (fun _ _ _ => rfl) (fun _ _ hm => hm) (fun _ _ => rfl) (fun _ _ _ _ => rfl), h.fresh, h.sep⟩

/-- A new block. -/
theorem Hold.alloc (h : Hold M row w0 w L) (cs : Array Value) (t : TypeId) : Hold M row w0 (w.alloc (.cells cs t)) (.blk w.heap.size t cs :: L) := by
  have hsz : (w.alloc (.cells cs t)).heap.size = w.heap.size + 1 := by simp
  have hMM : ∀ b, b < w.heap.size → Mut M (.blk w.heap.size t cs :: L) b → Mut M L b := fun b hl hm => by
    rcases mut_cons.1 hm with hf | hm
    · injection hf with hf; omega
    · exact hm
  refine ⟨only_alloc h.grow _, h.low, fun k hk => ?_, fun k hk b hf => ?_, ⟨fun b hf k hk he => ?_, h.sep⟩⟩
  · rcases List.mem_cons.1 hk with rfl | hk
    · exact heap_alloc_new w _
    · exact Hp.sat_step (k := k) (h.sat k hk) (by omega) (fun b hl _ => Below.heap_alloc w _ b hl) hMM (fun b hf => Below.heap_alloc w _ b (h.fresh k hk b hf).2)
        (fun T hT b hlt => by
          have := h.fresh k hk T (by subst hT; rfl)
          exact Below.heap_alloc w _ b (by omega))
  · rcases List.mem_cons.1 hk with rfl | hk
    · injection hf with hf; subst hf; exact ⟨.inl h.grow.size, by omega⟩
    · exact ⟨(h.fresh k hk b hf).1, by have := (h.fresh k hk b hf).2; omega⟩
  · injection hf with hf; subst hf
    have := (h.fresh k hk _ he).2; omega

/-- An item that may be written is replaced by one of the same block, or of a new one; a step of the world that turns nothing but that block. -/
theorem Apart.mem (h : Apart L) {i j : Nat} {a b : Hp} (hi : L[i]? = some a) (hj : L[j]? = some b) (hij : i ≠ j) {x : Nat} (ha : a.foot = some x) : b.foot ≠ some x := by
  induction L generalizing i j with
  | nil => cases hi
  | cons c L ih =>
    obtain ⟨h1, h2⟩ := h
    cases i with
    | zero =>
      cases j with
      | zero => exact absurd rfl hij
      | succ j => simp only [List.getElem?_cons_zero, Option.some.injEq] at hi; subst hi; exact h1 x ha b (List.mem_of_getElem? (by simpa using hj))
    | succ i =>
      cases j with
      | zero =>
        simp only [List.getElem?_cons_zero, Option.some.injEq] at hj; subst hj
        intro hb
        exact h1 x hb a (List.mem_of_getElem? (by simpa using hi)) ha
      | succ j => exact ih h2 (by simpa using hi) (by simpa using hj) (fun e => hij (by omega))
theorem apart_of (h : ∀ (i j : Nat) (a b : Hp), L[i]? = some a → L[j]? = some b → i ≠ j → ∀ x, a.foot = some x → b.foot ≠ some x) : Apart L := by
  induction L with
  | nil => trivial
  | cons c L ih =>
    refine ⟨fun x hx k hk => ?_, ih fun i j a b hi hj hij => h (i + 1) (j + 1) a b (by simpa using hi) (by simpa using hj) (by omega)⟩
    obtain ⟨n, hn⟩ := List.getElem?_of_mem hk
    exact h 0 (n + 1) c k rfl (by simpa using hn) (by omega) x hx

theorem set_get {k : Hp} {i j : Nat} {a : Hp} (h : (L.set i k)[j]? = some a) : (i = j ∧ a = k) ∨ (i ≠ j ∧ L[j]? = some a) := by
  by_cases e : i = j
  · subst e
    left
    rw [List.getElem?_set] at h
    simp only [if_true] at h
    split at h
    · injection h with h; exact ⟨rfl, h.symm⟩
    · cases h
  · right
    rw [List.getElem?_set, if_neg e] at h
    exact ⟨e, h⟩

theorem Hold.turn (h : Hold M row w0 w L) (i : Nat) {k k' : Hp} (hi : L[i]? = some k) (hsz : w.heap.size ≤ w'.heap.size) (hos : w'.os = w.os ∧ w'.tape = w.tape ∧ w'.output = w.output)
    (hb : ∀ b, b < w.heap.size → k.foot ≠ some b → w'.heap[b]? = w.heap[b]?)
    (hf : ∀ b, k'.foot = some b → (k.foot = some b ∨ w.heap.size ≤ b) ∧ b < w'.heap.size)
    (hs : k'.sat w0.heap.size w' (Mut M (L.set i k'))) (hnt : ∀ T, k = .tp T → k' = .tp T) : Hold M row w0 w' (L.set i k') := by
  have hkm : k ∈ L := List.mem_of_getElem? hi
  have hMM : ∀ b, b < w.heap.size → Mut M (L.set i k') b → Mut M L b := fun b hl hm => by
    rcases hm with hm | ⟨a, ha, hfa⟩
    · exact .inl hm
    · obtain ⟨j, hj⟩ := List.getElem?_of_mem ha
      rcases set_get hj with ⟨rfl, rfl⟩ | ⟨_, hj⟩
      · rcases (hf b hfa).1 with h1 | h1
        · exact .inr ⟨k, hkm, h1⟩
        · omega
      · exact .inr ⟨a, List.mem_of_getElem? hj, hfa⟩
  have hkM : ∀ b, k.foot = some b → Mut M L b := fun b hb => .inr ⟨k, hkm, hb⟩
  refine ⟨⟨hos.1.trans h.grow.os, hos.2.1.trans h.grow.tape, hos.2.2.trans h.grow.output, Nat.le_trans h.grow.size hsz, fun b hl hne => ?_⟩, h.low, fun a ha => ?_, fun a ha b hfa => ?_, ?_⟩
  · refine (hb b (Nat.lt_of_lt_of_le hl h.grow.size) fun hk => ?_).trans (h.grow.block b hl hne)
    rcases (h.fresh k hkm b hk).1 with h1 | h1
    · omega
    · exact hne h1.1.symm
  · obtain ⟨j, hj⟩ := List.getElem?_of_mem ha
    rcases set_get hj with ⟨rfl, rfl⟩ | ⟨hij, hj⟩
    · exact hs
    · have ham := List.mem_of_getElem? hj
      refine Hp.sat_step (k := a) (h.sat a ham) hsz (fun b hl hn => hb b hl fun hk => hn (hkM b hk)) hMM (fun b hfb => hb b (h.fresh a ham b hfb).2 (h.sep.mem hj hi (fun e => hij e.symm) hfb)) (fun T hT b hlt => ?_)
      subst hT
      have h1 := (h.fresh _ ham T rfl).2
      refine hb b (by omega) fun hk => ?_
      have h2 := (h.sat _ ham).2 b (hkM b hk)
      omega
  · obtain ⟨j, hj⟩ := List.getElem?_of_mem ha
    rcases set_get hj with ⟨rfl, rfl⟩ | ⟨hij, hj⟩
    · obtain ⟨h1, h2⟩ := hf b hfa
      rcases h1 with h1 | h1
      · refine ⟨?_, h2⟩
        rcases (h.fresh k hkm b h1).1 with h3 | ⟨h3, h4⟩
        · exact .inl h3
        · exact .inr ⟨h3, hnt b h4⟩
      · exact ⟨.inl (Nat.le_trans h.grow.size h1), h2⟩
    · have ham := List.mem_of_getElem? hj
      exact ⟨(h.fresh a ham b hfa).1, Nat.lt_of_lt_of_le (h.fresh a ham b hfa).2 hsz⟩
  · refine apart_of fun x y a b hx hy hxy g hg => ?_
    rcases set_get hx with ⟨rfl, rfl⟩ | ⟨hix, hx'⟩ <;> rcases set_get hy with ⟨rfl, rfl⟩ | ⟨hiy, hy'⟩
    · exact absurd rfl hxy
    · rcases (hf g hg).1 with h1 | h1
      · exact h.sep.mem hi hy' hxy h1
      · intro he; have := (h.fresh b (List.mem_of_getElem? hy') g he).2; omega
    · intro he
      rcases (hf g he).1 with h1 | h1
      · exact h.sep.mem hx' hi hxy hg h1
      · have := (h.fresh a (List.mem_of_getElem? hx') g hg).2; omega
    · exact h.sep.mem hx' hy' hxy hg

/-- A store into a block that is known whole. -/
theorem Hold.store (h : Hold M row w0 w L) (i : Nat) {g : Nat} {t : TypeId} {cs : Array Value} (hi : L[i]? = some (.blk g t cs)) (j : Nat) (u : Value) :
    Hold M row w0 (w.setCell ⟨g, j, none⟩ u) (L.set i (.blk g t (cs.setIfInBounds j u))) := by
  have hkm := List.mem_of_getElem? hi
  refine h.turn i hi (by simp [World.setCell]) ⟨rfl, rfl, rfl⟩ (fun b _ hne => Below.heap_setCell w _ u b fun e => hne (by rw [e]; rfl)) (fun b hf => ?_) (blk_set (h.sat _ hkm) j u) (fun T hT => by cases hT)
  have : some g = some b := hf
  injection this with this
  subst this
  exact ⟨.inl rfl, by have := (h.fresh _ hkm g rfl).2; simpa [World.setCell] using this⟩

/-- A store into an own row (below its length). -/
theorem Hold.put_ (h : Hold M row w0 w L) (i : Nat) {e : TypeId} {size n cap g : Nat} {xs : List Value} (hi : L[i]? = some (.own e size (.slice (some ⟨g, 0, none⟩) n cap) n xs)) (j : Nat) (u : Value) :
    Hold M row w0 (w.setCell ⟨g, j, none⟩ u) (L.set i (.own e size (.slice (some ⟨g, 0, none⟩) n cap) n (xs.set j u))) := by
  have hkm := List.mem_of_getElem? hi
  have hs := World.ownsRow.stored (h.sat _ hkm) j u
  refine h.turn i hi (by simp [World.setCell]) ⟨rfl, rfl, rfl⟩ (fun b _ hne => Below.heap_setCell w _ u b fun e => hne (by rw [e]; rfl)) (fun b hf => ?_) hs.1 (fun T hT => by cases hT)
  have : some g = some b := hf
  injection this with this
  subst this
  exact ⟨.inl rfl, by have := (h.fresh _ hkm g rfl).2; simpa [World.setCell] using this⟩

/-- An append to an own row. -/
theorem Hold.append (h : Hold M row w0 w L) (i : Nat) {e : TypeId} {size n n' g cap : Nat} {v : Value} {xs ys : List Value} (hi : L[i]? = some (.own e size v n xs))
    (ho : w'.ownsRow w0.heap.size e size (.slice (some ⟨g, 0, none⟩) n' cap) n' ys) (hg : w.grownBy w' v.ownBlock) (hd : v.ownBlock = some g ∨ w.heap.size ≤ g) (hl : g < w'.heap.size) :
    Hold M row w0 w' (L.set i (.own e size (.slice (some ⟨g, 0, none⟩) n' cap) n' ys)) := by
  refine h.turn i hi hg.size ⟨hg.os, hg.tape, hg.output⟩ (fun b hl hne => hg.block b hl fun e => hne e.symm) (fun b hf => ?_) ho (fun T hT => by cases hT)
  have : some g = some b := hf
  injection this with this
  subst this
  exact ⟨hd, hl⟩

/-- A call that turns the tape. -/
theorem Hold.callT (h : Hold M row w0 w L) (i : Nat) {T : Nat} (hi : L[i]? = some (.tp T)) (hg : w.grownBy w' (some T)) (ht : Tp w' T) : Hold M row w0 w' L := by
  have hkm := List.mem_of_getElem? hi
  have hlt := (h.fresh _ hkm T rfl).2
  have := h.turn (k' := .tp T) i hi hg.size ⟨hg.os, hg.tape, hg.output⟩ (fun b hl hne => hg.block b hl fun e => hne e.symm) (fun b hf => ⟨.inl hf, by
    injection hf with hf; subst hf; exact Nat.lt_of_lt_of_le hlt hg.size⟩) ⟨ht, fun b hb => by
      have hb' : Mut M L b := by
        rcases hb with hb | ⟨a, ha, hfa⟩
        · exact .inl hb
        · obtain ⟨j, hj⟩ := List.getElem?_of_mem ha
          rcases set_get hj with ⟨rfl, rfl⟩ | ⟨_, hj⟩
          · exact .inr ⟨_, hkm, hfa⟩
          · exact .inr ⟨a, List.mem_of_getElem? hj, hfa⟩
      exact (h.sat _ hkm).2 b hb'⟩ (fun T' hT' => by injection hT' with hT'; rw [hT'])
  have e : L.set i (.tp T) = L := by
    apply List.ext_getElem?
    intro j
    rw [List.getElem?_set]
    split
    · subst i; split
      · exact hi.symm
      · rw [List.getElem?_eq_none (by omega)]
    · rfl
  rwa [e] at this

/-- More is known. -/
theorem Hold.add (h : Hold M row w0 w L) {S : World → Prop} (hr : Ro w (Mut M L) S) : Hold M row w0 w (.ro S :: L) := by
  have e : ∀ b, Mut M (.ro S :: L) b → Mut M L b := fun b hb => by
    rcases mut_cons.1 hb with hf | hm
    · cases hf
    · exact hm
  refine ⟨h.grow, h.low, fun k hk => ?_, fun k hk b hf => ?_, ⟨(fun b hf => nomatch hf), h.sep⟩⟩
  · rcases List.mem_cons.1 hk with rfl | hk
    · exact hr.less e
    · exact Hp.sat_step (k := k) (h.sat k hk) (Nat.le_refl _) (fun _ _ _ => rfl) (fun b _ hb => e b hb) (fun _ _ => rfl) (fun _ _ _ _ => rfl)
  · rcases List.mem_cons.1 hk with rfl | hk
    · cases hf
    · exact h.fresh k hk b hf

/-- A row of the call's own, empty. -/
theorem Hold.nil (h : Hold M row w0 w L) (e : TypeId) (size : Nat) : Hold M row w0 w (.own e size (.slice none 0 0) 0 [] :: L) := by
  have ee : ∀ b, Mut M (.own e size (.slice none 0 0) 0 [] :: L) b → Mut M L b := fun b hb => by
    rcases mut_cons.1 hb with hf | hm
    · cases hf
    · exact hm
  refine ⟨h.grow, h.low, fun k hk => ?_, fun k hk b hf => ?_, ⟨(fun b hf => nomatch hf), h.sep⟩⟩
  · rcases List.mem_cons.1 hk with rfl | hk
    · exact World.ownsRow_nil _ _ _ _
    · exact Hp.sat_step (k := k) (h.sat k hk) (Nat.le_refl _) (fun _ _ _ => rfl) (fun b _ hb => ee b hb) (fun _ _ => rfl) (fun _ _ _ _ => rfl)
  · rcases List.mem_cons.1 hk with rfl | hk
    · cases hf
    · exact h.fresh k hk b hf

/-- A new block taken for an own row: a literal, or what make laid. -/
theorem Hold.alloc_own (h : Hold M row w0 w L) (cs : Array Value) (t : TypeId) (size n : Nat) (hm : n ≤ maxLen) (hs : cs.size = n * size) :
    Hold M row w0 (w.alloc (.cells cs t)) (.own t size (.slice (some ⟨w.heap.size, 0, none⟩) n n) n cs.toList :: L) := by
  have h1 := h.alloc cs t
  exact h1.turn (k' := .own t size (.slice (some ⟨w.heap.size, 0, none⟩) n n) n cs.toList) 0 rfl (Nat.le_refl _) ⟨rfl, rfl, rfl⟩ (fun _ _ _ => rfl) (fun b hf => ⟨.inl hf, (h1.fresh _ (List.mem_cons_self ..) b hf).2⟩)
    (World.ownsRow_lit w cs n h.grow.size hm hs) (fun T hT => by cases hT)

/-- Less is known. -/
theorem Hold.drop (h : Hold M row w0 w L) (hL : List.Sublist L' L) : Hold M row w0 w L' := by
  have e : ∀ b, Mut M L' b → Mut M L b := fun b hb => by
    rcases hb with hb | ⟨k, hk, hf⟩
    · exact .inl hb
    · exact .inr ⟨k, hL.subset hk, hf⟩
  refine ⟨h.grow, h.low, fun k hk => Hp.sat_step (k := k) (h.sat k (hL.subset hk)) (Nat.le_refl _) (fun _ _ _ => rfl) (fun b _ hb => e b hb) (fun _ _ => rfl) (fun _ _ _ _ => rfl), fun k hk => h.fresh k (hL.subset hk), ?_⟩
  have h1 := h.sep
  clear h e
  induction hL with
  | slnil => trivial
  | cons _ _ ih => exact ih h1.2
  | cons_cons a hs ih => exact ⟨fun b hb k hk => h1.1 b hb k (hs.subset hk), ih h1.2⟩

/-- An item that may be written is laid down for good: whatever its block says. -/
theorem Hold.sealTo (h : Hold M row w0 w L) (i : Nat) {k k' : Hp} (hi : L[i]? = some k) (hk : ∀ T, k ≠ .tp T) (hk' : k'.foot = none) {S : World → Prop}
    (hS : ∀ w2 : World, k.sat w0.heap.size w (Mut M L) → (∀ b, k.foot = some b → w2.heap[b]? = w.heap[b]?) → S w2) (hs : Ro w (Mut M (L.set i k')) S → k'.sat w0.heap.size w (Mut M (L.set i k'))) : Hold M row w0 w (L.set i k') := by
  have hkm := List.mem_of_getElem? hi
  refine h.turn i hi (Nat.le_refl _) ⟨rfl, rfl, rfl⟩ (fun _ _ _ => rfl) (fun b hf => by rw [hk'] at hf; cases hf) (hs ?_) (fun T hT => absurd hT (hk T))
  intro w2 h1 h2
  refine hS w2 (h.sat k hkm) fun b hf => h2 b (h.fresh k hkm b hf).2 ?_
  rintro (hm | ⟨a, ha, hfa⟩)
  · rcases (h.fresh k hkm b hf).1 with h3 | ⟨h3, h4⟩
    · have := h.low b hm; omega
    · exact absurd h4 (hk b)
  · obtain ⟨j, hj⟩ := List.getElem?_of_mem ha
    rcases set_get hj with ⟨rfl, rfl⟩ | ⟨hij, hj⟩
    · rw [hk'] at hfa; cases hfa
    · exact h.sep.mem hi hj hij hf hfa
theorem Hold.seal (h : Hold M row w0 w L) (i : Nat) {k : Hp} (hi : L[i]? = some k) (hk : ∀ T, k ≠ .tp T) {S : World → Prop}
    (hS : ∀ w2 : World, k.sat w0.heap.size w (Mut M L) → (∀ b, k.foot = some b → w2.heap[b]? = w.heap[b]?) → S w2) : Hold M row w0 w (L.set i (.ro S)) :=
  h.sealTo i hi hk rfl hS id
/-- A block that will not be written again. -/
theorem Hold.fix_ (h : Hold M row w0 w L) (i : Nat) {g : Nat} {t : TypeId} {cs : Array Value} (hi : L[i]? = some (.blk g t cs)) : Hold M row w0 w (L.set i (.cst g t cs)) :=
  h.sealTo i hi (fun T e => nomatch e) rfl (S := fun w => w.heap[g]? = some (.cells cs t (0, 0))) (fun w2 h1 h2 => (h2 g rfl).trans h1) id
/-- A new block that will not be written again. -/
theorem Hold.alloc_cst (h : Hold M row w0 w L) (cs : Array Value) (t : TypeId) : Hold M row w0 (w.alloc (.cells cs t)) (.cst w.heap.size t cs :: L) := (h.alloc cs t).fix_ 0 rfl
/-- A new tape, where nothing that may be written is known. -/
theorem Hold.newTape (h : Hold M row w0 w L) {T : Nat} (hb : Below w.heap.size w w') (ht : Tp w' T) (hT : w.heap.size ≤ T) (hm : ∀ b, ¬ Mut M L b) : Hold M row w0 w' (.tp T :: L) := by
  have h1 := h.call hb
  have hM : ∀ b, Mut M (.tp T :: L) b → b = T := fun b hb => by
    rcases mut_cons.1 hb with hf | hm'
    · injection hf with hf; exact hf.symm
    · exact absurd hm' (hm b)
  have hfo : ∀ k ∈ L, ∀ b, k.foot ≠ some b := fun k hk b hf => hm b (.inr ⟨k, hk, hf⟩)
  refine ⟨h1.grow, h.low, fun k hk => ?_, fun k hk b hf => ?_, ⟨fun b _ k hk => hfo k hk b, h.sep⟩⟩
  · rcases List.mem_cons.1 hk with rfl | hk
    · exact ⟨ht, fun b hb => by rw [hM b hb]; exact Nat.le_refl _⟩
    · exact Hp.sat_step (k := k) (h.sat k hk) hb.size (fun b hl _ => hb.block b hl) (fun b hl hm' => by have := hM b hm'; omega) (fun b hf => absurd hf (hfo k hk b)) (fun T' hT' => absurd (by rw [hT']; rfl) (hfo k hk T'))
  · rcases List.mem_cons.1 hk with rfl | hk
    · injection hf with hf; subst hf; exact ⟨.inl (Nat.le_trans h.grow.size hT), ht.lt⟩
    · exact absurd hf (hfo k hk b)
end
/-- The cells of a block, one by one: what the walk reads. -/
def cellsF (w : World) (g : Nat) : Nat → List Value → Prop
  | _, [] => True
  | i, x :: r => w.cell? ⟨g, i, none⟩ = some x ∧ w.frozen? ⟨g, i, none⟩ = false ∧ cellsF w g (i + 1) r
def factsL (w : World) : List Hp → Prop
  | [] => True
  | .blk g t cs :: L => g < w.heap.size ∧ cellsF w g 0 cs.toList ∧ factsL w L
  | .own _ _ _ _ _ :: L => factsL w L
  | .tp _ :: L => factsL w L
  | .ro _ :: L => factsL w L
  | .cst g t cs :: L => g < w.heap.size ∧ cellsF w g 0 cs.toList ∧ factsL w L
  | .ob _ _ :: L => factsL w L
theorem cellsF_of {w : World} {g : Nat} {t : TypeId} {cs : Array Value} (h : w.heap[g]? = some (.cells cs t (0, 0))) : ∀ (l : List Value) (i : Nat), (∀ j, l[j]? = cs[i + j]?) → cellsF w g i l
  | [], _, _ => trivial
  | x :: r, i, hl => by
    refine ⟨?_, frozen_blk h i, cellsF_of h r (i + 1) fun j => ?_⟩
    · rw [cell_of_row w g i cs t (0, 0) h]; exact (hl 0).symm
    · have := hl (j + 1); rw [show i + 1 + j = i + (j + 1) from by omega]; simpa using this
theorem factsL_of {w : World} {B : Nat} {M : Nat → Prop} : ∀ {L : List Hp}, (∀ h ∈ L, h.sat B w M) → (∀ h ∈ L, ∀ b, h.foot = some b → b < w.heap.size) → factsL w L
  | [], _, _ => trivial
  | .blk g t cs :: L, h, k => ⟨k _ (List.mem_cons_self ..) g rfl, cellsF_of (h _ (List.mem_cons_self ..)) cs.toList 0 (by simp), factsL_of (fun a ha => h a (List.mem_cons_of_mem _ ha)) (fun a ha => k a (List.mem_cons_of_mem _ ha))⟩
  | .own .. :: L, h, k => factsL_of (L := L) (fun a ha => h a (List.mem_cons_of_mem _ ha)) (fun a ha => k a (List.mem_cons_of_mem _ ha))
  | .tp _ :: L, h, k => factsL_of (L := L) (fun a ha => h a (List.mem_cons_of_mem _ ha)) (fun a ha => k a (List.mem_cons_of_mem _ ha))
  | .ro _ :: L, h, k => factsL_of (L := L) (fun a ha => h a (List.mem_cons_of_mem _ ha)) (fun a ha => k a (List.mem_cons_of_mem _ ha))
  | .ob _ _ :: L, h, k => factsL_of (L := L) (fun a ha => h a (List.mem_cons_of_mem _ ha)) (fun a ha => k a (List.mem_cons_of_mem _ ha))
  | .cst g t cs :: L, h, k => by
    have h1 : w.heap[g]? = some (.cells cs t (0, 0)) := Ro.now (show Ro w M (fun w => w.heap[g]? = some (.cells cs t (0, 0))) from h _ (List.mem_cons_self ..))
    refine ⟨?_, cellsF_of h1 cs.toList 0 (by simp), factsL_of (fun a ha => h a (List.mem_cons_of_mem _ ha)) (fun a ha => k a (List.mem_cons_of_mem _ ha))⟩
    rcases Nat.lt_or_ge g w.heap.size with hlt | hge
    · exact hlt
    · rw [Array.getElem?_eq_none hge] at h1; cases h1
theorem Hold.facts {M : Nat → Prop} {row : Option Nat} {w0 w : World} {L : List Hp} (h : Hold M row w0 w L) : factsL w L := factsL_of h.sat fun a ha b hb => (h.fresh a ha b hb).2
/-- an item by its place -/
theorem Hold.get {M : Nat → Prop} {row : Option Nat} {w0 w : World} {L : List Hp} (h : Hold M row w0 w L) (i : Nat) {k : Hp} (hi : L[i]? = some k) : k.sat w0.heap.size w (Mut M L) := h.sat k (List.mem_of_getElem? hi)
theorem Hold.ro {M : Nat → Prop} {row : Option Nat} {w0 w : World} {L : List Hp} (h : Hold M row w0 w L) (i : Nat) {S : World → Prop} (hi : L[i]? = some (.ro S)) : Ro w (Mut M L) S := h.get i hi
theorem Hold.tp_ {M : Nat → Prop} {row : Option Nat} {w0 w : World} {L : List Hp} (h : Hold M row w0 w L) (i : Nat) {T : Nat} (hi : L[i]? = some (.tp T)) : Tp w T := (h.get i hi).1
theorem Hold.roOut {M : Nat → Prop} {row : Option Nat} {w0 w : World} {L : List Hp} (h : Hold M row w0 w L) (i : Nat) {S : World → Prop} (hi : L[i]? = some (.ro S)) : Ro w M S := (h.ro i hi).less fun b hb => .inl hb
/-- A new object of the call's own, of which F is known as long as it stands. -/
theorem Hold.allocOb {M : Nat → Prop} {row : Option Nat} {w0 w : World} {L : List Hp} (h : Hold M row w0 w L) (o : Obj) (F : World → Prop) (hF : ∀ w' : World, w'.heap[w.heap.size]? = some o → F w') : Hold M row w0 (w.alloc o) (.ob w.heap.size F :: L) := by
  have hsz : (w.alloc o).heap.size = w.heap.size + 1 := by simp
  have hnew : (w.alloc o).heap[w.heap.size]? = some o := heap_alloc_new w _
  have hMM : ∀ b, b < w.heap.size → Mut M (.ob w.heap.size F :: L) b → Mut M L b := fun b hl hm => by
    rcases mut_cons.1 hm with hf | hm
    · injection hf with hf; omega
    · exact hm
  refine ⟨only_alloc h.grow _, h.low, fun k hk => ?_, fun k hk b hf => ?_, ⟨fun b hf k hk he => ?_, h.sep⟩⟩
  · rcases List.mem_cons.1 hk with rfl | hk
    · exact fun w' hw' => hF w' (hw'.trans hnew)
    · exact Hp.sat_step (k := k) (h.sat k hk) (by omega) (fun b hl _ => Below.heap_alloc w _ b hl) hMM (fun b hf => Below.heap_alloc w _ b (h.fresh k hk b hf).2)
        (fun T hT b hlt => by
          have := h.fresh k hk T (by subst hT; rfl)
          exact Below.heap_alloc w _ b (by omega))
  · rcases List.mem_cons.1 hk with rfl | hk
    · injection hf with hf; subst hf; exact ⟨.inl h.grow.size, by omega⟩
    · exact ⟨(h.fresh k hk b hf).1, by have := (h.fresh k hk b hf).2; omega⟩
  · injection hf with hf; subst hf
    have := (h.fresh k hk _ he).2; omega
/-- The object is turned. -/
theorem Hold.turnOb {M : Nat → Prop} {row : Option Nat} {w0 w w' : World} {L : List Hp} (h : Hold M row w0 w L) (i : Nat) {g : Nat} {F F' : World → Prop} (hi : L[i]? = some (.ob g F)) (hg : w.grownBy w' (some g)) (hF : ∀ w2 : World, w2.heap[g]? = w'.heap[g]? → F' w2) : Hold M row w0 w' (L.set i (.ob g F')) := by
  have hkm := List.mem_of_getElem? hi
  refine h.turn i hi hg.size ⟨hg.os, hg.tape, hg.output⟩ (fun b hl hne => hg.block b hl fun e => hne e.symm) (fun b hf => ⟨.inl hf, by
    injection hf with hf; subst hf; exact Nat.lt_of_lt_of_le (h.fresh _ hkm g rfl).2 hg.size⟩) hF (fun T hT => by cases hT)
theorem Hold.ob_ {M : Nat → Prop} {row : Option Nat} {w0 w : World} {L : List Hp} (h : Hold M row w0 w L) (i : Nat) {g : Nat} {F : World → Prop} (hi : L[i]? = some (.ob g F)) : F w := h.get i hi w rfl
/-- no block of a caller's that may be written -/
def None_ (b : Nat) : Prop := False
theorem Hold.begin_ (w : World) : Hold None_ none w w [] := Hold.start None_ w (fun b hb => hb.elim)
end Go.Proofs.YtkjnoekclfdjiaaDoor

namespace Go.Proofs.YtkjnoekclfdjiaaDoor
open Go.RowKit
set_option linter.unusedVariables false

theorem flat_get {α β : Type} (f : α → List β) (n : Nat) (hf : ∀ a, (f a).length = n) : ∀ (l : List α) (k j : Nat) (a : α), j < n → l[k]? = some a → (l.flatMap f)[k * n + j]? = (f a)[j]?
  | [], k, j, a, _, h => by simp at h
  | x :: l, 0, j, a, hj, h => by
    simp only [List.getElem?_cons_zero, Option.some.injEq] at h
    subst h
    simp only [List.flatMap_cons, Nat.zero_mul, Nat.zero_add]
    rw [List.getElem?_append_left (by rw [hf]; exact hj)]
  | x :: l, k + 1, j, a, hj, h => by
    simp only [List.getElem?_cons_succ] at h
    simp only [List.flatMap_cons]
    rw [List.getElem?_append_right (by rw [hf, Nat.succ_mul]; omega), hf, show (k + 1) * n + j - n = k * n + j by rw [Nat.succ_mul]; omega]
    exact flat_get f n hf l k j a hj h
theorem flat_len {α β : Type} (f : α → List β) (n : Nat) (hf : ∀ a, (f a).length = n) (l : List α) : (l.flatMap f).length = l.length * n := by
  induction l with
  | nil => simp
  | cons x l ih => simp [List.flatMap_cons, hf, ih, Nat.succ_mul]; omega
/-- A column. -/
structure Col where
  name : ByteArray
  ty : Int
  nn : Bool
  key : Bool
deriving DecidableEq
def Col.cells (c : Col) : List Value := [.string c.name, .int .i64 c.ty, .bool c.nn, .bool c.key]
def colCells (l : List Col) : List Value := l.flatMap Col.cells
theorem colCells_len (l : List Col) : (colCells l).length = l.length * 4 := flat_len _ 4 (fun _ => rfl) l
theorem colCells_at {l : List Col} {k : Nat} {c : Col} (h : l[k]? = some c) : (colCells l)[k * 4]? = some (.string c.name) ∧ (colCells l)[k * 4 + 1]? = some (.int .i64 c.ty) ∧ (colCells l)[k * 4 + 2]? = some (.bool c.nn) ∧ (colCells l)[k * 4 + 3]? = some (.bool c.key) :=
  ⟨flat_get Col.cells 4 (fun _ => rfl) l k 0 c (by omega) h, flat_get Col.cells 4 (fun _ => rfl) l k 1 c (by omega) h, flat_get Col.cells 4 (fun _ => rfl) l k 2 c (by omega) h, flat_get Col.cells 4 (fun _ => rfl) l k 3 c (by omega) h⟩

/-- The slice with address A and n elements reads as the columns l. -/
def RdC (w : World) (B : Nat) (A : Option Addr) (n : Nat) (l : List Col) : Prop := Rd w B 4 A n (colCells l)
theorem RdC.len {w : World} {B n : Nat} {A : Option Addr} {l : List Col} (h : RdC w B A n l) : l.length = n := by
  have := h.1
  rw [colCells_len] at this
  omega
theorem RdC.at_ {w : World} {B n : Nat} {A : Option Addr} {l : List Col} (h : RdC w B A n l) {k : Nat} {c : Col} (hc : l[k]? = some c) :
    ∃ b o, A = some ⟨b, o, none⟩ ∧ b < B ∧ w.cell? ⟨b, o + k * 4, none⟩ = some (.string c.name) ∧ w.cell? ⟨b, o + k * 4 + 1, none⟩ = some (.int .i64 c.ty) ∧ w.cell? ⟨b, o + k * 4 + 2, none⟩ = some (.bool c.nn) ∧ w.cell? ⟨b, o + k * 4 + 3, none⟩ = some (.bool c.key) := by
  have hk : k < n := by rw [← h.len]; exact (List.getElem?_eq_some_iff.1 hc).1
  obtain ⟨b, o, e, hb, hcell⟩ := h.2 (by omega)
  obtain ⟨h0, h1, h2, h3⟩ := colCells_at hc
  exact ⟨b, o, e, hb, hcell _ _ h0, hcell _ _ h1, hcell _ _ h2, hcell _ _ h3⟩
end Go.Proofs.YtkjnoekclfdjiaaDoor

namespace Go.Proofs.YtkjnoekclfdjiaaDoor
open Go.RowKit
set_option linter.unusedVariables false

/-- The slice with address A and n elements of 'size' cells reads as xs. -/
def SlR (size : Nat) (A : Option Addr) (n : Nat) (xs : List Value) (w : World) : Prop := Rd w w.heap.size size A n xs

section
variable {w w' : World} {M : Nat → Prop} {B size n : Nat} {A : Option Addr} {xs : List Value}
theorem Rd.ro (h : Rd w B size A n xs) (hB : B ≤ w.heap.size) (hM : ∀ b, b < B → ¬ M b) : Ro w M (SlR size A n xs) := fun w2 h1 h2 =>
  (h.keep fun p hp => World.cell?_of_block (w := w) (h2 p.block (by omega) (hM _ hp))).more (by omega)
theorem ro_block {g : Nat} {t : TypeId} {cs : Array Value} (h : Ro w M (fun w => w.heap[g]? = some (.cells cs t (0, 0)))) (hl : cs.toList.length = n * size) : Ro w M (SlR size (some ⟨g, 0, none⟩) n cs.toList) :=
  h.imp fun w2 h2 => ⟨hl, fun _ => ⟨g, 0, rfl, Blk.lt (t := t) (cs := cs) h2, fun j u hu => by
    rw [cell_of_row w2 g (0 + j) cs t (0, 0) h2, Nat.zero_add]; simpa using hu⟩⟩
theorem ro_nil : Ro w M (SlR size none 0 []) := fun _ _ _ => Rd.none_
/-- An own row, for good. -/
theorem Hold.sealRow {row : Option Nat} {w0 : World} {L : List Hp} (h : Hold M row w0 w L) (i : Nat) {e : TypeId} {A : Option Addr} {c : Nat} (hi : L[i]? = some (.own e size (.slice A n c) n xs)) :
    Hold M row w0 w (L.set i (.ro (SlR size A n xs))) :=
  h.seal i hi (fun T e => nomatch e) fun w2 h1 h2 => by
    have h3 : w2.ownsRow w0.heap.size e size (.slice A n c) n xs := by
      refine ⟨h1.1, ?_⟩
      rcases h1.2 with hn | ⟨g, cap, cur, hv, hb, hgg, rest⟩
      · exact .inl hn
      · injection hv with hv1 hv2 hv3
        subst hv1 hv3
        exact .inr ⟨g, c, cur, rfl, hb, (h2 g rfl).trans hgg, rest⟩
    exact Rd.of_own h3
end
theorem get_of {α : Type} {l : List α} {n k : Nat} (h : l.length = n) (hk : k < n) : ∃ x, l[k]? = some x := ⟨l[k]'(by omega), List.getElem?_eq_getElem _⟩
end Go.Proofs.YtkjnoekclfdjiaaDoor

namespace Go.Proofs.YtkjnoekclfdjiaaDoor
open Go.RowKit
set_option linter.unusedVariables false

theorem wpList_app2 {P : Program} (w0 : World) (cs : Array Value) {ops : Array Oper} {rest : List Oper} {o : Oper} {a : Act} {Q : Exit → Act → World → Prop} (hgd : o.guard = none) (s x : Operand) (t : TypeId)
    (ho : o.op = .call { callee := .builtin .append, args := #[s, x], argTypes := #[t, t] })
    (base : Nat) (e : TypeId) (size bytes : Nat) (z : Value) (ht : P.underlying t = some (.slice e)) (hi : (P.info? e).map (fun i => (i.zero, i.size, i.bytes)) = some (some z, size, bytes))
    (hzs : z.cells.size = size) (hsz : 0 < size)
    (v : Value) (n : Nat) (xs : List Value) (hs : a.eval s = v) (hown : w0.ownsRow base e size v n xs)
    (H : Nat) (hH : w0.heap.size = H) (hx : a.eval x = .slice (some ⟨H, 0, none⟩) 1 1) (hl : cs.size = size) (h1 : ∀ u ∈ cs.toList, u.oneCell' = true)
    (hn : n < 140737488355328) (hbytes : (n + 1) * bytes ≤ 140737488355328) (hbase : base ≤ w0.heap.size)
    (h : ∀ g cap w', w'.ownsRow base e size (.slice (some ⟨g, 0, none⟩) (n + 1) cap) (n + 1) (xs ++ cs.toList) → (w0.alloc (.cells cs e)).grownBy w' v.ownBlock → (v.ownBlock = some g ∨ (w0.alloc (.cells cs e)).heap.size ≤ g) → g < w'.heap.size →
      wpList P ops Q rest (a.put o.dst (.slice (some ⟨g, 0, none⟩) (n + 1) cap)) w') :
    wpList P ops Q (o :: rest) a (w0.alloc (.cells cs e)) := by
  subst hH
  obtain ⟨i, hi1, hi2, hi3, hi4⟩ := info_parts hi
  refine wpList_append_lies (w := w0.alloc (.cells cs e)) hgd s x t ho base e i z size bytes ht hi1 hi2 hi3 hi4 hzs hsz v n xs hs (hown.alloc _) ⟨w0.heap.size, 0, none⟩ 1 1 cs.toList hx (by simpa using hl) ?_ h1 (by omega) (by unfold maxLen; omega) hbytes (by simp; omega) (w0.heap.size + 1) (by simp) ?_
  · exact World.news_of_block (heap_alloc_new w0 _)
  · intro g cap w' h2 h3 h4 h5
    exact h g cap w' h2 h3 (h4.imp id fun e => by rw [e]; simp) h5
end Go.Proofs.YtkjnoekclfdjiaaDoor

namespace Go.Proofs.YtkjnoekclfdjiaaDoor
open Go.RowKit
set_option linter.unusedVariables false
set_option linter.unusedSimpArgs false

structure Lk where
  a : ByteArray
  b : ByteArray
def Lk.cells (x : Lk) : List Value := [.string x.a, .string x.b]
def lkCells (l : List Lk) : List Value := l.flatMap Lk.cells
theorem lkCells_len (l : List Lk) : (lkCells l).length = l.length * 2 := flat_len _ 2 (fun _ => rfl) l
/-- is the link from a to b? -/
def lkB (a b : ByteArray) (x : Lk) : Bool := x.a.toList == a.toList && x.b.toList == b.toList
def precB (l : List Lk) (a b : ByteArray) : Bool := l.any (lkB a b)
/-- The slice with address A and n elements reads as the links l. -/
def LksIn (A : Option Addr) (n : Nat) (l : List Lk) : World → Prop := SlR 2 A n (lkCells l)
theorem LksIn.len {w : World} {A : Option Addr} {n : Nat} {l : List Lk} (h : LksIn A n l w) : l.length = n := by
  have := (show Rd w w.heap.size 2 A n (lkCells l) from h).1
  rw [lkCells_len] at this
  omega
theorem LksIn.at_ {w : World} {A : Option Addr} {n : Nat} {l : List Lk} (h : LksIn A n l w) {k : Nat} {x : Lk} (hx : l[k]? = some x) :
    ∃ b o, A = some ⟨b, o, none⟩ ∧ b < w.heap.size ∧ w.cell? ⟨b, o + k * 2, none⟩ = some (.string x.a) ∧ w.cell? ⟨b, o + k * 2 + 1, none⟩ = some (.string x.b) := by
  have hk : k < n := by rw [← h.len]; exact (List.getElem?_eq_some_iff.1 hx).1
  obtain ⟨b, o, e, hb, hc⟩ := (show Rd w w.heap.size 2 A n (lkCells l) from h).2 (by omega)
  exact ⟨b, o, e, hb, hc _ _ (flat_get Lk.cells 2 (fun _ => rfl) l k 0 x (by omega) hx), hc _ _ (flat_get Lk.cells 2 (fun _ => rfl) l k 1 x (by omega) hx)⟩
theorem any_drop {α : Type} {p : α → Bool} {l : List α} {k : Nat} {x : α} (h : l.any p = (l.drop k).any p) (hx : l[k]? = some x) (hp : p x = false) : l.any p = (l.drop (k + 1)).any p := by
  obtain ⟨hk, rfl⟩ := List.getElem?_eq_some_iff.1 hx
  rw [h, List.drop_eq_getElem_cons hk, List.any_cons, hp, Bool.false_or]
theorem any_hit {α : Type} {p : α → Bool} {l : List α} {k : Nat} {x : α} (hx : l[k]? = some x) (hp : p x = true) : l.any p = true := by
  rw [List.any_eq_true]; exact ⟨x, List.mem_of_getElem? hx, hp⟩
theorem any_end {α : Type} {p : α → Bool} {l : List α} {k : Nat} (h : l.any p = (l.drop k).any p) (hk : l.length ≤ k) : l.any p = false := by
  rw [h, List.drop_of_length_le hk]; rfl

set_option maxHeartbeats 2000000 in
theorem rprec_any (M : Nat → Prop) (w : World) (hM : ∀ b, M b → b < w.heap.size) (A : Option Addr) (n c : Nat) (l : List Lk) (a b : ByteArray) (hD : Ro w M (LksIn A n l)) (hn : n ≤ 9223372036854775807) :
    Calls Tryd.prog 30 #[.slice A n c, .string a, .string b] w fun e w' => e = .returned (.bool (precB l a b)) ∧ Below w.heap.size w w' := by
  have HL := hid hD.now.len
  have K0 := (Hold.start M w hM).add (hD.less (by simp [Mut]))
  go_enter Tryd.func30, Tryd.ntmps30
  go_wp2_with fail
  go_loopw [11] (fun i wr => ∃ k : Nat, k ≤ n ∧ i = .int .i64 k ∧ l.any (lkB a b) = (l.drop k).any (lkB a b) ∧ Hold M none w wr [.ro (LksIn A n l)]) (fun i _ => n - (intOf i).toNat)
  case atStart => exact ⟨0, by omega, rfl, rfl, K0⟩
  case round =>
    obtain ⟨k, hk, rfl, hf, H⟩ := hrel
    have HF := hid hf; clear hf
    by_cases hlt : k < n
    · obtain ⟨x, hx⟩ := get_of HL.out hlt
      obtain ⟨g, o, rfl, hb, c0, c1⟩ := (H.ro 0 rfl).now.at_ hx
      have HX := hid hx; clear hx
      have K1 := H.alloc_cst #[.string x.a, .string x.b] 41
      cases h1 : (x.a.toList == a.toList)
      · have HB := hid (show lkB a b x = false by simp only [lkB, h1, Bool.false_and])
        go_wp2_with fail
        go_roundw
        case rel => exact ⟨k + 1, by omega, by go_num, any_drop HF.out HX.out HB.out, K1.drop (List.sublist_cons_self _ _)⟩
        case measure => simp [intOf]; omega
      · cases h2 : (x.b.toList == b.toList)
        · have HB := hid (show lkB a b x = false by simp only [lkB, h2, Bool.and_false])
          go_wp2_with fail
          go_roundw
          case rel => exact ⟨k + 1, by omega, by go_num, any_drop HF.out HX.out HB.out, K1.drop (List.sublist_cons_self _ _)⟩
          case measure => simp [intOf]; omega
        · have HB := hid (show lkB a b x = true by simp only [lkB, h1, h2, Bool.and_true])
          go_wp2_with fail
          go_ret
          exact ⟨by rw [show precB l a b = true from any_hit HX.out HB.out] <;> rfl, K1.below⟩
    · go_wp2_with fail
      go_ret
      exact ⟨by rw [show precB l a b = false from any_end HF.out (by rw [HL.out]; omega)] <;> rfl, H.below⟩

/-- What Index answers: not below 0 where there is one. -/
def IdxOf (l : List Lk) (a b : ByteArray) (e : Ending) : Prop := ∃ i : Int, e = .returned (.int .i64 i) ∧ decide (0 ≤ i) = precB l a b ∧ -1 ≤ i ∧ i < 9223372036854775807

set_option maxHeartbeats 2000000 in
theorem lkindex_any (M : Nat → Prop) (w : World) (hM : ∀ b, M b → b < w.heap.size) (A : Option Addr) (n c : Nat) (l : List Lk) (a b : ByteArray) (hD : Ro w M (LksIn A n l)) (hn : n ≤ 9223372036854775807) :
    Calls Tryd.prog 40 #[.slice A n c, .agg #[.string a, .string b]] w fun e w' => IdxOf l a b e ∧ Below w.heap.size w w' := by
  have HL := hid hD.now.len
  have K0 := ((Hold.start M w hM).add (hD.less (by simp [Mut]))).alloc_cst #[.string a, .string b] 41
  go_enter Tryd.func40, Tryd.ntmps40
  go_wp2_with fail
  go_loopw [8] (fun i wr => ∃ k : Nat, k ≤ n ∧ i = .int .i64 k ∧ l.any (lkB a b) = (l.drop k).any (lkB a b) ∧ Hold M none w wr [.cst w.heap.size 41 #[.string a, .string b], .ro (LksIn A n l)]) (fun i _ => n - (intOf i).toNat)
  case atStart => exact ⟨0, by omega, rfl, rfl, K0⟩
  case round =>
    obtain ⟨k, hk, rfl, hf, H⟩ := hrel
    have HF := hid hf; clear hf
    have F := H.facts
    simp only [World.size_alloc, World.size_drew, factsL, cellsF, Nat.reduceAdd, List.toList_toArray, and_true, true_and] at F
    by_cases hlt : k < n
    · obtain ⟨x, hx⟩ := get_of HL.out hlt
      obtain ⟨g, o, rfl, hb, c0, c1⟩ := (H.ro 1 rfl).now.at_ hx
      have HX := hid hx; clear hx
      have i0 : (0 : Int) ≤ (k : Int) := by omega
      have i1 : (k : Int) < (n : Int) := by omega
      have hcom : ∀ s t : ByteArray, (s.toList == t.toList) = (t.toList == s.toList) := fun s t => by rw [Bool.eq_iff_iff]; simp only [beq_iff_eq]; exact eq_comm
      have HC1 := hid (hcom x.a a)
      have HC2 := hid (hcom x.b b)
      clear hcom
      cases h1 : (a.toList == x.a.toList)
      · have HB : Hid (lkB a b x = false) := by unfold Hid lkB; rw [HC1.out, h1]; rfl
        go_wp2_with fail
        go_quiet (fail)
        go_wp2_with fail
        go_roundw
        case rel => exact ⟨k + 1, by omega, by go_num, any_drop HF.out HX.out HB.out, H.drewN _⟩
        case measure => simp [intOf]; omega
      · cases h2 : (b.toList == x.b.toList)
        · have HB : Hid (lkB a b x = false) := by unfold Hid lkB; rw [HC1.out, HC2.out, h1, h2]; rfl
          go_wp2_with fail
          go_quiet (fail)
          go_wp2_with fail
          go_roundw
          case rel => exact ⟨k + 1, by omega, by go_num, any_drop HF.out HX.out HB.out, H.drewN _⟩
          case measure => simp [intOf]; omega
        · have HB : Hid (lkB a b x = true) := by unfold Hid lkB; rw [HC1.out, HC2.out, h1, h2]; rfl
          go_wp2_with fail
          go_quiet (fail)
          go_wp2_with fail
          go_ret
          exact ⟨⟨(k : Int), rfl, by rw [show precB l a b = true from any_hit HX.out HB.out]; simp, by omega, by omega⟩, (H.drewN _).below⟩
    · go_wp2_with fail
      go_ret
      exact ⟨⟨-1, rfl, by rw [show precB l a b = false from any_end HF.out (by rw [HL.out]; omega)]; rfl, by omega, by omega⟩, H.below⟩

set_option maxHeartbeats 1000000 in
theorem lkcontains_any (M : Nat → Prop) (w : World) (hM : ∀ b, M b → b < w.heap.size) (A : Option Addr) (n c : Nat) (l : List Lk) (a b : ByteArray) (hD : Ro w M (LksIn A n l)) (hn : n ≤ 9223372036854775807) :
    Calls Tryd.prog 24 #[.slice A n c, .agg #[.string a, .string b]] w fun e w' => e = .returned (.bool (precB l a b)) ∧ Below w.heap.size w w' := by
  have K0 := ((Hold.start M w hM).add (hD.less (by simp [Mut]))).alloc_cst #[.string a, .string b] 41
  go_enter Tryd.func24, Tryd.ntmps24
  go_wp2_with fail
  refine (lkindex_any (Mut M _) _ K0.mutLt A n c l a b (K0.ro 1 rfl) hn).mono ?_
  rintro e w1 ⟨⟨i, rfl, hi, h1, h2⟩, b1⟩
  have HI := hid hi; clear hi
  go_wp2_with fail
  go_ret
  exact ⟨by rw [← HI.out] <;> rfl, (K0.call b1).below⟩
set_option maxHeartbeats 1000000 in
theorem prec_any (M : Nat → Prop) (w : World) (hM : ∀ b, M b → b < w.heap.size) (A : Option Addr) (n c : Nat) (l : List Lk) (a b : ByteArray) (hD : Ro w M (LksIn A n l)) (hn : n ≤ 9223372036854775807) :
    Calls Tryd.prog 11 #[.slice A n c, .string a, .string b] w fun e w' => e = .returned (.bool (precB l a b)) ∧ Below w.heap.size w w' := by
  go_enter Tryd.func11, Tryd.ntmps11
  go_wp2_with fail
  refine (lkcontains_any M _ hM A n c l a b hD hn).mono ?_
  rintro e w1 ⟨rfl, b1⟩
  go_wp2_with fail
  go_ret
  exact ⟨rfl, b1⟩
end Go.Proofs.YtkjnoekclfdjiaaDoor

namespace Go.Proofs.YtkjnoekclfdjiaaDoor
open Go.RowKit
set_option linter.unusedVariables false

/-- A slice type and its element type, as the table of types says them. -/
structure ElemT (P : Program) (t e : TypeId) (size bytes : Nat) (z : Value) : Prop where
  ht : P.underlying t = some (.slice e)
  hi : (P.info? e).map (fun i => (i.zero, i.size, i.bytes)) = some (some z, size, bytes)
  hzs : z.cells.size = size
  hsz : 0 < size

section
variable {P : Program} {M : Nat → Prop} {row : Option Nat} {w0 w w' : World} {L L' : List Hp}

theorem own_caps {w : World} {base : Nat} {e : TypeId} {size n m c : Nat} {A : Option Addr} {xs : List Value} (h : w.ownsRow base e size (.slice A n c) m xs) : m ≤ c ∧ c ≤ 9223372036854775807 ∧ n = m := by
  obtain ⟨h1, ⟨h2, h3⟩ | ⟨g, cap, cur, hv, _, _, hle, hm, _⟩⟩ := h
  · have e1 := (Value.slice.inj h2).2.2
    have e2 := (Value.slice.inj h2).2.1
    omega
  · have e1 := (Value.slice.inj hv).2.2
    have e2 := (Value.slice.inj hv).2.1
    unfold maxLen at hm
    omega
theorem own_addr {w : World} {base : Nat} {e : TypeId} {size n m c : Nat} {A : Option Addr} {xs : List Value} (h : w.ownsRow base e size (.slice A n c) m xs) : (A = none ∧ m = 0 ∧ c = 0) ∨ ∃ g, A = some ⟨g, 0, none⟩ ∧ base ≤ g := by
  obtain ⟨h1, ⟨h2, h3⟩ | ⟨g, cap, cur, hv, hb, _⟩⟩ := h
  · exact .inl ⟨(Value.slice.inj h2).1, h3, (Value.slice.inj h2).2.2⟩
  · exact .inr ⟨g, (Value.slice.inj hv).1, hb⟩

/-- append(s, x): one element, laid ahead in a block of its own. -/
theorem wpList_appH (K : Hold M row w0 w L) (i : Nat) {t e : TypeId} {size bytes q cap : Nat} {C : Option Addr} {xs : List Value} {z : Value} (hi : L[i]? = some (.own e size (.slice C q cap) q xs)) (hE : ElemT P t e size bytes z)
    (cs : Array Value) {ops : Array Oper} {rest : List Oper} {o : Oper} {a : Act} {Q : Exit → Act → World → Prop} (hgd : o.guard = none) (s x : Operand) (ho : o.op = .call { callee := .builtin .append, args := #[s, x], argTypes := #[t, t] })
    (hs : a.eval s = .slice C q cap) (H : Nat) (hH : w.heap.size = H) (hx : a.eval x = .slice (some ⟨H, 0, none⟩) 1 1) (hl : cs.size = size) (h1 : ∀ u ∈ cs.toList, u.oneCell' = true) (hq : q < 140737488355328) (hb : (q + 1) * bytes ≤ 140737488355328)
    (h : ∀ g cap' w', q + 1 ≤ cap' → cap' ≤ 9223372036854775807 → Hold M row w0 w' (L.set i (.own e size (.slice (some ⟨g, 0, none⟩) (q + 1) cap') (q + 1) (xs ++ cs.toList))) → wpList P ops Q rest (a.put o.dst (.slice (some ⟨g, 0, none⟩) (q + 1) cap')) w') :
    wpList P ops Q (o :: rest) a (w.alloc (.cells cs e)) := by
  refine wpList_app2 w cs hgd s x t ho w0.heap.size e size bytes z hE.ht hE.hi hE.hzs hE.hsz (.slice C q cap) q xs hs (K.get i hi) H hH hx hl h1 hq hb K.grow.size ?_
  intro g cap' w' ho' hg hd hl'
  obtain ⟨c1, c2, _⟩ := own_caps ho'
  have K1 := K.alloc_cst cs e
  have K2 := K1.append (i + 1) (by simpa using hi) ho' hg hd hl'
  refine h g cap' w' c1 c2 (K2.drop ?_)
  simp

theorem run_append_self (w : World) (base : Nat) (t ty e : TypeId) (i : TypeInfo) (size : Nat) (ht : P.underlying t = some (.slice e)) (hi : P.info? e = some i)
    (v : Value) (n : Nat) (xs : List Value) (hown : w.ownsRow base e size v n xs) (c : Nat) : (Builtin.append_ #[t, t] ty #[v, .slice none 0 c]).run P w = .ok v w := by
  rcases hown.2 with ⟨rfl, rfl⟩ | ⟨g, cap, cur, rfl, _, _, hnc, _⟩
  · simp [Builtin.append_, run_underlying ht, sizeOf, typeInfo, hi, Builtin.lenOf, Builtin.firstCells]
  · simp [Builtin.append_, run_underlying ht, sizeOf, typeInfo, hi, Builtin.lenOf, Builtin.firstCells, hnc, storeCells]

/-- append(s, xs...): whatever list, nil and empty too. -/
theorem wpList_appAllH (K : Hold M row w0 w L) (i : Nat) {t e : TypeId} {size bytes q cap : Nat} {C : Option Addr} {xs : List Value} {z : Value} (hi : L[i]? = some (.own e size (.slice C q cap) q xs)) (hE : ElemT P t e size bytes z)
    {A : Option Addr} {m c : Nat} {ys : List Value} (hr : SlR size A m ys w) {ops : Array Oper} {rest : List Oper} {o : Oper} {a : Act} {Q : Exit → Act → World → Prop} (hgd : o.guard = none) (s x : Operand) (ho : o.op = .call { callee := .builtin .append, args := #[s, x], argTypes := #[t, t] })
    (hs : a.eval s = .slice C q cap) (hx : a.eval x = .slice A m c) (h1 : ∀ u ∈ ys, u.oneCell' = true) (hq : q + m < 140737488355328) (hb : (q + m) * bytes ≤ 140737488355328)
    (h : ∀ C' cap' w', q + m ≤ cap' → cap' ≤ 9223372036854775807 → Hold M row w0 w' (L.set i (.own e size (.slice C' (q + m) cap') (q + m) (xs ++ ys))) → wpList P ops Q rest (a.put o.dst (.slice C' (q + m) cap')) w') :
    wpList P ops Q (o :: rest) a w := by
  obtain ⟨i0, hi1, hi2, hi3, hi4⟩ := info_parts hE.hi
  have hown := K.get i hi
  have hrun : ∃ C' cap' w', (Builtin.append_ #[t, t] o.type #[.slice C q cap, .slice A m c]).run P w = .ok (.slice C' (q + m) cap') w' ∧ q + m ≤ cap' ∧ cap' ≤ 9223372036854775807 ∧ Hold M row w0 w' (L.set i (.own e size (.slice C' (q + m) cap') (q + m) (xs ++ ys))) := by
    have hz : A = none → m = 0 := fun hA => by
      rcases Nat.eq_zero_or_pos m with h0 | h0
      · exact h0
      · obtain ⟨b, o, h, _⟩ := hr.2 h0
        rw [hA] at h; cases h
    rcases A with _ | ad
    · obtain rfl := hz rfl
      have hn : ys = [] := List.eq_nil_of_length_eq_zero (by simpa using hr.1)
      subst hn
      have hc := own_caps hown
      have e : L.set i (.own e size (.slice C (q + 0) cap) (q + 0) (xs ++ [])) = L := by
        rw [Nat.add_zero, List.append_nil]
        apply List.ext_getElem?
        intro j
        rw [List.getElem?_set]
        split
        · subst i; split
          · exact hi.symm
          · rw [List.getElem?_eq_none (by omega)]
        · rfl
      exact ⟨C, cap, w, run_append_self w _ t _ _ i0 size hE.ht hi1 _ _ _ hown c, hc.1, hc.2.1, by rw [e]; exact K⟩
    · have hcells : ∀ j u, ys[j]? = some u → w.cell? (ad.add j) = some u := by
        intro j u hu
        have hpos : 0 < m := by
          rcases Nat.eq_zero_or_pos m with h0 | h0
          · have hn : ys = [] := List.eq_nil_of_length_eq_zero (by have := hr.1; rw [h0] at this; simpa using this)
            rw [hn] at hu; simp at hu
          · exact h0
        obtain ⟨b, o', hA, _, hc⟩ := hr.2 hpos
        injection hA with hA
        subst hA
        have := hc j u hu
        rwa [Addr.add_lit]
      obtain ⟨v', w', hrun, h2, h3, _, h5⟩ := run_append_own_at (P := P) w w0.heap.size t o.type e i0 z size bytes hE.ht hi1 hi2 hi3 hi4 hE.hzs hE.hsz _ q xs hown ad m c ys hr.1 hcells h1 (by unfold maxLen; omega) hb K.grow.size
      obtain ⟨C', cap', rfl⟩ := own_form h2
      have hc := own_caps h2
      refine ⟨C', cap', w', hrun, hc.1, hc.2.1, ?_⟩
      refine K.turn i hi h3.size ⟨h3.os, h3.tape, h3.output⟩ (fun b hl hne => h3.block b hl fun e => hne e.symm) (fun b hf => ?_) h2 (fun T hT => by cases hT)
      have hlt := (h2.lt b hf).2
      refine ⟨?_, hlt⟩
      have hf' : Value.ownBlock (.slice C' (q + m) cap') = some b := hf
      rcases h5 with h5 | h5
      · left; rw [h5] at hf'; exact hf'
      · right; rw [h5] at hf'; injection hf' with hf'; omega
  obtain ⟨C', cap', w', hr', c1, c2, hK⟩ := hrun
  refine wpList_plain hgd fun K' hK' => ?_
  unfold Oper.wp execOp
  simp only [ho, resolve, invoke, builtin, Sem.run_bind, Sem.run_pure, Result.andThen_ok, List.map_toArray, List.map_cons, List.map_nil, hs, hx, hr']
  exact hK' _ _ (h C' cap' w' c1 c2 hK)

/-- A call that hands back a row of its own. -/
theorem Hold.callOwn (K : Hold M row w0 w L) {e : TypeId} {size n : Nat} {v : Value} {xs : List Value} (hb : Below w.heap.size w w') (ho : w'.ownsRow w.heap.size e size v n xs) : Hold M row w0 w' (.own e size v n xs :: L) := by
  have h1 := K.call hb
  have hbase : ∀ b, v.ownBlock = some b → w.heap.size ≤ b ∧ b < w'.heap.size := fun b hf => ho.lt b hf
  have ee : ∀ b, b < w.heap.size → Mut M (.own e size v n xs :: L) b → Mut M L b := fun b hl hb => by
    rcases mut_cons.1 hb with hf | hm
    · have := (hbase b hf).1; omega
    · exact hm
  refine ⟨h1.grow, h1.low, fun k hk => ?_, fun k hk b hf => ?_, ⟨fun b hf k hk he => ?_, K.sep⟩⟩
  · rcases List.mem_cons.1 hk with rfl | hk
    · refine ⟨ho.1, ?_⟩
      rcases ho.2 with hn | ⟨g, cap, cur, hv, hg, rest⟩
      · exact .inl hn
      · exact .inr ⟨g, cap, cur, hv, Nat.le_trans K.grow.size hg, rest⟩
    · exact Hp.sat_step (k := k) (K.sat k hk) hb.size (fun b hl _ => hb.block b hl) ee (fun b hf => hb.block b (K.fresh k hk b hf).2)
        (fun T hT b hlt => by
          have := K.fresh k hk T (by subst hT; rfl)
          exact hb.block b (by omega))
  · rcases List.mem_cons.1 hk with rfl | hk
    · have := hbase b hf
      exact ⟨.inl (Nat.le_trans K.grow.size this.1), this.2⟩
    · exact h1.fresh k hk b hf
  · have := (hbase b hf).1
    have h2 := (K.fresh k hk b he).2
    omega

/-- A row is cut down: its first n elements. -/
theorem Hold.cutRow (K : Hold M row w0 w L) (i : Nat) {e : TypeId} {size n m cap g : Nat} {xs : List Value} (hi : L[i]? = some (.own e size (.slice (some ⟨g, 0, none⟩) m cap) m xs)) (hn : n ≤ m) :
    Hold M row w0 w (L.set i (.own e size (.slice (some ⟨g, 0, none⟩) n cap) n (xs.take (n * size)))) := by
  have hown := K.get i hi
  have hkm := List.mem_of_getElem? hi
  refine K.turn i hi (Nat.le_refl _) ⟨rfl, rfl, rfl⟩ (fun _ _ _ => rfl) (fun b hf => ⟨.inl hf, (K.fresh _ hkm b hf).2⟩) ?_ (fun T hT => by cases hT)
  have h1 := hown.1
  refine ⟨by rw [List.length_take, h1]; exact Nat.min_eq_left (Nat.mul_le_mul_right _ hn), ?_⟩
  rcases hown.2 with ⟨h, _⟩ | ⟨g', cap', cur, hv, hb, hg, hle, hm, hcs, ht⟩
  · cases h
  · obtain ⟨e1, _, e2⟩ := Value.slice.inj hv
    injection e1 with e1; injection e1 with e1
    subst e1 e2
    refine .inr ⟨g, cap, cur, rfl, hb, hg, by omega, hm, hcs, ?_⟩
    rw [← ht, List.take_take, Nat.min_eq_left (Nat.mul_le_mul_right _ hn)]
end
end Go.Proofs.YtkjnoekclfdjiaaDoor

namespace Go.Proofs.YtkjnoekclfdjiaaDoor
open Go.RowKit
set_option linter.unusedVariables false
set_option linter.unusedSimpArgs false

def befB (x y : Lk) : Bool := Op.bytesLess x.a.toList y.a.toList || (x.a.toList == y.a.toList && Op.bytesLess x.b.toList y.b.toList)
def lkEq (x y : Lk) : Bool := x.a.toList == y.a.toList && x.b.toList == y.b.toList
theorem Tryd.elLink : ElemT Tryd.prog 25 41 2 32 (.agg #[.string ⟨#[]⟩, .string ⟨#[]⟩]) := ⟨Tryd.underlying25, by kernel_rfl, rfl, by omega⟩
theorem one_lk (a b : ByteArray) : ∀ u ∈ (#[Value.string a, Value.string b]).toList, u.oneCell' = true := by intro u hu; simp at hu; rcases hu with rfl | rfl <;> rfl
theorem lkCells_snoc (l : List Lk) (x : Lk) : lkCells l ++ (#[Value.string x.a, Value.string x.b]).toList = lkCells (l ++ [x]) := by simp [lkCells, Lk.cells]

set_option maxHeartbeats 1000000 in
theorem before_any (x y : Lk) (w : World) :
    Calls Tryd.prog 42 #[.agg #[.string x.a, .string x.b], .agg #[.string y.a, .string y.b]] w fun e w' => e = .returned (.bool (befB x y)) ∧ Below w.heap.size w w' := by
  obtain ⟨xa, xb⟩ := x
  obtain ⟨ya, yb⟩ := y
  cases h1 : Op.bytesLess xa.toList ya.toList <;> cases h2 : (xa.toList == ya.toList) <;> cases h3 : Op.bytesLess xb.toList yb.toList
  all_goals
    go_enter Tryd.func42, Tryd.ntmps42
    go_wp2_with fail
    go_ret
    exact ⟨by simp only [befB, h1, h2, h3] <;> rfl, ext2 _ _ _⟩

def insStep (x : Lk) (s : List Lk × Bool) (y : Lk) : List Lk × Bool := ((if s.2 || befB y x then s.1 else s.1 ++ [x]) ++ (if lkEq y x then [] else [y]), s.2 || !befB y x)
def insS (x : Lk) (l : List Lk) (k : Nat) : List Lk × Bool := (l.take k).foldl (insStep x) ([], false)
def insL (x : Lk) (l : List Lk) : List Lk := if (insS x l l.length).2 then (insS x l l.length).1 else (insS x l l.length).1 ++ [x]
theorem insS_succ (x : Lk) {l : List Lk} {k : Nat} {y : Lk} (hy : l[k]? = some y) : insS x l (k + 1) = insStep x (insS x l k) y := by
  obtain ⟨hk, rfl⟩ := List.getElem?_eq_some_iff.1 hy
  unfold insS
  rw [List.take_succ_eq_append_getElem hk, List.foldl_append]
  rfl
theorem insS_le (x : Lk) (l : List Lk) : ∀ k, (insS x l k).1.length ≤ 2 * k
  | 0 => by simp [insS]
  | k + 1 => by
    by_cases h : k < l.length
    · rw [insS_succ x (List.getElem?_eq_getElem h)]
      have := insS_le x l k
      unfold insStep
      split <;> split <;> simp <;> omega
    · have : insS x l (k + 1) = insS x l k := by unfold insS; rw [List.take_of_length_le (by omega), List.take_of_length_le (by omega)]
      rw [this]; have := insS_le x l k; omega

/-- A list of links handed back, in memory that nobody writes. -/
def LksRet (w : World) (M : Nat → Prop) (l : List Lk) (e : Ending) (w' : World) : Prop :=
  ∃ (A : Option Addr) (n c : Nat), e = .returned (.slice A n c) ∧ n = l.length ∧ n ≤ c ∧ c ≤ 9223372036854775807 ∧ Ro w' M (LksIn A n l) ∧ Below w.heap.size w w'

set_option maxHeartbeats 4000000 in
theorem insert_any (M : Nat → Prop) (w : World) (hM : ∀ b, M b → b < w.heap.size) (A : Option Addr) (n c : Nat) (l : List Lk) (x : Lk) (hD : Ro w M (LksIn A n l)) (hn : n ≤ 1000000) :
    Calls Tryd.prog 33 #[.slice A n c, .agg #[.string x.a, .string x.b]] w fun e w' => LksRet w M (insL x l) e w' := by
  have HL := hid hD.now.len
  have K0 := ((((Hold.start M w hM).add (hD.less (by simp [Mut]))).nil 41 2)).alloc_cst #[.string x.a, .string x.b] 41
  go_enter Tryd.func33, Tryd.ntmps33
  go_wp2_with fail
  go_loopw [5, 6, 11] (fun out d i wr => ∃ (k cap q : Nat) (C : Option Addr) (o : List Lk) (dn : Bool), k ≤ n ∧ i = .int .i64 k ∧ out = .slice C q cap ∧ d = .bool dn ∧ Hid (q = o.length) ∧ Hid (insS x l k = (o, dn)) ∧
    Hold M none w wr [.cst w.heap.size 41 #[.string x.a, .string x.b], .own 41 2 (.slice C q cap) q (lkCells o), .ro (LksIn A n l)]) (fun _ _ i _ => n - (intOf i).toNat)
  case atStart => exact ⟨0, 0, 0, none, [], false, by omega, rfl, rfl, rfl, hid rfl, hid rfl, K0⟩
  case round =>
    obtain ⟨k, cap, q, C, o, dn, hk, rfl, rfl, rfl, HQ, HS, H⟩ := hrel
    have hqk : q ≤ 2 * k := by have := insS_le x l k; rw [HS.out] at this; have := HQ.out; simp at *; omega
    by_cases hlt : k < n
    · have hd : decide ((k : Int) < (n : Int)) = true := by simp; omega
      obtain ⟨y, hy⟩ := get_of HL.out hlt
      obtain ⟨g, oo, rfl, hb, c0, c1⟩ := (H.ro 2 rfl).now.at_ hy
      have HN := hid (insS_succ x hy); clear hy
      have F := H.facts
      simp only [World.size_alloc, World.size_drew, factsL, cellsF, Nat.reduceAdd, List.toList_toArray, and_true, true_and] at F
      have K1 := H.alloc_cst #[.string y.a, .string y.b] 41
      have F1 := K1.facts
      simp only [World.size_alloc, World.size_drew, factsL, cellsF, Nat.reduceAdd, List.toList_toArray, and_true, true_and] at F1
      cases h1 : (y.a.toList == x.a.toList) <;> cases h2 : (y.b.toList == x.b.toList)
      all_goals
        have heq : lkEq y x = (y.a.toList == x.a.toList && y.b.toList == x.b.toList) := rfl
        rw [h1, h2] at heq
        simp only [Bool.and_true, Bool.and_false, Bool.and_self] at heq
        have HE := hid heq
        clear heq
        cases dn
        · cases hbf : befB y x
          all_goals
            have HBF := hid hbf
            go_wp2_with fail
            refine (before_any y x _).mono ?_
            rintro e wb ⟨rfl, bb⟩
            rw [HBF.out]
            have KB := K1.call bb
            clear bb F F1
            have FB := KB.facts
            simp only [World.size_alloc, World.size_drew, factsL, cellsF, Nat.reduceAdd, List.toList_toArray, List.set_cons_zero, List.set_cons_succ, List.setIfInBounds_toArray, and_true, true_and] at FB
            clear hbf
            first
              | (go_wp2_with (first
                  | (at_builtin; refine wpList_appH KB 2 rfl Tryd.elLink #[.string x.a, .string x.b] rfl (.tmp 23) (.tmp 25) rfl rfl wb.heap.size rfl rfl rfl (one_lk _ _) (by omega) (by omega) ?_; intro g2 cap2 w2 hc2 hm2 K2; (have F2 := K2.facts); simp only [World.size_alloc, World.size_drew, factsL, cellsF, Nat.reduceAdd, List.toList_toArray, List.set_cons_zero, List.set_cons_succ, and_true, true_and] at F2)
                  | (at_builtin; refine wpList_appH KB 2 rfl Tryd.elLink #[.string y.a, .string y.b] rfl (.tmp 30) (.tmp 32) rfl rfl wb.heap.size rfl rfl rfl (one_lk _ _) (by omega) (by omega) ?_; intro g3 cap3 w3 hc3 hm3 K3)
                  | (at_builtin; refine wpList_appH K2 2 rfl Tryd.elLink #[.string y.a, .string y.b] rfl (.tmp 30) (.tmp 32) rfl rfl w2.heap.size rfl rfl rfl (one_lk _ _) (by omega) (by omega) ?_; intro g3 cap3 w3 hc3 hm3 K3)))
            go_roundw
            case measure => simp [intOf]; omega
            case rel =>
              first
                | (refine ⟨k + 1, _, _, _, o ++ [x] ++ [y], true, by omega, by go_num, rfl, rfl, hid (by simp [HQ.out]), hid (by rw [HN.out, HS.out]; simp [insStep, HBF.out, HE.out]), ?_⟩; rw [← lkCells_snoc, ← lkCells_snoc]; exact K3.drop (List.sublist_cons_self _ _))
                | (refine ⟨k + 1, _, _, _, o ++ [x], true, by omega, by go_num, rfl, rfl, hid (by simp [HQ.out]), hid (by rw [HN.out, HS.out]; simp [insStep, HBF.out, HE.out]), ?_⟩; rw [← lkCells_snoc]; exact K2.drop (List.sublist_cons_self _ _))
                | (refine ⟨k + 1, _, _, _, o ++ [y], false, by omega, by go_num, rfl, rfl, hid (by simp [HQ.out]), hid (by rw [HN.out, HS.out]; simp [insStep, HBF.out, HE.out]), ?_⟩; rw [← lkCells_snoc]; exact K3.drop (List.sublist_cons_self _ _))
                | (refine ⟨k + 1, _, _, _, o, false, by omega, by go_num, rfl, rfl, hid (by simp [HQ.out]), hid (by rw [HN.out, HS.out]; simp [insStep, HBF.out, HE.out]), ?_⟩; exact KB.drop (List.sublist_cons_self _ _))
        · go_wp2_with (at_builtin; refine wpList_appH K1 2 rfl Tryd.elLink #[.string y.a, .string y.b] rfl (.tmp 30) (.tmp 32) rfl rfl (wr.heap.size + 1) (by simp) rfl rfl (one_lk _ _) (by omega) (by omega) ?_; intro g3 cap3 w3 hc3 hm3 K3)
          go_roundw
          case measure => simp [intOf]; omega
          case rel =>
            first
              | (refine ⟨k + 1, _, _, _, o ++ [y], true, by omega, by go_num, rfl, rfl, hid (by simp [HQ.out]), hid (by rw [HN.out, HS.out]; simp [insStep, HE.out]), ?_⟩; rw [← lkCells_snoc]; exact K3.drop (List.sublist_cons_self _ _))
              | (refine ⟨k + 1, _, _, _, o, true, by omega, by go_num, rfl, rfl, hid (by simp [HQ.out]), hid (by rw [HN.out, HS.out]; simp [insStep, HE.out]), ?_⟩; exact K1.drop (List.sublist_cons_self _ _))
    · obtain rfl : k = n := by omega
      have HI : Hid (insL x l = if dn then o else o ++ [x]) := by unfold Hid insL; rw [HL.out, HS.out]
      have F := H.facts
      simp only [World.size_alloc, World.size_drew, factsL, cellsF, Nat.reduceAdd, List.toList_toArray, and_true, true_and] at F
      have hcap := own_caps (H.get 1 rfl)
      cases dn
      · go_wp2_with (at_builtin; refine wpList_appH H 1 rfl Tryd.elLink #[.string x.a, .string x.b] rfl (.tmp 37) (.tmp 39) rfl rfl wr.heap.size rfl rfl rfl (one_lk _ _) (by omega) (by omega) ?_; intro g3 cap3 w3 hc3 hm3 K3)
        have KS := K3.sealRow 1 rfl
        go_ret
        have e : insL x l = o ++ [x] := HI.out
        exact ⟨_, _, _, rfl, by rw [e, HQ.out]; simp, hc3, hm3, by rw [e]; unfold LksIn; rw [← lkCells_snoc]; exact KS.roOut 1 rfl, KS.below⟩
      · have KS := H.sealRow 1 rfl
        go_wp2_with fail
        go_ret
        have e : insL x l = o := HI.out
        exact ⟨_, _, _, rfl, by rw [e]; exact HQ.out, hcap.1, hcap.2.1, by rw [e]; exact KS.roOut 1 rfl, KS.below⟩
end Go.Proofs.YtkjnoekclfdjiaaDoor

namespace Go.Proofs.YtkjnoekclfdjiaaDoor
open Go.RowKit
set_option linter.unusedVariables false
set_option linter.unusedSimpArgs false

def lkAt (l : List Lk) (i : Nat) : Lk := l.getD i ⟨⟨#[]⟩, ⟨#[]⟩⟩
theorem lkAt_of {l : List Lk} {i : Nat} {x : Lk} (h : l[i]? = some x) : lkAt l i = x := by simp [lkAt, List.getD, h]
/-- the link x follows on y, or the link that it asks is there -/
def trB (l : List Lk) (x y : Lk) : Bool := !(x.b.toList == y.a.toList) || precB l x.a y.b
def okAt (l : List Lk) (i : Nat) : Bool := !((lkAt l i).a.toList == (lkAt l i).b.toList) && (i == 0 || befB (lkAt l (i - 1)) (lkAt l i)) && l.all (trB l (lkAt l i))
def validLk (l : List Lk) : Bool := (List.range l.length).all (okAt l)
theorem all_succ {p : Nat → Bool} {k : Nat} (h : (List.range k).all p = true) (hp : p k = true) : (List.range (k + 1)).all p = true := by
  rw [List.range_succ, List.all_append, h]; simpa using hp
theorem all_no {p : Nat → Bool} {k n : Nat} (hk : k < n) (hp : p k = false) : (List.range n).all p = false := by
  rw [List.all_eq_false]; exact ⟨k, by simpa using hk, by simp [hp]⟩
theorem take_all {α : Type} {p : α → Bool} {l : List α} {k : Nat} {x : α} (h : (l.take k).all p = true) (hx : l[k]? = some x) (hp : p x = true) : (l.take (k + 1)).all p = true := by
  obtain ⟨hk, rfl⟩ := List.getElem?_eq_some_iff.1 hx
  rw [List.take_succ_eq_append_getElem hk, List.all_append, h]; simpa using hp
theorem all_miss {α : Type} {p : α → Bool} {l : List α} {k : Nat} {x : α} (hx : l[k]? = some x) (hp : p x = false) : l.all p = false := by
  rw [List.all_eq_false]; exact ⟨x, List.mem_of_getElem? hx, by simp [hp]⟩

set_option maxHeartbeats 4000000 in
set_option maxRecDepth 100000 in
theorem rvalid_any (M : Nat → Prop) (w : World) (hM : ∀ b, M b → b < w.heap.size) (A : Option Addr) (n c : Nat) (l : List Lk) (hD : Ro w M (LksIn A n l)) (hn : n ≤ 1000000) :
    Calls Tryd.prog 29 #[.slice A n c] w fun e w' => e = .returned (.bool (validLk l)) ∧ Below w.heap.size w w' := by
  have HL := hid hD.now.len
  have K0 := (Hold.start M w hM).add (hD.less (by simp [Mut]))
  go_enter Tryd.func29, Tryd.ntmps29
  go_wp2_with fail
  go_loopw [9] (fun i wr => ∃ (k : Nat), k ≤ n ∧ i = .int .i64 k ∧ Hid ((List.range k).all (okAt l) = true) ∧ Hold M none w wr [.ro (LksIn A n l)]) (fun i _ => n - (intOf i).toNat)
  case atStart => exact ⟨0, by omega, rfl, hid rfl, K0⟩
  case round =>
    obtain ⟨k, hk, rfl, HV, H⟩ := hrel
    obtain ⟨wo, rfl⟩ : ∃ wo : World, wo = wr := ⟨_, rfl⟩
    by_cases hlt : k < n
    · have hd : decide ((k : Int) < (n : Int)) = true := by simp; omega
      obtain ⟨x, hx⟩ := get_of HL.out hlt
      obtain ⟨g, o, rfl, hb, c0, c1⟩ := (H.ro 0 rfl).now.at_ hx
      have HX := hid (lkAt_of hx); clear hx
      have K1 := H.alloc_cst #[.string x.a, .string x.b] 41
      have F1 := K1.facts
      simp only [World.size_alloc, World.size_drew, factsL, cellsF, Nat.reduceAdd, List.toList_toArray, and_true, true_and] at F1
      have HB0 := hid (And.intro c0 c1)
      cases hs : (x.a.toList == x.b.toList)
      · by_cases hk0 : k = 0
        · have hkd : decide (0 < k) = false := by simp; omega
          have HK0 := hid hk0
          have HSF := hid hs
          clear hk0
          go_wp2_with fail
          go_quiet (fail)
          go_wp2_with fail
          go_loopw [35] (fun j wq => ∃ p : Nat, p ≤ n ∧ j = .int .i64 p ∧ Hid ((l.take p).all (trB l x) = true) ∧ Hold M none w wq [.cst wo.heap.size 41 #[.string x.a, .string x.b], .ro (LksIn (some ⟨g, o, none⟩) n l)]) (fun j _ => n - (intOf j).toNat)
          case atStart => exact ⟨0, by omega, rfl, hid rfl, K1.drewN _⟩
          case round =>
            obtain ⟨p, hp, rfl, HP, H2⟩ := hrel
            by_cases hlt2 : p < n
            · have hd2 : decide ((p : Int) < (n : Int)) = true := by simp; omega
              obtain ⟨y, hy⟩ := get_of HL.out hlt2
              obtain ⟨g', o', ho', hb', e0, e1⟩ := (H2.ro 1 rfl).now.at_ hy
              obtain ⟨rfl, rfl⟩ : g = g' ∧ o = o' := by injection ho' with ho'; injection ho' with a1 a2; exact ⟨a1, a2⟩
              clear ho'
              have HY := hid hy; clear hy
              have K2 := H2.alloc_cst #[.string y.a, .string y.b] 41
              have F2 := H2.facts
              simp only [World.size_alloc, World.size_drew, factsL, cellsF, Nat.reduceAdd, List.toList_toArray, and_true, true_and] at F2
              cases h4 : (x.b.toList == y.a.toList)
              · have HT := hid (show trB l x y = true by simp only [trB, h4]; rfl)
                go_wp2_with fail
                go_roundw
                case rel => exact ⟨p + 1, by omega, by go_num, hid (take_all HP.out HY.out HT.out), K2.drop (List.sublist_cons_self _ _)⟩
                case measure => simp [intOf]; omega
              · cases hpr : precB l x.a y.b
                · have HT := hid (show trB l x y = false by simp only [trB, h4, hpr]; rfl)
                  go_wp2_with (go_at_call 30; refine (rprec_any (Mut M _) _ K2.mutLt _ n c l x.a y.b (K2.ro 2 rfl) (by omega)).mono ?_; rintro e w5 ⟨rfl, b5⟩; have K5 := K2.call b5; rw [hpr])
                  go_ret
                  exact ⟨by rw [show validLk l = false from all_no (k := k) (by rw [HL.out]; exact hlt) (by unfold okAt; rw [HX.out, all_miss HY.out HT.out]; simp)] <;> rfl, K5.below⟩
                · have HT := hid (show trB l x y = true by simp only [trB, h4, hpr]; rfl)
                  go_wp2_with (go_at_call 30; refine (rprec_any (Mut M _) _ K2.mutLt _ n c l x.a y.b (K2.ro 2 rfl) (by omega)).mono ?_; rintro e w5 ⟨rfl, b5⟩; have K5 := K2.call b5; rw [hpr])
                  go_roundw
                  case rel => exact ⟨p + 1, by omega, by go_num, hid (take_all HP.out HY.out HT.out), K5.drop (List.sublist_cons_self _ _)⟩
                  case measure => simp [intOf]; omega
            · obtain rfl : n = p := by omega
              have HPA := HP.out
              rw [List.take_of_length_le (by rw [HL.out]; omega)] at HPA
              have HPB := hid HPA; clear HPA
              go_wp2_with fail
              go_roundw
              case rel => exact ⟨k + 1, by omega, by go_num, hid (all_succ HV.out (by unfold okAt; rw [HX.out, HPB.out, HSF.out]; simp [HK0.out])), H2.drop (List.sublist_cons_self _ _)⟩
              case measure => simp [intOf]; omega
        · obtain ⟨k, rfl⟩ : ∃ m, k = m + 1 := ⟨k - 1, by omega⟩
          have HSF := hid hs
          have hw : IntKind.i64.wrap (k : Int) = (k : Int) := IntWalk.i64_in _ (by omega)
          have i0 : (0 : Int) ≤ (k : Int) := by omega
          have i1 : (k : Int) < (n : Int) := by omega
          have hkd : decide ((0 : Int) < (k : Int) + 1) = true := by simp
          clear hk0
          obtain ⟨z, hz⟩ := get_of HL.out (show k < n by omega)
          obtain ⟨g', o', ho', hb', e0, e1⟩ := (K1.ro 1 rfl).now.at_ hz
          obtain ⟨rfl, rfl⟩ : g = g' ∧ o = o' := by injection ho' with ho'; injection ho' with a1 a2; exact ⟨a1, a2⟩
          clear ho'
          have HZ := hid (lkAt_of hz); clear hz
          cases hbf : befB z x
          · have HBF := hid hbf
            go_wp2_with fail
            generalize wo.alloc (.cells #[.string x.a, .string x.b] 41) = w1 at *
            go_still_tail 15, (by kernel_rfl)
            change wpList _ _ _ _ _ (World.drew _)
            go_wp2_with (go_at_call 42; refine (before_any z x _).mono ?_; rintro e w5 ⟨rfl, b5⟩; have K5 := K1.drew.call b5; rw [HBF.out])
            go_wp2_with fail
            go_ret
            exact ⟨by rw [show validLk l = false from all_no (k := (k + 1)) (by rw [HL.out]; exact hlt) (by unfold okAt; rw [HX.out]; simp only [HBF.out, lkAt_of, Nat.add_sub_cancel, HZ.out]; simp)] <;> rfl, by first | exact (K5).below | exact (K5).drew.below | exact ((K5).drewN _).below⟩
          · have HBF := hid hbf
            go_wp2_with fail
            generalize wo.alloc (.cells #[.string x.a, .string x.b] 41) = w1 at *
            go_still_tail 15, (by kernel_rfl)
            change wpList _ _ _ _ _ (World.drew _)
            go_wp2_with (go_at_call 42; refine (before_any z x _).mono ?_; rintro e w5 ⟨rfl, b5⟩; have K5 := K1.drew.call b5; rw [HBF.out])
            go_loopw [35] (fun j wq => ∃ p : Nat, p ≤ n ∧ j = .int .i64 p ∧ Hid ((l.take p).all (trB l x) = true) ∧ Hold M none w wq [.cst wo.heap.size 41 #[.string x.a, .string x.b], .ro (LksIn (some ⟨g, o, none⟩) n l)]) (fun j _ => n - (intOf j).toNat)
            case atStart => exact ⟨0, by omega, rfl, hid rfl, K5⟩
            case round =>
              obtain ⟨p, hp, rfl, HP, H2⟩ := hrel
              by_cases hlt2 : p < n
              · have hd2 : decide ((p : Int) < (n : Int)) = true := by simp; omega
                obtain ⟨y, hy⟩ := get_of HL.out hlt2
                obtain ⟨g', o', ho', hb', e0, e1⟩ := (H2.ro 1 rfl).now.at_ hy
                obtain ⟨rfl, rfl⟩ : g = g' ∧ o = o' := by injection ho' with ho'; injection ho' with a1 a2; exact ⟨a1, a2⟩
                clear ho'
                have HY := hid hy; clear hy
                have K2 := H2.alloc_cst #[.string y.a, .string y.b] 41
                have F2 := H2.facts
                simp only [World.size_alloc, World.size_drew, factsL, cellsF, Nat.reduceAdd, List.toList_toArray, and_true, true_and] at F2
                cases h4 : (x.b.toList == y.a.toList)
                · have HT := hid (show trB l x y = true by simp only [trB, h4]; rfl)
                  go_wp2_with fail
                  go_roundw
                  case rel => exact ⟨p + 1, by omega, by go_num, hid (take_all HP.out HY.out HT.out), K2.drop (List.sublist_cons_self _ _)⟩
                  case measure => simp [intOf]; omega
                · cases hpr : precB l x.a y.b
                  · have HT := hid (show trB l x y = false by simp only [trB, h4, hpr]; rfl)
                    go_wp2_with (go_at_call 30; refine (rprec_any (Mut M _) _ K2.mutLt _ n c l x.a y.b (K2.ro 2 rfl) (by omega)).mono ?_; rintro e w5 ⟨rfl, b5⟩; have K5 := K2.call b5; rw [hpr])
                    go_ret
                    exact ⟨by rw [show validLk l = false from all_no (k := (k + 1)) (by rw [HL.out]; exact hlt) (by unfold okAt; rw [HX.out, all_miss HY.out HT.out]; simp)] <;> rfl, K5.below⟩
                  · have HT := hid (show trB l x y = true by simp only [trB, h4, hpr]; rfl)
                    go_wp2_with (go_at_call 30; refine (rprec_any (Mut M _) _ K2.mutLt _ n c l x.a y.b (K2.ro 2 rfl) (by omega)).mono ?_; rintro e w5 ⟨rfl, b5⟩; have K5 := K2.call b5; rw [hpr])
                    go_roundw
                    case rel => exact ⟨p + 1, by omega, by go_num, hid (take_all HP.out HY.out HT.out), K5.drop (List.sublist_cons_self _ _)⟩
                    case measure => simp [intOf]; omega
              · obtain rfl : n = p := by omega
                have HPA := HP.out
                rw [List.take_of_length_le (by rw [HL.out]; omega)] at HPA
                have HPB := hid HPA; clear HPA
                go_wp2_with fail
                go_roundw
                case rel => exact ⟨(k + 1) + 1, by omega, by go_num, hid (all_succ HV.out (by unfold okAt; rw [HX.out, HPB.out, HSF.out]; simp [HZ.out, HBF.out])), H2.drop (List.sublist_cons_self _ _)⟩
                case measure => simp [intOf]; omega
      · have HS := hid hs
        go_wp2_with fail
        go_quiet (fail)
        go_wp2_with fail
        go_ret
        exact ⟨by rw [show validLk l = false from all_no (k := k) (by rw [HL.out]; exact hlt) (by unfold okAt; rw [HX.out]; simp only [HS.out]; simp)] <;> rfl, by first | exact (K1).below | exact (K1).drew.below | exact ((K1).drewN _).below⟩
    · obtain rfl : k = n := by omega
      go_wp2_with fail
      go_ret
      exact ⟨by rw [show validLk l = true from by unfold validLk; rw [HL.out]; exact HV.out] <;> rfl, H.below⟩
end Go.Proofs.YtkjnoekclfdjiaaDoor

namespace Go.Proofs.YtkjnoekclfdjiaaDoor
open Go.RowKit
set_option linter.unusedVariables false
set_option linter.unusedSimpArgs false

theorem less_irrefl : ∀ x : List UInt8, Op.bytesLess x x = false
  | [] => rfl
  | a :: x => by simp [Op.bytesLess, less_irrefl x]
theorem less_trans : ∀ x y z : List UInt8, Op.bytesLess x y = true → Op.bytesLess y z = true → Op.bytesLess x z = true
  | _, [], _ => by simp [Op.bytesLess]
  | [], b :: y, [] => by simp [Op.bytesLess]
  | [], b :: y, c :: z => by simp [Op.bytesLess]
  | a :: x, b :: y, [] => by simp [Op.bytesLess]
  | a :: x, b :: y, c :: z => by
    have ih := less_trans x y z
    simp only [Op.bytesLess, Bool.or_eq_true, Bool.and_eq_true, decide_eq_true_eq, beq_iff_eq]
    rintro (h1 | ⟨rfl, h1⟩) (h2 | ⟨rfl, h2⟩)
    · exact .inl (UInt8.lt_trans h1 h2)
    · exact .inl h1
    · exact .inl h2
    · exact .inr ⟨rfl, ih h1 h2⟩
theorem lless_tri : ∀ x y : List UInt8, x = y ∨ Op.bytesLess x y = true ∨ Op.bytesLess y x = true
  | [], [] => .inl rfl
  | [], b :: y => .inr (.inl rfl)
  | a :: x, [] => .inr (.inr rfl)
  | a :: x, b :: y => by
    simp only [Op.bytesLess, Bool.or_eq_true, Bool.and_eq_true, decide_eq_true_eq, beq_iff_eq, List.cons.injEq]
    rcases UInt8.lt_or_lt_of_ne (a := a) (b := b) |> fun h => Classical.em (a = b) with rfl | hne
    · rcases lless_tri x y with rfl | h | h
      · exact .inl ⟨rfl, rfl⟩
      · exact .inr (.inl (.inr ⟨rfl, h⟩))
      · exact .inr (.inr (.inr ⟨rfl, h⟩))
    · rcases UInt8.lt_or_lt_of_ne hne with h | h
      · exact .inr (.inl (.inl h))
      · exact .inr (.inr (.inl h))
theorem ba_ext {a b : ByteArray} (h : a.toList = b.toList) : a = b := Go.WideShapes.bytes_inj (by rw [← ByteArray.toList_eq, ← ByteArray.toList_eq]; exact h)
theorem ba_beq {a b : ByteArray} : (a.toList == b.toList) = true ↔ a = b := by
  rw [beq_iff_eq]; exact ⟨ba_ext, fun h => by rw [h]⟩
theorem lk_ext {x y : Lk} (h1 : x.a = y.a) (h2 : x.b = y.b) : x = y := by
  obtain ⟨a, b⟩ := x; obtain ⟨c, d⟩ := y; simp only at h1 h2; rw [h1, h2]
theorem lkEq_iff {x y : Lk} : lkEq x y = true ↔ x = y := by
  unfold lkEq
  rw [Bool.and_eq_true, ba_beq, ba_beq]
  exact ⟨fun h => lk_ext h.1 h.2, fun h => by rw [h]; exact ⟨rfl, rfl⟩⟩
theorem lkB_iff {a b : ByteArray} {x : Lk} : lkB a b x = true ↔ x = ⟨a, b⟩ := by
  unfold lkB
  rw [Bool.and_eq_true, ba_beq, ba_beq]
  exact ⟨fun h => lk_ext h.1 h.2, fun h => by rw [h]; exact ⟨rfl, rfl⟩⟩
theorem precB_iff {l : List Lk} {a b : ByteArray} : precB l a b = true ↔ (⟨a, b⟩ : Lk) ∈ l := by
  unfold precB
  rw [List.any_eq_true]
  constructor
  · rintro ⟨x, hx, h⟩
    rw [lkB_iff] at h; rwa [← h]
  · exact fun h => ⟨_, h, lkB_iff.2 rfl⟩

theorem bef_irrefl (x : Lk) : befB x x = false := by simp [befB, less_irrefl]
theorem bef_trans {x y z : Lk} (h1 : befB x y = true) (h2 : befB y z = true) : befB x z = true := by
  simp only [befB, Bool.or_eq_true, Bool.and_eq_true, beq_iff_eq] at *
  rcases h1 with h1 | ⟨e1, h1⟩ <;> rcases h2 with h2 | ⟨e2, h2⟩
  · exact .inl (less_trans _ _ _ h1 h2)
  · exact .inl (e2 ▸ h1)
  · exact .inl (e1 ▸ h2)
  · exact .inr ⟨e1.trans e2, less_trans _ _ _ h1 h2⟩
theorem bef_tri (x y : Lk) : x = y ∨ befB x y = true ∨ befB y x = true := by
  simp only [befB, Bool.or_eq_true, Bool.and_eq_true, beq_iff_eq]
  rcases lless_tri x.a.toList y.a.toList with h | h | h
  · rcases lless_tri x.b.toList y.b.toList with h2 | h2 | h2
    · exact .inl (lk_ext (ba_ext h) (ba_ext h2))
    · exact .inr (.inl (.inr ⟨h, h2⟩))
    · exact .inr (.inr (.inr ⟨h.symm, h2⟩))
  · exact .inr (.inl (.inl h))
  · exact .inr (.inr (.inl h))
theorem bef_ne {x y : Lk} (h : befB x y = true) : x ≠ y := by rintro rfl; rw [bef_irrefl] at h; cases h

def LkSorted (l : List Lk) : Prop := l.Pairwise fun x y => befB x y = true
theorem LkSorted.nodup {l : List Lk} (h : LkSorted l) : l.Nodup := List.Pairwise.imp (fun h => bef_ne h) h

/-- insert, once more: what is still to be laid behind what is laid. -/
def insF (x : Lk) : Bool → List Lk → List Lk
  | d, [] => if d then [] else [x]
  | d, y :: l => (if d || befB y x then [] else [x]) ++ (if lkEq y x then [] else [y]) ++ insF x (d || !befB y x) l
theorem ins_fold (x : Lk) : ∀ (l : List Lk) (o : List Lk) (d : Bool), (let s := l.foldl (insStep x) (o, d); if s.2 then s.1 else s.1 ++ [x]) = o ++ insF x d l
  | [], o, d => by cases d <;> simp [insF]
  | y :: l, o, d => by
    have ih := ins_fold x l (insStep x (o, d) y).1 (insStep x (o, d) y).2
    refine Eq.trans ih ?_
    simp only [insStep, insF]
    cases d <;> cases befB y x <;> cases lkEq y x <;> simp
theorem insL_eq (x : Lk) (l : List Lk) : insL x l = insF x false l := by
  have h := ins_fold x l [] false
  simp only [List.nil_append] at h
  rw [← h]
  unfold insL insS
  rw [List.take_of_length_le (Nat.le_refl _)]
theorem insF_true (x : Lk) : ∀ l : List Lk, (∀ y ∈ l, y ≠ x) → insF x true l = l
  | [], _ => rfl
  | y :: l, h => by
    have hy : lkEq y x = false := by
      cases e : lkEq y x
      · rfl
      · exact absurd (lkEq_iff.1 e) (h y (List.mem_cons_self ..))
    simp [insF, hy, insF_true x l (fun z hz => h z (List.mem_cons_of_mem _ hz))]
theorem insF_cons {x y : Lk} {l : List Lk} (h : LkSorted (y :: l)) : insF x false (y :: l) = if befB y x then y :: insF x false l else if lkEq y x then y :: l else x :: y :: l := by
  obtain ⟨h1, h2⟩ := List.pairwise_cons.1 h
  cases hb : befB y x
  · have hn : ∀ z ∈ l, z ≠ x := fun z hz e => by
      subst e; rw [h1 z hz] at hb; cases hb
    cases he : lkEq y x
    · simp [insF, hb, he, insF_true x l hn]
    · obtain rfl := lkEq_iff.1 he
      simp [insF, hb, he, insF_true y l hn]
  · have he : lkEq y x = false := by
      cases e : lkEq y x
      · rfl
      · exact absurd (lkEq_iff.1 e) (bef_ne hb)
    simp [insF, hb, he]
theorem insF_mem {x z : Lk} : ∀ {l : List Lk}, LkSorted l → (z ∈ insF x false l ↔ z = x ∨ z ∈ l)
  | [], _ => by simp [insF]
  | y :: l, h => by
    have ih := insF_mem (x := x) (z := z) (List.pairwise_cons.1 h).2
    rw [insF_cons h]
    split
    · simp only [List.mem_cons, ih]
      constructor
      · rintro (h | h | h)
        · exact .inr (.inl h)
        · exact .inl h
        · exact .inr (.inr h)
      · rintro (h | h | h)
        · exact .inr (.inl h)
        · exact .inl h
        · exact .inr (.inr h)
    · split
      · rename_i _ he
        obtain rfl := lkEq_iff.1 he
        simp only [List.mem_cons]
        exact ⟨.inr, fun h => h.elim .inl id⟩
      · simp only [List.mem_cons]
theorem insF_sorted {x : Lk} : ∀ {l : List Lk}, LkSorted l → LkSorted (insF x false l)
  | [], _ => by simp [insF, LkSorted]
  | y :: l, h => by
    have ih := insF_sorted (x := x) (List.pairwise_cons.1 h).2
    rw [insF_cons h]
    obtain ⟨h1, h2⟩ := List.pairwise_cons.1 h
    split
    · rename_i hb
      refine List.pairwise_cons.2 ⟨fun z hz => ?_, ih⟩
      rcases (insF_mem h2).1 hz with rfl | hz
      · exact hb
      · exact h1 z hz
    · split
      · exact h
      · rename_i hb he
        have hxy : befB x y = true := by
          rcases bef_tri x y with rfl | h | h
          · exact absurd (lkEq_iff.2 rfl) he
          · exact h
          · exact absurd h hb
        refine List.pairwise_cons.2 ⟨fun z hz => ?_, h⟩
        rcases List.mem_cons.1 hz with rfl | hz
        · exact hxy
        · exact bef_trans hxy (h1 z hz)
theorem insL_mem {x z : Lk} {l : List Lk} (h : LkSorted l) : z ∈ insL x l ↔ z = x ∨ z ∈ l := by rw [insL_eq]; exact insF_mem h
theorem insL_sorted {x : Lk} {l : List Lk} (h : LkSorted l) : LkSorted (insL x l) := by rw [insL_eq]; exact insF_sorted h

/-- A list without repeats within another one is no longer than it. -/
theorem nodup_len {α : Type} : ∀ {l u : List α}, l.Nodup → (∀ x ∈ l, x ∈ u) → l.length ≤ u.length
  | [], u, _, _ => Nat.zero_le _
  | x :: l, u, h, hs => by
    obtain ⟨h1, h2⟩ := List.nodup_cons.1 h
    obtain ⟨p, q, rfl⟩ := List.append_of_mem (hs x (List.mem_cons_self ..))
    have := nodup_len (u := p ++ q) h2 fun z hz => by
      have hz' := hs z (List.mem_cons_of_mem _ hz)
      simp only [List.mem_append, List.mem_cons] at hz' ⊢
      rcases hz' with h | rfl | h
      · exact .inl h
      · exact absurd hz h1
      · exact .inr h
    simp only [List.length_append, List.length_cons] at this ⊢
    omega
/-- all links of some names -/
def lkAll (ns : List ByteArray) : List Lk := ns.flatMap fun a => ns.map fun b => ⟨a, b⟩
theorem lkAll_len (ns : List ByteArray) : (lkAll ns).length = ns.length * ns.length := flat_len _ _ (fun _ => by simp) ns
def NamesIn (ns : List ByteArray) (l : List Lk) : Prop := ∀ z ∈ l, z.a ∈ ns ∧ z.b ∈ ns
theorem NamesIn.len {ns : List ByteArray} {l : List Lk} (h : NamesIn ns l) (hs : LkSorted l) : l.length ≤ ns.length * ns.length := by
  rw [← lkAll_len]
  refine nodup_len hs.nodup fun x hx => ?_
  obtain ⟨h1, h2⟩ := h x hx
  exact List.mem_flatMap.2 ⟨x.a, h1, List.mem_map.2 ⟨x.b, h2, rfl⟩⟩

/-- What follows from links. -/
inductive Tr (l : List Lk) : ByteArray → ByteArray → Prop
  | one {a b : ByteArray} : (⟨a, b⟩ : Lk) ∈ l → Tr l a b
  | step {a b c : ByteArray} : Tr l a b → Tr l b c → Tr l a c
theorem Tr.mono {l l' : List Lk} (h : ∀ z ∈ l, Tr l' z.a z.b) {a b : ByteArray} (ht : Tr l a b) : Tr l' a b := by
  induction ht with
  | one hm => exact h _ hm
  | step _ _ h1 h2 => exact .step h1 h2
theorem Tr.names {ns : List ByteArray} {l : List Lk} (h : NamesIn ns l) {a b : ByteArray} (ht : Tr l a b) : a ∈ ns ∧ b ∈ ns := by
  induction ht with
  | one hm => exact h _ hm
  | step _ _ h1 h2 => exact ⟨h1.1, h2.2⟩
/-- r is sorted, and says just what follows from l -/
def ClosOf (l r : List Lk) : Prop := LkSorted r ∧ ∀ a b, (⟨a, b⟩ : Lk) ∈ r ↔ Tr l a b

/-- between l and what follows from it -/
def Mid (l o : List Lk) : Prop := LkSorted o ∧ (∀ z ∈ l, z ∈ o) ∧ ∀ z ∈ o, Tr l z.a z.b
theorem Mid.self {l : List Lk} (h : LkSorted l) : Mid l l := ⟨h, fun _ h => h, fun z h => .one h⟩
theorem Mid.ins {l o : List Lk} (h : Mid l o) {x y : Lk} (hx : x ∈ l) (hy : y ∈ l) (he : x.b = y.a) : Mid l (insL ⟨x.a, y.b⟩ o) := by
  refine ⟨insL_sorted h.1, fun z hz => (insL_mem h.1).2 (.inr (h.2.1 z hz)), fun z hz => ?_⟩
  rcases (insL_mem h.1).1 hz with rfl | hz
  · exact .step (b := x.b) (.one hx) (by rw [he]; exact .one hy)
  · exact h.2.2 z hz
theorem Mid.names {ns : List ByteArray} {l o : List Lk} (h : Mid l o) (hn : NamesIn ns l) : NamesIn ns o := fun z hz => Tr.names hn (h.2.2 z hz)
/-- the compositions of x with the first j links are there -/
def Done1 (l o : List Lk) (x : Lk) (j : Nat) : Prop := ∀ y ∈ l.take j, x.b = y.a → (⟨x.a, y.b⟩ : Lk) ∈ o
def DoneN (l o : List Lk) (i : Nat) : Prop := ∀ x ∈ l.take i, Done1 l o x l.length
theorem mem_take_succ {α : Type} {l : List α} {k : Nat} {x y : α} (hx : l[k]? = some x) (h : y ∈ l.take (k + 1)) : y = x ∨ y ∈ l.take k := by
  obtain ⟨hk, rfl⟩ := List.getElem?_eq_some_iff.1 hx
  rw [List.take_succ_eq_append_getElem hk] at h
  rcases List.mem_append.1 h with h | h
  · exact .inr h
  · exact .inl (by simpa using h)
theorem Done1.succ {l o : List Lk} {x y : Lk} {j : Nat} (h : Done1 l o x j) (hy : l[j]? = some y) (hd : x.b = y.a → (⟨x.a, y.b⟩ : Lk) ∈ o) : Done1 l o x (j + 1) := fun z hz he => by
  rcases mem_take_succ hy hz with rfl | hz
  · exact hd he
  · exact h z hz he
theorem Done1.more {l o o' : List Lk} {x : Lk} {j : Nat} (h : Done1 l o x j) (hs : ∀ z ∈ o, z ∈ o') : Done1 l o' x j := fun z hz he => hs _ (h z hz he)
theorem DoneN.more {l o o' : List Lk} {i : Nat} (h : DoneN l o i) (hs : ∀ z ∈ o, z ∈ o') : DoneN l o' i := fun x hx => (h x hx).more hs
theorem DoneN.succ {l o : List Lk} {i : Nat} {x : Lk} (h : DoneN l o i) (hx : l[i]? = some x) (h1 : Done1 l o x l.length) : DoneN l o (i + 1) := fun z hz => by
  rcases mem_take_succ hx hz with rfl | hz
  · exact h1
  · exact h z hz
/-- nothing was added: l is closed -/
theorem clos_end {l0 l o : List Lk} (h : Mid l o) (hd : DoneN l o l.length) (hlen : o.length = l.length) (hl : LkSorted l) (h0 : ∀ z ∈ l0, z ∈ l) (h1 : ∀ z ∈ l, Tr l0 z.a z.b) : ClosOf l0 o := by
  have hsub : ∀ z ∈ o, z ∈ l := fun z hz => by
    refine Classical.byContradiction fun hn => ?_
    have := nodup_len (l := z :: l) (u := o) (List.nodup_cons.2 ⟨hn, hl.nodup⟩) fun y hy => by
      rcases List.mem_cons.1 hy with rfl | hy
      · exact hz
      · exact h.2.1 y hy
    simp only [List.length_cons] at this
    omega
  refine ⟨h.1, fun a b => ⟨fun hm => h1 _ (hsub _ hm), fun ht => ?_⟩⟩
  induction ht with
  | one hm => exact h.2.1 _ (h0 _ hm)
  | @step a b c _ _ i1 i2 => exact hd _ (by rw [List.take_length]; exact hsub _ i1) _ (by rw [List.take_length]; exact hsub _ i2) rfl
theorem Mid.len {l o : List Lk} (h : Mid l o) (hl : LkSorted l) : l.length ≤ o.length := nodup_len hl.nodup h.2.1
theorem Mid.trans {l0 l o : List Lk} (h : Mid l0 l) (k : Mid l o) : Mid l0 o := ⟨k.1, fun z hz => k.2.1 z (h.2.1 z hz), fun z hz => Tr.mono h.2.2 (k.2.2 z hz)⟩
end Go.Proofs.YtkjnoekclfdjiaaDoor

namespace Go.Proofs.YtkjnoekclfdjiaaDoor
open Go.RowKit
set_option linter.unusedVariables false
set_option linter.unusedSimpArgs false

def ClosRet (w : World) (M : Nat → Prop) (l : List Lk) (e : Ending) (w' : World) : Prop := ∃ r, ClosOf l r ∧ LksRet w M r e w'

set_option maxHeartbeats 4000000 in
set_option maxRecDepth 100000 in
theorem closure_any (M : Nat → Prop) (w : World) (hM : ∀ b, M b → b < w.heap.size) (A : Option Addr) (n c : Nat) (l0 : List Lk) (ns : List ByteArray) (hD : Ro w M (LksIn A n l0)) (hs : LkSorted l0) (hns : NamesIn ns l0) (hB : ns.length * ns.length ≤ 1000000) (hc : n ≤ c) (hcm : c ≤ 9223372036854775807) :
    Calls Tryd.prog 34 #[.slice A n c] w fun e w' => ClosRet w M l0 e w' := by
  have HB := hid hB
  obtain ⟨B, hBB⟩ : ∃ B, ns.length * ns.length = B := ⟨_, rfl⟩
  rw [hBB] at hB
  have HBB := hid hBB
  have K0 := (Hold.start M w hM).add (hD.less (by simp [Mut]))
  have HM0 := hid (Mid.self hs)
  have HNS := hid hns
  have HS0 := hid hs
  clear hBB hns hs
  go_enter Tryd.func34, Tryd.ntmps34
  go_wp2_with fail
  go_loopg [0] B (fun gh v wr => ∃ (A : Option Addr) (n c : Nat) (l : List Lk), v = .slice A n c ∧ B ≤ n + gh ∧ n ≤ c ∧ c ≤ 9223372036854775807 ∧ Hid (Mid l0 l) ∧ Hold M none w wr [.ro (LksIn A n l)])
  case atStart => exact ⟨A, n, c, l0, rfl, by omega, hc, hcm, HM0, K0⟩
  case round =>
    clear K0 hD hc hcm
    clear A n c
    obtain ⟨A, n, c, l, rfl, hgh, hc, hcm, HMl, H⟩ := hrel
    have hnl := (H.ro 0 rfl).now.len
    have hnB : n ≤ B := by rw [← hnl, ← HBB.out]; exact NamesIn.len (Mid.names HMl.out HNS.out) HMl.out.1
    have HL := hid hnl; clear hnl
    have KS := H.add (H.ro 0 rfl)
    go_wp2_with fail
    go_loopw [3, 11] (fun v i wq => ∃ (A' : Option Addr) (n' c' k : Nat) (o : List Lk), v = .slice A' n' c' ∧ k ≤ n ∧ i = .int .i64 k ∧ n' ≤ c' ∧ c' ≤ 9223372036854775807 ∧ Hid (Mid l o) ∧ Hid (DoneN l o k) ∧ Hold M none w wq [.ro (LksIn A' n' o), .ro (LksIn A n l)]) (fun _ i _ => n - (intOf i).toNat)
    case atStart => exact ⟨A, n, c, 0, l, rfl, by omega, rfl, hc, hcm, hid (Mid.self HMl.out.1), hid (fun x hx => by simp at hx), KS⟩
    case round =>
      clear KS H
      obtain ⟨A', n', c', k, o, rfl, hk, rfl, hc', hcm', HMo, HDN, H⟩ := hrel
      have hn'l := (H.ro 0 rfl).now.len
      have hn'B : n' ≤ B := by rw [← hn'l, ← HBB.out]; exact NamesIn.len (Mid.names (HMl.out.trans HMo.out) HNS.out) HMo.out.1
      have HL' := hid hn'l; clear hn'l
      have hnn : n ≤ n' := by have := HMo.out.len HMl.out.1; rw [HL.out, HL'.out] at this; exact this
      obtain ⟨wo, rfl⟩ : ∃ wo : World, wo = wr := ⟨_, rfl⟩
      by_cases hlt : k < n
      · have hd : decide ((k : Int) < (n : Int)) = true := by simp; omega
        obtain ⟨x, hx⟩ := get_of HL.out hlt
        obtain ⟨g, oo, rfl, hb, c0, c1⟩ := (H.ro 1 rfl).now.at_ hx
        have HX := hid hx; clear hx
        have K1 := H.alloc_cst #[.string x.a, .string x.b] 41
        have K2 := (K1.add (K1.ro 1 rfl)).drop (L' := [.ro (LksIn A' n' o), .cst wo.heap.size 41 #[.string x.a, .string x.b], .ro (LksIn (some ⟨g, oo, none⟩) n l)]) (List.Sublist.cons_cons _ (List.Sublist.cons_cons _ (List.sublist_cons_self _ _)))
        clear K1
        go_wp2_with fail
        go_loopw [3, 17] (fun v j wq => ∃ (A' : Option Addr) (n' c' p : Nat) (o : List Lk), v = .slice A' n' c' ∧ p ≤ n ∧ j = .int .i64 p ∧ n' ≤ c' ∧ c' ≤ 9223372036854775807 ∧ Hid (Mid l o) ∧ Hid (DoneN l o k) ∧ Hid (Done1 l o x p) ∧ Hold M none w wq [.ro (LksIn A' n' o), .cst wo.heap.size 41 #[.string x.a, .string x.b], .ro (LksIn (some ⟨g, oo, none⟩) n l)]) (fun _ j _ => n - (intOf j).toNat)
        case atStart => exact ⟨A', n', c', 0, o, rfl, by omega, rfl, hc', hcm', HMo, HDN, hid (fun y hy => by simp at hy), K2⟩
        case round =>
          clear K2 H HL' HMo HDN hc' hcm' hn'B hnn
          obtain ⟨A', n', c', p, o, rfl, hp, rfl, hc', hcm', HMo, HDN, HD1, H⟩ := hrel
          have hn'l := (H.ro 0 rfl).now.len
          have hn'B : n' ≤ B := by rw [← hn'l, ← HBB.out]; exact NamesIn.len (Mid.names (HMl.out.trans HMo.out) HNS.out) HMo.out.1
          have HL' := hid hn'l; clear hn'l
          by_cases hlt2 : p < n
          · have hd2 : decide ((p : Int) < (n : Int)) = true := by simp; omega
            obtain ⟨y, hy⟩ := get_of HL.out hlt2
            obtain ⟨g', o', ho', hb', e0, e1⟩ := (H.ro 2 rfl).now.at_ hy
            obtain ⟨rfl, rfl⟩ : g = g' ∧ oo = o' := by injection ho' with ho'; injection ho' with a1 a2; exact ⟨a1, a2⟩
            clear ho'
            have HY := hid hy; clear hy
            have K3 := H.alloc_cst #[.string y.a, .string y.b] 41
            have F := K3.facts
            simp only [World.size_alloc, World.size_drew, factsL, cellsF, Nat.reduceAdd, List.toList_toArray, and_true, true_and] at F
            have F0 := H.facts
            simp only [World.size_alloc, World.size_drew, factsL, cellsF, Nat.reduceAdd, List.toList_toArray, and_true, true_and] at F0
            cases h4 : (x.b.toList == y.a.toList)
            · have HE := hid (show x.b ≠ y.a from fun e => by rw [e] at h4; simp at h4)
              go_wp2_with fail
              go_roundw
              case rel => exact ⟨A', n', c', p + 1, o, rfl, by omega, by go_num, hc', hcm', HMo, HDN, hid (HD1.out.succ HY.out fun e => absurd e HE.out), K3.drop (List.sublist_cons_self _ _)⟩
              case measure => simp [intOf]; omega
            · have HE := hid (show x.b = y.a from ba_beq.1 h4)
              go_wp2_with fail
              refine (insert_any (Mut M _) _ K3.mutLt A' n' c' o ⟨x.a, y.b⟩ (K3.ro 1 rfl) (by omega)).mono ?_
              rintro e w5 ⟨A5, n5, c5, rfl, h51, h52, h53, r5, b5⟩
              have H51 := hid h51; clear h51
              have K5 := ((K3.call b5).add r5).drop (L' := [.ro (LksIn A5 n5 (insL ⟨x.a, y.b⟩ o)), .cst wo.heap.size 41 #[.string x.a, .string x.b], .ro (LksIn (some ⟨g, oo, none⟩) n l)]) (List.Sublist.cons_cons _ (List.Sublist.cons _ (List.sublist_cons_self _ _)))
              have HM5 := hid (HMo.out.ins (List.mem_of_getElem? HX.out) (List.mem_of_getElem? HY.out) HE.out)
              have HI5 := hid (fun z (hz : z ∈ o) => (insL_mem HMo.out.1).2 (Or.inr (b := z ∈ o) (a := z = ⟨x.a, y.b⟩) hz))
              clear r5 b5 F F0
              go_wp2_with fail
              go_roundw
              case rel => exact ⟨A5, n5, c5, p + 1, _, rfl, by omega, by go_num, h52, h53, HM5, hid (HDN.out.more HI5.out), hid ((HD1.out.more HI5.out).succ HY.out fun _ => (insL_mem HMo.out.1).2 (.inl rfl)), K5⟩
              case measure => simp [intOf]; omega
          · obtain rfl : p = n := by omega
            go_wp2_with fail
            go_roundw
            case rel => exact ⟨A', n', c', k + 1, o, rfl, by omega, by go_num, hc', hcm', HMo, hid (HDN.out.succ HX.out (by rw [HL.out]; exact HD1.out)), H.drop (List.Sublist.cons_cons _ (List.sublist_cons_self _ _))⟩
            case measure => simp [intOf]; omega
      · obtain rfl : k = n := by omega
        by_cases he : n' = k
        · have hq : ((n' : Int) == (k : Int)) = true := by rw [beq_iff_eq]; omega
          have HE := hid he; clear he
          go_wp2_with fail
          go_ret
          exact ⟨o, clos_end HMo.out (by rw [HL.out]; exact HDN.out) (by rw [HL.out, HL'.out, HE.out]) HMl.out.1 HMl.out.2.1 HMl.out.2.2, A', n', c', rfl, HL'.out.symm, hc', hcm', H.roOut 0 rfl, H.below⟩
        · have hq : ((n' : Int) == (k : Int)) = false := by rw [beq_eq_false_iff_ne]; omega
          cases gk with
          | succ go =>
            go_wp2_with fail
            go_roundg go
            case measure => omega
            case rel => exact ⟨A', n', c', o, rfl, by omega, hc', hcm', hid (HMl.out.trans HMo.out), H.drop (List.Sublist.cons_cons _ (List.nil_sublist _))⟩
          | zero => omega
end Go.Proofs.YtkjnoekclfdjiaaDoor

namespace Go.Proofs.YtkjnoekclfdjiaaDoor
open Go.RowKit
set_option linter.unusedVariables false
set_option linter.unusedSimpArgs false

/-- A list of strings in memory. -/
def strsCells (l : List ByteArray) : List Value := l.map .string
def StrsIn (A : Option Addr) (n : Nat) (l : List ByteArray) : World → Prop := SlR 1 A n (strsCells l)
theorem StrsIn.len {w : World} {A : Option Addr} {n : Nat} {l : List ByteArray} (h : StrsIn A n l w) : l.length = n := by
  have := (show Rd w w.heap.size 1 A n (strsCells l) from h).1
  simpa [strsCells] using this
theorem StrsIn.at_ {w : World} {A : Option Addr} {n : Nat} {l : List ByteArray} (h : StrsIn A n l w) {k : Nat} {x : ByteArray} (hx : l[k]? = some x) :
    ∃ b o, A = some ⟨b, o, none⟩ ∧ b < w.heap.size ∧ w.cell? ⟨b, o + k, none⟩ = some (.string x) := by
  have hk : k < n := by rw [← h.len]; exact (List.getElem?_eq_some_iff.1 hx).1
  obtain ⟨b, o, e, hb, hc⟩ := (show Rd w w.heap.size 1 A n (strsCells l) from h).2 (by omega)
  exact ⟨b, o, e, hb, hc k _ (by simp [strsCells, hx])⟩
theorem one_lks (l : List Lk) : ∀ u ∈ lkCells l, u.oneCell' = true := by
  intro u hu
  obtain ⟨x, _, hx⟩ := List.mem_flatMap.1 hu
  simp [Lk.cells] at hx
  rcases hx with rfl | rfl <;> rfl

theorem valid_at {l : List Lk} (h : validLk l = true) {i : Nat} (hi : i < l.length) : okAt l i = true := by
  unfold validLk at h
  rw [List.all_eq_true] at h
  exact h i (by simpa using hi)
theorem pair_of_step : ∀ {l : List Lk}, (∀ i, i + 1 < l.length → befB (lkAt l i) (lkAt l (i + 1)) = true) → LkSorted l
  | [], _ => List.Pairwise.nil
  | [x], _ => List.pairwise_singleton _ _
  | x :: y :: l, h => by
    have ih : LkSorted (y :: l) := pair_of_step fun i hi => by
      have := h (i + 1) (by simp at hi ⊢; omega)
      simpa [lkAt] using this
    have hxy : befB x y = true := by have := h 0 (by simp); simpa [lkAt] using this
    refine List.pairwise_cons.2 ⟨fun z hz => ?_, ih⟩
    rcases List.mem_cons.1 hz with rfl | hz
    · exact hxy
    · exact bef_trans hxy ((List.pairwise_cons.1 ih).1 z hz)
theorem valid_sorted {l : List Lk} (h : validLk l = true) : LkSorted l := pair_of_step fun i hi => by
  have := valid_at h hi
  unfold okAt at this
  simp only [Bool.and_eq_true, Bool.or_eq_true] at this
  rcases this.1.2 with h1 | h1
  · simp at h1
  · simpa using h1

def insMany (f : ByteArray → Lk) (o : List Lk) (ss : List ByteArray) : List Lk := ss.foldl (fun o s => insL (f s) o) o
theorem insMany_succ (f : ByteArray → Lk) (o : List Lk) {ss : List ByteArray} {k : Nat} {s : ByteArray} (h : ss[k]? = some s) : insMany f o (ss.take (k + 1)) = insL (f s) (insMany f o (ss.take k)) := by
  obtain ⟨hk, rfl⟩ := List.getElem?_eq_some_iff.1 h
  unfold insMany
  rw [List.take_succ_eq_append_getElem hk, List.foldl_append]
  rfl
theorem insMany_spec (f : ByteArray → Lk) : ∀ (ss : List ByteArray) (o : List Lk), LkSorted o → LkSorted (insMany f o ss) ∧ ∀ z, z ∈ insMany f o ss ↔ z ∈ o ∨ ∃ s ∈ ss, z = f s
  | [], o, h => ⟨h, fun z => by simp [insMany]⟩
  | s :: ss, o, h => by
    obtain ⟨h1, h2⟩ := insMany_spec f ss (insL (f s) o) (insL_sorted h)
    refine ⟨h1, fun z => ?_⟩
    show z ∈ insMany f (insL (f s) o) ss ↔ _
    rw [h2 z, insL_mem h]
    simp only [List.mem_cons, exists_eq_or_imp]
    constructor
    · rintro ((h | h) | h)
      · exact .inr (.inl h)
      · exact .inl h
      · exact .inr (.inr h)
    · rintro (h | h | h)
      · exact .inl (.inr h)
      · exact .inl (.inl h)
      · exact .inr h
theorem insMany_names {ns : List ByteArray} {f : ByteArray → Lk} {ss : List ByteArray} {o : List Lk} (hs : LkSorted o) (ho : NamesIn ns o) (hf : ∀ s ∈ ss, (f s).a ∈ ns ∧ (f s).b ∈ ns) : NamesIn ns (insMany f o ss) := fun z hz => by
  rcases ((insMany_spec f ss o hs).2 z).1 hz with h | ⟨s, h, rfl⟩
  · exact ho z h
  · exact hf s h
/-- the links from which Add starts -/
def addS (l : List Lk) (nm : ByteArray) (ps fs : List ByteArray) : List Lk := insMany (fun s => ⟨s, nm⟩) (insMany (fun s => ⟨nm, s⟩) l ps) fs

/-- What Add answers. -/
def AddRet (w : World) (M : Nat → Prop) (l : List Lk) (nm : ByteArray) (ps fs : List ByteArray) (e : Ending) (w' : World) : Prop :=
  Below w.heap.size w w' ∧ ((validLk l = false ∧ e = .returned (.tuple #[.slice none 0 0, .int .i64 17])) ∨
   (validLk l = true ∧ ∃ r, ClosOf (addS l nm ps fs) r ∧ ((validLk r = false ∧ e = .returned (.tuple #[.slice none 0 0, .int .i64 13])) ∨
     (validLk r = true ∧ ∃ (A : Option Addr) (n c : Nat), e = .returned (.tuple #[.slice A n c, .int .i64 0]) ∧ n = r.length ∧ n ≤ c ∧ c ≤ 9223372036854775807 ∧ Ro w' M (LksIn A n r)))))

set_option maxHeartbeats 4000000 in
set_option maxRecDepth 100000 in
theorem radd_any (M : Nat → Prop) (w : World) (hM : ∀ b, M b → b < w.heap.size) (A : Option Addr) (n c : Nat) (l : List Lk) (nm : ByteArray) (A1 : Option Addr) (n1 c1 : Nat) (ps : List ByteArray) (A2 : Option Addr) (n2 c2 : Nat) (fs : List ByteArray) (ns : List ByteArray)
    (hD : Ro w M (LksIn A n l)) (hP : Ro w M (StrsIn A1 n1 ps)) (hF : Ro w M (StrsIn A2 n2 fs)) (hl : NamesIn ns l) (hnm : nm ∈ ns) (hps : ∀ s ∈ ps, s ∈ ns) (hfs : ∀ s ∈ fs, s ∈ ns) (hB : ns.length * ns.length ≤ 1000000) (hn : n ≤ 1000000) (hn1 : n1 ≤ 1000000) (hn2 : n2 ≤ 1000000) :
    Calls Tryd.prog 19 #[.slice A n c, .string nm, .slice A1 n1 c1, .slice A2 n2 c2] w fun e w' => AddRet w M l nm ps fs e w' := by
  have HL := hid hD.now.len
  have HP := hid hP.now.len
  have HF := hid hF.now.len
  have K0 := ((((Hold.start M w hM).add (hF.less (by simp [Mut]))).add (hP.less (by simp [Mut, Hp.foot]))).add (hD.less (by simp [Mut, Hp.foot])))
  cases hv : validLk l
  · have HV := hid hv; clear hv
    go_enter Tryd.func19, Tryd.ntmps19
    go_wp2_with fail
    refine (rvalid_any (Mut M _) _ K0.mutLt A n c l (K0.ro 0 rfl) hn).mono ?_
    rintro e w1 ⟨rfl, b1⟩
    rw [HV.out]
    have K1 := K0.call b1
    go_wp2_with fail
    go_ret2
    exact ⟨K1.below, .inl ⟨HV.out, rfl⟩⟩
  have HV := hid hv; clear hv
  have HS := hid (valid_sorted HV.out)
  have HNM := hid (And.intro hl (And.intro hnm (And.intro hps hfs)))
  clear hl hnm hps hfs
  go_enter Tryd.func19, Tryd.ntmps19
  go_wp2_with fail
  refine (rvalid_any (Mut M _) _ K0.mutLt A n c l (K0.ro 0 rfl) hn).mono ?_
  rintro e w1 ⟨rfl, b1⟩
  rw [HV.out]
  have K1 := (K0.call b1).nil 41 2
  have r1 := hid (K1.ro 1 rfl).now
  clear b1
  go_wp2_with (at_builtin; go_must (refine wpList_appAllH K1 0 rfl Tryd.elLink r1.out rfl (.const (.slice none 0 0)) (.tmp 18) rfl rfl rfl (one_lks _) (by omega) (by omega) ?_); intro C' cap' w2 hc1 hc2 K2)
  have K3 := K2.sealRow 0 rfl
  simp only [List.set_cons_zero, Nat.zero_add, List.nil_append] at K3 hc1
  have K3 : Hold M none w w2 [.ro (LksIn C' n l), .ro (LksIn A n l), .ro (StrsIn A1 n1 ps), .ro (StrsIn A2 n2 fs)] := K3
  have K4 := K3.drop (List.Sublist.cons_cons _ (List.sublist_cons_self _ _))
  clear K1 K2 K3 r1
  go_loopw [10, 22] (fun v i wr => ∃ (A' : Option Addr) (n' c' k : Nat) (o : List Lk), v = .slice A' n' c' ∧ k ≤ n1 ∧ i = .int .i64 k ∧ n' ≤ c' ∧ c' ≤ 9223372036854775807 ∧ Hid (o = insMany (fun s => ⟨nm, s⟩) l (ps.take k)) ∧ Hold M none w wr [.ro (LksIn A' n' o), .ro (StrsIn A1 n1 ps), .ro (StrsIn A2 n2 fs)]) (fun _ i _ => n1 - (intOf i).toNat)
  case atStart => exact ⟨_, _, _, 0, l, by first | rfl | simp, by omega, rfl, hc1, hc2, hid rfl, K4⟩
  case round =>
    clear K4 hc1 hc2
    obtain ⟨A', n', c', k, o, rfl, hk, rfl, hc', hcm', HO, H⟩ := hrel
    have hn'l := (H.ro 0 rfl).now.len
    have HSO := hid (show LkSorted o ∧ NamesIn ns o by rw [HO.out]; exact ⟨(insMany_spec _ _ l HS.out).1, insMany_names HS.out HNM.out.1 fun s hs => ⟨HNM.out.2.1, HNM.out.2.2.1 s (List.mem_of_mem_take hs)⟩⟩)
    have hn'B : n' ≤ 1000000 := by rw [← hn'l]; exact Nat.le_trans (NamesIn.len HSO.out.2 HSO.out.1) hB
    clear hn'l
    by_cases hlt : k < n1
    · have hd : decide ((k : Int) < (n1 : Int)) = true := by simp; omega
      obtain ⟨s, hs⟩ := get_of HP.out hlt
      obtain ⟨g, oo, rfl, hb, c0⟩ := (H.ro 1 rfl).now.at_ hs
      have HX := hid (insMany_succ (fun s => (⟨nm, s⟩ : Lk)) l hs); clear hs
      go_wp2_with fail
      refine (insert_any (Mut M _) _ H.mutLt A' n' c' o ⟨nm, s⟩ (H.ro 0 rfl) hn'B).mono ?_
      rintro e w5 ⟨A5, n5, c5, rfl, h51, h52, h53, r5, b5⟩
      have H51 := hid h51; clear h51
      have K5 := ((H.call b5).add r5).drop (List.Sublist.cons_cons _ (List.sublist_cons_self _ _))
      clear r5 b5
      go_wp2_with fail
      go_roundw
      case rel => exact ⟨A5, n5, c5, k + 1, _, rfl, by omega, by go_num, h52, h53, hid (by rw [HX.out, ← HO.out]), K5⟩
      case measure => simp [intOf]; omega
    · obtain rfl : n1 = k := by omega
      have HO1 := hid (show o = insMany (fun s => ⟨nm, s⟩) l ps by have := HO.out; rwa [List.take_of_length_le (by rw [HP.out]; omega)] at this)
      have HSO1 := HSO
      clear HO hlt
      have KN := H.drop (List.Sublist.cons_cons _ (List.sublist_cons_self _ _))
      clear H hn'B HSO
      go_wp2_with fail
      go_loopw [10, 34] (fun v i wr => ∃ (A' : Option Addr) (n' c' k : Nat) (o2 : List Lk), v = .slice A' n' c' ∧ k ≤ n2 ∧ i = .int .i64 k ∧ n' ≤ c' ∧ c' ≤ 9223372036854775807 ∧ Hid (o2 = insMany (fun s => ⟨s, nm⟩) o (fs.take k)) ∧ Hold M none w wr [.ro (LksIn A' n' o2), .ro (StrsIn A2 n2 fs)]) (fun _ i _ => n2 - (intOf i).toNat)
      case atStart => exact ⟨_, _, _, 0, o, rfl, by omega, rfl, hc', hcm', hid rfl, KN⟩
      case round =>
        clear KN hc' hcm'
        obtain ⟨A', n', c', k, o2, rfl, hk, rfl, hc', hcm', HO, H⟩ := hrel
        have hn'l := (H.ro 0 rfl).now.len
        have HSO := hid (show LkSorted o2 ∧ NamesIn ns o2 by rw [HO.out]; exact ⟨(insMany_spec _ _ o HSO1.out.1).1, insMany_names HSO1.out.1 HSO1.out.2 fun s hs => ⟨HNM.out.2.2.2 s (List.mem_of_mem_take hs), HNM.out.2.1⟩⟩)
        have hn'B : n' ≤ 1000000 := by rw [← hn'l]; exact Nat.le_trans (NamesIn.len HSO.out.2 HSO.out.1) hB
        clear hn'l
        by_cases hlt : k < n2
        · have hd : decide ((k : Int) < (n2 : Int)) = true := by simp; omega
          obtain ⟨s, hs⟩ := get_of HF.out hlt
          obtain ⟨g, oo, rfl, hb, c0⟩ := (H.ro 1 rfl).now.at_ hs
          have HX := hid (insMany_succ (fun s => (⟨s, nm⟩ : Lk)) o hs); clear hs
          go_wp2_with fail
          refine (insert_any (Mut M _) _ H.mutLt A' n' c' o2 ⟨s, nm⟩ (H.ro 0 rfl) hn'B).mono ?_
          rintro e w5 ⟨A5, n5, c5, rfl, h51, h52, h53, r5, b5⟩
          have H51 := hid h51; clear h51
          have K5 := ((H.call b5).add r5).drop (List.Sublist.cons_cons _ (List.sublist_cons_self _ _))
          clear r5 b5
          go_wp2_with fail
          go_roundw
          case rel => exact ⟨A5, n5, c5, k + 1, _, rfl, by omega, by go_num, h52, h53, hid (by rw [HX.out, ← HO.out]), K5⟩
          case measure => simp [intOf]; omega
        · obtain rfl : n2 = k := by omega
          have HO2 := hid (show o2 = addS l nm ps fs by have := HO.out; rw [List.take_of_length_le (by rw [HF.out]; omega), HO1.out] at this; exact this)
          clear HO hlt
          go_wp2_with fail
          refine (closure_any (Mut M _) _ H.mutLt A' n' c' o2 ns (H.ro 0 rfl) HSO.out.1 HSO.out.2 hB hc' hcm').mono ?_
          rintro e w6 ⟨r, hr, A6, n6, c6, rfl, h61, h62, h63, r6, b6⟩
          have hn6 : n6 ≤ 1000000 := by rw [h61]; exact Nat.le_trans (NamesIn.len (fun z hz => Tr.names HSO.out.2 ((hr.2 z.a z.b).1 hz)) hr.1) hB
          have HR := hid (show ClosOf (addS l nm ps fs) r by rw [← HO2.out]; exact hr)
          have H61 := hid h61
          have K6 := (H.call b6).add r6
          clear r6 b6 hr h61
          cases hvr : validLk r
          · have HVR := hid hvr; clear hvr
            go_wp2_with fail
            refine (rvalid_any (Mut M _) _ K6.mutLt A6 n6 c6 r (K6.ro 0 rfl) hn6).mono ?_
            rintro e w7 ⟨rfl, b7⟩
            rw [HVR.out]
            have K7 := K6.call b7
            clear b7
            go_wp2_with fail
            go_ret2
            exact ⟨K7.below, .inr ⟨HV.out, r, HR.out, .inl ⟨HVR.out, rfl⟩⟩⟩
          · have HVR := hid hvr; clear hvr
            go_wp2_with fail
            refine (rvalid_any (Mut M _) _ K6.mutLt A6 n6 c6 r (K6.ro 0 rfl) hn6).mono ?_
            rintro e w7 ⟨rfl, b7⟩
            rw [HVR.out]
            have K7 := K6.call b7
            clear b7
            go_wp2_with fail
            go_ret2
            exact ⟨K7.below, .inr ⟨HV.out, r, HR.out, .inr ⟨HVR.out, A6, n6, c6, rfl, H61.out, h62, h63, K7.roOut 0 rfl⟩⟩⟩
end Go.Proofs.YtkjnoekclfdjiaaDoor

namespace Go.Proofs.YtkjnoekclfdjiaaDoor
open Go
set_option linter.unusedVariables false
set_option linter.unusedSectionVars false
set_option linter.unusedSimpArgs false

def slot (a : Act) : Option Tmp → Value
  | some t => a.tmps.getD t undef
  | none => undef

section
variable (P : Program) (ops : Array Oper) (C : World → Prop) (G : Option Tmp → Value → World → Prop) (R : World → World → Prop)

/-- What an operation waits for lies there. -/
def Deps (o : Oper) (a : Act) (w : World) : Prop := ∀ e ∈ o.after, Region.binds .any e = true → ∀ oe, ops[e.on]? = some oe → G oe.dst (slot a oe.dst) w
def goodUpon (d : Option Tmp) (w : World) : Result Next → Prop
  | .ok (.value u) w' => G d u w' ∧ C w' ∧ R w w'
  | .ok .skip w' => G d undef w' ∧ C w' ∧ R w w'
  | .ok (.enter f args) w' => Calls P f args w' fun e w'' => ∃ u, e = .returned u ∧ G d u w'' ∧ C w'' ∧ R w w''
  | _ => False
def Good (o : Oper) (a : Act) (w : World) : Prop := goodUpon P C G R o.dst w ((execOp a.eval o).run P w)
def mayUpon (u : Value) : Result Next → Prop
  | .ok (.value x) _ => u = x
  | .ok .skip _ => u = undef
  | .ok (.enter _ _) _ => True
  | _ => False
def StepOk (o : Oper) (a : Act) : Prop :=
  if Region.wanted o (yielded ops a.tmps) = true then ∀ w, C w → Deps ops G o a w → Good P C G R o a w else ∀ w, C w → G o.dst undef w
def May (o : Oper) (a : Act) (u : Value) : Prop :=
  if Region.wanted o (yielded ops a.tmps) = true then ∃ w, C w ∧ Deps ops G o a w ∧ mayUpon u ((execOp a.eval o).run P w) else u = undef
/-- Some world has all that is done so far. -/
def Inh (S : Array Bool) (k : Nat) (a : Act) : Prop := ∃ w, C w ∧ ∀ j oj, ops[j]? = some oj → (S.getD j false = true ∨ j < k) → G oj.dst (slot a oj.dst) w
/-- The walk in the order of the text, over what is still to come (S: what has come up). -/
def Wk (S : Array Bool) (F : Act → Prop) : Nat → Nat → Act → Prop
  | 0, k, a => Inh ops C G S k a → F a
  | m + 1, k, a => Inh ops C G S k a → match ops[k]? with
    | none => False
    | some o => if S.getD k false = true then Wk S F m (k + 1) a else StepOk P ops C G R o a ∧ ∀ u, May P ops C G o a u → Inh ops C G S (k + 1) (a.put o.dst u) → Wk S F m (k + 1) (a.put o.dst u)
def Inv (S : Array Bool) (a : Act) (w : World) : Prop := C w ∧ ∀ j oj, ops[j]? = some oj → S.getD j false = true → G oj.dst (slot a oj.dst) w
end

section
variable {P : Program} {ops : Array Oper} {C : World → Prop} {G : Option Tmp → Value → World → Prop} {R : World → World → Prop}

/-- no two operations of the region fill one slot; each slot lies in the frame -/
def dstsB (ops : Array Oper) (n : Nat) : Bool :=
  (List.range ops.size).all fun i => match (ops[i]?).bind (·.dst) with
    | none => true
    | some d => decide (d < n) && (List.range ops.size).all fun j => j == i || (ops[j]?).bind (·.dst) != some d
theorem dstsB_in {n i : Nat} {o : Oper} {d : Tmp} (h : dstsB ops n = true) (hi : ops[i]? = some o) (hd : o.dst = some d) : d < n := by
  have h1 := List.all_eq_true.1 h i (List.mem_range.2 (Array.getElem?_eq_some_iff.1 hi).1)
  simp only [hi, Option.bind_some, hd, Bool.and_eq_true, decide_eq_true_eq] at h1
  exact h1.1
theorem dstsB_ne {n i j : Nat} {o o' : Oper} {d : Tmp} (h : dstsB ops n = true) (hi : ops[i]? = some o) (hj : ops[j]? = some o') (hd : o.dst = some d) (hij : j ≠ i) : o'.dst ≠ some d := by
  have h1 := List.all_eq_true.1 h i (List.mem_range.2 (Array.getElem?_eq_some_iff.1 hi).1)
  simp only [hi, Option.bind_some, hd, Bool.and_eq_true] at h1
  have h2 := List.all_eq_true.1 h1.2 j (List.mem_range.2 (Array.getElem?_eq_some_iff.1 hj).1)
  simp only [hj, Option.bind_some, Bool.or_eq_true, beq_iff_eq, bne_iff_ne, ne_eq] at h2
  exact h2.resolve_left hij

theorem slot_put_ne {a : Act} {x y : Option Tmp} {v : Value} (h : ∀ d, x = some d → y ≠ some d) : slot (a.put x v) y = slot a y := by
  cases x with
  | none => rfl
  | some d =>
    cases y with
    | none => rfl
    | some t =>
      have hne : d ≠ t := fun e => h d rfl (by rw [e])
      simp only [Act.put, slot, Array.getD_eq_getD_getElem?, Array.getElem?_setIfInBounds_ne hne]
theorem slot_put_same {a : Act} {d : Tmp} {v : Value} (h : d < a.tmps.size) : slot (a.put (some d) v) (some d) = v := by
  simp [Act.put, slot, h]
theorem size_put {a : Act} {x : Option Tmp} {v : Value} : (a.put x v).tmps.size = a.tmps.size := by
  cases x <;> simp [Act.put]

/-- o' is apart from o: its coming up makes no difference to o -/
structure Aside (ops : Array Oper) (o o' : Oper) : Prop where
  sel : ∀ cs b, o.op ≠ .select cs b
  look : ∀ d, o'.dst = some d → d ∉ o.looksAt ops
  deps : ∀ e ∈ o.after, Region.binds .any e = true → ∀ oe, ops[e.on]? = some oe → ∀ d, o'.dst = some d → oe.dst ≠ some d

theorem Aside.wanted {o o' : Oper} (h : Aside ops o o') (a : Act) (v : Value) : Region.wanted o (yielded ops (a.put o'.dst v).tmps) = Region.wanted o (yielded ops a.tmps) := wanted_put o a o'.dst v h.look
theorem Aside.exec {o o' : Oper} (h : Aside ops o o') (a : Act) (v : Value) : execOp (a.put o'.dst v).eval o = execOp a.eval o := execOp_put (ops := ops) o h.sel a o'.dst v h.look
theorem Aside.deps_ {o o' : Oper} (h : Aside ops o o') (a : Act) (v : Value) (w : World) : Deps ops G o (a.put o'.dst v) w ↔ Deps ops G o a w := by
  constructor
  · intro k e he hb oe hoe
    have := k e he hb oe hoe
    rwa [slot_put_ne (h.deps e he hb oe hoe)] at this
  · intro k e he hb oe hoe
    rw [slot_put_ne (h.deps e he hb oe hoe)]
    exact k e he hb oe hoe
theorem Aside.step {o o' : Oper} (h : Aside ops o o') (a : Act) (v : Value) : StepOk P ops C G R o (a.put o'.dst v) ↔ StepOk P ops C G R o a := by
  unfold StepOk Good
  rw [h.wanted, h.exec]
  simp only [h.deps_]
theorem Aside.may {o o' : Oper} (h : Aside ops o o') (a : Act) (v u : Value) : May P ops C G o (a.put o'.dst v) u ↔ May P ops C G o a u := by
  unfold May
  rw [h.wanted, h.exec]
  simp only [h.deps_]

variable {n N : Nat} {F : Act → Prop}

/-- What is known of the region by looking. -/
structure Shape (ops : Array Oper) (n N : Nat) : Prop where
  dsts : dstsB ops N = true
  le : n ≤ ops.size
  /-- a head waits for earlier operations alone, and what comes behind it waits for it or is apart from it -/
  back : ∀ k o, ops[k]? = some o → k < n → ∀ e ∈ o.after, Region.binds .any e = true → e.on < k
  aside : ∀ k i ok oi, k < i → i < n → ops[k]? = some ok → ops[i]? = some oi → (∀ e ∈ oi.after, Region.binds .any e = true → e.on ≠ k) → ok.apart ops oi = true
  sel : ∀ (j : Nat) (o : Oper) cs b, ops[j]? = some o → o.op ≠ .select cs b

theorem Shape.aside_of (h : Shape ops n N) {k i : Nat} {ok oi : Oper} (hki : k < i) (hi : i < n) (hk' : ops[k]? = some ok) (hi' : ops[i]? = some oi) (hno : ∀ e ∈ oi.after, Region.binds .any e = true → e.on ≠ k) : Aside ops oi ok ∧ Aside ops ok oi := by
  obtain ⟨h1, h2, h3⟩ := Oper.apart_spec (h.aside k i ok oi hki hi hk' hi' hno)
  refine ⟨⟨fun cs b => h.sel i oi cs b hi', h1, fun e he hb oe hoe d hd => ?_⟩, ⟨fun cs b => h.sel k ok cs b hk', h3, fun e he hb oe hoe d hd => ?_⟩⟩
  · exact dstsB_ne h.dsts hk' hoe hd (hno e he hb)
  · have := h.back k ok hk' (by omega) e he hb
    exact dstsB_ne h.dsts hi' hoe hd (by omega)

section
variable (sh : Shape ops n N) (hmono : ∀ d u w w', R w w' → G d u w → G d u w')
include sh hmono

theorem slots_keep {S : Array Bool} {i : Nat} {oi : Oper} {a : Act} {u : Value} (hi : ops[i]? = some oi) {j : Nat} {oj : Oper} (hj : ops[j]? = some oj) (hji : j ≠ i) : slot (a.put oi.dst u) oj.dst = slot a oj.dst :=
  slot_put_ne fun d hd => dstsB_ne sh.dsts hi hj hd hji
theorem slots_new {i : Nat} {oi : Oper} {a : Act} {u : Value} (hN : a.tmps.size = N) (hi : ops[i]? = some oi) {w : World} (h : G oi.dst u w) (hu : oi.dst = none → G none undef w) : G oi.dst (slot (a.put oi.dst u) oi.dst) w := by
  cases hd : oi.dst with
  | none => simpa [slot] using hu hd
  | some d =>
    rw [slot_put_same (by rw [hN]; exact dstsB_in sh.dsts hi hd), ← hd]
    exact h

/-- Some result comes, and a world that has it. -/
theorem StepOk.some_ {k : Nat} {o : Oper} {a : Act} {w : World} (h : StepOk P ops C G R o a) (hC : C w) (hD : Deps ops G o a w) (hR : R w w) : ∃ u w', May P ops C G o a u ∧ C w' ∧ R w w' ∧ G o.dst u w' := by
  unfold StepOk at h
  unfold May
  split at h
  · rename_i hw
    simp only [hw, if_true]
    have hg := h w hC hD
    unfold Good at hg
    have key : ∀ r, (execOp a.eval o).run P w = r → goodUpon P C G R o.dst w r → ∃ u w', (∃ w, C w ∧ Deps ops G o a w ∧ mayUpon u ((execOp a.eval o).run P w)) ∧ C w' ∧ R w w' ∧ G o.dst u w' := by
      intro r hr hg
      cases r with
      | ok nx w' =>
        cases nx <;> simp only [goodUpon] at hg
        case value u => exact ⟨u, w', ⟨w, hC, hD, by rw [hr]; rfl⟩, hg.2.1, hg.2.2, hg.1⟩
        case skip => exact ⟨undef, w', ⟨w, hC, hD, by rw [hr]; rfl⟩, hg.2.1, hg.2.2, hg.1⟩
        case enter f args =>
          obtain ⟨e, w2, fr, ⟨u, _, h1, h2, h3⟩, _⟩ := hg []
          exact ⟨u, w2, ⟨w, hC, hD, by rw [hr]; trivial⟩, h2, h3, h1⟩
      | halt x w' => simp only [goodUpon] at hg
    exact key _ rfl hg
  · rename_i hw
    simp only [hw, if_false]
    exact ⟨undef, w, rfl, hC, hR, h w hC⟩

/-- Behind operation i the walk is as it was. -/
theorem Wk.past {S : Array Bool} {i : Nat} : ∀ (m k : Nat) (a : Act), i < k → i < S.size → Wk P ops C G R S F m k a → Wk P ops C G R (S.setIfInBounds i true) F m k a
  | 0, k, a, hk, hS, h => fun ⟨w, hw, hg⟩ => h ⟨w, hw, fun j oj hj hs => hg j oj hj (hs.imp (getD_set_true ·) id)⟩
  | m + 1, k, a, hk, hS, h => fun hI => by
    obtain ⟨w, hw, hg⟩ := hI
    have hI' : Inh ops C G S k a := ⟨w, hw, fun j oj hj hs => hg j oj hj (hs.imp (getD_set_true ·) id)⟩
    have h1 := h hI'
    cases ho : ops[k]? with
    | none => simp only [ho] at h1
    | some o =>
      simp only [ho] at h1 ⊢
      rw [getD_set_ne false (by omega : i ≠ k)]
      split at h1
      · rename_i hs
        simp only [hs, if_true]
        exact Wk.past m (k + 1) a (by omega) hS h1
      · rename_i hs
        simp only [hs, if_false]
        refine ⟨h1.1, fun u hu hI2 => Wk.past m (k + 1) _ (by omega) hS (h1.2 u hu ?_)⟩
        obtain ⟨w, hw, hg⟩ := hI2
        exact ⟨w, hw, fun j oj hj hs => hg j oj hj (hs.imp (getD_set_true ·) id)⟩

/-- Operation i comes up first. -/
theorem Wk.front {S : Array Bool} {i : Nat} {oi : Oper} (hi : ops[i]? = some oi) (hin : i < n) (hS : S.size = ops.size) (hun : S.getD i false = false) (hw : ∀ e ∈ oi.after, Region.binds .any e = true → S.getD e.on false = true) {u : Value} :
    ∀ (m k : Nat) (a : Act), k ≤ i → k + m = n → a.tmps.size = N → May P ops C G oi a u → Wk P ops C G R S F m k a → Wk P ops C G R (S.setIfInBounds i true) F m k (a.put oi.dst u)
  | 0, k, a, hk, hkm, _, _, h => by omega
  | m + 1, k, a, hk, hkm, hN, hu, h => fun hI => by
    have hiS : i < S.size := by rw [hS]; exact (Array.getElem?_eq_some_iff.1 hi).1
    obtain ⟨w, hw', hg⟩ := hI
    have hI' : Inh ops C G S k a := ⟨w, hw', fun j oj hj hs => by
      have hji : j ≠ i := by rintro rfl; rcases hs with hs | hs; · rw [hun] at hs; cases hs
                             · omega
      have := hg j oj hj (hs.imp (getD_set_true ·) id)
      rwa [slots_keep sh hmono (S := S) hi hj hji] at this⟩
    have h1 := h hI'
    by_cases hki : k = i
    · subst hki
      simp only [hi, hun, if_false, Bool.false_eq_true] at h1
      simp only [hi]
      have hst : (S.setIfInBounds k true).getD k false = true := by simp [hiS]
      simp only [hst, if_true]
      refine Wk.past sh hmono m (k + 1) _ (by omega) hiS (h1.2 u hu ⟨w, hw', fun j oj hj hs => hg j oj hj ?_⟩)
      by_cases hjk : j = k
      · subst hjk; exact .inl hst
      · rcases hs with hs | hs
        · exact .inl (getD_set_true hs)
        · exact .inr (by omega)
    · cases ho : ops[k]? with
      | none => simp only [ho] at h1
      | some o =>
        simp only [ho] at h1 ⊢
        rw [getD_set_ne false (Ne.symm hki)]
        split at h1
        · rename_i hs
          simp only [hs, if_true]
          exact Wk.front hi hin hS hun hw m (k + 1) a (by omega) (by omega) hN hu h1
        · rename_i hs
          simp only [hs, if_false]
          have hno : ∀ e ∈ oi.after, Region.binds .any e = true → e.on ≠ k := fun e he hb hek => by
            have := hw e he hb
            rw [hek] at this
            exact hs this
          obtain ⟨as1, as2⟩ := sh.aside_of (show k < i by omega) hin ho hi hno
          refine ⟨(as2.step a u).2 h1.1, fun v hv hI2 => ?_⟩
          rw [as2.may] at hv
          have hdd : ∀ d, o.dst = some d → oi.dst ≠ some d := fun d hd => dstsB_ne sh.dsts ho hi hd (Ne.symm hki)
          have hcomm : (a.put oi.dst u).put o.dst v = (a.put o.dst v).put oi.dst u := (Act.put_comm a v u hdd).symm
          rw [hcomm] at hI2 ⊢
          refine Wk.front hi hin hS hun hw m (k + 1) _ (by omega) (by omega) (by rw [size_put]; exact hN) ((as1.may a v u).2 hu) (h1.2 v hv ?_)
          obtain ⟨w2, hw2, hg2⟩ := hI2
          refine ⟨w2, hw2, fun j oj hj hs2 => ?_⟩
          have hji : j ≠ i := by rintro rfl; rcases hs2 with hs2 | hs2; · rw [hun] at hs2; cases hs2
                                 · omega
          have := hg2 j oj hj (hs2.imp (getD_set_true ·) id)
          rwa [slots_keep sh hmono (S := S) hi hj hji] at this

/-- An operation that is ready is good. -/
theorem Wk.ready {S : Array Bool} {i : Nat} {oi : Oper} (hR : ∀ w, C w → R w w) (hu : ∀ w, C w → G none undef w) (hi : ops[i]? = some oi) (hin : i < n) (hun : S.getD i false = false) (hw : ∀ e ∈ oi.after, Region.binds .any e = true → S.getD e.on false = true) :
    ∀ (m k : Nat) (a : Act) (w : World), k ≤ i → k + m = n → a.tmps.size = N → C w → (∀ j oj, ops[j]? = some oj → (S.getD j false = true ∨ j < k) → G oj.dst (slot a oj.dst) w) → Wk P ops C G R S F m k a → StepOk P ops C G R oi a
  | 0, k, a, w, hk, hkm, _, _, _, h => by omega
  | m + 1, k, a, w, hk, hkm, hN, hC, hg, h => by
    have h1 := h ⟨w, hC, hg⟩
    by_cases hki : k = i
    · subst hki
      simp only [hi, hun, if_false, Bool.false_eq_true] at h1
      exact h1.1
    · cases ho : ops[k]? with
      | none => simp only [ho] at h1
      | some o =>
        simp only [ho] at h1
        split at h1
        · rename_i hs
          exact Wk.ready hR hu hi hin hun hw m (k + 1) a w (by omega) (by omega) hN hC (fun j oj hj hs2 => hg j oj hj (by
            rcases hs2 with hs2 | hs2
            · exact .inl hs2
            · rcases Nat.lt_or_ge j k with h' | h'
              · exact .inr h'
              · obtain rfl : j = k := by omega
                exact .inl hs)) h1
        · rename_i hs
          have hno : ∀ e ∈ oi.after, Region.binds .any e = true → e.on ≠ k := fun e he hb hek => by
            have := hw e he hb
            rw [hek] at this
            exact hs this
          obtain ⟨as1, as2⟩ := sh.aside_of (show k < i by omega) hin ho hi hno
          have hD : Deps ops G o a w := fun e he hb oe hoe => hg e.on oe hoe (.inr (sh.back k o ho (by omega) e he hb))
          obtain ⟨u, w', hm, hC', hR', hG'⟩ := StepOk.some_ sh hmono (k := k) h1.1 hC hD (hR w hC)
          have hg' : ∀ j oj, ops[j]? = some oj → (S.getD j false = true ∨ j < k + 1) → G oj.dst (slot (a.put o.dst u) oj.dst) w' := fun j oj hj hs2 => by
            by_cases hjk : j = k
            · subst hjk
              obtain rfl : o = oj := Option.some.inj (ho.symm.trans hj)
              exact slots_new sh hmono hN hj hG' (fun _ => hu w' hC')
            · rw [slots_keep sh hmono (S := S) ho hj hjk]
              exact hmono _ _ _ _ hR' (hg j oj hj (hs2.imp id (by omega)))
          have := Wk.ready hR hu hi hin hun hw m (k + 1) (a.put o.dst u) w' (by omega) (by omega) (by rw [size_put]; exact hN) hC' hg' (h1.2 u hm ⟨w', hC', hg'⟩)
          exact (as1.step a u).1 this
/-- All has come up. -/
theorem Wk.done {S : Array Bool} : ∀ (m k : Nat) (a : Act) (w : World), k + m = n → (∀ j, j < n → S.getD j false = true) → C w → (∀ j oj, ops[j]? = some oj → (S.getD j false = true ∨ j < k) → G oj.dst (slot a oj.dst) w) → Wk P ops C G R S F m k a → F a
  | 0, k, a, w, hkm, hall, hC, hg, h => h ⟨w, hC, hg⟩
  | m + 1, k, a, w, hkm, hall, hC, hg, h => by
    have h1 := h ⟨w, hC, hg⟩
    have hk := hall k (by omega)
    cases ho : ops[k]? with
    | none => simp only [ho] at h1
    | some o =>
      simp only [ho, hk, if_true] at h1
      exact Wk.done m (k + 1) a w (by omega) hall hC (fun j oj hj hs2 => hg j oj hj (by
        rcases hs2 with hs2 | hs2
        · exact .inl hs2
        · exact .inl (hall j (by omega)))) h1
end

/-! ### Every order -/
theorem count_one {i : Nat} {p q : Nat → Bool} (hp : p i = true) (hq : q i = false) (he : ∀ j, j ≠ i → q j = p j) : ∀ l : List Nat, l.Nodup → (i ∈ l → l.countP p = l.countP q + 1) ∧ (i ∉ l → l.countP p = l.countP q)
  | [], _ => ⟨(fun h => nomatch h), fun _ => rfl⟩
  | x :: l, h => by
    obtain ⟨h1, h2⟩ := List.nodup_cons.1 h
    obtain ⟨i1, i2⟩ := count_one hp hq he l h2
    by_cases hx : x = i
    · subst hx
      refine ⟨fun _ => ?_, fun hn => absurd (List.mem_cons_self ..) hn⟩
      have := i2 h1
      simp [List.countP_cons, hp, hq, this]
    · refine ⟨fun hm => ?_, fun hn => ?_⟩
      · have := i1 ((List.mem_cons.1 hm).resolve_left (Ne.symm hx))
        simp only [List.countP_cons, he x hx, this]
        omega
      · have := i2 fun hm => hn (List.mem_cons_of_mem _ hm)
        simp only [List.countP_cons, he x hx, this]
def unl (n : Nat) (S : Array Bool) : Nat := (List.range n).countP fun i => S.getD i true == false
theorem unl_set {n i : Nat} {S : Array Bool} (hi : i < n) (hun : S.getD i true = false) : unl n S = unl n (S.setIfInBounds i true) + 1 := by
  refine ((count_one (i := i) (by simp [hun]) ?_ fun j hj => ?_) (List.range n) List.nodup_range).1 (List.mem_range.2 hi)
  · rcases Nat.lt_or_ge i S.size with h | h
    · simp [h]
    · simp [Array.getElem?_eq_none h] at hun
  · rw [getD_set_ne true (Ne.symm hj)]
theorem unl_zero {n : Nat} {S : Array Bool} (h : unl n S = 0) (hs : n ≤ S.size) : ∀ j, j < n → S.getD j false = true := fun j hj => by
  have := List.countP_eq_zero.1 h j (List.mem_range.2 hj)
  have hl : j < S.size := by omega
  simpa [hl] using this
theorem unl_pos {n m : Nat} {S : Array Bool} (h : unl n S = m + 1) : ∃ j, j < n ∧ S.getD j true = false := by
  have : 0 < (List.range n).countP fun i => S.getD i true == false := by unfold unl at h; omega
  obtain ⟨j, hj, hp⟩ := List.countP_pos_iff.1 this
  exact ⟨j, List.mem_range.1 hj, by simpa using hp⟩
theorem least {p : Nat → Prop} : ∀ k, p k → ∃ j, p j ∧ ∀ i, i < j → ¬ p i := fun k h => by
  induction k using Nat.strongRecOn with
  | _ k ih =>
    by_cases hh : ∃ i, i < k ∧ p i
    · obtain ⟨i, hi, hp⟩ := hh; exact ih i hi hp
    · exact ⟨k, h, fun i hi hp => hh ⟨i, hi, hp⟩⟩

theorem good_wp {o : Oper} {a : Act} {w : World} {K : Act → World → Prop} {Q : Exit → Act → World → Prop} (hC : C w) (hD : Deps ops G o a w) (hw : Region.wanted o (yielded ops a.tmps) = true) (h : Good P C G R o a w)
    (hK : ∀ u w', May P ops C G o a u → C w' → R w w' → G o.dst u w' → K (a.put o.dst u) w') : o.wp P a w K Q := by
  unfold Good at h
  unfold May at hK
  simp only [hw, if_true] at hK
  unfold Oper.wp
  have key : ∀ r, (execOp a.eval o).run P w = r → goodUpon P C G R o.dst w r → Oper.upon P o a K Q r := by
    intro r hr hg
    cases r with
    | ok nx w' =>
      cases nx <;> simp only [goodUpon] at hg
      case value u => exact hK u w' ⟨w, hC, hD, by rw [hr]; rfl⟩ hg.2.1 hg.2.2 hg.1
      case skip => exact hK undef w' ⟨w, hC, hD, by rw [hr]; rfl⟩ hg.2.1 hg.2.2 hg.1
      case enter f args =>
        exact Calls.mono hg fun e w2 ⟨u, he, h1, h2, h3⟩ => by subst he; exact hK u w2 ⟨w, hC, hD, by rw [hr]; trivial⟩ h2 h3 h1
    | halt x w' => simp only [goodUpon] at hg
  exact key _ rfl h

theorem wpAny_of_wk (sh : Shape ops n N) (hmono : ∀ d u w w', R w w' → G d u w → G d u w') (hR : ∀ w, C w → R w w) (hu : ∀ w, C w → G none undef w) {g : Nat} {Q : Exit → Act → World → Prop} (S0 : Array Bool)
    (htail : ∀ S, HeadInv .any ops n S → (∀ j, S0.getD j false = true → S.getD j false = true) → (∃ i, i < n ∧ S.getD i true = false) → ∀ t, n ≤ t → t ∉ Region.ready .any ops S)
    (hend : ∀ S a w, HeadInv .any ops n S → (∀ j, j < n → S.getD j false = true) → C w → (∀ j oj, ops[j]? = some oj → j < n → G oj.dst (slot a oj.dst) w) → F a → wpAny P .any ops Q g S a w) :
    ∀ (f : Nat) (S : Array Bool) (a : Act) (w : World), HeadInv .any ops n S → (∀ j, S0.getD j false = true → S.getD j false = true) → unl n S = f → a.tmps.size = N → Inv ops C G S a w → Wk P ops C G R S F n 0 a → wpAny P .any ops Q (f + g) S a w
  | 0, S, a, w, hd, h0s, hf, hN, hI, h => by
    have hall := unl_zero hf (by rw [hd.size]; exact sh.le)
    rw [Nat.zero_add]
    exact hend S a w hd hall hI.1 (fun j oj hj hjn => hI.2 j oj hj (hall j hjn)) (Wk.done sh hmono n 0 a w (by omega) hall hI.1 (fun j oj hj hs => hI.2 j oj hj (hs.resolve_right (by omega))) h)
  | f + 1, S, a, w, hd, h0s, hf, hN, hI, h => by
    obtain ⟨k0, hk0, hun0⟩ := unl_pos hf
    obtain ⟨k, ⟨hk, hun⟩, hmin⟩ := least (p := fun j => j < n ∧ S.getD j true = false) k0 ⟨hk0, hun0⟩
    have hrk : k ∈ Region.ready .any ops S := by
      have hks : k < ops.size := by have := sh.le; omega
      refine mem_ready.2 ⟨hun, ops[k], Array.getElem?_eq_getElem hks, fun e he hb => ?_⟩
      have hlt := sh.back k _ (Array.getElem?_eq_getElem hks) hk e he hb
      cases hS : S.getD e.on false with
      | true => rfl
      | false => exact absurd ⟨by omega, getD_in (by rw [hd.size]; have := sh.le; omega) hS⟩ (hmin e.on hlt)
    rw [show f + 1 + g = (f + g) + 1 by omega]
    refine ⟨fun h0 => (by rw [h0] at hrk; cases hrk), fun i hi => ?_⟩
    have hin : i < n := by
      rcases Nat.lt_or_ge i n with h' | h'
      · exact h'
      · exact absurd hi (htail S hd h0s ⟨k, hk, hun⟩ i h')
    obtain ⟨huni, oi, hoi, hall⟩ := mem_ready.1 hi
    have hunf : S.getD i false = false := getD_both huni
    have hst := Wk.ready sh hmono hR hu hoi hin hunf hall n 0 a w (by omega) (by omega) hN hI.1 (fun j oj hj hs => hI.2 j oj hj (hs.resolve_right (by omega))) h
    have hD : Deps ops G oi a w := fun e he hb oe hoe => hI.2 e.on oe hoe (hall e he hb)
    have hnext : ∀ u w', May P ops C G oi a u → C w' → R w w' → G oi.dst u w' → wpAny P .any ops Q (f + g) (S.setIfInBounds i true) (a.put oi.dst u) w' := fun u w' hm hC' hR' hG' => by
      refine wpAny_of_wk sh hmono hR hu S0 htail hend f _ _ w' (hd.set hi hin) (fun j hj => getD_set_true (h0s j hj)) ?_ (by rw [size_put]; exact hN) ⟨hC', fun j oj hj hs => ?_⟩ (Wk.front sh hmono hoi hin (by rw [hd.size]) hunf hall n 0 a (by omega) (by omega) hN hm h)
      · have := unl_set hin huni; omega
      · by_cases hji : j = i
        · subst hji
          obtain rfl : oi = oj := Option.some.inj (hoi.symm.trans hj)
          exact slots_new sh hmono hN hj hG' (fun _ => hu w' hC')
        · rw [slots_keep sh hmono (S := S) hoi hj hji]
          rw [getD_set_ne false (Ne.symm hji)] at hs
          exact hmono _ _ _ _ hR' (hI.2 j oj hj hs)
    unfold wpOp
    simp only [hoi]
    split
    · rename_i hw
      refine .inl (good_wp hI.1 hD hw ?_ hnext)
      unfold StepOk at hst
      simp only [hw, if_true] at hst
      exact hst w hI.1 hD
    · rename_i hw
      unfold StepOk at hst
      rw [if_neg hw] at hst
      exact hnext undef w (by unfold May; rw [if_neg hw]) hI.1 (hR w hI.1) (hst w hI.1)

/-! ### What is looked at, as a Bool -/
def headList (n m : Nat) : Array Bool := (List.replicate n true ++ List.replicate (m - n) false).toArray
def backB (ops : Array Oper) (n : Nat) : Bool := (List.range n).all fun k => match ops[k]? with
  | some o => o.after.all fun e => !Region.binds .any e || decide (e.on < k)
  | none => true
def asideB (ops : Array Oper) (n : Nat) : Bool := (List.range n).all fun i => (List.range i).all fun k => match ops[i]?, ops[k]? with
  | some oi, some ok => oi.after.any (fun e => Region.binds .any e && e.on == k) || ok.apart ops oi
  | _, _ => true
/-- every operation below n, but those of S0, is waited for by a later one up to n -/
def sinkS (ops : Array Oper) (S0 : Array Bool) (n : Nat) : Bool := (List.range n).all fun i => S0.getD i false || (List.range (n + 1)).any fun j => decide (i < j) && Region.waitsFor .any ops j i
/-- S0 holds what its operations wait for, and nothing from n on -/
def closedB (ops : Array Oper) (S0 : Array Bool) (n : Nat) : Bool := decide (S0.size = ops.size) && (List.range ops.size).all fun j => !S0.getD j false || (decide (j < n) && match ops[j]? with
  | some o => o.after.all fun e => !Region.binds .any e || S0.getD e.on false
  | none => true)
/-- what comes behind n waits for something from n on -/
def laterB (ops : Array Oper) (n : Nat) : Bool := (List.range ops.size).all fun t => decide (t ≤ n) || (List.range ops.size).any fun j => decide (n ≤ j) && Region.waitsFor .any ops t j
def relC (ops : Array Oper) (S0 : Array Bool) (n N : Nat) : Bool :=
  Region.noSelect ops && dstsB ops N && decide (n ≤ ops.size) && backB ops n && asideB ops n && (decide (n = ops.size) || (decide (n < ops.size) && sinkS ops S0 n && laterB ops n)) && closedB ops S0 n
theorem closedB_head {S0 : Array Bool} {n : Nat} (h : closedB ops S0 n = true) : HeadInv .any ops n S0 := by
  simp only [closedB, Bool.and_eq_true, decide_eq_true_eq] at h
  have key : ∀ j, S0.getD j false = true → j < ops.size ∧ j < n ∧ ∀ o, ops[j]? = some o → ∀ e ∈ o.after, Region.binds .any e = true → S0.getD e.on false = true := fun j hj => by
    have hjs : j < ops.size := by
      rcases Nat.lt_or_ge j S0.size with h' | h'
      · rw [← h.1]; exact h'
      · simp [Array.getElem?_eq_none h'] at hj
    have h1 := List.all_eq_true.1 h.2 j (List.mem_range.2 hjs)
    simp only [hj, Bool.not_true, Bool.false_or, Bool.and_eq_true, decide_eq_true_eq] at h1
    refine ⟨hjs, h1.1, fun o ho e he hb => ?_⟩
    have h2 := h1.2
    simp only [ho] at h2
    have h3 := Array.all_eq_true'.1 h2 e he
    simpa only [hb, Bool.not_true, Bool.false_or] using h3
  refine ⟨h.1, fun j oj hj hl e he hb => (key j hl).2.2 oj hj e he hb, fun t ht htl => ?_⟩
  cases hS : S0.getD t true with
  | false => rfl
  | true =>
    have : S0.getD t false = true := by
      have hl : t < S0.size := by rw [h.1]; exact htl
      simpa [hl] using hS
    have := (key t this).2.1
    omega
theorem tail_waitsS {n : Nat} {S0 listed : Array Bool} (hs : sinkS ops S0 n = true) (hc : laterB ops n = true) (hn : n < ops.size) (inv : HeadInv .any ops n listed) (h0 : ∀ j, S0.getD j false = true → listed.getD j false = true) :
    ∀ (d i : Nat), n - i = d → i < n → listed.getD i true = false → ∀ t, n ≤ t → t ∉ Region.ready .any ops listed := by
  intro d
  induction d using Nat.strongRecOn with
  | _ d ih =>
    intro i hd hi hun t ht hr
    obtain ⟨_, ot, hot, hall⟩ := mem_ready.1 hr
    have htlt : t < ops.size := (Array.getElem?_eq_some_iff.1 hot).1
    by_cases htn : t = n
    · subst htn
      have h1 := List.all_eq_true.1 hs i (List.mem_range.2 hi)
      have hnot : S0.getD i false = false := by
        cases hS : S0.getD i false with
        | false => rfl
        | true => have := h0 i hS; rw [getD_both hun] at this; cases this
      rw [hnot, Bool.false_or] at h1
      obtain ⟨j, hj, hj2⟩ := List.any_eq_true.1 h1
      simp only [Bool.and_eq_true, decide_eq_true_eq] at hj2
      obtain ⟨oj, hoj, e, he, hb, hon⟩ := Region.waitsFor_spec hj2.2
      have hjle : j ≤ t := by have := List.mem_range.1 hj; omega
      by_cases hjt : j = t
      · subst hjt
        have : oj = ot := Option.some.inj (hoj.symm.trans hot)
        subst this
        have h2 := hall e he hb
        rw [hon, getD_both hun] at h2
        cases h2
      · cases hl : listed.getD j false with
        | true =>
          have h2 := inv.closed j oj hoj hl e he hb
          rw [hon, getD_both hun] at h2
          cases h2
        | false =>
          have hjs : j < listed.size := by rw [inv.size]; omega
          exact ih (t - j) (by omega) j rfl (by omega) (getD_in hjs hl) t (Nat.le_refl _) hr
    · have h1 := List.all_eq_true.1 hc t (List.mem_range.2 htlt)
      simp only [Bool.or_eq_true, decide_eq_true_eq] at h1
      rcases h1 with h1 | h1
      · omega
      · obtain ⟨j, hj, hj2⟩ := List.any_eq_true.1 h1
        simp only [Bool.and_eq_true, decide_eq_true_eq] at hj2
        obtain ⟨o', ho', e, he, hb, hon⟩ := Region.waitsFor_spec hj2.2
        have : o' = ot := Option.some.inj (ho'.symm.trans hot)
        subst this
        have h2 := hall e he hb
        rw [hon, getD_both (inv.tail j hj2.1 (List.mem_range.1 hj))] at h2
        cases h2
theorem relC_shape {S0 : Array Bool} {n N : Nat} (h : relC ops S0 n N = true) : Shape ops n N := by
  simp only [relC, Bool.and_eq_true, decide_eq_true_eq] at h
  obtain ⟨⟨⟨⟨⟨⟨hsel, hd⟩, hn⟩, hb⟩, ha⟩, _⟩, _⟩ := h
  refine ⟨hd, hn, fun k o hk hkn e he hbd => ?_, fun k i ok oi hki hin hk hi hno => ?_, Region.noSelect_spec hsel⟩
  · have h1 := List.all_eq_true.1 hb k (List.mem_range.2 hkn)
    simp only [hk] at h1
    have h2 := Array.all_eq_true'.1 h1 e he
    simp only [hbd, Bool.not_true, Bool.false_or, decide_eq_true_eq] at h2
    exact h2
  · have h1 := List.all_eq_true.1 (List.all_eq_true.1 ha i (List.mem_range.2 hin)) k (List.mem_range.2 hki)
    simp only [hk, hi, Bool.or_eq_true] at h1
    refine h1.resolve_left fun h2 => ?_
    obtain ⟨e, he, hb2⟩ := Array.any_eq_true'.1 h2
    simp only [Bool.and_eq_true, beq_iff_eq] at hb2
    exact hno e he hb2.1 hb2.2
theorem headList_eq {S : Array Bool} (hs : S.size = ops.size) (hn : n ≤ ops.size) (h1 : ∀ j, j < n → S.getD j false = true) (h2 : ∀ t, n ≤ t → t < ops.size → S.getD t true = false) : S = headList n ops.size := by
  apply Array.ext
  · simp [headList, hs]; omega
  · intro j hj hj'
    rcases Nat.lt_or_ge j n with h | h
    · have := h1 j h
      simp [hj] at this
      simp [headList, List.getElem_append, h, this]
    · have := h2 j h (by omega)
      simp [hj] at this
      simp [headList, List.getElem_append, Nat.not_lt.2 h, this]

/-- The walk in the order of the text. -/
def InhL (ops : Array Oper) (C : World → Prop) (G : Option Tmp → Value → World → Prop) (k : Nat) (a : Act) : Prop := ∃ w, C w ∧ ∀ j oj, ops[j]? = some oj → j < k → G oj.dst (slot a oj.dst) w
def wpRel (P : Program) (ops : Array Oper) (C : World → Prop) (G : Option Tmp → Value → World → Prop) (R : World → World → Prop) (S0 : Array Bool) (F : Act → Prop) : Nat → List Oper → Act → Prop
  | k, [], a => InhL ops C G k a → F a
  | k, o :: rest, a => if S0.getD k false = true then wpRel P ops C G R S0 F (k + 1) rest a else StepOk P ops C G R o a ∧ ∀ u, May P ops C G o a u → (∀ d, o.dst = some d → ∃ w, C w ∧ G (some d) u w) → wpRel P ops C G R S0 F (k + 1) rest (a.put o.dst u)
theorem wk_of_rel {S0 : Array Bool} (sh : Shape ops n N) : ∀ (l : List Oper) (k : Nat) (a : Act), (∀ j, j < l.length → l[j]? = ops[k + j]?) → k + l.length = n → a.tmps.size = N → wpRel P ops C G R S0 F k l a → Wk P ops C G R S0 F l.length k a
  | [], k, a, _, hk, hN, h => fun ⟨w, hw, hg⟩ => h ⟨w, hw, fun j oj hj hjk => hg j oj hj (.inr hjk)⟩
  | o :: l, k, a, hl, hk, hN, h => fun _ => by
    have h0 : ops[k]? = some o := by simpa using (hl 0 (by simp)).symm
    simp only [h0]
    unfold wpRel at h
    split at h
    · rename_i hs
      simp only [hs, if_true]
      exact wk_of_rel sh l (k + 1) a (fun j hj => by have := hl (j + 1) (by simp; omega); simpa [Nat.add_assoc, Nat.add_comm 1 j] using this) (by simp only [List.length_cons] at hk; omega) hN h
    · rename_i hs
      rw [if_neg hs]
      refine ⟨h.1, fun u hu hI => wk_of_rel sh l (k + 1) _ (fun j hj => by have := hl (j + 1) (by simp; omega); simpa [Nat.add_assoc, Nat.add_comm 1 j] using this) (by simp only [List.length_cons] at hk; omega) (by rw [size_put]; exact hN) (h.2 u hu fun d hd => ?_)⟩
      obtain ⟨w, hw, hg⟩ := hI
      refine ⟨w, hw, ?_⟩
      have h1 := hg k o h0 (.inr (by omega))
      rw [hd, slot_put_same (by rw [hN]; exact dstsB_in sh.dsts h0 hd)] at h1
      exact h1

/-- A region that draws its order, the operations of S0 done: the first n operations in any order; then the others. -/
theorem wpAny_relC {Q : Exit → Act → World → Prop} {a : Act} {w : World} {l : List Oper} (S0 : Array Bool) (n N : Nat) (C : World → Prop) (G : Option Tmp → Value → World → Prop) (R : World → World → Prop) {fuel : Nat}
    (hB : relC l.toArray S0 n N = true) (hf : fuel = unl n S0 + (l.length - n)) (hN : a.tmps.size = N) (hmono : ∀ d u w w', R w w' → G d u w → G d u w') (hR : ∀ w, C w → R w w) (hu : ∀ w, C w → G none undef w) (hC : C w)
    (h0 : ∀ j oj, l[j]? = some oj → S0.getD j false = true → G oj.dst (slot a oj.dst) w)
    (h : wpRel P l.toArray C G R S0 (fun a' => ∀ w', C w' → (∀ j oj, l[j]? = some oj → j < n → G oj.dst (slot a' oj.dst) w') → wpAny P .any l.toArray Q (l.length - n) (headList n l.length) a' w') 0 (l.take n) a) : wpAny P .any l.toArray Q fuel S0 a w := by
  have sh := relC_shape hB
  have hB' := hB
  simp only [relC, Bool.and_eq_true, Bool.or_eq_true, decide_eq_true_eq] at hB'
  obtain ⟨⟨⟨⟨⟨⟨hsel, hd⟩, hn⟩, hb⟩, ha⟩, hsc⟩, hcl⟩ := hB'
  have hnl : n ≤ l.length := by simpa using hn
  have htl : (l.take n).length = n := by simp; omega
  have hw := wk_of_rel sh (l.take n) 0 a (fun j hj => by
    have hj' : j < n := by rw [htl] at hj; exact hj
    simp [hj']) (by simpa using htl) hN h
  rw [htl] at hw
  have := wpAny_of_wk (Q := Q) (g := l.length - n) sh hmono hR hu S0 (fun S hI h0s hex t ht hr => ?_) (fun S a' w' hI hall hC' hg hF => ?_) _ S0 a w
    (closedB_head hcl) (fun _ h => h) rfl hN ⟨hC, fun j oj hj hs => h0 j oj (by simpa using hj) hs⟩ hw
  · rw [hf]; exact this
  · obtain ⟨i, hi, hun⟩ := hex
    rcases hsc with hsc | ⟨⟨hlt, hs⟩, hc⟩
    · have := (mem_ready.1 hr).2
      obtain ⟨o, ho, _⟩ := this
      have := (Array.getElem?_eq_some_iff.1 ho).1
      omega
    · exact tail_waitsS hs hc hlt hI h0s _ i rfl hi hun t ht hr
  · have hSeq := headList_eq hI.size hn hall hI.tail
    rw [show l.toArray.size = l.length from by simp] at hSeq
    rw [hSeq]
    exact hF w' hC' fun j oj hj hjn => hg j oj (by simpa using hj) hjn
theorem wpRel_mono {F F' : Act → Prop} (hF : ∀ a, F a → F' a) {S0 : Array Bool} : ∀ (l' : List Oper) (k : Nat) (a : Act), wpRel P ops C G R S0 F k l' a → wpRel P ops C G R S0 F' k l' a
  | [], k, a, h => fun hI => hF a (h hI)
  | o :: l', k, a, h => by
    unfold wpRel at h ⊢
    split
    · rename_i hs; rw [if_pos hs] at h; exact wpRel_mono hF l' _ _ h
    · rename_i hs; rw [if_neg hs] at h; exact ⟨h.1, fun u hu hd => wpRel_mono hF l' _ _ (h.2 u hu hd)⟩
/-! ### The steps of the walk -/
section
variable {o : Oper} {rest : List Oper} {a : Act} {k : Nat} {S0 : Array Bool}
theorem rel_nil (h : F a) : wpRel P ops C G R S0 F k [] a := fun _ => h
theorem rel_skip (hS : S0.getD k false = false) (hw : Region.wanted o (yielded ops a.tmps) = false) (hG : ∀ w, C w → G o.dst undef w) (hn : wpRel P ops C G R S0 F (k + 1) rest (a.put o.dst undef)) : wpRel P ops C G R S0 F k (o :: rest) a := by
  unfold wpRel
  rw [hS, if_neg (by simp)]
  refine ⟨by unfold StepOk; simp only [hw, if_false, Bool.false_eq_true]; exact hG, fun u hu _ => ?_⟩
  unfold May at hu
  simp only [hw, if_false, Bool.false_eq_true] at hu
  subst hu
  exact hn
/-- it hands back one value, and leaves the world -/
theorem rel_val (hR : ∀ w, C w → R w w) (hS : S0.getD k false = false) (hw : Region.wanted o (yielded ops a.tmps) = true) (u : Value) (hrun : ∀ w, C w → Deps ops G o a w → (execOp a.eval o).run P w = .ok (.value u) w) (hG : ∀ w, C w → Deps ops G o a w → G o.dst u w) (hn : wpRel P ops C G R S0 F (k + 1) rest (a.put o.dst u)) : wpRel P ops C G R S0 F k (o :: rest) a := by
  unfold wpRel
  rw [hS, if_neg (by simp)]
  refine ⟨by unfold StepOk; simp only [hw, if_true]; intro w hC hD; unfold Good; rw [hrun w hC hD]; exact ⟨hG w hC hD, hC, hR w hC⟩, fun x hx _ => ?_⟩
  unfold May at hx
  simp only [hw, if_true] at hx
  obtain ⟨w, hC, hD, hm⟩ := hx
  rw [hrun w hC hD] at hm
  obtain rfl : x = u := hm
  exact hn
/-- a call: any value that its slot lets in -/
theorem rel_call (hS : S0.getD k false = false) (hw : Region.wanted o (yielded ops a.tmps) = true) (f : FuncId) (args : Array Value) (d : Tmp) (hd : o.dst = some d) (hrun : ∀ w, C w → Deps ops G o a w → (execOp a.eval o).run P w = .ok (.enter f args) w)
    (hc : ∀ w, C w → Deps ops G o a w → Calls P f args w fun e w' => ∃ u, e = .returned u ∧ G (some d) u w' ∧ C w' ∧ R w w') (hn : ∀ u w, C w → G (some d) u w → wpRel P ops C G R S0 F (k + 1) rest (a.put (some d) u)) : wpRel P ops C G R S0 F k (o :: rest) a := by
  unfold wpRel
  rw [hS, if_neg (by simp)]
  refine ⟨by unfold StepOk; simp only [hw, if_true]; intro w hC hD; unfold Good; rw [hrun w hC hD, hd]; exact hc w hC hD, fun x _ hx => ?_⟩
  obtain ⟨w, hC, hg⟩ := hx d hd
  rw [hd]
  exact hn x w hC hg
end
end
end Go.Proofs.YtkjnoekclfdjiaaDoor

namespace Go.Proofs.YtkjnoekclfdjiaaDoor
open Go
set_option linter.unusedVariables false
set_option linter.unusedSimpArgs false

abbrev Sp := Tmp → Option (Value → Prop)
section
variable {P : Program} {C : World → Prop} {sp : Sp} {F : Act → Prop} {S0 : Array Bool}
variable {ops : Array Oper} {o : Oper} {rest : List Oper} {a : Act} {k : Nat}
end
end Go.Proofs.YtkjnoekclfdjiaaDoor

namespace Go.Proofs.YtkjnoekclfdjiaaDoor
open Go.RowKit
set_option linter.unusedVariables false
set_option linter.unusedSimpArgs false
/-- a number below n -/
def NatB (n : Nat) (u : Value) : Prop := ∃ r : Nat, r < n ∧ u = .int .i64 r
section
variable {sp : Sp} {F : Act → Prop} {S0 : Array Bool} {ops : Array Oper} {o : Oper} {rest : List Oper} {a : Act} {k : Nat} {M : Nat → Prop} {row : Option Nat} {w0 : World} {L : List Hp} {T : Nat}
end
end Go.Proofs.YtkjnoekclfdjiaaDoor

namespace Go.Proofs.YtkjnoekclfdjiaaDoor
open Go.RowKit
set_option linter.unusedVariables false
set_option linter.unusedSimpArgs false

abbrev SpW := Tmp → Option (Value → World → Prop)
def GW (sp : SpW) (d : Option Tmp) (u : Value) (w : World) : Prop := match d.bind sp with | some V => V u w | none => True
/-- from w to w' nothing but new blocks and those of M turned -/
def RM (M : Nat → Prop) (w w' : World) : Prop := w.heap.size ≤ w'.heap.size ∧ ∀ b, b < w.heap.size → ¬ M b → w'.heap[b]? = w.heap[b]?
theorem RM.refl (M : Nat → Prop) (w : World) : RM M w w := ⟨Nat.le_refl _, fun _ _ _ => rfl⟩
theorem RM.trans {M : Nat → Prop} {a b c : World} (h : RM M a b) (k : RM M b c) : RM M a c := ⟨Nat.le_trans h.1 k.1, fun x hx hn => (k.2 x (Nat.lt_of_lt_of_le hx h.1) hn).trans (h.2 x hx hn)⟩
theorem RM.below {M : Nat → Prop} {w w' : World} (h : Below w.heap.size w w') : RM M w w' := ⟨h.size, fun b hb _ => h.block b hb⟩
theorem RM.grown {M : Nat → Prop} {w w' : World} {T : Nat} (h : w.grownBy w' (some T)) (hT : M T) : RM M w w' := ⟨h.size, fun b hb hn => h.block b hb (fun e => by injection e with e; subst e; exact hn hT)⟩
theorem RM.alloc (M : Nat → Prop) (w : World) (o : Obj) : RM M w (w.alloc o) := ⟨by simp, fun b hb _ => Below.heap_alloc w o b hb⟩
theorem RM.ro {M : Nat → Prop} {w w' : World} (h : RM M w w') {S : World → Prop} (hs : Ro w M S) : Ro w' M S := hs.step h.1 h.2 (fun _ _ h => h)
/-- each class of values stays as the world goes on -/
def Stays (M : Nat → Prop) (sp : SpW) : Prop := ∀ d V, sp d = some V → ∀ u w w', RM M w w' → V u w → V u w'
/-- the classes as a list -/
def spL (l : List (Tmp × (Value → World → Prop))) : SpW := fun d => (l.find? fun p => p.1 == d).map (·.2)
theorem stays_nil (M : Nat → Prop) : Stays M (spL []) := fun d V h => nomatch h
theorem stays_cons {M : Nat → Prop} {d : Tmp} {V : Value → World → Prop} {l : List (Tmp × (Value → World → Prop))} (h : ∀ u w w', RM M w w' → V u w → V u w') (hl : Stays M (spL l)) : Stays M (spL ((d, V) :: l)) := fun t V' hV => by
  unfold spL at hV
  rw [List.find?_cons] at hV
  split at hV
  · simp only [Option.map_some, Option.some.injEq] at hV
    subst hV
    exact h
  · exact hl t V' hV
theorem GW_off {sp : SpW} {d : Option Tmp} {u : Value} {w : World} (h : d.bind sp = none) : GW sp d u w := by unfold GW; rw [h]; trivial
theorem GW_on {sp : SpW} {d : Tmp} {V : Value → World → Prop} (h : sp d = some V) {u : Value} {w : World} : GW sp (some d) u w ↔ V u w := by unfold GW; simp only [Option.bind_some, h]
def offW (ops : Array Oper) (S0 : Array Bool) (sp : SpW) : Bool := (List.range ops.size).all fun j => !S0.getD j false || (((ops[j]?).bind (·.dst)).bind sp).isNone
theorem offW_h {ops : Array Oper} {S0 : Array Bool} {sp : SpW} (h : offW ops S0 sp = true) {j : Nat} {o : Oper} (ho : ops[j]? = some o) (hs : S0.getD j false = true) {u : Value} {w : World} : GW sp o.dst u w := by
  have h1 := List.all_eq_true.1 h j (List.mem_range.2 (Array.getElem?_eq_some_iff.1 ho).1)
  simp only [hs, Bool.not_true, Bool.false_or, ho, Option.bind_some] at h1
  exact GW_off (Option.isNone_iff_eq_none.1 h1)

/-- the class: the items hold, and from the region's start w1 nothing but them and new blocks turned -/
def HC (M : Nat → Prop) (row : Option Nat) (w0 w1 : World) (L : List Hp) (w : World) : Prop := Hold M row w0 w L ∧ RM (Mut M L) w1 w
section
variable {P : Program} {M : Nat → Prop} {row : Option Nat} {w0 w1 : World} {L : List Hp} {sp : SpW} {F : Act → Prop} {S0 : Array Bool}
theorem wpAny_holdC {Q : Exit → Act → World → Prop} {a : Act} {w : World} {l : List Oper} (n N : Nat) (L : List Hp) (sp : SpW) {fuel : Nat}
    (hB : relC l.toArray S0 n N = true) (hO : offW l.toArray S0 sp = true) (hf : fuel = unl n S0 + (l.length - n)) (hN : a.tmps.size = N) (hs : Stays (Mut M L) sp) (hC : Hold M row w0 w L)
    (h : wpRel P l.toArray (HC M row w0 w L) (GW sp) (RM (Mut M L)) S0 (fun a' => ∀ w', Hold M row w0 w' L → RM (Mut M L) w w' → (∀ j oj, l[j]? = some oj → j < n → GW sp oj.dst (slot a' oj.dst) w') → wpAny P .any l.toArray Q (l.length - n) (headList n l.length) a' w') 0 (l.take n) a) : wpAny P .any l.toArray Q fuel S0 a w := by
  refine wpAny_relC S0 n N (HC M row w0 w L) (GW sp) (RM (Mut M L)) hB hf hN (fun d u w w' hr hg => ?_) (fun w _ => RM.refl _ w) (fun _ _ => trivial) ⟨hC, RM.refl _ _⟩ (fun j oj hj hs => offW_h hO (by simpa using hj) hs) (wpRel_mono (fun a' hF w' hC' hg => hF w' hC'.1 hC'.2 hg) _ _ _ h)
  unfold GW at hg ⊢
  cases hd : d.bind sp with
  | none => trivial
  | some V =>
    rw [hd] at hg
    obtain ⟨t, rfl, ht⟩ := Option.bind_eq_some_iff.1 hd
    exact hs t V ht u w w' hr hg

variable {ops : Array Oper} {o : Oper} {rest : List Oper} {a : Act} {k : Nat}
theorem dw_val (hS : S0.getD k false = false) (hw : Region.wanted o (yielded ops a.tmps) = true) (hoff : o.dst.bind sp = none) (h : ∃ u, (∀ w, Hold M row w0 w L → (execOp a.eval o).run P w = .ok (.value u) w) ∧ wpRel P ops (HC M row w0 w1 L) (GW sp) (RM (Mut M L)) S0 F (k + 1) rest (a.put o.dst u)) : wpRel P ops (HC M row w0 w1 L) (GW sp) (RM (Mut M L)) S0 F k (o :: rest) a :=
  let ⟨u, h1, h2⟩ := h
  rel_val (fun w _ => RM.refl _ w) hS hw u (fun w hC _ => h1 w hC.1) (fun _ _ _ => GW_off hoff) h2
theorem dw_skip (hS : S0.getD k false = false) (hw : Region.wanted o (yielded ops a.tmps) = false) (hoff : o.dst.bind sp = none) (hn : wpRel P ops (HC M row w0 w1 L) (GW sp) (RM (Mut M L)) S0 F (k + 1) rest (a.put o.dst undef)) : wpRel P ops (HC M row w0 w1 L) (GW sp) (RM (Mut M L)) S0 F k (o :: rest) a :=
  rel_skip hS hw (fun _ _ => GW_off hoff) hn
/-- a call of any kind -/
theorem dw_call {f : FuncId} {args : Array Value} (d : Tmp) (V : Value → World → Prop) (hS : S0.getD k false = false) (hw : Region.wanted o (yielded ops a.tmps) = true) (hd : o.dst = some d) (hsp : sp d = some V) (hrun : ∀ w, (execOp a.eval o).run P w = .ok (.enter f args) w)
    (hc : ∀ w, Hold M row w0 w L → Deps ops (GW sp) o a w → Calls P f args w fun e w' => ∃ u, e = .returned u ∧ V u w' ∧ Hold M row w0 w' L ∧ RM (Mut M L) w w') (hn : ∀ u w, Hold M row w0 w L → V u w → wpRel P ops (HC M row w0 w1 L) (GW sp) (RM (Mut M L)) S0 F (k + 1) rest (a.put (some d) u)) : wpRel P ops (HC M row w0 w1 L) (GW sp) (RM (Mut M L)) S0 F k (o :: rest) a :=
  rel_call hS hw f args d hd (fun w _ _ => hrun w) (fun w hC hD => (hc w hC.1 hD).mono fun e' w' ⟨u, h1, h2, h3, h4⟩ => ⟨u, h1, (GW_on hsp).2 h2, ⟨h3, hC.2.trans h4⟩, h4⟩) fun u w hC hu => hn u w hC.1 ((GW_on hsp).1 hu)
theorem deps_at {w : World} (h : Deps ops (GW sp) o a w) (j : Nat) {oj : Oper} (hj : ops[j]? = some oj) (he : (o.after.any fun e => Region.binds .any e && e.on == j) = true) {d : Tmp} (hd : oj.dst = some d) {V : Value → World → Prop} (hsp : sp d = some V) : V (slot a (some d)) w := by
  obtain ⟨e, hm, hb⟩ := Array.any_eq_true'.1 he
  simp only [Bool.and_eq_true, beq_iff_eq] at hb
  have := h e hm hb.1 oj (by rw [hb.2]; exact hj)
  rw [hd] at this
  exact (GW_on hsp).1 this
end
section
variable {M : Nat → Prop} {row : Option Nat} {w0 w1 : World} {L : List Hp} {sp : SpW} {F : Act → Prop} {S0 : Array Bool} {ops : Array Oper} {o : Oper} {rest : List Oper} {a : Act} {k : Nat} {T : Nat}
theorem dw_next (n : Nat) (i : Nat) (hi : L[i]? = some (.tp T)) (d : Tmp) (hS : S0.getD k false = false) (hw : Region.wanted o (yielded ops a.tmps) = true) (hd : o.dst = some d) (hsp : sp d = some (fun u _ => NatB n u))
    (hrun : ∀ w, (execOp a.eval o).run Tryd.prog w = .ok (.enter 9 #[.pointer (some ⟨T, 0, none⟩), .int .i64 n]) w) (hn : ∀ r : Nat, r < n → wpRel Tryd.prog ops (HC M row w0 w1 L) (GW sp) (RM (Mut M L)) S0 F (k + 1) rest (a.put (some d) (.int .i64 r)))
    (hpos : 0 < n := by omega) (hmax : n ≤ 9223372036854775807 := by omega) : wpRel Tryd.prog ops (HC M row w0 w1 L) (GW sp) (RM (Mut M L)) S0 F k (o :: rest) a := by
  refine dw_call d (fun u _ => NatB n u) hS hw hd hsp hrun (fun w HC _ => ?_) (fun u _ _ ⟨r, hr, hu⟩ => by subst hu; exact hn r hr)
  refine (next_any T n w (HC.tp_ i hi) (by omega) (by omega)).mono ?_
  rintro e w5 ⟨r, rfl, r0, r1, t5, g5⟩
  exact ⟨_, rfl, ⟨r.toNat, by omega, by rw [Int.toNat_of_nonneg r0]⟩, Hold.callT HC i hi g5 t5, RM.grown g5 (.inr ⟨_, List.mem_of_getElem? hi, rfl⟩)⟩
end
end Go.Proofs.YtkjnoekclfdjiaaDoor

namespace Go.Proofs.YtkjnoekclfdjiaaDoor
open Go Go.RowKit
set_option linter.unusedVariables false
set_option linter.unusedSectionVars false
set_option linter.unusedSimpArgs false

section
variable {P : Program} {ops : Array Oper} {C : World → Prop} {G : Option Tmp → Value → World → Prop} {R : World → World → Prop} {n N : Nat} {F : Act → Prop}

end
section
variable {P : Program} {M : Nat → Prop} {row : Option Nat} {w0 w1 : World} {L : List Hp} {sp : SpW} {F : Act → Prop} {S0 : Array Bool}
end
end Go.Proofs.YtkjnoekclfdjiaaDoor

namespace Go.Proofs.YtkjnoekclfdjiaaDoor
open Go.RowKit
set_option linter.unusedVariables false
set_option linter.unusedSimpArgs false

/-- a way from a to b through names of ts -/
def WarL (l : List Lk) : List ByteArray → ByteArray → ByteArray → Prop
  | [], a, b => (⟨a, b⟩ : Lk) ∈ l
  | t :: ts, a, b => WarL l ts a b ∨ (WarL l ts a t ∧ WarL l ts t b)
theorem war_trans {l : List Lk} : ∀ {ts : List ByteArray} {a m b : ByteArray}, m ∈ ts → WarL l ts a m → WarL l ts m b → WarL l ts a b
  | t :: ts, a, m, b, hm, h1, h2 => by
    rcases List.mem_cons.1 hm with rfl | hm
    · right
      refine ⟨?_, ?_⟩
      · rcases h1 with h1 | ⟨h1, _⟩ <;> exact h1
      · rcases h2 with h2 | ⟨_, h2⟩ <;> exact h2
    · rcases h1 with h1 | ⟨h1, h3⟩ <;> rcases h2 with h2 | ⟨h2, h4⟩
      · exact .inl (war_trans hm h1 h2)
      · exact .inr ⟨war_trans hm h1 h2, h4⟩
      · exact .inr ⟨h1, war_trans hm h3 h2⟩
      · exact .inr ⟨h1, h4⟩
theorem war_base {l : List Lk} {a b : ByteArray} (h : (⟨a, b⟩ : Lk) ∈ l) : ∀ ts, WarL l ts a b
  | [] => h
  | t :: ts => .inl (war_base h ts)
theorem war_sound {l : List Lk} : ∀ {ts : List ByteArray} {a b : ByteArray}, WarL l ts a b → Tr l a b
  | [], a, b, h => .one h
  | t :: ts, a, b, h => by
    rcases h with h | ⟨h1, h2⟩
    · exact war_sound h
    · exact .step (war_sound h1) (war_sound h2)
theorem war_tr {l : List Lk} {ns ts : List ByteArray} (hn : NamesIn ns l) (ht : ∀ x ∈ ns, x ∈ ts) {a b : ByteArray} (h : Tr l a b) : WarL l ts a b := by
  induction h with
  | one h => exact war_base h ts
  | step h1 h2 i1 i2 => exact war_trans (ht _ (Tr.names hn h1).2) i1 i2
/-- between two phases: what stands holds the ways through ts, and no more than ways -/
structure Ph (l : List Lk) (ts : List ByteArray) (S : Lk → Prop) : Prop where
  lo : ∀ a b, WarL l ts a b → S ⟨a, b⟩
  up : ∀ z, S z → Tr l z.a z.b
theorem Ph.start (l : List Lk) : Ph l [] (fun z => z ∈ l) := ⟨fun a b h => h, fun z h => .one h⟩
/-- within phase t: the names of ds are done as starts -/
def Md (l : List Lk) (ts ns : List ByteArray) (t : ByteArray) (ds : List ByteArray) (S : Lk → Prop) : Prop := Ph l ts S ∧ ∀ a ∈ ds, ∀ b ∈ ns, WarL l ts a t → WarL l ts t b → S ⟨a, b⟩
/-- within phase t and start a: the names of es are done as ends -/
def Inr (l : List Lk) (ts ns : List ByteArray) (t : ByteArray) (ds : List ByteArray) (a : ByteArray) (es : List ByteArray) (S : Lk → Prop) : Prop := Md l ts ns t ds S ∧ S ⟨a, t⟩ ∧ ∀ b ∈ es, WarL l ts t b → S ⟨a, b⟩
theorem Md.start {l : List Lk} {ts ns : List ByteArray} {t : ByteArray} {S : Lk → Prop} (h : Ph l ts S) : Md l ts ns t [] S := ⟨h, fun a ha => nomatch ha⟩
theorem Md.miss {l : List Lk} {ts ns : List ByteArray} {t a : ByteArray} {i : Nat} {S : Lk → Prop} (h : Md l ts ns t (ns.take i) S) (hx : ns[i]? = some a) (hn : ¬ S ⟨a, t⟩) : Md l ts ns t (ns.take (i + 1)) S := by
  refine ⟨h.1, fun x hxm b hb h1 h2 => ?_⟩
  rcases mem_take_succ hx hxm with rfl | hm
  · exact absurd (h.1.lo _ _ h1) hn
  · exact h.2 x hm b hb h1 h2
theorem Inr.start {l : List Lk} {ts ns : List ByteArray} {t a : ByteArray} {ds : List ByteArray} {S : Lk → Prop} (h : Md l ts ns t ds S) (hs : S ⟨a, t⟩) : Inr l ts ns t ds a [] S := ⟨h, hs, fun b hb => nomatch hb⟩
theorem Inr.miss {l : List Lk} {ts ns : List ByteArray} {t a b : ByteArray} {ds : List ByteArray} {j : Nat} {S : Lk → Prop} (h : Inr l ts ns t ds a (ns.take j) S) (hx : ns[j]? = some b) (hn : ¬ S ⟨t, b⟩) : Inr l ts ns t ds a (ns.take (j + 1)) S := by
  refine ⟨h.1, h.2.1, fun x hxm h2 => ?_⟩
  rcases mem_take_succ hx hxm with rfl | hm
  · exact absurd (h.1.1.lo _ _ h2) hn
  · exact h.2.2 x hm h2
theorem Ph.put {l : List Lk} {ts : List ByteArray} {S : Lk → Prop} (h : Ph l ts S) {y : Lk} (hy : Tr l y.a y.b) : Ph l ts (fun z => z = y ∨ S z) :=
  ⟨fun a b k => .inr (h.lo a b k), fun z hz => by
    rcases hz with rfl | hz
    · exact hy
    · exact h.up z hz⟩
theorem Inr.put {l : List Lk} {ts ns : List ByteArray} {t a b : ByteArray} {ds : List ByteArray} {j : Nat} {S : Lk → Prop} (h : Inr l ts ns t ds a (ns.take j) S) (hx : ns[j]? = some b) (hs : S ⟨t, b⟩) : Inr l ts ns t ds a (ns.take (j + 1)) (fun z => z = ⟨a, b⟩ ∨ S z) := by
  refine ⟨⟨h.1.1.put (.step (h.1.1.up ⟨a, t⟩ h.2.1) (h.1.1.up ⟨t, b⟩ hs)), fun x hxm y hy h1 h2 => .inr (h.1.2 x hxm y hy h1 h2)⟩, .inr h.2.1, fun x hxm h2 => ?_⟩
  rcases mem_take_succ hx hxm with rfl | hm
  · exact .inl rfl
  · exact .inr (h.2.2 x hm h2)
theorem Inr.stop {l : List Lk} {ts ns : List ByteArray} {t a : ByteArray} {i : Nat} {S : Lk → Prop} (h : Inr l ts ns t (ns.take i) a ns S) (hx : ns[i]? = some a) : Md l ts ns t (ns.take (i + 1)) S := by
  refine ⟨h.1.1, fun x hxm b hb h1 h2 => ?_⟩
  rcases mem_take_succ hx hxm with rfl | hm
  · exact h.2.2 b hb h2
  · exact h.1.2 x hm b hb h1 h2
theorem Md.stop {l : List Lk} {ts ns : List ByteArray} {t : ByteArray} {S : Lk → Prop} (hn : NamesIn ns l) (h : Md l ts ns t ns S) : Ph l (t :: ts) S := by
  refine ⟨fun a b hab => ?_, h.1.up⟩
  rcases hab with hab | ⟨h1, h2⟩
  · exact h.1.lo a b hab
  · exact h.2 a (Tr.names hn (war_sound h1)).1 b (Tr.names hn (war_sound h2)).2 h1 h2
theorem Ph.done {l : List Lk} {ns ts : List ByteArray} {S : Lk → Prop} (hn : NamesIn ns l) (ht : ∀ x ∈ ns, x ∈ ts) (h : Ph l ts S) (z : Lk) : S z ↔ Tr l z.a z.b :=
  ⟨h.up z, fun k => h.lo _ _ (war_tr hn ht k)⟩
theorem take_rev {ns : List ByteArray} {k : Nat} {t : ByteArray} (h : ns[k]? = some t) : (ns.take (k + 1)).reverse = t :: (ns.take k).reverse := by
  rw [List.take_add_one, h, Option.toList_some, List.reverse_append]; rfl
end Go.Proofs.YtkjnoekclfdjiaaDoor

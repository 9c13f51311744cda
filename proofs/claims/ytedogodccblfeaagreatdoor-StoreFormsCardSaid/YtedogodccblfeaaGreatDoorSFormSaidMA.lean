/- Draws from the tape inside a region that draws its order. -/
import Derived.WalkKit
import Derived.ProofKit
import Derived.OpenShut
import Derived.Below
import Derived.ChangeSame
import Derived.Laws.OwnMore
import Derived.Deep.AppendLies
import Derived.Deep.Draws
import Derived.Deep.QuietTactic
import Derived.IntWalk
import Derived.RowKit
import Derived.Test.YtedogodccblfeaaGreatDoorRows
import Derived.SizedLaws
import Derived.Lib.LaidTab
import Derived.Test.YtedogodccblfeaaGreatDoorProg
import Derived.WalkSpells
import Derived.BigQuiet
import Derived.WalkLawsBesides
import Derived.Deep.RegionHeld3
import Derived.Deep.DeepHandedRow
import Derived.Lib.ConvBytes
import Derived.Deep.Slices
import Derived.Deep.Fields
import Derived.Lib.SmallJoins
import Derived.ChangeMaps5
import Derived.Maps.AppendAt
import Derived.OwnWalk
import Derived.Laws.MakeOwn
import Derived.StillTailTactics
import Derived.StillTail
import Derived.Tactics
import Derived.KernelRfl
namespace Go.Proofs.YtedogodccblfeaaGreatDoor
open Go.ChangeShapes Go.WideShapes Go.ChangeAt Go.RowKit
set_option linter.unusedVariables false
section
variable {H : Type} {enc : TypeId × Value → H} {P : Program}

theorem post_of_below {f : Func} {s : ChangeSpec} {apart fresh handsOn again : Bool} {W W' : World} {args : Array Value} {v : Value} {ds gs : List (DataW H)} {before pa pv : List MemPlace}
    (hW : DataW.Whole enc P f.params.toList s.vars apart W args.toList ds gs before)
    (hres : ∀ (b : Nat) (sp : Nat → Bool) (hd : Bool), DataW.TrodAll enc P W' b sp hd f.resultTypes.toList (v.resultList f.resultTypes.size) (s.fn H (ds ++ gs)).results [])
    (hargs : ∀ sp : Nat → Bool, (∀ p ∈ before, sp p.block = true) → DataW.TrodAll enc P W' 0 sp true f.params.toList args.toList (s.fn H (ds ++ gs)).args pa)
    (hvars : ∀ sp : Nat → Bool, (∀ p ∈ before, sp p.block = true) → DataW.TrodVars enc P W' sp s.vars (s.fn H (ds ++ gs)).vars pv)
    (hps : before = pa ++ pv) (hb : Below W.heap.size W W')
    (hok : ∀ (j : Nat) (t : TypeId) (r : Value), f.resultTypes[j]? = some t → (v.resultList f.resultTypes.size)[j]? = some r → Value.okWide P W' .any 0 t r) :
    s.post enc P f apart fresh handsOn again W args v W' := by
  have hlt : ∀ p ∈ before, p.block < W.heap.size := fun p hp => hW.lt p hp
  have hold : ∀ p ∈ before, (fun b => decide (b < W.heap.size)) p.block = true := fun p hp => by simpa using hlt p hp
  refine ⟨ds, gs, before, [], pa, pv, hW, hres _ _ _, hargs _ hold, hvars _ hold, World.keptBut_mono (fun p hp => ⟨hp, ?_⟩) (hb.frame (· ∈ before)), fun _ => ?_⟩
  · rw [hps, List.mem_append] at hp
    exact Or.inr hp
  · obtain ⟨_, _, _, _, _, hz, hn⟩ := hW
    refine ⟨hok, _, _, ([] ++ pa) ++ pv, ⟨[] ++ pa, pv, trodAll_append (hargs _ (fun _ _ => rfl)) (hres _ _ _), hvars _ (fun _ _ => rfl), rfl, ?_, ?_⟩, ?_⟩
    · intro b off hp
      have hin : MemPlace.cell b off ∈ before := by rw [hps]; simpa using hp
      rw [hb.frozen (hlt _ hin)]
      exact hz b off hin
    · intro ha
      have := hn ha
      rw [hps] at this
      simpa using this
    · intro p hp _
      rw [hps]
      simpa using hp

/-- All the arguments read as they did. -/
theorem trodAll_stays (hl : laidOutB P = true) {W W' : World} {sp : Nat → Bool} : ∀ {ts : List TypeId} {vs : List Value} {ds : List (DataW H)} {ps : List MemPlace},
    ts.all (fun t => P.readableRec t && decide (t < P.types.size)) = true → DataW.TrodAll enc P W 0 (fun _ => true) true ts vs ds ps → (∀ p ∈ ps, W.sameAt W' p) → (∀ p ∈ ps, sp p.block = true) → DataW.TrodAll enc P W' 0 sp true ts vs ds ps
  | [], vs, ds, ps, _, h, _, _ => by
    obtain ⟨rfl, rfl, rfl⟩ := trodAll_nil h; rfl
  | t :: ts, vs, ds, ps, hr, h, hs, hp => by
    obtain ⟨v, vs1, d, ds1, a, b, rfl, rfl, rfl, h1, h2⟩ := trodAll_cons h
    simp only [List.all_cons, Bool.and_eq_true, decide_eq_true_eq] at hr
    exact ⟨a, b, WideElems.Trod_stays hl hr.1.1 hr.1.2 h1 (fun x hx => hs x (by simp [hx])) (fun x hx => hp x (by simp [hx])),
      trodAll_stays hl (by simpa using hr.2) h2 (fun x hx => hs x (by simp [hx])) (fun x hx => hp x (by simp [hx])), rfl⟩

theorem law_post {f : Func} {s : ChangeSpec} {apart fresh handsOn again : Bool} {W W' : World} {args : Array Value} {ds gs : List (DataW H)} {before : List MemPlace} {tb : TypeId}
    (hvs : s.vars = []) (hl : laidOutB P = true) (hrd : f.params.toList.all (fun t => P.readableRec t && decide (t < P.types.size)) = true)
    (htb : f.resultTypes = #[tb]) (hub : P.underlying tb = some .bool) (hfn : s.fn H (ds ++ gs) = { results := [.lit (.bool true)], args := ds })
    (hW : DataW.Whole enc P f.params.toList s.vars apart W args.toList ds gs before) (hb : Below W.heap.size W W') :
    s.post enc P f apart fresh handsOn again W args (.bool true) W' := by
  have hW' := hW
  obtain ⟨p, q, hA, hV, rfl, hfz, hnd⟩ := hW
  rw [hvs] at hV
  obtain ⟨rfl, rfl⟩ := trodVars_none hV
  have hlt : ∀ x ∈ p ++ [], x.block < W.heap.size := fun x hx => hW'.lt x hx
  refine post_of_below (pa := p) (pv := []) hW' ?_ ?_ ?_ rfl hb ?_
  · intro b sp hd
    rw [hfn, htb]
    exact trodAll_mk1 (shut_bool hub _)
  · intro sp hsp
    rw [hfn]
    exact trodAll_stays hl hrd hA (fun x hx => hb.same (hlt x (by simpa using hx))) (fun x hx => hsp x (by simpa using hx))
  · intro sp hsp
    rw [hfn, hvs]
    rfl
  · exact ok_one htb rfl (okWide_bool_mk hub _)
end
end Go.Proofs.YtedogodccblfeaaGreatDoor

namespace Go.Proofs.YtedogodccblfeaaGreatDoor
open Go.RowKit
set_option linter.unusedVariables false

theorem hid {p : Prop} (h : p) : Hid p := h
def I64 (x : Int) : Prop := -9223372036854775808 ≤ x ∧ x ≤ 9223372036854775807
def Ints (zs : List Int) : Prop := ∀ x ∈ zs, I64 x
theorem Ints.at_ {zs : List Int} (h : Ints zs) (k : Nat) : I64 (zs.getD k 0) := by
  by_cases hk : k < zs.length
  · simp only [List.getD, List.getElem?_eq_getElem hk, Option.getD_some]; exact h _ (List.getElem_mem hk)
  · simp [List.getD, List.getElem?_eq_none (Nat.le_of_not_lt hk), I64]
theorem ints_get (k : IntKind) (zs : List Int) (j : Nat) (hj : j < zs.length) : (zs.map (Value.int k)).getD j undef = .int k (zs.getD j 0) := by
  simp [List.getD, hj]
/-- The slice with address A, n elements of 'size' cells each, reads as the cells xs, all of them in blocks below B. -/
def Rd (w : World) (B size : Nat) (A : Option Addr) (n : Nat) (xs : List Value) : Prop :=
  xs.length = n * size ∧ (0 < n → ∃ b o, A = some ⟨b, o, none⟩ ∧ b < B ∧ ∀ j u, xs[j]? = some u → w.cell? ⟨b, o + j, none⟩ = some u)

section
variable {w w' : World} {B B' size n : Nat} {A : Option Addr} {xs : List Value}
theorem Rd.none_ : Rd w B size A 0 [] := ⟨by simp, fun h => absurd h (by omega)⟩
theorem Rd.keep (h : Rd w B size A n xs) (hk : ∀ p : Addr, p.block < B → w'.cell? p = w.cell? p) : Rd w' B size A n xs :=
  ⟨h.1, fun hn => by
    obtain ⟨b, o, e, hb, hc⟩ := h.2 hn
    exact ⟨b, o, e, hb, fun j u hu => (hk _ hb).trans (hc j u hu)⟩⟩
theorem Rd.more (h : Rd w B size A n xs) (hB : B ≤ B') : Rd w B' size A n xs :=
  ⟨h.1, fun hn => by
    obtain ⟨b, o, e, hb, hc⟩ := h.2 hn
    exact ⟨b, o, e, by omega, hc⟩⟩
theorem Rd.below (h : Rd w B size A n xs) (hb : Below B' w w') (hB : B ≤ B') : Rd w' B size A n xs := h.keep fun _ hp => hb.cell (by omega)
theorem Rd.grown (h : Rd w B size A n xs) {row : Option Nat} (hg : w.grownBy w' row) (hB : B ≤ w.heap.size) (hr : ∀ g, row = some g → B ≤ g) : Rd w' B size A n xs :=
  h.keep fun p hp => World.cell?_of_block (hg.block p.block (by omega) (fun e => by have := hr _ e.symm; omega))
theorem Rd.alloc (h : Rd w B size A n xs) (hB : B ≤ w.heap.size) (o : Obj) : Rd (w.alloc o) B size A n xs := h.keep fun p hp => World.cell?_alloc_lt w o p (by omega)
theorem Rd.drew (h : Rd w B size A n xs) : Rd w.drew B size A n xs := h
theorem Rd.drewN (h : Rd w B size A n xs) (k : Nat) : Rd (w.drewN k) B size A n xs := h
theorem Rd.setCell (h : Rd w B size A n xs) {p : Addr} (hB : B ≤ p.block) (u : Value) : Rd (w.setCell p u) B size A n xs :=
  h.keep fun q hq => World.cell?_setCell_other w p q u (fun e => by subst e; omega)
/-- One-cell elements: the k-th. -/
theorem Rd.at1 (h : Rd w B 1 A n xs) {k : Nat} (hk : k < n) : ∃ b o, A = some ⟨b, o, none⟩ ∧ b < B ∧ w.cell? ⟨b, o + k, none⟩ = some (xs.getD k undef) := by
  obtain ⟨b, o, e, hb, hc⟩ := h.2 (by omega)
  have hl : k < xs.length := by have := h.1; omega
  exact ⟨b, o, e, hb, hc k _ (by simp [List.getD, hl])⟩
theorem Rd.take_ (h : Rd w B size A n xs) {k : Nat} (hk : k ≤ n) : Rd w B size A k (xs.take (k * size)) := by
  refine ⟨by rw [List.length_take, h.1]; exact Nat.min_eq_left (Nat.mul_le_mul_right _ hk), fun hn => ?_⟩
  obtain ⟨b, o, e, hb, hc⟩ := h.2 (by omega)
  exact ⟨b, o, e, hb, fun j u hu => hc j u (by
    have := (List.getElem?_eq_some_iff.1 hu).1
    rw [List.getElem?_take_of_lt (by simp at this; omega)] at hu; exact hu)⟩
theorem Rd.of_own {base : Nat} {e : TypeId} {c : Nat} (h : w.ownsRow base e size (.slice A n c) n xs) : Rd w w.heap.size size A n xs := by
  refine ⟨h.1, fun hn => ?_⟩
  obtain ⟨g, cap, hv, _, hlt⟩ := h.form hn
  have hA : A = some ⟨g, 0, none⟩ := by injection hv
  subst hA
  refine ⟨g, 0, rfl, hlt, fun j u hu => ?_⟩
  have := h.cells (g := g) rfl j u hu
  rwa [Addr.add_lit] at this
end

/-- A block that has just been laid reads as its cells. -/
theorem Rd.lit (w : World) (cs : Array Value) (E : TypeId) {size n : Nat} {xs : List Value} (h : cs.toList = xs) (hn : xs.length = n * size) : Rd (w.alloc (.cells cs E)) (w.heap.size + 1) size (some ⟨w.heap.size, 0, none⟩) n xs := by
  subst h
  refine ⟨hn, fun _ => ⟨_, _, rfl, by omega, fun j u hu => ?_⟩⟩
  have := cell_of_row (w.alloc (.cells cs E)) w.heap.size j cs E (0, 0) (heap_alloc_new w _)
  rw [Nat.zero_add, this]
  simpa using hu

theorem only_drewN {a w : World} {row : Option Nat} (h : a.grownBy w row) (n : Nat) : a.grownBy (w.drewN n) row := ⟨h.os, h.tape, h.output, h.size, h.block⟩
theorem only_drew {a w : World} {row : Option Nat} (h : a.grownBy w row) : a.grownBy w.drew row := ⟨h.os, h.tape, h.output, h.size, h.block⟩
theorem only_alloc {a w : World} {row : Option Nat} (h : a.grownBy w row) (o : Obj) : a.grownBy (w.alloc o) row :=
  ⟨h.os, h.tape, h.output, Nat.le_trans h.size (by simp), fun i hi hne => (Below.heap_alloc w o i (Nat.lt_of_lt_of_le hi h.size)).trans (h.block i hi hne)⟩
theorem only_setCell {a w : World} {g : Nat} (h : a.grownBy w (some g)) {p : Addr} (hp : p.block = g ∨ a.heap.size ≤ p.block) (u : Value) : a.grownBy (w.setCell p u) (some g) :=
  ⟨h.os, h.tape, h.output, by simpa [World.setCell] using h.size, fun i hi hne => (Below.heap_setCell w p u i (by
    rintro rfl
    rcases hp with hp | hp
    · exact hne (by rw [hp])
    · omega)).trans (h.block i hi hne)⟩
theorem only_of_below {a w : World} (h : Below a.heap.size a w) (row : Option Nat) : a.grownBy w row := ⟨h.os, h.tape, h.output, h.size, fun i hi _ => h.block i hi⟩
theorem only_trans {a b c : World} {row : Option Nat} (h : a.grownBy b row) (k : b.grownBy c row) : a.grownBy c row :=
  ⟨k.os.trans h.os, k.tape.trans h.tape, k.output.trans h.output, Nat.le_trans h.size k.size, fun i hi hn => (k.block i (Nat.lt_of_lt_of_le hi h.size) hn).trans (h.block i hi hn)⟩
theorem only_below {a b c : World} {row : Option Nat} (h : a.grownBy b row) (k : Below b.heap.size b c) : a.grownBy c row := only_trans h (only_of_below k row)

/-- An own row keeps when another row is written. -/
theorem own_form {w : World} {base : Nat} {e : TypeId} {size : Nat} {v : Value} {n : Nat} {xs : List Value} (h : w.ownsRow base e size v n xs) : ∃ A c, v = .slice A n c := by
  obtain ⟨_, h | ⟨g, cap, _, h, _⟩⟩ := h
  · obtain ⟨rfl, rfl⟩ := h; exact ⟨_, _, rfl⟩
  · exact ⟨_, _, h⟩

theorem frozen_blk {w : World} {g : Nat} {t : TypeId} {cs : Array Value} (h : w.heap[g]? = some (.cells cs t (0, 0))) (i : Nat) : w.frozen? ⟨g, i, none⟩ = false := by simp [World.frozen?, h]
theorem blk_set {w : World} {g : Nat} {t : TypeId} {cs : Array Value} {fr : Nat × Nat} (h : w.heap[g]? = some (.cells cs t fr)) (i : Nat) (u : Value) : (w.setCell ⟨g, i, none⟩ u).heap[g]? = some (.cells (cs.setIfInBounds i u) t fr) := by
  simp [World.setCell, Array.getElem?_modify, h]

theorem quiet_add_left {P : Program} {f : FuncId} {args : Array Value} {w : World} {a n : Nat} {v : Value}
    (h : Calls P f args (w.drewN (a + n)) fun e w' => e = .returned v ∧ w.drewN (a + n) = w') : Calls P f args (w.drewN (a + n)) fun e w'' => e = .returned v ∧ ∃ m, w'' = w.drewN (a + m) :=
  h.mono fun _ _ ⟨he, hm⟩ => ⟨he, n, hm.symm⟩
theorem quiet_left {P : Program} {f : FuncId} {args : Array Value} {w : World} {n : Nat} {v : Value}
    (h : Calls P f args (w.drewN n) fun e w' => e = .returned v ∧ w.drewN n = w') : Calls P f args (w.drewN n) fun e w'' => e = .returned v ∧ ∃ m, w'' = w.drewN m :=
  h.mono fun _ _ ⟨he, hm⟩ => ⟨he, n, hm.symm⟩

end Go.Proofs.YtedogodccblfeaaGreatDoor

namespace Go.Proofs.YtedogodccblfeaaGreatDoor
open Go.RowKit
set_option linter.unusedVariables false

def fit (x : Int) : Bool := decide (-9223372036854775808 ≤ x ∧ x ≤ 9223372036854775807)
end Go.Proofs.YtedogodccblfeaaGreatDoor

namespace Go.Proofs.YtedogodccblfeaaGreatDoor
open Go.ChangeShapes Go.WideShapes Go.ChangeAt Go.RowKit
set_option linter.unusedVariables false

theorem own : ownKnob Tryz.prog.godebug = none := by kernel_rfl
theorem laidOut : laidOutB Tryz.prog = true := by kernel_rfl
end Go.Proofs.YtedogodccblfeaaGreatDoor

namespace Go.Proofs.YtedogodccblfeaaGreatDoor
open Go.ChangeShapes Go.WideShapes Go.ChangeAt Go.RowKit
set_option linter.unusedVariables false
section
variable {H : Type} {enc : TypeId × Value → H} {P : Program}
theorem i64_wf {x : Int} (h : (Lit.int .i64 x).wf = true) : I64 x := by
  simp [Lit.wf, IntKind.min, IntKind.max, IntKind.signed, IntKind.bits] at h
  exact ⟨by omega, by omega⟩

theorem open_i64s {t e : TypeId} {W : World} {r : Reach} {b0 : Nat} {v : Value} {d : DataW H} {p : List MemPlace} (ht : P.underlying t = some (.slice e)) (he : P.underlying e = some (.int .i64)) (hc : P.cellsOf e = 1)
    (hok : Value.okWide P W r b0 t v) (h : DataW.Trod enc P W 0 (fun _ => true) true t v d p) :
    ∃ A n c zs, v = .slice A n c ∧ Rd W W.heap.size 1 A n (zs.map (Value.int .i64)) ∧ Ints zs ∧ n ≤ c ∧ c ≤ maxLen ∧ ((d = .nil ∧ n = 0) ∨ ∃ el sp, d = .slice el sp ∧ el.length + sp.length = c) := by
  obtain ⟨A, n, c, rfl⟩ := okWide_slice ht hok
  obtain ⟨fuel, hf⟩ := h
  rcases open_ints ht he hc (by simpa [Value.cells] using hf) with ⟨hcs, hx⟩ | ⟨a, len, cap, zs, hcs, _, hl, hm, hz, hx, hcell, hwz⟩
  · simp at hcs; obtain ⟨rfl, rfl, rfl⟩ := hcs
    simp only [Prod.mk.injEq] at hx
    exact ⟨none, 0, 0, [], rfl, Rd.none_, fun _ h => (nomatch h), Nat.le_refl _, Nat.zero_le _, .inl ⟨hx.1, rfl⟩⟩
  · simp at hcs; obtain ⟨rfl, rfl, rfl⟩ := hcs
    simp only [if_true] at hz
    simp only [Prod.mk.injEq] at hx
    refine ⟨some a, n, c, zs.take n, rfl, ⟨by simp [hz]; omega, fun hn => ?_⟩, fun x hx => i64_wf (hwz x (List.mem_of_mem_take hx)), hl, hm, .inr ⟨_, _, hx.1, by simp [lits, hz]; omega⟩⟩
    obtain ⟨b, off, rfl, hcc⟩ := ints_at hcell (by omega)
    refine ⟨b, off, rfl, World.block_lt_of_cell? W ⟨b, off + 0, none⟩ (hcc 0 (by omega)), fun j u hu => ?_⟩
    have hj : j < n := by have := (List.getElem?_eq_some_iff.1 hu).1; simp [hz] at this; omega
    rw [hcc j (by omega)]
    rw [← hu]
    simp [List.getElem?_take_of_lt hj, List.getD, show j < zs.length by omega]

end
end Go.Proofs.YtedogodccblfeaaGreatDoor

namespace Go.Proofs.YtedogodccblfeaaGreatDoor
open Go.ChangeShapes Go.WideShapes Go.ChangeAt Go.RowKit
set_option linter.unusedVariables false

theorem strs_of_head {P : Program} {W : World} {name : String} {bs : List (List UInt8)} {rest : List (String × DataW Unit)} {g : Nat} {t e : TypeId} {n : Nat}
    (hg : P.globalNamed name = some g) (hty : (P.globals[g]?).map (·.type) = some t) (ht : P.underlying t = some (.array n e)) (he : P.underlying e = some .string) (hce : P.cellsOf e = 1)
    (h : laidMet P ((name, .agg (bs.map fun b => .lit (.string b))) :: rest) W) : ∀ i, i < n → ∃ s : ByteArray, W.cell? ⟨g, i, none⟩ = some (.string s) ∧ bs[i]? = some s.data.toList ∧ s.size ≤ maxLen := by
  obtain ⟨ps, ⟨g', t', cs, fuel, p, q, hg', ht', hvar, hd, _, _⟩, _⟩ := h
  obtain rfl := Option.some.inj (hg.symm.trans hg')
  obtain rfl := Option.some.inj (hty.symm.trans ht')
  obtain ⟨xs, m, _, hx, hlen, hxl, hel⟩ := DataW.trod_array ht hd
  intro i hi
  have h1 := hel i hi
  rw [hce, Nat.mul_one] at h1
  have hxi : xs[i]? = some (xs[i]'(by omega)) := List.getElem?_eq_getElem (by omega)
  rw [hxi] at h1
  obtain ⟨s, hs, hv, hm⟩ := DataW.trod_string he h1
  refine ⟨s, ?_, ?_, hm⟩
  · have hc := World.var?_cell hg hvar i
    rw [hc]
    have : (cs.toList.drop i).take 1 = [.string s] := hs
    have h2 : cs.toList[i]? = some (.string s) := by
      have h3 : ((cs.toList.drop i).take 1)[0]? = some (.string s) := by rw [this]; rfl
      simpa using h3
    simpa using h2
  · have h4 : (xs.map (·.1))[i]? = some (xs[i]'(by omega)).1 := by simp [hxi]
    simp only [Prod.mk.injEq] at hx
    have h5 : (bs.map fun b => (DataW.lit (.string b) : DataW Unit)) = xs.map (·.1) := by
      have := hx.1; injection this
    rw [← h5, hv] at h4
    simp only [List.getElem?_map, Option.map_eq_some_iff] at h4
    obtain ⟨b, hb, hb2⟩ := h4
    injection hb2 with hb3
    injection hb3 with hb4
    rw [hb, hb4]
end Go.Proofs.YtedogodccblfeaaGreatDoor

namespace Go.Proofs.YtedogodccblfeaaGreatDoor
open Go.RowKit
set_option linter.unusedVariables false

/-- Block T is a tape: a list of numbers that lies in older blocks, and a place in it. -/
def Tp (w : World) (T : Nat) : Prop :=
  ∃ (A : Option Addr) (n c p : Nat) (zs : List Int), w.heap[T]? = some (.cells #[.slice A n c, .int .i64 p] 96 (0, 0)) ∧ p ≤ n ∧ n ≤ 500 ∧ Rd w T 1 A n (zs.map (Value.int .i64)) ∧ Ints zs

theorem Tp.lt {w : World} {T : Nat} (h : Tp w T) : T < w.heap.size := by
  obtain ⟨A, n, c, p, zs, h, _⟩ := h
  rcases Nat.lt_or_ge T w.heap.size with hlt | hge
  · exact hlt
  · rw [Array.getElem?_eq_none hge] at h; cases h
theorem Tp.keep {w w' : World} {T : Nat} (h : Tp w T) (hk : ∀ k, k ≤ T → w'.heap[k]? = w.heap[k]?) : Tp w' T := by
  obtain ⟨A, n, c, p, zs, h1, h2, h3, h4, h5⟩ := h
  exact ⟨A, n, c, p, zs, (hk T (Nat.le_refl _)).trans h1, h2, h3, h4.keep fun q hq => World.cell?_of_block (w := w) (hk q.block (by omega)), h5⟩
theorem Tp.below {w w' : World} {T B : Nat} (h : Tp w T) (hb : Below B w w') (hT : T < B) : Tp w' T := h.keep fun k hk => hb.block k (by omega)
theorem Tp.grown {w w' : World} {T : Nat} {row : Option Nat} (h : Tp w T) (hg : w.grownBy w' row) (hr : ∀ g, row = some g → T < g) : Tp w' T :=
  h.keep fun k hk => hg.block k (by have := h.lt; omega) (fun e => by have := hr k e.symm; omega)
theorem Tp.alloc {w : World} {T : Nat} (h : Tp w T) (o : Obj) : Tp (w.alloc o) T := h.keep fun k hk => Below.heap_alloc w o k (by have := h.lt; omega)
theorem Tp.drew {w : World} {T : Nat} (h : Tp w T) : Tp w.drew T := h
theorem Tp.drewN {w : World} {T : Nat} (h : Tp w T) (n : Nat) : Tp (w.drewN n) T := h
theorem Tp.setCell {w : World} {T : Nat} (h : Tp w T) {p : Addr} (hp : T < p.block) (u : Value) : Tp (w.setCell p u) T := h.keep fun k hk => Below.heap_setCell w p u k (by omega)

theorem mod_eq (v n : Int) (h : 0 < n) : (if v.tmod n < 0 then v.tmod n + n else v.tmod n) = v % n := by
  have h1 : -n < v.tmod n := Int.lt_tmod_of_pos v h
  have h2 : v.tmod n < n := Int.tmod_lt_of_pos v h
  have h3 : v = n * (v.tdiv n) + v.tmod n := (Int.mul_tdiv_add_tmod v n).symm
  split
  · rename_i hlt
    have : v = (v.tmod n + n) + n * (v.tdiv n - 1) := by rw [Int.mul_sub, Int.mul_one]; omega
    conv => rhs; rw [this]
    rw [Int.add_mul_emod_self_left, Int.emod_eq_of_lt (by omega) (by omega)]
  · conv => rhs; rw [h3]
    rw [Int.add_comm, Int.add_mul_emod_self_left, Int.emod_eq_of_lt (by omega) (by omega)]

theorem ret_i64 {a b : Int} (h : a = b) : Ending.returned (.int .i64 a) = .returned (.int .i64 b) := by rw [h]

set_option maxHeartbeats 400000 in
theorem wmod_any (v n : Int) (w : World) (hv : I64 v) (h0 : 0 < n) (h1 : n ≤ 9223372036854775807) :
    Calls Tryz.prog 19 #[.int .i64 v, .int .i64 n] w fun e w' => e = .returned (.int .i64 (v % n)) ∧ w = w' := by
  have hm := mod_eq v n h0
  have b1 : -n < v.tmod n := Int.lt_tmod_of_pos v h0
  have b2 : v.tmod n < n := Int.tmod_lt_of_pos v h0
  have hn : (n == 0) = false := by simp; omega
  obtain ⟨t, ht, ht'⟩ : ∃ t, IntKind.i64.wrap (v.tmod n) = t ∧ v.tmod n = t := ⟨_, IntWalk.i64_in _ (by omega), rfl⟩
  rw [ht'] at hm b1 b2
  obtain ⟨hv0, hv1⟩ := hv
  by_cases hlt : t < 0
  · have HM : Hid (t + n = v % n) := by rw [if_pos hlt] at hm; exact hm
    clear hm
    go_enter Tryz.func19, Tryz.ntmps19
    go_wp2
    go_ret
    exact ⟨ret_i64 HM.out, rfl⟩
  · have HM : Hid (t = v % n) := by rw [if_neg hlt] at hm; exact hm
    clear hm
    go_enter Tryz.func19, Tryz.ntmps19
    go_wp2
    go_ret
    exact ⟨ret_i64 HM.out, rfl⟩

/-- What a draw from the tape leaves: a number from 0 to n - 1; the tape's block alone has turned. -/
def Drawn (w : World) (T : Nat) (n : Int) (e : Ending) (w' : World) : Prop :=
  ∃ r : Int, e = .returned (.int .i64 r) ∧ 0 ≤ r ∧ r < n ∧ Tp w' T ∧ w.grownBy w' (some T)

set_option maxHeartbeats 1000000 in
theorem next_any (T : Nat) (n : Int) (w : World) (ht : Tp w T) (h0 : 0 < n) (h1 : n ≤ 9223372036854775807) :
    Calls Tryz.prog 43 #[.pointer (some ⟨T, 0, none⟩), .int .i64 n] w fun e w' => Drawn w T n e w' := by
  obtain ⟨A, m, c, p, zs, hb, hp, hm, hr, hz⟩ := ht
  have hc0 : w.cell? ⟨T, 0, none⟩ = some (.slice A m c) := cell_of_row w T 0 _ _ _ hb
  have hc1 : w.cell? ⟨T, 1, none⟩ = some (.int .i64 p) := cell_of_row w T 1 _ _ _ hb
  have hf : w.frozen? ⟨T, 1, none⟩ = false := by simp [World.frozen?, hb]
  have hl : zs.length = m := by simpa using hr.1
  have HL := hid hl; clear hl
  have HB := hid hb; clear hb
  by_cases hlt : p < m
  · obtain ⟨b, o, rfl, hbT, hc⟩ := hr.at1 hlt
    rw [ints_get _ _ _ (by rw [HL.out]; omega)] at hc
    have bz := hz.at_ p
    have HZ := hid bz; clear bz
    go_enter Tryz.func43, Tryz.ntmps43
    go_wp2_with fail
    go_quiet (fail)
    go_wp2_with fail
    go_quiet ((go_at_call 19; first | exact quiet_left (wmod_any _ _ _ HZ.out h0 h1) | exact quiet_add_left (wmod_any _ _ _ HZ.out h0 h1)))
    go_wp2_with fail
    go_ret
    refine ⟨zs.getD p 0 % n, by simp [List.getD], Int.emod_nonneg _ (by omega), Int.emod_lt_of_pos _ h0, Tp.drewN ⟨_, m, c, p + 1, zs, blk_set (g := T) (w := World.drewN _ _) HB.out 1 _, by omega, hm, Rd.setCell (Rd.drewN hr _) (Nat.le_refl _) _, hz⟩ _, ?_⟩
    exact only_drewN (only_setCell (only_drewN (World.grownBy.refl _ _) _) (.inl rfl) _) _
  · go_enter Tryz.func43, Tryz.ntmps43
    go_wp2_with fail
    go_quiet (fail)
    go_wp2_with fail
    go_ret
    exact ⟨0, rfl, by omega, h0, Tp.drewN ⟨A, m, c, p, zs, HB.out, hp, hm, hr, hz⟩ _, only_drewN (World.grownBy.refl _ _) _⟩

/-- '1<<n' of the draws: one in n. -/
def Drawn64 (w : World) (T : Nat) (e : Ending) (w' : World) : Prop :=
  ∃ r : Int, e = .returned (.int .i64 r) ∧ I64 r ∧ Tp w' T ∧ w.grownBy w' (some T)

set_option maxHeartbeats 1000000 in
theorem number_any (T : Nat) (w : World) (ht : Tp w T) :
    Calls Tryz.prog 196 #[.pointer (some ⟨T, 0, none⟩)] w fun e w' => Drawn64 w T e w' := by
  go_enter Tryz.func196, Tryz.ntmps196
  go_wp2_with fail
  refine (next_any T 8 _ ht (by omega) (by omega)).mono ?_
  rintro e w1 ⟨r, rfl, r0, r1, t1, g1⟩
  have hcase : r = 0 ∨ r = 1 ∨ r = 2 ∨ ((r == 0) = false ∧ (r == 1) = false ∧ (r == 2) = false) := by
    simp only [beq_eq_false_iff_ne]; omega
  rcases hcase with rfl | rfl | rfl | ⟨k0, k1, k2⟩
  · go_wp2_with fail
    refine (next_any T 3 _ t1 (by omega) (by omega)).mono ?_
    rintro e w2 ⟨s, rfl, s0, s1, t2, g2⟩
    go_wp2
    go_ret
    exact ⟨9223372036854775807 - s, rfl, by unfold I64; omega, t2, only_trans g1 g2⟩
  · go_wp2_with fail
    refine (next_any T 3 _ t1 (by omega) (by omega)).mono ?_
    rintro e w2 ⟨s, rfl, s0, s1, t2, g2⟩
    go_wp2
    go_ret
    exact ⟨-9223372036854775808 + s, rfl, by unfold I64; omega, t2, only_trans g1 g2⟩
  · go_wp2_with fail
    refine (next_any T 9 _ t1 (by omega) (by omega)).mono ?_
    rintro e w2 ⟨s, rfl, s0, s1, t2, g2⟩
    go_wp2
    go_ret
    exact ⟨-s, rfl, by unfold I64; omega, t2, only_trans g1 g2⟩
  · go_wp2_with fail
    refine (next_any T 9 _ t1 (by omega) (by omega)).mono ?_
    rintro e w2 ⟨s, rfl, s0, s1, t2, g2⟩
    go_wp2
    go_ret
    exact ⟨s, rfl, by unfold I64; omega, t2, only_trans g1 g2⟩

/-- What New leaves: a pointer to a new tape. -/
def NewTape (w : World) (e : Ending) (w' : World) : Prop :=
  ∃ T, e = .returned (.pointer (some ⟨T, 0, none⟩)) ∧ w.heap.size ≤ T ∧ Tp w' T ∧ Below w.heap.size w w'

set_option maxHeartbeats 1000000 in
theorem new_any (A : Option Addr) (n c : Nat) (zs : List Int) (w : World) (hr : Rd w w.heap.size 1 A n (zs.map (Value.int .i64))) (hz : Ints zs) (hn : n ≤ c) (hc : c ≤ 9223372036854775807) :
    Calls Tryz.prog 8 #[.slice A n c] w fun e w' => NewTape w e w' := by
  by_cases hlt : 500 < n
  · go_enter Tryz.func8, Tryz.ntmps8
    go_wp2
    go_ret
    refine ⟨w.heap.size, rfl, Nat.le_refl _, ⟨A, 500, c, 0, zs.take 500, heap_alloc_new w _, by omega, by omega, ?_, fun x hx => hz x (List.mem_of_mem_take hx)⟩, (Below.refl _ _).alloc (Nat.le_refl _) _⟩
    have := (hr.take_ (k := 500) (by omega)).alloc (Nat.le_refl _) (.cells #[.slice A 500 c, .int .i64 0] 96)
    simpa [List.map_take] using this
  · go_enter Tryz.func8, Tryz.ntmps8
    go_wp2
    go_ret
    exact ⟨w.heap.size, rfl, Nat.le_refl _, ⟨A, n, c, 0, zs, heap_alloc_new w _, by omega, by omega, hr.alloc (Nat.le_refl _) _, hz⟩, (Below.refl _ _).alloc (Nat.le_refl _) _⟩
end Go.Proofs.YtedogodccblfeaaGreatDoor

namespace Go.Proofs.YtedogodccblfeaaGreatDoor
open Go.RowKit
set_option linter.unusedVariables false
set_option linter.unusedSimpArgs false

def DrawnB (w : World) (T : Nat) (e : Ending) (w' : World) : Prop :=
  ∃ b : Bool, e = .returned (.bool b) ∧ Tp w' T ∧ w.grownBy w' (some T)

set_option maxHeartbeats 400000 in
theorem bool_any (T : Nat) (n : Int) (w : World) (ht : Tp w T) (h0 : 0 < n) (h1 : n ≤ 9223372036854775807) :
    Calls Tryz.prog 79 #[.pointer (some ⟨T, 0, none⟩), .int .i64 n] w fun e w' => DrawnB w T e w' := by
  go_enter Tryz.func79, Tryz.ntmps79
  go_wp2_with fail
  refine (next_any T n _ ht h0 h1).mono ?_
  rintro e w1 ⟨r, rfl, r0, r1, t1, g1⟩
  go_wp2
  go_ret
  exact ⟨_, rfl, t1, g1⟩

end Go.Proofs.YtedogodccblfeaaGreatDoor

namespace Go.Proofs.YtedogodccblfeaaGreatDoor
open Go.RowKit
set_option linter.unusedVariables false

/-- A value of the store: its kind, its number, its text. -/
structure Vl where
  k : Int
  i : Int
  s : ByteArray
deriving DecidableEq

def okByte (c : UInt8) : Bool := decide (32 ≤ c.toNat ∧ c.toNat ≤ 126)
def plainB (s : ByteArray) : Bool := s.data.toList.all okByte && decide (s.size ≤ 64)

set_option maxHeartbeats 1000000 in
theorem plain_any (s : ByteArray) (w : World) (hs : s.size ≤ maxLen) :
    Calls Tryz.prog 235 #[.string s] w fun e w' => e = .returned (.bool (plainB s)) ∧ w = w' := by
  unfold maxLen at hs
  go_enter Tryz.func235, Tryz.ntmps235
  go_wp2_with fail
  go_loop [6] (fun i => ∃ k : Nat, k ≤ s.size ∧ i = .int .i64 k ∧ (s.data.toList.take k).all okByte = true) (fun i => s.size - (intOf i).toNat)
  case atStart => exact ⟨0, by omega, rfl, rfl⟩
  case round =>
    obtain ⟨k, hk, rfl, hall⟩ := hrel
    have HA := hid hall; clear hall
    by_cases hlt : k < s.size
    · have hts : Hid (s.data.toList.take (k + 1) = s.data.toList.take k ++ [s[k]]) := by
        unfold Hid; rw [List.take_succ_eq_append_getElem (by simpa using hlt)]; rfl
      by_cases hb : 32 ≤ s[k].toNat ∧ s[k].toNat ≤ 126
      · have b1 : (32 : Int) ≤ (s[k].toNat : Int) := by omega
        have b2 : (s[k].toNat : Int) ≤ 126 := by omega
        have HB := hid hb; clear hb
        go_wp2_with fail
        go_round
        case rel => exact ⟨k + 1, by omega, by go_num, by rw [hts.out, List.all_append, HA.out]; simp [okByte, HB.out]⟩
        case measure => simp [intOf]; omega
      · have hno : Hid (plainB s = false) := by
          unfold Hid plainB
          have : s.data.toList.all okByte = false := by
            rw [List.all_eq_false]
            exact ⟨s[k], List.mem_of_getElem (i := k) (h := by simpa using hlt) rfl, by simp [okByte]; omega⟩
          rw [this]; rfl
        by_cases h32 : (s[k].toNat : Int) < 32
        · clear hb
          go_wp2
          go_ret
          exact ⟨by rw [hno.out]; rfl, rfl⟩
        · have h126 : (126 : Int) < (s[k].toNat : Int) := by omega
          clear hb
          go_wp2
          go_ret
          exact ⟨by rw [hno.out]; rfl, rfl⟩
    · obtain rfl : k = s.size := by omega
      have hyes : Hid (plainB s = decide (s.size ≤ 64)) := by
        unfold Hid plainB
        have h := HA.out
        rw [List.take_of_length_le (by simp)] at h
        rw [h]; rfl
      go_wp2
      go_ret
      exact ⟨by rw [hyes.out]; congr 2; simp; omega, rfl⟩

/-- Which values are valid. -/
def validB (k i : Int) (s : ByteArray) : Bool :=
  if k = 0 then i == 0 && s.toList.isEmpty else if k = 1 then s.toList.isEmpty else if k = 2 then (i == 0 || i == 1) && s.toList.isEmpty else if k = 3 then i == 0 && plainB s else false

set_option maxHeartbeats 1000000 in
theorem valid_any (k i : Int) (s : ByteArray) (w : World) (hs : s.size ≤ maxLen) :
    Calls Tryz.prog 223 #[.agg #[.int .i64 k, .int .i64 i, .string s]] w fun e w' => e = .returned (.bool (validB k i s)) ∧ w.alloc (.cells #[.int .i64 k, .int .i64 i, .string s] 117) = w' := by
  by_cases h0 : k = 0
  · subst h0
    cases hi : (i == 0) <;> cases he : s.toList.isEmpty
    all_goals
      go_enter Tryz.func223, Tryz.ntmps223
      go_wp2_with fail
      go_ret
      refine ⟨?_, rfl⟩
      simp [validB, hi, he]
  by_cases h1 : k = 1
  · subst h1
    go_enter Tryz.func223, Tryz.ntmps223
    go_wp2_with fail
    go_ret
    refine ⟨?_, rfl⟩
    simp [validB]
  by_cases h2 : k = 2
  · subst h2
    cases hi : (i == 0) <;> cases hj : (i == 1)
    all_goals
      go_enter Tryz.func223, Tryz.ntmps223
      go_wp2_with fail
      go_ret
      refine ⟨?_, rfl⟩
      simp [validB, hi, hj]
  by_cases h3 : k = 3
  · subst h3
    cases hi : (i == 0)
    · go_enter Tryz.func223, Tryz.ntmps223
      go_wp2_with fail
      go_ret
      refine ⟨?_, rfl⟩
      simp [validB, hi]
    · go_enter Tryz.func223, Tryz.ntmps223
      go_wp2_with fail
      refine (plain_any s _ hs).mono ?_
      rintro e w1 ⟨rfl, rfl⟩
      go_wp2_with fail
      go_ret
      refine ⟨?_, rfl⟩
      simp [validB, hi]
  · have k0 : (k == 0) = false := by simpa using h0
    have k1 : (k == 1) = false := by simpa using h1
    have k2 : (k == 2) = false := by simpa using h2
    have k3 : (k == 3) = false := by simpa using h3
    go_enter Tryz.func223, Tryz.ntmps223
    go_wp2_with fail
    go_ret
    refine ⟨?_, rfl⟩
    simp [validB, h0, h1, h2, h3]
end Go.Proofs.YtedogodccblfeaaGreatDoor

namespace Go.Proofs.YtedogodccblfeaaGreatDoor
open Go.RowKit
set_option linter.unusedVariables false

def Blk (w : World) (g : Nat) (t : TypeId) (cs : Array Value) : Prop := w.heap[g]? = some (.cells cs t (0, 0))

section
variable {w w' w1 : World} {g : Nat} {t : TypeId} {cs : Array Value}
theorem Blk.lt (h : Blk w g t cs) : g < w.heap.size := by
  rcases Nat.lt_or_ge g w.heap.size with hlt | hge
  · exact hlt
  · unfold Blk at h; rw [Array.getElem?_eq_none hge] at h; cases h
theorem Blk.cell (h : Blk w g t cs) (i : Nat) : w.cell? ⟨g, i, none⟩ = cs[i]? := cell_of_row w g i cs t (0, 0) h
theorem Blk.frozen (h : Blk w g t cs) (i : Nat) : w.frozen? ⟨g, i, none⟩ = false := frozen_blk h i
theorem Blk.new (w : World) (t : TypeId) (cs : Array Value) : Blk (w.alloc (.cells cs t)) w.heap.size t cs := heap_alloc_new w _
theorem Blk.alloc (h : Blk w g t cs) (o : Obj) : Blk (w.alloc o) g t cs := (Below.heap_alloc w o g h.lt).trans h
theorem Blk.below {B : Nat} (h : Blk w g t cs) (hb : Below B w w') (hg : g < B) : Blk w' g t cs := (hb.block g hg).trans h
theorem Blk.over (h : Blk w g t cs) (hb : Below w.heap.size w w') : Blk w' g t cs := h.below hb h.lt
theorem Blk.set_ (h : Blk w g t cs) (i : Nat) (u : Value) : Blk (w.setCell ⟨g, i, none⟩ u) g t (cs.setIfInBounds i u) := blk_set h i u
theorem Blk.far (h : Blk w g t cs) {p : Addr} (hp : g ≠ p.block) (u : Value) : Blk (w.setCell p u) g t cs := (Below.heap_setCell w p u g hp).trans h
theorem Blk.drew (h : Blk w g t cs) : Blk w.drew g t cs := h
theorem Blk.drewN (h : Blk w g t cs) (n : Nat) : Blk (w.drewN n) g t cs := h
theorem Blk.grown {row : Option Nat} (h : Blk w g t cs) (hb : w.grownBy w' row) (hg : some g ≠ row) : Blk w' g t cs := (hb.block g h.lt hg).trans h
/-- three cells -/
theorem Blk.c3 {x y z : Value} (h : Blk w g t #[x, y, z]) : w.cell? ⟨g, 0, none⟩ = some x ∧ w.cell? ⟨g, 1, none⟩ = some y ∧ w.cell? ⟨g, 2, none⟩ = some z ∧ g < w.heap.size := ⟨h.cell 0, h.cell 1, h.cell 2, h.lt⟩
end
theorem ext1 (w : World) (o : Obj) : Below w.heap.size w (w.alloc o) := (Below.refl _ _).alloc (Nat.le_refl _) _
theorem ext2 (w : World) (o o' : Obj) : Below w.heap.size w ((w.alloc o).alloc o') := (ext1 w o).alloc (by simp) _
theorem ext3 (w : World) (o o' o'' : Obj) : Below w.heap.size w (((w.alloc o).alloc o').alloc o'') := (ext2 w o o').alloc (by simp; omega) _
end Go.Proofs.YtedogodccblfeaaGreatDoor

namespace Go.Proofs.YtedogodccblfeaaGreatDoor
open Go.RowKit
set_option linter.unusedVariables false
set_option linter.unusedSimpArgs false

/-- The table of words: six texts that are valid. -/
def Wds (w : World) : Prop := ∀ j, j < 6 → ∃ s : ByteArray, w.cell? ⟨2, j, none⟩ = some (.string s) ∧ plainB s = true ∧ s.size ≤ 4
theorem Wds.keep {w w' : World} (h : Wds w) (hk : w'.heap[2]? = w.heap[2]?) : Wds w' := fun j hj => by
  obtain ⟨s, h1, h2⟩ := h j hj
  exact ⟨s, (World.cell?_of_block (w := w) (a := ⟨2, j, none⟩) hk).trans h1, h2⟩
theorem Wds.below {w w' : World} {B : Nat} (h : Wds w) (hb : Below B w w') (hB : 2 < B) : Wds w' := h.keep (hb.block _ hB)
theorem Wds.lt {w : World} (h : Wds w) : 2 < w.heap.size := by
  obtain ⟨s, h1, _⟩ := h 0 (by omega)
  exact World.block_lt_of_cell? w ⟨2, 0, none⟩ h1
theorem Wds.grown {w w' : World} {row : Option Nat} (h : Wds w) (hg : w.grownBy w' row) (hr : some 2 ≠ row) : Wds w' := h.keep (hg.block _ h.lt hr)

def DrawnS (w : World) (T : Nat) (e : Ending) (w' : World) : Prop :=
  ∃ s : ByteArray, e = .returned (.string s) ∧ plainB s = true ∧ s.size ≤ 4 ∧ Tp w' T ∧ w.grownBy w' (some T)

set_option maxHeartbeats 400000 in
theorem word_any (T : Nat) (w : World) (ht : Tp w T) (hw : Wds w) (hT : 2 < T) :
    Calls Tryz.prog 165 #[.pointer (some ⟨T, 0, none⟩)] w fun e w' => DrawnS w T e w' := by
  go_enter Tryz.func165, Tryz.ntmps165
  go_wp2_with fail
  refine (next_any T 6 _ ht (by omega) (by omega)).mono ?_
  rintro e w1 ⟨r, rfl, r0, r1, t1, g1⟩
  have hw1 := hw.grown g1 (by intro e; injection e with e; omega)
  obtain ⟨r, rfl⟩ := Int.eq_ofNat_of_zero_le r0
  obtain ⟨s, hs, hp, hl⟩ := hw1 r (by omega)
  have HP := hid hp; clear hp hw1 hw
  go_wp2
  go_ret
  exact ⟨s, rfl, HP.out, hl, t1, g1⟩

/-- A value drawn: of the kind asked for, valid. -/
def DrawnV (w : World) (T : Nat) (K : Int → Int → ByteArray → Prop) (e : Ending) (w' : World) : Prop :=
  ∃ (k i : Int) (s : ByteArray), e = .returned (.agg #[.int .i64 k, .int .i64 i, .string s]) ∧ K k i s ∧ s.size ≤ 80 ∧ I64 i ∧ Tp w' T ∧ Wds w' ∧ w.grownBy w' (some T)
/-- valid, and of the kind 'kind' where that is 1, 2 or 3; else null -/
def OfKind (kind k i : Int) (s : ByteArray) : Prop := validB k i s = true ∧ ((kind = 1 ∨ kind = 2 ∨ kind = 3) → k = kind) ∧ (¬ (kind = 1 ∨ kind = 2 ∨ kind = 3) → k = 0)

theorem empty_toList : (⟨#[]⟩ : ByteArray).toList = [] := by kernel_rfl
theorem tp_set3 {w : World} {T g : Nat} (h : Tp w T) (hg : T < g) (x y z : Value) : Tp (((w.setCell ⟨g, 0, none⟩ x).setCell ⟨g, 1, none⟩ y).setCell ⟨g, 2, none⟩ z) T :=
  Tp.setCell (p := ⟨g, 2, none⟩) (Tp.setCell (p := ⟨g, 1, none⟩) (Tp.setCell (p := ⟨g, 0, none⟩) h hg x) hg y) hg z
theorem only_set3 {a w : World} {T g : Nat} (h : a.grownBy w (some T)) (hg : a.heap.size ≤ g) (x y z : Value) : a.grownBy (((w.setCell ⟨g, 0, none⟩ x).setCell ⟨g, 1, none⟩ y).setCell ⟨g, 2, none⟩ z) (some T) :=
  only_setCell (p := ⟨g, 2, none⟩) (only_setCell (p := ⟨g, 1, none⟩) (only_setCell (p := ⟨g, 0, none⟩) h (.inr hg) x) (.inr hg) y) (.inr hg) z
theorem drawnV_mk {w w1 : World} {T g : Nat} {K : Int → Int → ByteArray → Prop} {k i : Int} {s : ByteArray} (hK : K k i s) (hs : s.size ≤ 80) (hi : I64 i) (t1 : Tp w1 T) (hTw : T < w.heap.size) (hw : Wds w) (hT : 2 < T)
    (g1 : w.grownBy w1 (some T)) (hg : w.heap.size ≤ g) : DrawnV w T K (.returned (.agg #[.int .i64 k, .int .i64 i, .string s])) (((w1.setCell ⟨g, 0, none⟩ (.int .i64 k)).setCell ⟨g, 1, none⟩ (.int .i64 i)).setCell ⟨g, 2, none⟩ (.string s)) := by
  have g2 := only_set3 g1 hg (.int .i64 k) (.int .i64 i) (.string s)
  exact ⟨k, i, s, rfl, hK, hs, hi, tp_set3 t1 (by omega) _ _ _, hw.grown g2 (by intro e; injection e with e; omega), g2⟩
theorem kind_null {kind : Int} (h : ¬ (kind = 1 ∨ kind = 2 ∨ kind = 3)) : OfKind kind 0 0 ⟨#[]⟩ := ⟨by kernel_rfl, fun k => absurd k h, fun _ => rfl⟩
theorem kind_int (x : Int) : OfKind 1 1 x ⟨#[]⟩ := ⟨by simp [validB, empty_toList], fun _ => rfl, fun h => absurd (.inl rfl) h⟩
theorem kind_bool {x : Int} (h0 : 0 ≤ x) (h1 : x < 2) : OfKind 2 2 x ⟨#[]⟩ := ⟨by
  obtain rfl | rfl : x = 0 ∨ x = 1 := by omega
  all_goals simp [validB, empty_toList], fun _ => rfl, fun h => absurd (.inr (.inl rfl)) h⟩
theorem kind_text {s : ByteArray} (h : plainB s = true) : OfKind 3 3 0 s := ⟨by simp [validB, h], fun _ => rfl, fun h => absurd (.inr (.inr rfl)) h⟩

set_option maxHeartbeats 1000000 in
theorem typed_any (T : Nat) (kind : Int) (w : World) (ht : Tp w T) (hw : Wds w) (hT : 2 < T) :
    Calls Tryz.prog 144 #[.pointer (some ⟨T, 0, none⟩), .int .i64 kind] w fun e w' => DrawnV w T (OfKind kind) e w' := by
  have hlt := ht.lt
  have B0 := Blk.new w 117 #[.int .i64 0, .int .i64 0, .string ⟨#[]⟩]
  have t0 := ht.alloc (.cells #[.int .i64 0, .int .i64 0, .string ⟨#[]⟩] 117)
  have g0 : w.grownBy (w.alloc (.cells #[.int .i64 0, .int .i64 0, .string ⟨#[]⟩] 117)) (some T) := only_alloc (World.grownBy.refl _ _) _
  have w0 : Wds (w.alloc (.cells #[.int .i64 0, .int .i64 0, .string ⟨#[]⟩] 117)) := hw.grown g0 (by intro e; injection e with e; omega)
  have hI0 : I64 0 := by unfold I64; omega
  by_cases h1 : kind = 1
  · subst h1
    go_enter Tryz.func144, Tryz.ntmps144
    go_wp2_with fail
    refine (number_any T _ t0).mono ?_
    rintro e w1 ⟨x, rfl, hx, t1, g1⟩
    have B1 := B0.grown g1 (by intro e; injection e with e; omega)
    have g2 := only_trans g0 g1
    obtain ⟨c0, c1, c2, cl⟩ := B1.c3
    have f0 := B1.frozen 0; have f1 := B1.frozen 1; have f2 := B1.frozen 2
    clear t0 g0 B0 w0 g1
    go_wp2
    exact bodyPost_ret (v := .agg #[.int .i64 1, .int .i64 x, .string ⟨#[]⟩]) (by simp [results, Tryz.results144, go_sem, c0, c1, c2]) rfl (drawnV_mk (kind_int x) (by decide) hx t1 hlt hw hT g2 (Nat.le_refl _))
  by_cases h2 : kind = 2
  · subst h2
    go_enter Tryz.func144, Tryz.ntmps144
    go_wp2_with fail
    refine (next_any T 2 _ t0 (by omega) (by omega)).mono ?_
    rintro e w1 ⟨x, rfl, x0, x1, t1, g1⟩
    have B1 := B0.grown g1 (by intro e; injection e with e; omega)
    have g2 := only_trans g0 g1
    obtain ⟨c0, c1, c2, cl⟩ := B1.c3
    have f0 := B1.frozen 0; have f1 := B1.frozen 1; have f2 := B1.frozen 2
    clear t0 g0 B0 w0 g1
    go_wp2
    exact bodyPost_ret (v := .agg #[.int .i64 2, .int .i64 x, .string ⟨#[]⟩]) (by simp [results, Tryz.results144, go_sem, c0, c1, c2]) rfl (drawnV_mk (kind_bool x0 x1) (by decide) (by unfold I64; omega) t1 hlt hw hT g2 (Nat.le_refl _))
  by_cases h3 : kind = 3
  · subst h3
    go_enter Tryz.func144, Tryz.ntmps144
    go_wp2_with fail
    refine (word_any T _ t0 w0 hT).mono ?_
    rintro e w1 ⟨s, rfl, hp, hs, t1, g1⟩
    have B1 := B0.grown g1 (by intro e; injection e with e; omega)
    have g2 := only_trans g0 g1
    obtain ⟨c0, c1, c2, cl⟩ := B1.c3
    have f0 := B1.frozen 0; have f1 := B1.frozen 1; have f2 := B1.frozen 2
    clear t0 g0 B0 w0 g1
    go_wp2
    exact bodyPost_ret (v := .agg #[.int .i64 3, .int .i64 0, .string s]) (by simp [results, Tryz.results144, go_sem, c0, c1, c2]) rfl (drawnV_mk (kind_text hp) (by omega) hI0 t1 hlt hw hT g2 (Nat.le_refl _))
  · have k1 : (kind == 1) = false := by simpa using h1
    have k2 : (kind == 2) = false := by simpa using h2
    have k3 : (kind == 3) = false := by simpa using h3
    have hn : ¬ (kind = 1 ∨ kind = 2 ∨ kind = 3) := by omega
    have HN := hid (kind_null hn); clear hn
    go_enter Tryz.func144, Tryz.ntmps144
    clear h1 h2 h3
    go_wp2
    refine bodyPost_ret (v := .agg #[.int .i64 0, .int .i64 0, .string ⟨#[]⟩]) (by simp [results, Tryz.results144, go_sem]) rfl ?_
    exact ⟨0, 0, ⟨#[]⟩, rfl, HN.out, by decide, hI0, t0, w0, g0⟩

set_option maxHeartbeats 1000000 in
theorem value_any (T : Nat) (w : World) (ht : Tp w T) (hw : Wds w) (hT : 2 < T) :
    Calls Tryz.prog 80 #[.pointer (some ⟨T, 0, none⟩)] w fun e w' => DrawnV w T (fun k i s => validB k i s = true) e w' := by
  have hlt := ht.lt
  have B0 := Blk.new w 117 #[.int .i64 0, .int .i64 0, .string ⟨#[]⟩]
  have t0 := ht.alloc (.cells #[.int .i64 0, .int .i64 0, .string ⟨#[]⟩] 117)
  have g0 : w.grownBy (w.alloc (.cells #[.int .i64 0, .int .i64 0, .string ⟨#[]⟩] 117)) (some T) := only_alloc (World.grownBy.refl _ _) _
  have w0 : Wds (w.alloc (.cells #[.int .i64 0, .int .i64 0, .string ⟨#[]⟩] 117)) := hw.grown g0 (by intro e; injection e with e; omega)
  go_enter Tryz.func80, Tryz.ntmps80
  go_wp2_with fail
  refine (next_any T 4 _ t0 (by omega) (by omega)).mono ?_
  rintro e w1 ⟨x, rfl, x0, x1, t1, g1⟩
  have w1' := w0.grown g1 (by intro e; injection e with e; omega)
  have B1 := B0.grown g1 (by intro e; injection e with e; omega)
  go_wp2_with fail
  refine (typed_any T x _ t1 w1' hT).mono ?_
  rintro e w2 ⟨k, i, s, rfl, ⟨hv, _, _⟩, hs, hi, t2, _, g2⟩
  have B2 := B1.grown g2 (by intro e; injection e with e; omega)
  have g3 := only_trans (only_trans g0 g1) g2
  obtain ⟨c0, c1, c2, cl⟩ := B2.c3
  have f0 := B2.frozen 0; have f1 := B2.frozen 1; have f2 := B2.frozen 2
  have HV := hid hv
  clear t0 g0 B0 w0 g1 B1 g2 w1' t1 hv
  go_wp2
  exact bodyPost_ret (v := .agg #[.int .i64 k, .int .i64 i, .string s]) (by simp [results, Tryz.results80, go_sem, c0, c1, c2]) rfl (drawnV_mk HV.out hs hi t2 hlt hw hT g3 (Nat.le_refl _))
end Go.Proofs.YtedogodccblfeaaGreatDoor

namespace Go.Proofs.YtedogodccblfeaaGreatDoor
open Go.ChangeShapes Go.WideShapes Go.ChangeAt Go.RowKit
set_option linter.unusedVariables false
set_option linter.unusedSimpArgs false

theorem gWords : Tryz.prog.globalNamed "triggerstore/triggerstoreworld.words" = some 2 := by kernel_rfl
theorem gWordsType : (Tryz.prog.globals[2]?).map (·.type) = some 255 := by kernel_rfl
def wordBytes : List (List UInt8) := [[], [97], [98], [105, 116, 39, 115], [90, 32, 122], [126]]
theorem words_all : ∀ b ∈ wordBytes, (b.all okByte && decide (b.length ≤ 4)) = true := by decide

theorem wds_of_laid {W : World} {rest : List (String × DataW Unit)} (h : laidMet Tryz.prog (("triggerstore/triggerstoreworld.words", Rows.laid_triggerstore_triggerstoreworld_words) :: rest) W) : Wds W := by
  intro j hj
  obtain ⟨s, h1, h2, _⟩ := strs_of_head (bs := wordBytes) (rest := rest) gWords gWordsType Tryz.underlying255 Tryz.underlying9 (by kernel_rfl) h j hj
  have h3 := words_all _ (List.mem_of_getElem? h2)
  simp only [Bool.and_eq_true, decide_eq_true_eq] at h3
  have hs : s.size = s.data.toList.length := (Array.length_toList (xs := s.data)).symm
  refine ⟨s, h1, ?_, by omega⟩
  unfold plainB
  rw [h3.1, Bool.true_and, decide_eq_true_eq]
  omega

/-- A world for the witness of a row: the settled one, the table of words laid. -/
noncomputable def wordsWorld (os : Os) : World :=
  { World.holding Tryz.prog os ⟨#[], #[], []⟩ with heap := (World.holding Tryz.prog os ⟨#[], #[], []⟩).heap.modify 2 fun
      | .cells _ t frozen => .cells #[.string ⟨#[]⟩, .string ⟨#[97]⟩, .string ⟨#[98]⟩, .string ⟨#[105, 116, 39, 115]⟩, .string ⟨#[90, 32, 122]⟩, .string ⟨#[126]⟩] t frozen
      | o => o }
end Go.Proofs.YtedogodccblfeaaGreatDoor

namespace Go.Proofs.YtedogodccblfeaaGreatDoor
open Go.RowKit
set_option linter.unusedVariables false

/-- An item of memory: a block known whole, a row that grows, a tape, or a statement on cells that are never written again. -/
inductive Hp where
  | blk (g : Nat) (t : TypeId) (cs : Array Value)
  | own (e : TypeId) (size : Nat) (v : Value) (n : Nat) (xs : List Value)
  | tp (T : Nat)
  | ro (S : World → Prop)
  | cst (g : Nat) (t : TypeId) (cs : Array Value)
  | ob (g : Nat) (F : World → Prop)

/-- the block that the item may write -/
def Hp.foot : Hp → Option Nat
  | .blk g _ _ => some g
  | .own _ _ v _ _ => v.ownBlock
  | .tp T => some T
  | .ro _ => none
  | .cst _ _ _ => none
  | .ob g _ => some g

/-- the blocks that may be written: a caller's own (M), and those of the items -/
def Mut (M : Nat → Prop) (L : List Hp) (b : Nat) : Prop := M b ∨ ∃ h ∈ L, h.foot = some b

/-- S holds in w, and as long as nothing but the blocks of M and new ones turns -/
def Ro (w : World) (M : Nat → Prop) (S : World → Prop) : Prop :=
  ∀ w' : World, w.heap.size ≤ w'.heap.size → (∀ b, b < w.heap.size → ¬ M b → w'.heap[b]? = w.heap[b]?) → S w'

theorem Ro.now {w : World} {M : Nat → Prop} {S : World → Prop} (h : Ro w M S) : S w := h w (Nat.le_refl _) (fun _ _ _ => rfl)
theorem Ro.step {w w' : World} {M M' : Nat → Prop} {S : World → Prop} (h : Ro w M S) (hs : w.heap.size ≤ w'.heap.size) (hb : ∀ b, b < w.heap.size → ¬ M b → w'.heap[b]? = w.heap[b]?)
    (hM : ∀ b, b < w.heap.size → M' b → M b) : Ro w' M' S := fun w2 h1 h2 => h w2 (Nat.le_trans hs h1) fun b hbl hn => (h2 b (Nat.lt_of_lt_of_le hbl hs) (fun hm => hn (hM b hbl hm))).trans (hb b hbl hn)
theorem Ro.less {w : World} {M M' : Nat → Prop} {S : World → Prop} (h : Ro w M S) (hM : ∀ b, M' b → M b) : Ro w M' S := h.step (Nat.le_refl _) (fun _ _ _ => rfl) (fun b _ hb => hM b hb)
theorem Ro.imp {w : World} {M : Nat → Prop} {S S' : World → Prop} (h : Ro w M S) (hi : ∀ w, S w → S' w) : Ro w M S' := fun w2 h1 h2 => hi _ (h w2 h1 h2)
theorem Ro.and {w : World} {M : Nat → Prop} {S S' : World → Prop} (h : Ro w M S) (k : Ro w M S') : Ro w M (fun w => S w ∧ S' w) := fun w2 h1 h2 => ⟨h w2 h1 h2, k w2 h1 h2⟩
theorem Ro.below {w w' : World} {M : Nat → Prop} {S : World → Prop} (h : Ro w M S) (hb : Below w.heap.size w w') : Ro w' M S := h.step hb.size (fun b hl _ => hb.block b hl) (fun _ _ hm => hm)
theorem Ro.grown {w w' : World} {M : Nat → Prop} {S : World → Prop} {T : Nat} (h : Ro w M S) (hb : w.grownBy w' (some T)) (hT : M T) : Ro w' M S :=
  h.step hb.size (fun b hl hn => hb.block b hl (fun e => by injection e with e; subst e; exact hn hT)) (fun _ _ hm => hm)
def Hp.sat (B : Nat) (w : World) (M : Nat → Prop) : Hp → Prop
  | .blk g t cs => w.heap[g]? = some (.cells cs t (0, 0))
  | .own e size v n xs => w.ownsRow B e size v n xs
  | .tp T => Tp w T ∧ ∀ b, M b → T ≤ b
  | .ro S => Ro w M S
  | .cst g t cs => Ro w M (fun w => w.heap[g]? = some (.cells cs t (0, 0)))
  | .ob g F => ∀ w' : World, w'.heap[g]? = w.heap[g]? → F w'

/-- no two items may write one block -/
def Apart : List Hp → Prop
  | [] => True
  | h :: L => (∀ b, h.foot = some b → ∀ k ∈ L, k.foot ≠ some b) ∧ Apart L

/-- From w0 to w nothing turned but the block 'row' and new ones; the items of L hold in w. M: blocks of the caller's that it may write. -/
structure Hold (M : Nat → Prop) (row : Option Nat) (w0 w : World) (L : List Hp) : Prop where
  grow : w0.grownBy w row
  low : ∀ b, M b → b < w0.heap.size
  sat : ∀ h ∈ L, h.sat w0.heap.size w (Mut M L)
  fresh : ∀ h ∈ L, ∀ b, h.foot = some b → (w0.heap.size ≤ b ∨ (row = some b ∧ h = .tp b)) ∧ b < w.heap.size
  sep : Apart L

section
variable {M : Nat → Prop} {row : Option Nat} {w0 w w' : World} {L L' : List Hp}

theorem Hold.start (M : Nat → Prop) (w : World) (h : ∀ b, M b → b < w.heap.size) : Hold M none w w [] :=
  ⟨World.grownBy.refl _ _, h, (fun _ h => nomatch h), (fun _ h => nomatch h), trivial⟩
theorem Hold.startT (M : Nat → Prop) (w : World) (T : Nat) (h : ∀ b, M b → b < w.heap.size) (ht : Tp w T) (hM : ∀ b, M b → T ≤ b) : Hold M (some T) w w [.tp T] := by
  refine ⟨World.grownBy.refl _ _, h, fun k hm => ?_, fun k hm b hf => ?_, ⟨fun _ _ k hk => by simp at hk, trivial⟩⟩
  · simp only [List.mem_singleton] at hm; subst hm
    refine ⟨ht, fun b hb => ?_⟩
    rcases hb with hb | ⟨k, hm, hf⟩
    · exact hM b hb
    · simp only [List.mem_singleton] at hm; subst hm; injection hf with hf; omega
  · simp only [List.mem_singleton] at hm; subst hm; injection hf with hf; subst hf; exact ⟨.inr ⟨rfl, rfl⟩, ht.lt⟩

theorem Hold.mutLt (h : Hold M row w0 w L) : ∀ b, Mut M L b → b < w.heap.size := fun b hb => by
  rcases hb with hb | ⟨k, hk, hf⟩
  · exact Nat.lt_of_lt_of_le (h.low b hb) h.grow.size
  · exact (h.fresh k hk b hf).2
theorem Hold.below (h : Hold M none w0 w L) : Below w0.heap.size w0 w := ⟨h.grow.os, h.grow.tape, h.grow.output, h.grow.size, fun k hk => h.grow.block k hk (by simp)⟩
theorem mut_cons {k : Hp} {b : Nat} : Mut M (k :: L) b ↔ (k.foot = some b ∨ Mut M L b) := by
  unfold Mut; simp only [List.mem_cons, exists_eq_or_imp]
  constructor
  · rintro (h | h | h)
    · exact .inr (.inl h)
    · exact .inl h
    · exact .inr (.inr h)
  · rintro (h | h | h)
    · exact .inr (.inl h)
    · exact .inl h
    · exact .inr (.inr h)

/-- An item's truth over a step that leaves all that may not be written, and the item's own block. -/
theorem Hp.sat_step {B : Nat} {M M' : Nat → Prop} {k : Hp} (h : k.sat B w M) (hs : w.heap.size ≤ w'.heap.size) (hb : ∀ b, b < w.heap.size → ¬ M b → w'.heap[b]? = w.heap[b]?)
    (hM : ∀ b, b < w.heap.size → M' b → M b) (hT : ∀ b, k.foot = some b → w'.heap[b]? = w.heap[b]?) (hlow : ∀ T, k = .tp T → (∀ b, b < T → w'.heap[b]? = w.heap[b]?)) : k.sat B w' M' := by
  cases k with
  | blk g t cs => exact (hT g rfl).trans h
  | own e size v n xs =>
    refine ⟨h.1, ?_⟩
    rcases h.2 with hn | ⟨g, cap, cur, rfl, hb', hgg, rest⟩
    · exact .inl hn
    · exact .inr ⟨g, cap, cur, rfl, hb', (hT g rfl).trans hgg, rest⟩
  | tp T =>
    refine ⟨h.1.keep fun b hbT => ?_, fun b hb' => ?_⟩
    · rcases Nat.lt_or_ge b T with hlt | hge
      · exact hlow T rfl b hlt
      · obtain rfl : b = T := by omega
        exact hT b rfl
    · rcases Nat.lt_or_ge b w.heap.size with hlt | hge
      · exact h.2 b (hM b hlt hb')
      · have := h.1.lt; omega
  | ro S => exact h.step hs hb hM
  | cst g t cs => exact Ro.step h hs hb hM
  | ob g F => exact fun w2 h2 => h w2 (h2.trans (hT g rfl))

/-- The step of a call that leaves old memory (and the caller's blocks). -/
theorem Hold.call (h : Hold M row w0 w L) (hb : Below w.heap.size w w') : Hold M row w0 w' L :=
  ⟨only_below h.grow hb, h.low,
   fun k hk => Hp.sat_step (k := k) (h.sat k hk) hb.size (fun b hl _ => hb.block b hl) (fun _ _ hm => hm) (fun b hf => hb.block b (h.fresh k hk b hf).2)
     (fun T hT b hlt => by
        have := h.fresh k hk T (by subst hT; rfl)
        exact hb.block b (by omega)),
   fun k hk b hf => ⟨(h.fresh k hk b hf).1, Nat.lt_of_lt_of_le (h.fresh k hk b hf).2 hb.size⟩, h.sep⟩

theorem Hold.drew (h : Hold M row w0 w L) : Hold M row w0 w.drew L :=
  ⟨only_drew h.grow, h.low, fun k hk => Hp.sat_step (k := k) (h.sat k hk) (Nat.le_refl _) (fun _ _ _ => rfl) (fun _ _ hm => hm) (fun _ _ => rfl) (fun _ _ _ _ => rfl), h.fresh, h.sep⟩
theorem Hold.drewN (h : Hold M row w0 w L) (n : Nat) : Hold M row w0 (w.drewN n) L :=
  ⟨only_drewN h.grow n, h.low, fun k hk => Hp.sat_step (k := k) (h.sat k hk) (Nat.le_refl _) (fun _ _ _ => rfl) (fun _ _ hm => hm) (fun _ _ => rfl) (fun _ _ _ _ => rfl), h.fresh, h.sep⟩

/-- A new block. -/
theorem Hold.alloc (h : Hold M row w0 w L) (cs : Array Value) (t : TypeId) : Hold M row w0 (w.alloc (.cells cs t)) (.blk w.heap.size t cs :: L) := by
  have hsz : (w.alloc (.cells cs t)).heap.size = w.heap.size + 1 := by simp
  have hMM : ∀ b, b < w.heap.size → Mut M (.blk w.heap.size t cs :: L) b → Mut M L b := fun b hl hm => by
    rcases mut_cons.1 hm with hf | hm
    · injection hf with hf; omega
    · exact hm
  refine ⟨only_alloc h.grow _, h.low, fun k hk => ?_, fun k hk b hf => ?_, ⟨fun b hf k hk he => ?_, h.sep⟩⟩
  · rcases List.mem_cons.1 hk with rfl | hk
    · exact heap_alloc_new w _
    · exact Hp.sat_step (k := k) (h.sat k hk) (by omega) (fun b hl _ => Below.heap_alloc w _ b hl) hMM (fun b hf => Below.heap_alloc w _ b (h.fresh k hk b hf).2)
        (fun T hT b hlt => by
          have := h.fresh k hk T (by subst hT; rfl)
          exact Below.heap_alloc w _ b (by omega))
  · rcases List.mem_cons.1 hk with rfl | hk
    · injection hf with hf; subst hf; exact ⟨.inl h.grow.size, by omega⟩
    · exact ⟨(h.fresh k hk b hf).1, by have := (h.fresh k hk b hf).2; omega⟩
  · injection hf with hf; subst hf
    have := (h.fresh k hk _ he).2; omega

/-- An item that may be written is replaced by one of the same block, or of a new one; a step of the world that turns nothing but that block. -/
theorem Apart.mem (h : Apart L) {i j : Nat} {a b : Hp} (hi : L[i]? = some a) (hj : L[j]? = some b) (hij : i ≠ j) {x : Nat} (ha : a.foot = some x) : b.foot ≠ some x := by
  induction L generalizing i j with
  | nil => cases hi
  | cons c L ih =>
    obtain ⟨h1, h2⟩ := h
    cases i with
    | zero =>
      cases j with
      | zero => exact absurd rfl hij
      | succ j => simp only [List.getElem?_cons_zero, Option.some.injEq] at hi; subst hi; exact h1 x ha b (List.mem_of_getElem? (by simpa using hj))
    | succ i =>
      cases j with
      | zero =>
        simp only [List.getElem?_cons_zero, Option.some.injEq] at hj; subst hj
        intro hb
        exact h1 x hb a (List.mem_of_getElem? (by simpa using hi)) ha
      | succ j => exact ih h2 (by simpa using hi) (by simpa using hj) (fun e => hij (by omega))
theorem apart_of (h : ∀ (i j : Nat) (a b : Hp), L[i]? = some a → L[j]? = some b → i ≠ j → ∀ x, a.foot = some x → b.foot ≠ some x) : Apart L := by
  induction L with
  | nil => trivial
  | cons c L ih =>
    refine ⟨fun x hx k hk => ?_, ih fun i j a b hi hj hij => h (i + 1) (j + 1) a b (by simpa using hi) (by simpa using hj) (by omega)⟩
    obtain ⟨n, hn⟩ := List.getElem?_of_mem hk
    exact h 0 (n + 1) c k rfl (by simpa using hn) (by omega) x hx

theorem set_get {k : Hp} {i j : Nat} {a : Hp} (h : (L.set i k)[j]? = some a) : (i = j ∧ a = k) ∨ (i ≠ j ∧ L[j]? = some a) := by
  by_cases e : i = j
  · subst e
    left
    rw [List.getElem?_set] at h
    simp only [if_true] at h
    split at h
    · injection h with h; exact ⟨rfl, h.symm⟩
    · cases h
  · right
    rw [List.getElem?_set, if_neg e] at h
    exact ⟨e, h⟩

theorem Hold.turn (h : Hold M row w0 w L) (i : Nat) {k k' : Hp} (hi : L[i]? = some k) (hsz : w.heap.size ≤ w'.heap.size) (hos : w'.os = w.os ∧ w'.tape = w.tape ∧ w'.output = w.output)
    (hb : ∀ b, b < w.heap.size → k.foot ≠ some b → w'.heap[b]? = w.heap[b]?)
    (hf : ∀ b, k'.foot = some b → (k.foot = some b ∨ w.heap.size ≤ b) ∧ b < w'.heap.size)
    (hs : k'.sat w0.heap.size w' (Mut M (L.set i k'))) (hnt : ∀ T, k = .tp T → k' = .tp T) : Hold M row w0 w' (L.set i k') := by
  have hkm : k ∈ L := List.mem_of_getElem? hi
  have hMM : ∀ b, b < w.heap.size → Mut M (L.set i k') b → Mut M L b := fun b hl hm => by
    rcases hm with hm | ⟨a, ha, hfa⟩
    · exact .inl hm
    · obtain ⟨j, hj⟩ := List.getElem?_of_mem ha
      rcases set_get hj with ⟨rfl, rfl⟩ | ⟨_, hj⟩
      · rcases (hf b hfa).1 with h1 | h1
        · exact .inr ⟨k, hkm, h1⟩
        · omega
      · exact .inr ⟨a, List.mem_of_getElem? hj, hfa⟩
  have hkM : ∀ b, k.foot = some b → Mut M L b := fun b hb => .inr ⟨k, hkm, hb⟩
  refine ⟨⟨hos.1.trans h.grow.os, hos.2.1.trans h.grow.tape, hos.2.2.trans h.grow.output, Nat.le_trans h.grow.size hsz, fun b hl hne => ?_⟩, h.low, fun a ha => ?_, fun a ha b hfa => ?_, ?_⟩
  · refine (hb b (Nat.lt_of_lt_of_le hl h.grow.size) fun hk => ?_).trans (h.grow.block b hl hne)
    rcases (h.fresh k hkm b hk).1 with h1 | h1
    · omega
    · exact hne h1.1.symm
  · obtain ⟨j, hj⟩ := List.getElem?_of_mem ha
    rcases set_get hj with ⟨rfl, rfl⟩ | ⟨hij, hj⟩
    · exact hs
    · have ham := List.mem_of_getElem? hj
      refine Hp.sat_step (k := a) (h.sat a ham) hsz (fun b hl hn => hb b hl fun hk => hn (hkM b hk)) hMM (fun b hfb => hb b (h.fresh a ham b hfb).2 (h.sep.mem hj hi (fun e => hij e.symm) hfb)) (fun T hT b hlt => ?_)
      subst hT
      have h1 := (h.fresh _ ham T rfl).2
      refine hb b (by omega) fun hk => ?_
      have h2 := (h.sat _ ham).2 b (hkM b hk)
      omega
  · obtain ⟨j, hj⟩ := List.getElem?_of_mem ha
    rcases set_get hj with ⟨rfl, rfl⟩ | ⟨hij, hj⟩
    · obtain ⟨h1, h2⟩ := hf b hfa
      rcases h1 with h1 | h1
      · refine ⟨?_, h2⟩
        rcases (h.fresh k hkm b h1).1 with h3 | ⟨h3, h4⟩
        · exact .inl h3
        · exact .inr ⟨h3, hnt b h4⟩
      · exact ⟨.inl (Nat.le_trans h.grow.size h1), h2⟩
    · have ham := List.mem_of_getElem? hj
      exact ⟨(h.fresh a ham b hfa).1, Nat.lt_of_lt_of_le (h.fresh a ham b hfa).2 hsz⟩
  · refine apart_of fun x y a b hx hy hxy g hg => ?_
    rcases set_get hx with ⟨rfl, rfl⟩ | ⟨hix, hx'⟩ <;> rcases set_get hy with ⟨rfl, rfl⟩ | ⟨hiy, hy'⟩
    · exact absurd rfl hxy
    · rcases (hf g hg).1 with h1 | h1
      · exact h.sep.mem hi hy' hxy h1
      · intro he; have := (h.fresh b (List.mem_of_getElem? hy') g he).2; omega
    · intro he
      rcases (hf g he).1 with h1 | h1
      · exact h.sep.mem hx' hi hxy hg h1
      · have := (h.fresh a (List.mem_of_getElem? hx') g hg).2; omega
    · exact h.sep.mem hx' hy' hxy hg

/-- A store into a block that is known whole. -/
theorem Hold.store (h : Hold M row w0 w L) (i : Nat) {g : Nat} {t : TypeId} {cs : Array Value} (hi : L[i]? = some (.blk g t cs)) (j : Nat) (u : Value) :
    Hold M row w0 (w.setCell ⟨g, j, none⟩ u) (L.set i (.blk g t (cs.setIfInBounds j u))) := by
  have hkm := List.mem_of_getElem? hi
  refine h.turn i hi (by simp [World.setCell]) ⟨rfl, rfl, rfl⟩ (fun b _ hne => Below.heap_setCell w _ u b fun e => hne (by rw [e]; rfl)) (fun b hf => ?_) (blk_set (h.sat _ hkm) j u) (fun T hT => by cases hT)
  have : some g = some b := hf
  injection this with this
  subst this
  exact ⟨.inl rfl, by have := (h.fresh _ hkm g rfl).2; simpa [World.setCell] using this⟩

/-- A store into an own row (below its length). -/
theorem Hold.put_ (h : Hold M row w0 w L) (i : Nat) {e : TypeId} {size n cap g : Nat} {xs : List Value} (hi : L[i]? = some (.own e size (.slice (some ⟨g, 0, none⟩) n cap) n xs)) (j : Nat) (u : Value) :
    Hold M row w0 (w.setCell ⟨g, j, none⟩ u) (L.set i (.own e size (.slice (some ⟨g, 0, none⟩) n cap) n (xs.set j u))) := by
  have hkm := List.mem_of_getElem? hi
  have hs := World.ownsRow.stored (h.sat _ hkm) j u
  refine h.turn i hi (by simp [World.setCell]) ⟨rfl, rfl, rfl⟩ (fun b _ hne => Below.heap_setCell w _ u b fun e => hne (by rw [e]; rfl)) (fun b hf => ?_) hs.1 (fun T hT => by cases hT)
  have : some g = some b := hf
  injection this with this
  subst this
  exact ⟨.inl rfl, by have := (h.fresh _ hkm g rfl).2; simpa [World.setCell] using this⟩

/-- An append to an own row. -/
theorem Hold.append (h : Hold M row w0 w L) (i : Nat) {e : TypeId} {size n n' g cap : Nat} {v : Value} {xs ys : List Value} (hi : L[i]? = some (.own e size v n xs))
    (ho : w'.ownsRow w0.heap.size e size (.slice (some ⟨g, 0, none⟩) n' cap) n' ys) (hg : w.grownBy w' v.ownBlock) (hd : v.ownBlock = some g ∨ w.heap.size ≤ g) (hl : g < w'.heap.size) :
    Hold M row w0 w' (L.set i (.own e size (.slice (some ⟨g, 0, none⟩) n' cap) n' ys)) := by
  refine h.turn i hi hg.size ⟨hg.os, hg.tape, hg.output⟩ (fun b hl hne => hg.block b hl fun e => hne e.symm) (fun b hf => ?_) ho (fun T hT => by cases hT)
  have : some g = some b := hf
  injection this with this
  subst this
  exact ⟨hd, hl⟩

/-- A call that turns the tape. -/
theorem Hold.callT (h : Hold M row w0 w L) (i : Nat) {T : Nat} (hi : L[i]? = some (.tp T)) (hg : w.grownBy w' (some T)) (ht : Tp w' T) : Hold M row w0 w' L := by
  have hkm := List.mem_of_getElem? hi
  have hlt := (h.fresh _ hkm T rfl).2
  have := h.turn (k' := .tp T) i hi hg.size ⟨hg.os, hg.tape, hg.output⟩ (fun b hl hne => hg.block b hl fun e => hne e.symm) (fun b hf => ⟨.inl hf, by
    injection hf with hf; subst hf; exact Nat.lt_of_lt_of_le hlt hg.size⟩) ⟨ht, fun b hb => by
      have hb' : Mut M L b := by
        rcases hb with hb | ⟨a, ha, hfa⟩
        · exact .inl hb
        · obtain ⟨j, hj⟩ := List.getElem?_of_mem ha
          rcases set_get hj with ⟨rfl, rfl⟩ | ⟨_, hj⟩
          · exact .inr ⟨_, hkm, hfa⟩
          · exact .inr ⟨a, List.mem_of_getElem? hj, hfa⟩
      exact (h.sat _ hkm).2 b hb'⟩ (fun T' hT' => by injection hT' with hT'; rw [hT'])
  have e : L.set i (.tp T) = L := by
    apply List.ext_getElem?
    intro j
    rw [List.getElem?_set]
    split
    · subst i; split
      · exact hi.symm
      · rw [List.getElem?_eq_none (by omega)]
    · rfl
  rwa [e] at this

/-- More is known. -/
theorem Hold.add (h : Hold M row w0 w L) {S : World → Prop} (hr : Ro w (Mut M L) S) : Hold M row w0 w (.ro S :: L) := by
  have e : ∀ b, Mut M (.ro S :: L) b → Mut M L b := fun b hb => by
    rcases mut_cons.1 hb with hf | hm
    · cases hf
    · exact hm
  refine ⟨h.grow, h.low, fun k hk => ?_, fun k hk b hf => ?_, ⟨(fun b hf => nomatch hf), h.sep⟩⟩
  · rcases List.mem_cons.1 hk with rfl | hk
    · exact hr.less e
    · exact Hp.sat_step (k := k) (h.sat k hk) (Nat.le_refl _) (fun _ _ _ => rfl) (fun b _ hb => e b hb) (fun _ _ => rfl) (fun _ _ _ _ => rfl)
  · rcases List.mem_cons.1 hk with rfl | hk
    · cases hf
    · exact h.fresh k hk b hf

/-- A row of the call's own, empty. -/
theorem Hold.nil (h : Hold M row w0 w L) (e : TypeId) (size : Nat) : Hold M row w0 w (.own e size (.slice none 0 0) 0 [] :: L) := by
  have ee : ∀ b, Mut M (.own e size (.slice none 0 0) 0 [] :: L) b → Mut M L b := fun b hb => by
    rcases mut_cons.1 hb with hf | hm
    · cases hf
    · exact hm
  refine ⟨h.grow, h.low, fun k hk => ?_, fun k hk b hf => ?_, ⟨(fun b hf => nomatch hf), h.sep⟩⟩
  · rcases List.mem_cons.1 hk with rfl | hk
    · exact World.ownsRow_nil _ _ _ _
    · exact Hp.sat_step (k := k) (h.sat k hk) (Nat.le_refl _) (fun _ _ _ => rfl) (fun b _ hb => ee b hb) (fun _ _ => rfl) (fun _ _ _ _ => rfl)
  · rcases List.mem_cons.1 hk with rfl | hk
    · cases hf
    · exact h.fresh k hk b hf

/-- A new block taken for an own row: a literal, or what make laid. -/
theorem Hold.alloc_own (h : Hold M row w0 w L) (cs : Array Value) (t : TypeId) (size n : Nat) (hm : n ≤ maxLen) (hs : cs.size = n * size) :
    Hold M row w0 (w.alloc (.cells cs t)) (.own t size (.slice (some ⟨w.heap.size, 0, none⟩) n n) n cs.toList :: L) := by
  have h1 := h.alloc cs t
  exact h1.turn (k' := .own t size (.slice (some ⟨w.heap.size, 0, none⟩) n n) n cs.toList) 0 rfl (Nat.le_refl _) ⟨rfl, rfl, rfl⟩ (fun _ _ _ => rfl) (fun b hf => ⟨.inl hf, (h1.fresh _ (List.mem_cons_self ..) b hf).2⟩)
    (World.ownsRow_lit w cs n h.grow.size hm hs) (fun T hT => by cases hT)

/-- Less is known. -/
theorem Hold.drop (h : Hold M row w0 w L) (hL : List.Sublist L' L) : Hold M row w0 w L' := by
  have e : ∀ b, Mut M L' b → Mut M L b := fun b hb => by
    rcases hb with hb | ⟨k, hk, hf⟩
    · exact .inl hb
    · exact .inr ⟨k, hL.subset hk, hf⟩
  refine ⟨h.grow, h.low, fun k hk => Hp.sat_step (k := k) (h.sat k (hL.subset hk)) (Nat.le_refl _) (fun _ _ _ => rfl) (fun b _ hb => e b hb) (fun _ _ => rfl) (fun _ _ _ _ => rfl), fun k hk => h.fresh k (hL.subset hk), ?_⟩
  have h1 := h.sep
  clear h e
  induction hL with
  | slnil => trivial
  | cons _ _ ih => exact ih h1.2
  | cons_cons a hs ih => exact ⟨fun b hb k hk => h1.1 b hb k (hs.subset hk), ih h1.2⟩

/-- An item that may be written is laid down for good: whatever its block says. -/
theorem Hold.sealTo (h : Hold M row w0 w L) (i : Nat) {k k' : Hp} (hi : L[i]? = some k) (hk : ∀ T, k ≠ .tp T) (hk' : k'.foot = none) {S : World → Prop}
    (hS : ∀ w2 : World, k.sat w0.heap.size w (Mut M L) → (∀ b, k.foot = some b → w2.heap[b]? = w.heap[b]?) → S w2) (hs : Ro w (Mut M (L.set i k')) S → k'.sat w0.heap.size w (Mut M (L.set i k'))) : Hold M row w0 w (L.set i k') := by
  have hkm := List.mem_of_getElem? hi
  refine h.turn i hi (Nat.le_refl _) ⟨rfl, rfl, rfl⟩ (fun _ _ _ => rfl) (fun b hf => by rw [hk'] at hf; cases hf) (hs ?_) (fun T hT => absurd hT (hk T))
  intro w2 h1 h2
  refine hS w2 (h.sat k hkm) fun b hf => h2 b (h.fresh k hkm b hf).2 ?_
  rintro (hm | ⟨a, ha, hfa⟩)
  · rcases (h.fresh k hkm b hf).1 with h3 | ⟨h3, h4⟩
    · have := h.low b hm; omega
    · exact absurd h4 (hk b)
  · obtain ⟨j, hj⟩ := List.getElem?_of_mem ha
    rcases set_get hj with ⟨rfl, rfl⟩ | ⟨hij, hj⟩
    · rw [hk'] at hfa; cases hfa
    · exact h.sep.mem hi hj hij hf hfa
theorem Hold.seal (h : Hold M row w0 w L) (i : Nat) {k : Hp} (hi : L[i]? = some k) (hk : ∀ T, k ≠ .tp T) {S : World → Prop}
    (hS : ∀ w2 : World, k.sat w0.heap.size w (Mut M L) → (∀ b, k.foot = some b → w2.heap[b]? = w.heap[b]?) → S w2) : Hold M row w0 w (L.set i (.ro S)) :=
  h.sealTo i hi hk rfl hS id
/-- A block that will not be written again. -/
theorem Hold.fix_ (h : Hold M row w0 w L) (i : Nat) {g : Nat} {t : TypeId} {cs : Array Value} (hi : L[i]? = some (.blk g t cs)) : Hold M row w0 w (L.set i (.cst g t cs)) :=
  h.sealTo i hi (fun T e => nomatch e) rfl (S := fun w => w.heap[g]? = some (.cells cs t (0, 0))) (fun w2 h1 h2 => (h2 g rfl).trans h1) id
/-- A new block that will not be written again. -/
theorem Hold.alloc_cst (h : Hold M row w0 w L) (cs : Array Value) (t : TypeId) : Hold M row w0 (w.alloc (.cells cs t)) (.cst w.heap.size t cs :: L) := (h.alloc cs t).fix_ 0 rfl
/-- A new tape, where nothing that may be written is known. -/
theorem Hold.newTape (h : Hold M row w0 w L) {T : Nat} (hb : Below w.heap.size w w') (ht : Tp w' T) (hT : w.heap.size ≤ T) (hm : ∀ b, ¬ Mut M L b) : Hold M row w0 w' (.tp T :: L) := by
  have h1 := h.call hb
  have hM : ∀ b, Mut M (.tp T :: L) b → b = T := fun b hb => by
    rcases mut_cons.1 hb with hf | hm'
    · injection hf with hf; exact hf.symm
    · exact absurd hm' (hm b)
  have hfo : ∀ k ∈ L, ∀ b, k.foot ≠ some b := fun k hk b hf => hm b (.inr ⟨k, hk, hf⟩)
  refine ⟨h1.grow, h.low, fun k hk => ?_, fun k hk b hf => ?_, ⟨fun b _ k hk => hfo k hk b, h.sep⟩⟩
  · rcases List.mem_cons.1 hk with rfl | hk
    · exact ⟨ht, fun b hb => by rw [hM b hb]; exact Nat.le_refl _⟩
    · exact Hp.sat_step (k := k) (h.sat k hk) hb.size (fun b hl _ => hb.block b hl) (fun b hl hm' => by have := hM b hm'; omega) (fun b hf => absurd hf (hfo k hk b)) (fun T' hT' => absurd (by rw [hT']; rfl) (hfo k hk T'))
  · rcases List.mem_cons.1 hk with rfl | hk
    · injection hf with hf; subst hf; exact ⟨.inl (Nat.le_trans h.grow.size hT), ht.lt⟩
    · exact absurd hf (hfo k hk b)
end
/-- The cells of a block, one by one: what the walk reads. -/
def cellsF (w : World) (g : Nat) : Nat → List Value → Prop
  | _, [] => True
  | i, x :: r => w.cell? ⟨g, i, none⟩ = some x ∧ w.frozen? ⟨g, i, none⟩ = false ∧ cellsF w g (i + 1) r
def factsL (w : World) : List Hp → Prop
  | [] => True
  | .blk g t cs :: L => g < w.heap.size ∧ cellsF w g 0 cs.toList ∧ factsL w L
  | .own _ _ _ _ _ :: L => factsL w L
  | .tp _ :: L => factsL w L
  | .ro _ :: L => factsL w L
  | .cst g t cs :: L => g < w.heap.size ∧ cellsF w g 0 cs.toList ∧ factsL w L
  | .ob _ _ :: L => factsL w L
theorem cellsF_of {w : World} {g : Nat} {t : TypeId} {cs : Array Value} (h : w.heap[g]? = some (.cells cs t (0, 0))) : ∀ (l : List Value) (i : Nat), (∀ j, l[j]? = cs[i + j]?) → cellsF w g i l
  | [], _, _ => trivial
  | x :: r, i, hl => by
    refine ⟨?_, frozen_blk h i, cellsF_of h r (i + 1) fun j => ?_⟩
    · rw [cell_of_row w g i cs t (0, 0) h]; exact (hl 0).symm
    · have := hl (j + 1); rw [show i + 1 + j = i + (j + 1) from by omega]; simpa using this
theorem factsL_of {w : World} {B : Nat} {M : Nat → Prop} : ∀ {L : List Hp}, (∀ h ∈ L, h.sat B w M) → (∀ h ∈ L, ∀ b, h.foot = some b → b < w.heap.size) → factsL w L
  | [], _, _ => trivial
  | .blk g t cs :: L, h, k => ⟨k _ (List.mem_cons_self ..) g rfl, cellsF_of (h _ (List.mem_cons_self ..)) cs.toList 0 (by simp), factsL_of (fun a ha => h a (List.mem_cons_of_mem _ ha)) (fun a ha => k a (List.mem_cons_of_mem _ ha))⟩
  | .own .. :: L, h, k => factsL_of (L := L) (fun a ha => h a (List.mem_cons_of_mem _ ha)) (fun a ha => k a (List.mem_cons_of_mem _ ha))
  | .tp _ :: L, h, k => factsL_of (L := L) (fun a ha => h a (List.mem_cons_of_mem _ ha)) (fun a ha => k a (List.mem_cons_of_mem _ ha))
  | .ro _ :: L, h, k => factsL_of (L := L) (fun a ha => h a (List.mem_cons_of_mem _ ha)) (fun a ha => k a (List.mem_cons_of_mem _ ha))
  | .ob _ _ :: L, h, k => factsL_of (L := L) (fun a ha => h a (List.mem_cons_of_mem _ ha)) (fun a ha => k a (List.mem_cons_of_mem _ ha))
  | .cst g t cs :: L, h, k => by
    have h1 : w.heap[g]? = some (.cells cs t (0, 0)) := Ro.now (show Ro w M (fun w => w.heap[g]? = some (.cells cs t (0, 0))) from h _ (List.mem_cons_self ..))
    refine ⟨?_, cellsF_of h1 cs.toList 0 (by simp), factsL_of (fun a ha => h a (List.mem_cons_of_mem _ ha)) (fun a ha => k a (List.mem_cons_of_mem _ ha))⟩
    rcases Nat.lt_or_ge g w.heap.size with hlt | hge
    · exact hlt
    · rw [Array.getElem?_eq_none hge] at h1; cases h1
theorem Hold.facts {M : Nat → Prop} {row : Option Nat} {w0 w : World} {L : List Hp} (h : Hold M row w0 w L) : factsL w L := factsL_of h.sat fun a ha b hb => (h.fresh a ha b hb).2
/-- The blocks differ. -/
def neF (g : Nat) : List Hp → Prop
  | [] => True
  | .blk g' _ _ :: L => ¬ g = g' ∧ ¬ g' = g ∧ neF g L
  | .own _ _ _ _ _ :: L => neF g L
  | .tp T :: L => ¬ g = T ∧ ¬ T = g ∧ neF g L
  | .ro _ :: L => neF g L
  | .cst _ _ _ :: L => neF g L
  | .ob g' _ :: L => ¬ g = g' ∧ ¬ g' = g ∧ neF g L
def nesL : List Hp → Prop
  | [] => True
  | .blk g _ _ :: L => neF g L ∧ nesL L
  | .own _ _ _ _ _ :: L => nesL L
  | .tp T :: L => neF T L ∧ nesL L
  | .ro _ :: L => nesL L
  | .cst _ _ _ :: L => nesL L
  | .ob g _ :: L => neF g L ∧ nesL L
theorem neF_of {g : Nat} : ∀ {L : List Hp}, (∀ k ∈ L, k.foot ≠ some g) → neF g L
  | [], _ => trivial
  | .blk g' _ _ :: L, h => ⟨fun e => h _ (List.mem_cons_self ..) (by rw [e]; rfl), fun e => h _ (List.mem_cons_self ..) (by rw [← e]; rfl), neF_of fun k hk => h k (List.mem_cons_of_mem _ hk)⟩
  | .own .. :: L, h => neF_of (L := L) fun k hk => h k (List.mem_cons_of_mem _ hk)
  | .tp T :: L, h => ⟨fun e => h _ (List.mem_cons_self ..) (by rw [e]; rfl), fun e => h _ (List.mem_cons_self ..) (by rw [← e]; rfl), neF_of fun k hk => h k (List.mem_cons_of_mem _ hk)⟩
  | .ro _ :: L, h => neF_of (L := L) fun k hk => h k (List.mem_cons_of_mem _ hk)
  | .cst .. :: L, h => neF_of (L := L) fun k hk => h k (List.mem_cons_of_mem _ hk)
  | .ob g' _ :: L, h => ⟨fun e => h _ (List.mem_cons_self ..) (by rw [e]; rfl), fun e => h _ (List.mem_cons_self ..) (by rw [← e]; rfl), neF_of fun k hk => h k (List.mem_cons_of_mem _ hk)⟩
theorem nesL_of : ∀ {L : List Hp}, Apart L → nesL L
  | [], _ => trivial
  | .blk g _ _ :: L, h => ⟨neF_of (h.1 g rfl), nesL_of h.2⟩
  | .own .. :: L, h => nesL_of (L := L) h.2
  | .tp T :: L, h => ⟨neF_of (h.1 T rfl), nesL_of h.2⟩
  | .ro _ :: L, h => nesL_of (L := L) h.2
  | .cst .. :: L, h => nesL_of (L := L) h.2
  | .ob g _ :: L, h => ⟨neF_of (h.1 g rfl), nesL_of h.2⟩
theorem Hold.nes {M : Nat → Prop} {row : Option Nat} {w0 w : World} {L : List Hp} (h : Hold M row w0 w L) : nesL L := nesL_of h.sep
/-- an item by its place -/
theorem Hold.get {M : Nat → Prop} {row : Option Nat} {w0 w : World} {L : List Hp} (h : Hold M row w0 w L) (i : Nat) {k : Hp} (hi : L[i]? = some k) : k.sat w0.heap.size w (Mut M L) := h.sat k (List.mem_of_getElem? hi)
theorem Hold.ro {M : Nat → Prop} {row : Option Nat} {w0 w : World} {L : List Hp} (h : Hold M row w0 w L) (i : Nat) {S : World → Prop} (hi : L[i]? = some (.ro S)) : Ro w (Mut M L) S := h.get i hi
theorem Hold.cst_ {M : Nat → Prop} {row : Option Nat} {w0 w : World} {L : List Hp} (h : Hold M row w0 w L) (i : Nat) {g : Nat} {t : TypeId} {cs : Array Value} (hi : L[i]? = some (.cst g t cs)) : Blk w g t cs := Ro.now (S := fun w => w.heap[g]? = some (.cells cs t (0, 0))) (h.get i hi)
theorem Hold.blk_ {M : Nat → Prop} {row : Option Nat} {w0 w : World} {L : List Hp} (h : Hold M row w0 w L) (i : Nat) {g : Nat} {t : TypeId} {cs : Array Value} (hi : L[i]? = some (.blk g t cs)) : Blk w g t cs := h.get i hi
theorem Hold.tp_ {M : Nat → Prop} {row : Option Nat} {w0 w : World} {L : List Hp} (h : Hold M row w0 w L) (i : Nat) {T : Nat} (hi : L[i]? = some (.tp T)) : Tp w T := (h.get i hi).1
theorem Hold.roOut {M : Nat → Prop} {row : Option Nat} {w0 w : World} {L : List Hp} (h : Hold M row w0 w L) (i : Nat) {S : World → Prop} (hi : L[i]? = some (.ro S)) : Ro w M S := (h.ro i hi).less fun b hb => .inl hb
/-- A new object of the call's own, of which F is known as long as it stands. -/
theorem Hold.allocOb {M : Nat → Prop} {row : Option Nat} {w0 w : World} {L : List Hp} (h : Hold M row w0 w L) (o : Obj) (F : World → Prop) (hF : ∀ w' : World, w'.heap[w.heap.size]? = some o → F w') : Hold M row w0 (w.alloc o) (.ob w.heap.size F :: L) := by
  have hsz : (w.alloc o).heap.size = w.heap.size + 1 := by simp
  have hnew : (w.alloc o).heap[w.heap.size]? = some o := heap_alloc_new w _
  have hMM : ∀ b, b < w.heap.size → Mut M (.ob w.heap.size F :: L) b → Mut M L b := fun b hl hm => by
    rcases mut_cons.1 hm with hf | hm
    · injection hf with hf; omega
    · exact hm
  refine ⟨only_alloc h.grow _, h.low, fun k hk => ?_, fun k hk b hf => ?_, ⟨fun b hf k hk he => ?_, h.sep⟩⟩
  · rcases List.mem_cons.1 hk with rfl | hk
    · exact fun w' hw' => hF w' (hw'.trans hnew)
    · exact Hp.sat_step (k := k) (h.sat k hk) (by omega) (fun b hl _ => Below.heap_alloc w _ b hl) hMM (fun b hf => Below.heap_alloc w _ b (h.fresh k hk b hf).2)
        (fun T hT b hlt => by
          have := h.fresh k hk T (by subst hT; rfl)
          exact Below.heap_alloc w _ b (by omega))
  · rcases List.mem_cons.1 hk with rfl | hk
    · injection hf with hf; subst hf; exact ⟨.inl h.grow.size, by omega⟩
    · exact ⟨(h.fresh k hk b hf).1, by have := (h.fresh k hk b hf).2; omega⟩
  · injection hf with hf; subst hf
    have := (h.fresh k hk _ he).2; omega
/-- The object is turned. -/
theorem Hold.turnOb {M : Nat → Prop} {row : Option Nat} {w0 w w' : World} {L : List Hp} (h : Hold M row w0 w L) (i : Nat) {g : Nat} {F F' : World → Prop} (hi : L[i]? = some (.ob g F)) (hg : w.grownBy w' (some g)) (hF : ∀ w2 : World, w2.heap[g]? = w'.heap[g]? → F' w2) : Hold M row w0 w' (L.set i (.ob g F')) := by
  have hkm := List.mem_of_getElem? hi
  refine h.turn i hi hg.size ⟨hg.os, hg.tape, hg.output⟩ (fun b hl hne => hg.block b hl fun e => hne e.symm) (fun b hf => ⟨.inl hf, by
    injection hf with hf; subst hf; exact Nat.lt_of_lt_of_le (h.fresh _ hkm g rfl).2 hg.size⟩) hF (fun T hT => by cases hT)
theorem Hold.ob_ {M : Nat → Prop} {row : Option Nat} {w0 w : World} {L : List Hp} (h : Hold M row w0 w L) (i : Nat) {g : Nat} {F : World → Prop} (hi : L[i]? = some (.ob g F)) : F w := h.get i hi w rfl
/-- no block of a caller's that may be written -/
def None_ (b : Nat) : Prop := False
theorem Hold.begin_ (w : World) : Hold None_ none w w [] := Hold.start None_ w (fun b hb => hb.elim)
end Go.Proofs.YtedogodccblfeaaGreatDoor

namespace Go.Proofs.YtedogodccblfeaaGreatDoor
open Go.RowKit
set_option linter.unusedVariables false

theorem flat_get {α β : Type} (f : α → List β) (n : Nat) (hf : ∀ a, (f a).length = n) : ∀ (l : List α) (k j : Nat) (a : α), j < n → l[k]? = some a → (l.flatMap f)[k * n + j]? = (f a)[j]?
  | [], k, j, a, _, h => by simp at h
  | x :: l, 0, j, a, hj, h => by
    simp only [List.getElem?_cons_zero, Option.some.injEq] at h
    subst h
    simp only [List.flatMap_cons, Nat.zero_mul, Nat.zero_add]
    rw [List.getElem?_append_left (by rw [hf]; exact hj)]
  | x :: l, k + 1, j, a, hj, h => by
    simp only [List.getElem?_cons_succ] at h
    simp only [List.flatMap_cons]
    rw [List.getElem?_append_right (by rw [hf, Nat.succ_mul]; omega), hf, show (k + 1) * n + j - n = k * n + j by rw [Nat.succ_mul]; omega]
    exact flat_get f n hf l k j a hj h
theorem flat_len {α β : Type} (f : α → List β) (n : Nat) (hf : ∀ a, (f a).length = n) (l : List α) : (l.flatMap f).length = l.length * n := by
  induction l with
  | nil => simp
  | cons x l ih => simp [List.flatMap_cons, hf, ih, Nat.succ_mul]; omega
/-- Which element and which of its cells a cell of the flat list is. -/
theorem flat_inv {α β : Type} (f : α → List β) (n : Nat) (hn : 0 < n) (hf : ∀ a, (f a).length = n) (l : List α) (j : Nat) (u : β) (h : (l.flatMap f)[j]? = some u) :
    ∃ a, l[j / n]? = some a ∧ (f a)[j % n]? = some u := by
  have hl := (List.getElem?_eq_some_iff.1 h).1
  rw [flat_len f n hf] at hl
  have h1 : j / n < l.length := by rwa [Nat.div_lt_iff_lt_mul hn]
  have h2 : l[j / n]? = some (l[j / n]) := List.getElem?_eq_getElem h1
  have h3 := flat_get f n hf l (j / n) (j % n) _ (Nat.mod_lt _ hn) h2
  rw [show j / n * n + j % n = j by rw [Nat.mul_comm]; exact Nat.div_add_mod j n] at h3
  exact ⟨_, h2, by rw [← h3]; exact h⟩

/-- A column. -/
structure Col where
  name : ByteArray
  ty : Int
  nn : Bool
  key : Bool
deriving DecidableEq
def Col.cells (c : Col) : List Value := [.string c.name, .int .i64 c.ty, .bool c.nn, .bool c.key]
def colCells (l : List Col) : List Value := l.flatMap Col.cells
theorem colCells_len (l : List Col) : (colCells l).length = l.length * 4 := flat_len _ 4 (fun _ => rfl) l
theorem colCells_at {l : List Col} {k : Nat} {c : Col} (h : l[k]? = some c) : (colCells l)[k * 4]? = some (.string c.name) ∧ (colCells l)[k * 4 + 1]? = some (.int .i64 c.ty) ∧ (colCells l)[k * 4 + 2]? = some (.bool c.nn) ∧ (colCells l)[k * 4 + 3]? = some (.bool c.key) :=
  ⟨flat_get Col.cells 4 (fun _ => rfl) l k 0 c (by omega) h, flat_get Col.cells 4 (fun _ => rfl) l k 1 c (by omega) h, flat_get Col.cells 4 (fun _ => rfl) l k 2 c (by omega) h, flat_get Col.cells 4 (fun _ => rfl) l k 3 c (by omega) h⟩

/-- The slice with address A and n elements reads as the columns l. -/
def RdC (w : World) (B : Nat) (A : Option Addr) (n : Nat) (l : List Col) : Prop := Rd w B 4 A n (colCells l)
theorem RdC.len {w : World} {B n : Nat} {A : Option Addr} {l : List Col} (h : RdC w B A n l) : l.length = n := by
  have := h.1
  rw [colCells_len] at this
  omega
theorem RdC.at_ {w : World} {B n : Nat} {A : Option Addr} {l : List Col} (h : RdC w B A n l) {k : Nat} {c : Col} (hc : l[k]? = some c) :
    ∃ b o, A = some ⟨b, o, none⟩ ∧ b < B ∧ w.cell? ⟨b, o + k * 4, none⟩ = some (.string c.name) ∧ w.cell? ⟨b, o + k * 4 + 1, none⟩ = some (.int .i64 c.ty) ∧ w.cell? ⟨b, o + k * 4 + 2, none⟩ = some (.bool c.nn) ∧ w.cell? ⟨b, o + k * 4 + 3, none⟩ = some (.bool c.key) := by
  have hk : k < n := by rw [← h.len]; exact (List.getElem?_eq_some_iff.1 hc).1
  obtain ⟨b, o, e, hb, hcell⟩ := h.2 (by omega)
  obtain ⟨h0, h1, h2, h3⟩ := colCells_at hc
  exact ⟨b, o, e, hb, hcell _ _ h0, hcell _ _ h1, hcell _ _ h2, hcell _ _ h3⟩
end Go.Proofs.YtedogodccblfeaaGreatDoor

namespace Go.Proofs.YtedogodccblfeaaGreatDoor
open Go.RowKit
set_option linter.unusedVariables false

/-- The slice with address A and n elements of 'size' cells reads as xs. -/
def SlR (size : Nat) (A : Option Addr) (n : Nat) (xs : List Value) (w : World) : Prop := Rd w w.heap.size size A n xs

section
variable {w w' : World} {M : Nat → Prop} {B size n : Nat} {A : Option Addr} {xs : List Value}
theorem Rd.ro (h : Rd w B size A n xs) (hB : B ≤ w.heap.size) (hM : ∀ b, b < B → ¬ M b) : Ro w M (SlR size A n xs) := fun w2 h1 h2 =>
  (h.keep fun p hp => World.cell?_of_block (w := w) (h2 p.block (by omega) (hM _ hp))).more (by omega)
theorem ro_block {g : Nat} {t : TypeId} {cs : Array Value} (h : Ro w M (fun w => w.heap[g]? = some (.cells cs t (0, 0)))) (hl : cs.toList.length = n * size) : Ro w M (SlR size (some ⟨g, 0, none⟩) n cs.toList) :=
  h.imp fun w2 h2 => ⟨hl, fun _ => ⟨g, 0, rfl, Blk.lt (t := t) (cs := cs) h2, fun j u hu => by
    rw [cell_of_row w2 g (0 + j) cs t (0, 0) h2, Nat.zero_add]; simpa using hu⟩⟩
theorem ro_nil : Ro w M (SlR size none 0 []) := fun _ _ _ => Rd.none_
/-- More is known: an item that writes nothing. -/
theorem Hold.addItem {row : Option Nat} {w0 : World} {L : List Hp} (h : Hold M row w0 w L) {k' : Hp} (hk' : k'.foot = none) (hs : k'.sat w0.heap.size w (Mut M (k' :: L))) : Hold M row w0 w (k' :: L) := by
  have e : ∀ b, Mut M (k' :: L) b → Mut M L b := fun b hb => by
    rcases mut_cons.1 hb with hf | hm
    · rw [hk'] at hf; cases hf
    · exact hm
  refine ⟨h.grow, h.low, fun k hk => ?_, fun k hk b hf => ?_, ⟨(fun b hf => by rw [hk'] at hf; cases hf), h.sep⟩⟩
  · rcases List.mem_cons.1 hk with rfl | hk
    · exact hs
    · exact Hp.sat_step (k := k) (h.sat k hk) (Nat.le_refl _) (fun _ _ _ => rfl) (fun b _ hb => e b hb) (fun _ _ => rfl) (fun _ _ _ _ => rfl)
  · rcases List.mem_cons.1 hk with rfl | hk
    · rw [hk'] at hf; cases hf
    · exact h.fresh k hk b hf
theorem mut_none {k' : Hp} (hk' : k'.foot = none) {L : List Hp} : ∀ b, Mut M (k' :: L) b → Mut M L b := fun b hb => by
  rcases mut_cons.1 hb with hf | hm
  · rw [hk'] at hf; cases hf
  · exact hm
theorem Hold.addCst {row : Option Nat} {w0 : World} {L : List Hp} (h : Hold M row w0 w L) {g : Nat} {t : TypeId} {cs : Array Value} (hr : Ro w (Mut M L) (fun w => w.heap[g]? = some (.cells cs t (0, 0)))) : Hold M row w0 w (.cst g t cs :: L) :=
  h.addItem rfl (hr.less (mut_none rfl))
/-- An own row, for good. -/
theorem Hold.sealRow {row : Option Nat} {w0 : World} {L : List Hp} (h : Hold M row w0 w L) (i : Nat) {e : TypeId} {A : Option Addr} {c : Nat} (hi : L[i]? = some (.own e size (.slice A n c) n xs)) :
    Hold M row w0 w (L.set i (.ro (SlR size A n xs))) :=
  h.seal i hi (fun T e => nomatch e) fun w2 h1 h2 => by
    have h3 : w2.ownsRow w0.heap.size e size (.slice A n c) n xs := by
      refine ⟨h1.1, ?_⟩
      rcases h1.2 with hn | ⟨g, cap, cur, hv, hb, hgg, rest⟩
      · exact .inl hn
      · injection hv with hv1 hv2 hv3
        subst hv1 hv3
        exact .inr ⟨g, c, cur, rfl, hb, (h2 g rfl).trans hgg, rest⟩
    exact Rd.of_own h3
end
theorem get_of {α : Type} {l : List α} {n k : Nat} (h : l.length = n) (hk : k < n) : ∃ x, l[k]? = some x := ⟨l[k]'(by omega), List.getElem?_eq_getElem _⟩
end Go.Proofs.YtedogodccblfeaaGreatDoor

namespace Go.Proofs.YtedogodccblfeaaGreatDoor
open Go.RowKit
set_option linter.unusedVariables false
set_option linter.unusedSimpArgs false

def letterN (x : Nat) : Bool := decide (97 ≤ x) && decide (x ≤ 122)
def digitN (x : Nat) : Bool := decide (48 ≤ x) && decide (x ≤ 57)
def nameN (x : Nat) : Bool := letterN x || digitN x || x == 95
def nameB (s : ByteArray) : Bool := decide (1 ≤ s.size) && decide (s.size ≤ 12) && letterN (s.data.toList.getD 0 0).toNat && s.data.toList.all (fun c => nameN c.toNat)

theorem nameB_len0 {s : ByteArray} (h : s.size < 1) : nameB s = false := by simp [nameB]; omega
theorem nameB_long {s : ByteArray} (h : 12 < s.size) : nameB s = false := by simp [nameB]; omega
theorem nameB_first {s : ByteArray} {c : UInt8} (hc : s.data.toList.getD 0 0 = c) (h : letterN c.toNat = false) : nameB s = false := by
  unfold nameB; rw [hc, h]; simp
theorem nameB_bad {s : ByteArray} {k : Nat} {c : UInt8} (hk : s.data.toList[k]? = some c) (h : nameN c.toNat = false) : nameB s = false := by
  have : s.data.toList.all (fun c => nameN c.toNat) = false := by
    rw [List.all_eq_false]
    exact ⟨c, List.mem_of_getElem? hk, by simp [h]⟩
  unfold nameB; rw [this, Bool.and_false]
theorem nameB_ok {s : ByteArray} {c : UInt8} (h1 : 1 ≤ s.size) (h2 : s.size ≤ 12) (hc : s.data.toList.getD 0 0 = c) (hl : letterN c.toNat = true) (ha : s.data.toList.all (fun c => nameN c.toNat) = true) : nameB s = true := by
  unfold nameB; rw [hc, hl, ha]; simp [h1, h2]
theorem all_snoc {s : ByteArray} {k : Nat} {c : UInt8} {p : UInt8 → Bool} (hk : s.data.toList[k]? = some c) (ha : (s.data.toList.take k).all p = true) (hp : p c = true) : (s.data.toList.take (k + 1)).all p = true := by
  obtain ⟨h, rfl⟩ := List.getElem?_eq_some_iff.1 hk
  rw [List.take_succ_eq_append_getElem h, List.all_append, ha]
  simpa using hp
theorem all_end {s : ByteArray} {p : UInt8 → Bool} (ha : (s.data.toList.take s.size).all p = true) : s.data.toList.all p = true := by
  rwa [List.take_of_length_le (by simp)] at ha
theorem byte_at (s : ByteArray) {k : Nat} (h : k < s.size) : s.data.toList[k]? = some s[k] := by
  rw [List.getElem?_eq_getElem (by simpa using h)]; rfl
theorem first_at (s : ByteArray) (h : 0 < s.size) : s.data.toList.getD 0 0 = s[0] := by
  simp only [List.getD, byte_at s h, Option.getD_some]
theorem nameN_false {x : Nat} (h1 : ¬ (97 ≤ x ∧ x ≤ 122)) (h2 : ¬ (48 ≤ x ∧ x ≤ 57)) (h3 : x ≠ 95) : nameN x = false := by
  simp [nameN, letterN, digitN]; omega
theorem nameN_letter {x : Nat} (h1 : 97 ≤ x) (h2 : x ≤ 122) : nameN x = true := by simp [nameN, letterN, h1, h2]
theorem nameN_digit {x : Nat} (h1 : 48 ≤ x) (h2 : x ≤ 57) : nameN x = true := by simp [nameN, digitN, h1, h2]

theorem bytes_below (w : World) (e : TypeId) (s : ByteArray) : Below w.heap.size w (Lib.bytesWorld w e s) := by
  refine ⟨?_, ?_, ?_, by rw [Lib.bytesWorld_size]; omega, fun k hk => Lib.bytesWorld_at_old w e s k hk⟩
  all_goals first | rfl | (simp [Lib.bytesWorld, World.freeze]; rfl)

set_option maxRecDepth 100000 in
set_option maxHeartbeats 4000000 in
theorem validname_any (s : ByteArray) (w : World) (hs : s.size ≤ maxLen) :
    Calls Tryz.prog 197 #[.string s] w fun e w' => e = .returned (.bool (nameB s)) ∧ Below w.heap.size w w' := by
  unfold maxLen at hs
  by_cases h1 : s.size < 1
  · have HN := hid (nameB_len0 h1)
    go_enter Tryz.func197, Tryz.ntmps197
    go_wp2_with fail
    go_ret
    exact ⟨by rw [HN.out] <;> rfl, Below.refl _ _⟩
  by_cases h2 : 12 < s.size
  · have HN := hid (nameB_long h2)
    go_enter Tryz.func197, Tryz.ntmps197
    go_wp2_with fail
    go_ret
    exact ⟨by rw [HN.out] <;> rfl, Below.refl _ _⟩
  have p0 : 0 < s.size := by omega
  have p1 : 1 ≤ s.size := by omega
  have p2 : s.size ≤ 12 := by omega
  have hf := hid (first_at s p0)
  have hlt : s[0].toNat < 256 := s[0].toNat_lt
  by_cases h3 : s[0].toNat < 97
  · have HN := hid (nameB_first hf.out (by simp [letterN]; omega))
    go_enter Tryz.func197, Tryz.ntmps197
    go_wp2_with fail
    go_ret
    exact ⟨by rw [HN.out] <;> rfl, Below.refl _ _⟩
  have hcv := Lib.run_convert_string_bytes (P := Tryz.prog) w 9 213 5 s Tryz.underlying9 Tryz.underlying213 Tryz.underlying5
  have hcell := hid (fun j hj => Lib.bytesWorld_cell w 5 s j hj)
  have hb := hid (bytes_below w 5 s)
  obtain ⟨w1, hw1⟩ : ∃ w1, w1 = Lib.bytesWorld w 5 s := ⟨_, rfl⟩
  rw [← hw1] at hcv hcell hb
  clear hw1
  go_enter Tryz.func197, Tryz.ntmps197
  go_wp2_with fail
  go_loop [21] (fun i => ∃ k : Nat, k ≤ s.size ∧ i = .int .i64 k ∧ (s.data.toList.take k).all (fun c => nameN c.toNat) = true) (fun i => s.size - (intOf i).toNat)
  case atStart => exact ⟨0, by omega, rfl, rfl⟩
  case round =>
    obtain ⟨k, hk, rfl, hall⟩ := hrel
    have HA := hid hall; clear hall
    by_cases hlt : k < s.size
    · have HK := hid (byte_at s hlt)
      have hc := hcell.out k hlt
      rw [show s.data.toList.getD k 0 = s[k] by simp only [List.getD, HK.out, Option.getD_some]] at hc
      have hx : s[k].toNat < 256 := s[k].toNat_lt
      obtain ⟨x, hxx⟩ : ∃ x, x = s[k].toNat := ⟨_, rfl⟩
      rw [← hxx] at hc hx
      have HX := hid hxx; clear hxx
      by_cases hcls : (97 ≤ x ∧ x ≤ 122) ∨ (48 ≤ x ∧ x ≤ 57) ∨ x = 95
      · have HN : Hid (nameN s[k].toNat = true) := by
          unfold Hid; rw [← HX.out]
          rcases hcls with ⟨a, b⟩ | ⟨a, b⟩ | rfl
          · exact nameN_letter a b
          · exact nameN_digit a b
          · rfl
        rcases hcls with ⟨a, b⟩ | ⟨a, b⟩ | rfl
        all_goals
          go_wp2_with fail
          go_round
          case rel => exact ⟨k + 1, by omega, by go_num, all_snoc HK.out HA.out HN.out⟩
          case measure => simp [intOf]; omega
      · have HN : Hid (nameB s = false) := nameB_bad HK.out (by rw [← HX.out]; exact nameN_false (by omega) (by omega) (by omega))
        have hx : x < 48 ∨ (57 < x ∧ x < 95) ∨ (95 < x ∧ x < 97) ∨ 122 < x := by omega
        clear hcls
        rcases hx with h | ⟨h, h'⟩ | ⟨h, h'⟩ | h
        all_goals
          go_wp2_with fail
          go_ret
          exact ⟨by rw [HN.out] <;> rfl, hb.out⟩
    · obtain rfl : k = s.size := by omega
      have h97 : 97 ≤ s[0].toNat := by omega
      by_cases h122 : s[0].toNat ≤ 122
      · have HN := hid (nameB_ok p1 p2 hf.out (by simp [letterN]; omega) (all_end HA.out))
        have hne : ((s[0].toNat : Int) != 95) = true := by rw [bne_iff_ne]; omega
        go_wp2_with fail
        go_ret
        exact ⟨by rw [HN.out] <;> rfl, hb.out⟩
      · exfalso
        have h1 := all_end HA.out
        rw [List.all_eq_true] at h1
        have h2 := h1 s[0] (List.mem_of_getElem? (byte_at s p0))
        rw [nameN_false (by omega) (by omega) (by omega)] at h2
        cases h2
end Go.Proofs.YtedogodccblfeaaGreatDoor

namespace Go.Proofs.YtedogodccblfeaaGreatDoor
open Go.RowKit
set_option linter.unusedVariables false
set_option linter.unusedSimpArgs false

def nms : List ByteArray := [⟨#[105, 100]⟩, ⟨#[110]⟩, ⟨#[109]⟩, ⟨#[98]⟩, ⟨#[115]⟩, ⟨#[120]⟩, ⟨#[97, 49, 95]⟩, ⟨#[97, 98, 99, 100, 101, 102, 103, 104, 105, 106, 107, 108]⟩]
def nm_ (j : Nat) : ByteArray := nms.getD j ⟨#[]⟩
def Nms (w : World) : Prop := ∀ j, j < 8 → w.cell? ⟨1, j, none⟩ = some (.string (nm_ j))
theorem Nms.keep {w w' : World} (h : Nms w) (hk : w'.heap[1]? = w.heap[1]?) : Nms w' := fun j hj => (World.cell?_of_block (w := w) (a := ⟨1, j, none⟩) hk).trans (h j hj)
theorem Nms.lt {w : World} (h : Nms w) : 1 < w.heap.size := World.block_lt_of_cell? w ⟨1, 0, none⟩ (h 0 (by omega))
theorem Nms.below {w w' : World} {B : Nat} (h : Nms w) (hb : Below B w w') (hB : 1 < B) : Nms w' := h.keep (hb.block _ hB)
theorem Nms.ro {w : World} {M : Nat → Prop} (h : Nms w) (hM : ¬ M 1) : Ro w M Nms := fun w2 _ h2 => h.keep (h2 _ h.lt hM)
theorem nm_ok : ∀ j, j < 8 → nameB (nm_ j) = true ∧ (nm_ j).size ≤ 12 := by decide +kernel
theorem nm_ne : ∀ i, i < 8 → ∀ j, j < 8 → i ≠ j → ((nm_ i).toList == (nm_ j).toList) = false := by decide +kernel

def DrawnN (w : World) (T : Nat) (e : Ending) (w' : World) : Prop :=
  ∃ j, j < 8 ∧ e = .returned (.string (nm_ j)) ∧ Tp w' T ∧ w.grownBy w' (some T)

set_option maxHeartbeats 400000 in
theorem name_any (T : Nat) (w : World) (ht : Tp w T) (hw : Nms w) (hT : 1 < T) :
    Calls Tryz.prog 86 #[.pointer (some ⟨T, 0, none⟩)] w fun e w' => DrawnN w T e w' := by
  go_enter Tryz.func86, Tryz.ntmps86
  go_wp2_with fail
  refine (next_any T 8 _ ht (by omega) (by omega)).mono ?_
  rintro e w1 ⟨r, rfl, r0, r1, t1, g1⟩
  have hw1 := hw.keep (g1.block _ hw.lt (by intro e; injection e with e; omega))
  obtain ⟨r, rfl⟩ := Int.eq_ofNat_of_zero_le r0
  have hs := hw1 r (by omega)
  clear hw1 hw
  go_wp2
  go_ret
  exact ⟨r, by omega, rfl, t1, g1⟩
end Go.Proofs.YtedogodccblfeaaGreatDoor

namespace Go.Proofs.YtedogodccblfeaaGreatDoor
open Go.Joins Go.ChangeShapes Go.WideShapes Go.ChangeAt Go.RowKit Go.Deep
set_option linter.unusedVariables false
section
variable {H : Type} {enc : TypeId × Value → H} {P : Program} {w : World} {base : Nat} {spare : Nat → Bool} {held : Bool}
theorem open_slice_fields {t e : TypeId} {fs : Array Field} {fuel : Nat} {cs : List Value} {x : DataW H × List MemPlace} (ht : P.underlying t = some (.slice e)) (he : P.underlying e = some (.struct fs))
    (hone : oneCellFields P fs = true) (hC : P.cellsOf e = fs.size) (h : DataW.trod enc P w base spare held fuel t cs = some x) :
    (cs = [.slice none 0 0] ∧ x = (.nil, [])) ∨
    ∃ (a : Addr) (len cap m : Nat) (D : Nat → DataW H) (Pl : Nat → List MemPlace), cs = [.slice (some a) len cap] ∧ base ≤ a.block ∧ len ≤ cap ∧ cap ≤ maxLen ∧ m = (if spare a.block then cap else len) ∧
      x = (.slice ((List.range len).map D) ((List.range (m - len)).map fun j => D (len + j)), MemPlace.row a (m * fs.size) ++ (List.range m).flatMap Pl) ∧
      ∀ i, i < m → ∃ (ys : List (DataW H × List MemPlace)) (n : Nat), D i = .agg (ys.map (·.1)) ∧ Pl i = ys.flatMap (·.2) ∧ ys.length = fs.size ∧
        ∀ (j : Nat) (f : Field), fs[j]? = some f → ∃ (v : Value) (y : DataW H × List MemPlace), w.cell? (a.add (i * fs.size + j)) = some v ∧ ys[j]? = some y ∧ DataW.trod enc P w base spare held n f.type [v] = some y := by
  rcases open_slice ht h with h0 | ⟨a, len, cap, m, n, D, Pl, hcs, hb, hl, hm, hmm, hx, hi⟩
  · exact .inl h0
  · refine .inr ⟨a, len, cap, m, D, Pl, hcs, hb, hl, hm, hmm, by rw [hC] at hx; exact hx, fun i him => ?_⟩
    obtain ⟨cs', hc, ht'⟩ := hi i him
    rw [hC] at hc
    obtain ⟨ys, n', hn', hy, hlen, hyl, hf⟩ := DataW.trod_struct he ht'
    obtain ⟨_, hcl, hat⟩ := World.cells?_some hc
    simp only [Prod.mk.injEq] at hy
    refine ⟨ys, n', hy.1, hy.2, hyl, fun j f hj => ?_⟩
    obtain ⟨ho, hk⟩ := hone_of hone j f hj
    have hjl : j < fs.size := (Array.getElem?_eq_some_iff.1 hj).1
    have hcell := hat j hjl
    have hv : cs'[j]? = some (cs'[j]'(by omega)) := List.getElem?_eq_getElem (by omega)
    have h1 := hf j f hj
    rw [ho, hk] at h1
    have hone' : (cs'.drop j).take 1 = [cs'[j]'(by omega)] := by
      rw [List.drop_eq_getElem_cons (by omega)]
      rfl
    rw [hone'] at h1
    have hys : ys[j]? = some (ys[j]'(by omega)) := List.getElem?_eq_getElem (by omega)
    refine ⟨_, _, ?_, hys, h1.trans hys⟩
    rw [← Go.Deep.add_add, hcell, hv]
end

section
variable {H : Type} {enc : TypeId × Value → H} {P : Program}
end
end Go.Proofs.YtedogodccblfeaaGreatDoor

namespace Go.Proofs.YtedogodccblfeaaGreatDoor
open Go.ChangeShapes Go.WideShapes Go.ChangeAt Go.RowKit Go.Joins
set_option linter.unusedVariables false
set_option linter.unusedSimpArgs false

theorem gNames : Tryz.prog.globalNamed "triggerstore/triggerstoreworld.names" = some 1 := by kernel_rfl
theorem gNamesType : (Tryz.prog.globals[1]?).map (·.type) = some 99 := by kernel_rfl
def nameBytes : List (List UInt8) := [[105, 100], [110], [109], [98], [115], [120], [97, 49, 95], [97, 98, 99, 100, 101, 102, 103, 104, 105, 106, 107, 108]]
theorem nameBytes_nm : ∀ i, i < 8 → nameBytes[i]? = some (nm_ i).data.toList := by decide +kernel

theorem nms_of_laid {W : World} {rest : List (String × DataW Unit)} (h : laidMet Tryz.prog (("triggerstore/triggerstoreworld.names", Rows.laid_triggerstore_triggerstoreworld_names) :: rest) W) : Nms W := by
  intro j hj
  obtain ⟨s, h1, h2, _⟩ := strs_of_head (bs := nameBytes) (rest := rest) gNames gNamesType Tryz.underlying99 Tryz.underlying9 (by kernel_rfl) h j hj
  rw [nameBytes_nm j hj] at h2
  injection h2 with h2
  have : s = nm_ j := ByteArray.ext (Array.toList_inj.1 h2.symm)
  rw [h1, this]

section
variable {H : Type} {enc : TypeId × Value → H}
end
end Go.Proofs.YtedogodccblfeaaGreatDoor

namespace Go.Proofs.YtedogodccblfeaaGreatDoor
open Go.ChangeShapes Go.WideShapes Go.ChangeAt Go.RowKit
set_option linter.unusedVariables false

theorem laidMet_tail {P : Program} {W : World} {x : String × DataW Unit} {rest : List (String × DataW Unit)} (h : laidMet P (x :: rest) W) : laidMet P rest W := by
  obtain ⟨ps, ⟨g, t, cs, fuel, p, q, _, _, _, _, hr, rfl⟩, hn, hb⟩ := h
  exact ⟨q, hr, (List.nodup_append.1 hn).2.1, fun b off hm => hb b off (List.mem_append_right _ hm)⟩
theorem both_of_laid {W : World} (h : laidMet Tryz.prog [("triggerstore/triggerstoreworld.words", Rows.laid_triggerstore_triggerstoreworld_words), ("triggerstore/triggerstoreworld.names", Rows.laid_triggerstore_triggerstoreworld_names)] W) : Wds W ∧ Nms W :=
  ⟨wds_of_laid h, nms_of_laid (laidMet_tail h)⟩
/-- A world for the witness of a row: the settled one, both tables laid. -/
noncomputable def bothWorld (os : Os) : World :=
  { wordsWorld os with heap := (wordsWorld os).heap.modify 1 fun
      | .cells _ t frozen => .cells #[.string ⟨#[105, 100]⟩, .string ⟨#[110]⟩, .string ⟨#[109]⟩, .string ⟨#[98]⟩, .string ⟨#[115]⟩, .string ⟨#[120]⟩, .string ⟨#[97, 49, 95]⟩, .string ⟨#[97, 98, 99, 100, 101, 102, 103, 104, 105, 106, 107, 108]⟩] t frozen
      | o => o }
end Go.Proofs.YtedogodccblfeaaGreatDoor

namespace Go.Proofs.YtedogodccblfeaaGreatDoor
open Go.RowKit
set_option linter.unusedVariables false

theorem drop_cons {α : Type} {l : List α} {k : Nat} {c : α} (h : l[k]? = some c) : l.drop k = c :: l.drop (k + 1) := by
  obtain ⟨hk, rfl⟩ := List.getElem?_eq_some_iff.1 h
  exact List.drop_eq_getElem_cons hk

def findFrom {α : Type} (p : α → Bool) (k : Nat) : List α → Int
  | [] => -1
  | c :: r => if p c then (k : Int) else findFrom p (k + 1) r
def findB {α : Type} (p : α → Bool) (l : List α) : Int := findFrom p 0 l
section
variable {α : Type} {p : α → Bool} {l : List α} {k : Nat} {c : α}
theorem find_hit (h : findB p l = findFrom p k (l.drop k)) (hc : l[k]? = some c) (hp : p c = true) : findB p l = k := by
  rw [h, drop_cons hc, findFrom, if_pos hp]
theorem find_miss (h : findB p l = findFrom p k (l.drop k)) (hc : l[k]? = some c) (hp : p c = false) : findB p l = findFrom p (k + 1) (l.drop (k + 1)) := by
  rw [h, drop_cons hc, findFrom, if_neg (by simp [hp])]
theorem find_end (h : findB p l = findFrom p k (l.drop k)) (hk : l.length ≤ k) : findB p l = -1 := by
  rw [h, List.drop_of_length_le hk, findFrom]
theorem findFrom_le (p : α → Bool) (c : α) (hp : p c = true) : ∀ (l : List α) (k i : Nat), l[i]? = some c → (k : Int) ≤ findFrom p k l ∧ findFrom p k l ≤ k + i
  | [], k, i, h => by simp at h
  | x :: r, k, 0, h => by
    simp only [List.getElem?_cons_zero, Option.some.injEq] at h
    subst h
    rw [findFrom, if_pos hp]; omega
  | x :: r, k, i + 1, h => by
    simp only [List.getElem?_cons_succ] at h
    rw [findFrom]
    split
    · omega
    · have := findFrom_le p c hp r (k + 1) i h
      omega
theorem find_le (hp : p c = true) {i : Nat} (h : l[i]? = some c) : 0 ≤ findB p l ∧ findB p l ≤ i := by
  have := findFrom_le p c hp l 0 i h
  simpa [findB] using this
end

def named (s : ByteArray) (c : Col) : Bool := c.name.toList == s.toList
/-- A list in which each element passes a test of its place. -/
def okFrom {α : Type} (t : Nat → α → Bool) (k : Nat) : List α → Bool
  | [] => true
  | c :: r => t k c && okFrom t (k + 1) r
section
variable {α : Type} {t : Nat → α → Bool} {l : List α} {k : Nat} {c : α}
theorem ok_bad (h : okFrom t 0 l = okFrom t k (l.drop k)) (hc : l[k]? = some c) (hp : t k c = false) : okFrom t 0 l = false := by
  rw [h, drop_cons hc, okFrom, hp, Bool.false_and]
theorem ok_good (h : okFrom t 0 l = okFrom t k (l.drop k)) (hc : l[k]? = some c) (hp : t k c = true) : okFrom t 0 l = okFrom t (k + 1) (l.drop (k + 1)) := by
  rw [h, drop_cons hc, okFrom, hp, Bool.true_and]
theorem ok_end (h : okFrom t 0 l = okFrom t k (l.drop k)) (hk : l.length ≤ k) : okFrom t 0 l = true := by
  rw [h, List.drop_of_length_le hk, okFrom]
end
theorem take_snoc' {α : Type} {l : List α} {k : Nat} {c : α} (h : l[k]? = some c) : l.take (k + 1) = l.take k ++ [c] := by
  obtain ⟨hk, rfl⟩ := List.getElem?_eq_some_iff.1 h
  exact List.take_succ_eq_append_getElem hk
theorem filter_snoc {α : Type} {l : List α} {k : Nat} {c : α} (p : α → Bool) (h : l[k]? = some c) : ((l.take (k + 1)).filter p).length = ((l.take k).filter p).length + (if p c then 1 else 0) := by
  rw [take_snoc' h, List.filter_append, List.length_append]
  congr 1
  cases hp : p c <;> simp [List.filter, hp]
end Go.Proofs.YtedogodccblfeaaGreatDoor

namespace Go.Proofs.YtedogodccblfeaaGreatDoor
open Go.RowKit
set_option linter.unusedVariables false
set_option linter.unusedSimpArgs false

def Vl.val (x : Vl) : Value := .agg #[.int .i64 x.k, .int .i64 x.i, .string x.s]
def Vl.cells (x : Vl) : List Value := [.int .i64 x.k, .int .i64 x.i, .string x.s]
def Vl.ok (x : Vl) : Prop := I64 x.k ∧ I64 x.i ∧ x.s.size ≤ maxLen
def vlCells (l : List Vl) : List Value := l.flatMap Vl.cells
theorem vlCells_len (l : List Vl) : (vlCells l).length = l.length * 3 := flat_len _ 3 (fun _ => rfl) l
def VlsIn (A : Option Addr) (n : Nat) (l : List Vl) : World → Prop := SlR 3 A n (vlCells l)
theorem VlsIn.len {w : World} {A : Option Addr} {n : Nat} {l : List Vl} (h : VlsIn A n l w) : l.length = n := by
  have := (show Rd w w.heap.size 3 A n (vlCells l) from h).1
  rw [vlCells_len] at this
  omega
theorem VlsIn.at_ {w : World} {A : Option Addr} {n : Nat} {l : List Vl} (h : VlsIn A n l w) {k : Nat} {x : Vl} (hx : l[k]? = some x) :
    ∃ b o, A = some ⟨b, o, none⟩ ∧ b < w.heap.size ∧ w.cell? ⟨b, o + k * 3, none⟩ = some (.int .i64 x.k) ∧ w.cell? ⟨b, o + k * 3 + 1, none⟩ = some (.int .i64 x.i) ∧ w.cell? ⟨b, o + k * 3 + 2, none⟩ = some (.string x.s) := by
  have hk : k < n := by rw [← h.len]; exact (List.getElem?_eq_some_iff.1 hx).1
  obtain ⟨b, o, e, hb, hc⟩ := (show Rd w w.heap.size 3 A n (vlCells l) from h).2 (by omega)
  exact ⟨b, o, e, hb, hc _ _ (flat_get Vl.cells 3 (fun _ => rfl) l k 0 x (by omega) hx), hc _ _ (flat_get Vl.cells 3 (fun _ => rfl) l k 1 x (by omega) hx), hc _ _ (flat_get Vl.cells 3 (fun _ => rfl) l k 2 x (by omega) hx)⟩
theorem one_vls (l : List Vl) : ∀ u ∈ vlCells l, u.oneCell' = true := fun u hu => by
  unfold vlCells at hu
  rw [List.mem_flatMap] at hu
  obtain ⟨x, _, hx⟩ := hu
  simp only [Vl.cells, List.mem_cons, List.not_mem_nil, or_false] at hx
  rcases hx with rfl | rfl | rfl <;> rfl

/-- A row in memory: its number, the slice of its values, the values. -/
structure Rw where
  id : Int
  A : Option Addr
  n : Nat
  c : Nat
  vs : List Vl
def Rw.cells (r : Rw) : List Value := [.int .i64 r.id, .slice r.A r.n r.c]
def rwCells (l : List Rw) : List Value := l.flatMap Rw.cells
theorem rwCells_len (l : List Rw) : (rwCells l).length = l.length * 2 := flat_len _ 2 (fun _ => rfl) l
/-- the rows' values stand in memory -/
def ValsIn (l : List Rw) (w : World) : Prop := ∀ r ∈ l, VlsIn r.A r.n r.vs w
def RwsIn (A : Option Addr) (n : Nat) (l : List Rw) (w : World) : Prop := SlR 2 A n (rwCells l) w ∧ ValsIn l w
theorem RwsIn.len {w : World} {A : Option Addr} {n : Nat} {l : List Rw} (h : RwsIn A n l w) : l.length = n := by
  have := (show Rd w w.heap.size 2 A n (rwCells l) from h.1).1
  rw [rwCells_len] at this
  omega
theorem RwsIn.at_ {w : World} {A : Option Addr} {n : Nat} {l : List Rw} (h : RwsIn A n l w) {k : Nat} {x : Rw} (hx : l[k]? = some x) :
    ∃ b o, A = some ⟨b, o, none⟩ ∧ b < w.heap.size ∧ w.cell? ⟨b, o + k * 2, none⟩ = some (.int .i64 x.id) ∧ w.cell? ⟨b, o + k * 2 + 1, none⟩ = some (.slice x.A x.n x.c) ∧ VlsIn x.A x.n x.vs w := by
  have hk : k < n := by rw [← h.len]; exact (List.getElem?_eq_some_iff.1 hx).1
  obtain ⟨b, o, e, hb, hc⟩ := (show Rd w w.heap.size 2 A n (rwCells l) from h.1).2 (by omega)
  exact ⟨b, o, e, hb, hc _ _ (flat_get Rw.cells 2 (fun _ => rfl) l k 0 x (by omega) hx), hc _ _ (flat_get Rw.cells 2 (fun _ => rfl) l k 1 x (by omega) hx), h.2 x (List.mem_of_getElem? hx)⟩
theorem one_rws (l : List Rw) : ∀ u ∈ rwCells l, u.oneCell' = true := fun u hu => by
  unfold rwCells at hu
  rw [List.mem_flatMap] at hu
  obtain ⟨x, _, hx⟩ := hu
  simp only [Rw.cells, List.mem_cons, List.not_mem_nil, or_false] at hx
  rcases hx with rfl | rfl <;> rfl
/-- a row's numbers are numbers of Go's, its slice has room -/
structure Rw.ok (r : Rw) : Prop where
  id : I64 r.id
  nc : r.n ≤ r.c
  c : r.c ≤ 9223372036854775807
  vs : ∀ v ∈ r.vs, v.ok
abbrev Row := Int × List Vl
def Rw.row (r : Rw) : Row := (r.id, r.vs)

/-- a row's first reason not to fit -/
def fitsV (c : Col) (v : Vl) : Int := if validB v.k v.i v.s then (if v.k == 0 then (if c.nn then 8 else 0) else if v.k == c.ty then 0 else 5) else 17
def fitsL : List Col → List Vl → Int
  | c :: cs, v :: vs => if fitsV c v = 0 then fitsL cs vs else fitsV c v
  | _, _ => 0
def fitsT (cs : List Col) (vs : List Vl) : Int := if vs.length = cs.length then fitsL cs vs else 17
theorem fitsL_step {cs : List Col} {vs : List Vl} {k : Nat} {c : Col} {v : Vl} (hc : cs[k]? = some c) (hv : vs[k]? = some v) (h : fitsV c v = 0) : fitsL (cs.drop k) (vs.drop k) = fitsL (cs.drop (k + 1)) (vs.drop (k + 1)) := by
  rw [drop_cons hc, drop_cons hv, fitsL, if_pos h]
theorem fitsL_bad {cs : List Col} {vs : List Vl} {k : Nat} {c : Col} {v : Vl} (hc : cs[k]? = some c) (hv : vs[k]? = some v) (h : fitsV c v ≠ 0) : fitsL (cs.drop k) (vs.drop k) = fitsV c v := by
  rw [drop_cons hc, drop_cons hv, fitsL, if_neg h]
theorem fitsL_end {cs : List Col} {vs : List Vl} {k : Nat} (h : cs.length ≤ k) : fitsL (cs.drop k) (vs.drop k) = 0 := by
  rw [List.drop_of_length_le h]
  cases vs.drop k <;> rfl
/-- do two rows have one key? -/
def dupF (k : Int) : List Vl → List (List Vl) → Bool
  | _, [] => false
  | seen, r :: rs => if 0 ≤ k then match r[k.toNat]? with
    | some v => if v ∈ seen then true else dupF k (v :: seen) rs
    | none => dupF k seen rs
    else dupF k seen rs
def dupB (cs : List Col) (rs : List Row) : Bool := dupF (findB Col.key cs) [] (rs.map (·.2))
theorem dupF_neg {k : Int} (h : k < 0) : ∀ (seen : List Vl) (rs : List (List Vl)), dupF k seen rs = false
  | _, [] => rfl
  | seen, r :: rs => by rw [dupF, if_neg (by omega)]; exact dupF_neg h seen rs
/-- rows numbered upward, below next, that fit -/
def okR (cs : List Col) (next : Int) : Int → List Row → Bool
  | _, [] => true
  | last, r :: rs => decide (last < r.1) && decide (r.1 < next) && decide (fitsT cs r.2 = 0) && okR cs next r.1 rs
end Go.Proofs.YtedogodccblfeaaGreatDoor

namespace Go.Proofs.YtedogodccblfeaaGreatDoor
open Go.RowKit
set_option linter.unusedVariables false

theorem wpList_app2 {P : Program} (w0 : World) (cs : Array Value) {ops : Array Oper} {rest : List Oper} {o : Oper} {a : Act} {Q : Exit → Act → World → Prop} (hgd : o.guard = none) (s x : Operand) (t : TypeId)
    (ho : o.op = .call { callee := .builtin .append, args := #[s, x], argTypes := #[t, t] })
    (base : Nat) (e : TypeId) (size bytes : Nat) (z : Value) (ht : P.underlying t = some (.slice e)) (hi : (P.info? e).map (fun i => (i.zero, i.size, i.bytes)) = some (some z, size, bytes))
    (hzs : z.cells.size = size) (hsz : 0 < size)
    (v : Value) (n : Nat) (xs : List Value) (hs : a.eval s = v) (hown : w0.ownsRow base e size v n xs)
    (H : Nat) (hH : w0.heap.size = H) (hx : a.eval x = .slice (some ⟨H, 0, none⟩) 1 1) (hl : cs.size = size) (h1 : ∀ u ∈ cs.toList, u.oneCell' = true)
    (hn : n < 140737488355328) (hbytes : (n + 1) * bytes ≤ 140737488355328) (hbase : base ≤ w0.heap.size)
    (h : ∀ g cap w', w'.ownsRow base e size (.slice (some ⟨g, 0, none⟩) (n + 1) cap) (n + 1) (xs ++ cs.toList) → (w0.alloc (.cells cs e)).grownBy w' v.ownBlock → (v.ownBlock = some g ∨ (w0.alloc (.cells cs e)).heap.size ≤ g) → g < w'.heap.size →
      wpList P ops Q rest (a.put o.dst (.slice (some ⟨g, 0, none⟩) (n + 1) cap)) w') :
    wpList P ops Q (o :: rest) a (w0.alloc (.cells cs e)) := by
  subst hH
  obtain ⟨i, hi1, hi2, hi3, hi4⟩ := info_parts hi
  refine wpList_append_lies (w := w0.alloc (.cells cs e)) hgd s x t ho base e i z size bytes ht hi1 hi2 hi3 hi4 hzs hsz v n xs hs (hown.alloc _) ⟨w0.heap.size, 0, none⟩ 1 1 cs.toList hx (by simpa using hl) ?_ h1 (by omega) (by unfold maxLen; omega) hbytes (by simp; omega) (w0.heap.size + 1) (by simp) ?_
  · exact World.news_of_block (heap_alloc_new w0 _)
  · intro g cap w' h2 h3 h4 h5
    exact h g cap w' h2 h3 (h4.imp id fun e => by rw [e]; simp) h5
end Go.Proofs.YtedogodccblfeaaGreatDoor

namespace Go.Proofs.YtedogodccblfeaaGreatDoor
open Go.RowKit
set_option linter.unusedVariables false

/-- A slice type and its element type, as the table of types says them. -/
structure ElemT (P : Program) (t e : TypeId) (size bytes : Nat) (z : Value) : Prop where
  ht : P.underlying t = some (.slice e)
  hi : (P.info? e).map (fun i => (i.zero, i.size, i.bytes)) = some (some z, size, bytes)
  hzs : z.cells.size = size
  hsz : 0 < size

section
variable {P : Program} {M : Nat → Prop} {row : Option Nat} {w0 w w' : World} {L L' : List Hp}

theorem own_caps {w : World} {base : Nat} {e : TypeId} {size n m c : Nat} {A : Option Addr} {xs : List Value} (h : w.ownsRow base e size (.slice A n c) m xs) : m ≤ c ∧ c ≤ 9223372036854775807 ∧ n = m := by
  obtain ⟨h1, ⟨h2, h3⟩ | ⟨g, cap, cur, hv, _, _, hle, hm, _⟩⟩ := h
  · have e1 := (Value.slice.inj h2).2.2
    have e2 := (Value.slice.inj h2).2.1
    omega
  · have e1 := (Value.slice.inj hv).2.2
    have e2 := (Value.slice.inj hv).2.1
    unfold maxLen at hm
    omega
theorem own_addr {w : World} {base : Nat} {e : TypeId} {size n m c : Nat} {A : Option Addr} {xs : List Value} (h : w.ownsRow base e size (.slice A n c) m xs) : (A = none ∧ m = 0 ∧ c = 0) ∨ ∃ g, A = some ⟨g, 0, none⟩ ∧ base ≤ g := by
  obtain ⟨h1, ⟨h2, h3⟩ | ⟨g, cap, cur, hv, hb, _⟩⟩ := h
  · exact .inl ⟨(Value.slice.inj h2).1, h3, (Value.slice.inj h2).2.2⟩
  · exact .inr ⟨g, (Value.slice.inj hv).1, hb⟩

/-- append(s, x): one element, laid ahead in a block of its own. -/
theorem wpList_appH (K : Hold M row w0 w L) (i : Nat) {t e : TypeId} {size bytes q cap : Nat} {C : Option Addr} {xs : List Value} {z : Value} (hi : L[i]? = some (.own e size (.slice C q cap) q xs)) (hE : ElemT P t e size bytes z)
    (cs : Array Value) {ops : Array Oper} {rest : List Oper} {o : Oper} {a : Act} {Q : Exit → Act → World → Prop} (hgd : o.guard = none) (s x : Operand) (ho : o.op = .call { callee := .builtin .append, args := #[s, x], argTypes := #[t, t] })
    (hs : a.eval s = .slice C q cap) (H : Nat) (hH : w.heap.size = H) (hx : a.eval x = .slice (some ⟨H, 0, none⟩) 1 1) (hl : cs.size = size) (h1 : ∀ u ∈ cs.toList, u.oneCell' = true) (hq : q < 140737488355328) (hb : (q + 1) * bytes ≤ 140737488355328)
    (h : ∀ g cap' w', q + 1 ≤ cap' → cap' ≤ 9223372036854775807 → Hold M row w0 w' (L.set i (.own e size (.slice (some ⟨g, 0, none⟩) (q + 1) cap') (q + 1) (xs ++ cs.toList))) → wpList P ops Q rest (a.put o.dst (.slice (some ⟨g, 0, none⟩) (q + 1) cap')) w') :
    wpList P ops Q (o :: rest) a (w.alloc (.cells cs e)) := by
  refine wpList_app2 w cs hgd s x t ho w0.heap.size e size bytes z hE.ht hE.hi hE.hzs hE.hsz (.slice C q cap) q xs hs (K.get i hi) H hH hx hl h1 hq hb K.grow.size ?_
  intro g cap' w' ho' hg hd hl'
  obtain ⟨c1, c2, _⟩ := own_caps ho'
  have K1 := K.alloc_cst cs e
  have K2 := K1.append (i + 1) (by simpa using hi) ho' hg hd hl'
  refine h g cap' w' c1 c2 (K2.drop ?_)
  simp

theorem run_append_self (w : World) (base : Nat) (t ty e : TypeId) (i : TypeInfo) (size : Nat) (ht : P.underlying t = some (.slice e)) (hi : P.info? e = some i)
    (v : Value) (n : Nat) (xs : List Value) (hown : w.ownsRow base e size v n xs) (c : Nat) : (Builtin.append_ #[t, t] ty #[v, .slice none 0 c]).run P w = .ok v w := by
  rcases hown.2 with ⟨rfl, rfl⟩ | ⟨g, cap, cur, rfl, _, _, hnc, _⟩
  · simp [Builtin.append_, run_underlying ht, sizeOf, typeInfo, hi, Builtin.lenOf, Builtin.firstCells]
  · simp [Builtin.append_, run_underlying ht, sizeOf, typeInfo, hi, Builtin.lenOf, Builtin.firstCells, hnc, storeCells]

/-- append(s, xs...): whatever list, nil and empty too. -/
theorem wpList_appAllH (K : Hold M row w0 w L) (i : Nat) {t e : TypeId} {size bytes q cap : Nat} {C : Option Addr} {xs : List Value} {z : Value} (hi : L[i]? = some (.own e size (.slice C q cap) q xs)) (hE : ElemT P t e size bytes z)
    {A : Option Addr} {m c : Nat} {ys : List Value} (hr : SlR size A m ys w) {ops : Array Oper} {rest : List Oper} {o : Oper} {a : Act} {Q : Exit → Act → World → Prop} (hgd : o.guard = none) (s x : Operand) (ho : o.op = .call { callee := .builtin .append, args := #[s, x], argTypes := #[t, t] })
    (hs : a.eval s = .slice C q cap) (hx : a.eval x = .slice A m c) (h1 : ∀ u ∈ ys, u.oneCell' = true) (hq : q + m < 140737488355328) (hb : (q + m) * bytes ≤ 140737488355328)
    (h : ∀ C' cap' w', q + m ≤ cap' → cap' ≤ 9223372036854775807 → Hold M row w0 w' (L.set i (.own e size (.slice C' (q + m) cap') (q + m) (xs ++ ys))) → wpList P ops Q rest (a.put o.dst (.slice C' (q + m) cap')) w') :
    wpList P ops Q (o :: rest) a w := by
  obtain ⟨i0, hi1, hi2, hi3, hi4⟩ := info_parts hE.hi
  have hown := K.get i hi
  have hrun : ∃ C' cap' w', (Builtin.append_ #[t, t] o.type #[.slice C q cap, .slice A m c]).run P w = .ok (.slice C' (q + m) cap') w' ∧ q + m ≤ cap' ∧ cap' ≤ 9223372036854775807 ∧ Hold M row w0 w' (L.set i (.own e size (.slice C' (q + m) cap') (q + m) (xs ++ ys))) := by
    have hz : A = none → m = 0 := fun hA => by
      rcases Nat.eq_zero_or_pos m with h0 | h0
      · exact h0
      · obtain ⟨b, o, h, _⟩ := hr.2 h0
        rw [hA] at h; cases h
    rcases A with _ | ad
    · obtain rfl := hz rfl
      have hn : ys = [] := List.eq_nil_of_length_eq_zero (by simpa using hr.1)
      subst hn
      have hc := own_caps hown
      have e : L.set i (.own e size (.slice C (q + 0) cap) (q + 0) (xs ++ [])) = L := by
        rw [Nat.add_zero, List.append_nil]
        apply List.ext_getElem?
        intro j
        rw [List.getElem?_set]
        split
        · subst i; split
          · exact hi.symm
          · rw [List.getElem?_eq_none (by omega)]
        · rfl
      exact ⟨C, cap, w, run_append_self w _ t _ _ i0 size hE.ht hi1 _ _ _ hown c, hc.1, hc.2.1, by rw [e]; exact K⟩
    · have hcells : ∀ j u, ys[j]? = some u → w.cell? (ad.add j) = some u := by
        intro j u hu
        have hpos : 0 < m := by
          rcases Nat.eq_zero_or_pos m with h0 | h0
          · have hn : ys = [] := List.eq_nil_of_length_eq_zero (by have := hr.1; rw [h0] at this; simpa using this)
            rw [hn] at hu; simp at hu
          · exact h0
        obtain ⟨b, o', hA, _, hc⟩ := hr.2 hpos
        injection hA with hA
        subst hA
        have := hc j u hu
        rwa [Addr.add_lit]
      obtain ⟨v', w', hrun, h2, h3, _, h5⟩ := run_append_own_at (P := P) w w0.heap.size t o.type e i0 z size bytes hE.ht hi1 hi2 hi3 hi4 hE.hzs hE.hsz _ q xs hown ad m c ys hr.1 hcells h1 (by unfold maxLen; omega) hb K.grow.size
      obtain ⟨C', cap', rfl⟩ := own_form h2
      have hc := own_caps h2
      refine ⟨C', cap', w', hrun, hc.1, hc.2.1, ?_⟩
      refine K.turn i hi h3.size ⟨h3.os, h3.tape, h3.output⟩ (fun b hl hne => h3.block b hl fun e => hne e.symm) (fun b hf => ?_) h2 (fun T hT => by cases hT)
      have hlt := (h2.lt b hf).2
      refine ⟨?_, hlt⟩
      have hf' : Value.ownBlock (.slice C' (q + m) cap') = some b := hf
      rcases h5 with h5 | h5
      · left; rw [h5] at hf'; exact hf'
      · right; rw [h5] at hf'; injection hf' with hf'; omega
  obtain ⟨C', cap', w', hr', c1, c2, hK⟩ := hrun
  refine wpList_plain hgd fun K' hK' => ?_
  unfold Oper.wp execOp
  simp only [ho, resolve, invoke, builtin, Sem.run_bind, Sem.run_pure, Result.andThen_ok, List.map_toArray, List.map_cons, List.map_nil, hs, hx, hr']
  exact hK' _ _ (h C' cap' w' c1 c2 hK)

/-- A call that hands back a row of its own. -/
theorem Hold.callOwn (K : Hold M row w0 w L) {e : TypeId} {size n : Nat} {v : Value} {xs : List Value} (hb : Below w.heap.size w w') (ho : w'.ownsRow w.heap.size e size v n xs) : Hold M row w0 w' (.own e size v n xs :: L) := by
  have h1 := K.call hb
  have hbase : ∀ b, v.ownBlock = some b → w.heap.size ≤ b ∧ b < w'.heap.size := fun b hf => ho.lt b hf
  have ee : ∀ b, b < w.heap.size → Mut M (.own e size v n xs :: L) b → Mut M L b := fun b hl hb => by
    rcases mut_cons.1 hb with hf | hm
    · have := (hbase b hf).1; omega
    · exact hm
  refine ⟨h1.grow, h1.low, fun k hk => ?_, fun k hk b hf => ?_, ⟨fun b hf k hk he => ?_, K.sep⟩⟩
  · rcases List.mem_cons.1 hk with rfl | hk
    · refine ⟨ho.1, ?_⟩
      rcases ho.2 with hn | ⟨g, cap, cur, hv, hg, rest⟩
      · exact .inl hn
      · exact .inr ⟨g, cap, cur, hv, Nat.le_trans K.grow.size hg, rest⟩
    · exact Hp.sat_step (k := k) (K.sat k hk) hb.size (fun b hl _ => hb.block b hl) ee (fun b hf => hb.block b (K.fresh k hk b hf).2)
        (fun T hT b hlt => by
          have := K.fresh k hk T (by subst hT; rfl)
          exact hb.block b (by omega))
  · rcases List.mem_cons.1 hk with rfl | hk
    · have := hbase b hf
      exact ⟨.inl (Nat.le_trans K.grow.size this.1), this.2⟩
    · exact h1.fresh k hk b hf
  · have := (hbase b hf).1
    have h2 := (K.fresh k hk b he).2
    omega

theorem apart_pair : ∀ {L : List Hp}, Apart L ↔ L.Pairwise fun h k => ∀ b, h.foot = some b → k.foot ≠ some b
  | [] => ⟨fun _ => List.Pairwise.nil, fun _ => trivial⟩
  | h :: L => by
    rw [List.pairwise_cons, ← apart_pair]
    exact ⟨fun ⟨a, b⟩ => ⟨fun k hk x hx => a x hx k hk, b⟩, fun ⟨a, b⟩ => ⟨fun x hx k hk => a k hk x hx, b⟩⟩
/-- The items in another order. -/
theorem Hold.perm (K : Hold M row w0 w L) (hp : L.Perm L') : Hold M row w0 w L' := by
  have hm : ∀ b, Mut M L' b → Mut M L b := fun b hb => hb.imp id fun ⟨k, hk, hf⟩ => ⟨k, hp.symm.subset hk, hf⟩
  refine ⟨K.grow, K.low, fun k hk => ?_, fun k hk => K.fresh k (hp.symm.subset hk), apart_pair.2 ((hp.pairwise_iff fun h b hy hx => h b hx hy).1 (apart_pair.1 K.sep))⟩
  exact Hp.sat_step (k := k) (K.sat k (hp.symm.subset hk)) (Nat.le_refl _) (fun _ _ _ => rfl) (fun b _ hb => hm b hb) (fun _ _ => rfl) (fun _ _ _ _ => rfl)
/-- Another statement in the place of one. -/
theorem Hold.swapRo (K : Hold M row w0 w L) (i : Nat) {S S' : World → Prop} (hi : L[i]? = some (.ro S)) (hr : Ro w (Mut M L) S') : Hold M row w0 w (L.set i (.ro S')) := by
  refine K.turn i hi (Nat.le_refl _) ⟨rfl, rfl, rfl⟩ (fun _ _ _ => rfl) (fun b hf => by cases hf) ?_ (fun T hT => by cases hT)
  refine hr.less fun b hb => ?_
  rcases hb with hb | ⟨k, hk, hf⟩
  · exact .inl hb
  · rcases List.mem_or_eq_of_mem_set hk with hk | rfl
    · exact .inr ⟨k, hk, hf⟩
    · cases hf
/-- Two items lie in different blocks. -/
theorem Hold.apart_ (K : Hold M row w0 w L) (i j : Nat) {a b : Hp} (hi : L[i]? = some a) (hj : L[j]? = some b) (hij : i ≠ j) {x y : Nat} (hx : a.foot = some x) (hy : b.foot = some y) : x ≠ y := fun e => K.sep.mem hi hj hij hx (by rw [e]; exact hy)
/-- A row is cut down: its first n elements. -/
theorem Hold.cutRow (K : Hold M row w0 w L) (i : Nat) {e : TypeId} {size n m cap g : Nat} {xs : List Value} (hi : L[i]? = some (.own e size (.slice (some ⟨g, 0, none⟩) m cap) m xs)) (hn : n ≤ m) :
    Hold M row w0 w (L.set i (.own e size (.slice (some ⟨g, 0, none⟩) n cap) n (xs.take (n * size)))) := by
  have hown := K.get i hi
  have hkm := List.mem_of_getElem? hi
  refine K.turn i hi (Nat.le_refl _) ⟨rfl, rfl, rfl⟩ (fun _ _ _ => rfl) (fun b hf => ⟨.inl hf, (K.fresh _ hkm b hf).2⟩) ?_ (fun T hT => by cases hT)
  have h1 := hown.1
  refine ⟨by rw [List.length_take, h1]; exact Nat.min_eq_left (Nat.mul_le_mul_right _ hn), ?_⟩
  rcases hown.2 with ⟨h, _⟩ | ⟨g', cap', cur, hv, hb, hg, hle, hm, hcs, ht⟩
  · cases h
  · obtain ⟨e1, _, e2⟩ := Value.slice.inj hv
    injection e1 with e1; injection e1 with e1
    subst e1 e2
    refine .inr ⟨g, cap, cur, rfl, hb, hg, by omega, hm, hcs, ?_⟩
    rw [← ht, List.take_take, Nat.min_eq_left (Nat.mul_le_mul_right _ hn)]
end
end Go.Proofs.YtedogodccblfeaaGreatDoor

namespace Go.Proofs.YtedogodccblfeaaGreatDoor
open Go.RowKit
set_option linter.unusedVariables false
set_option linter.unusedSimpArgs false

theorem RdC.of_sl {w : World} {A : Option Addr} {n : Nat} {l : List Col} (h : SlR 4 A n (colCells l) w) : RdC w w.heap.size A n l := h
theorem get_col {l : List Col} {n k : Nat} (h : l.length = n) (hk : k < n) : ∃ c, l[k]? = some c := ⟨l[k]'(by omega), List.getElem?_eq_getElem _⟩

set_option maxHeartbeats 400000 in
theorem keyc_any (nm : ByteArray) (ty : Int) (nn key : Bool) (w : World) :
    Calls Tryz.prog 224 #[.agg #[.string nm, .int .i64 ty, .bool nn, .bool key]] w fun e w' => e = .returned (.bool key) ∧ Below w.heap.size w w' := by
  go_enter Tryz.func224, Tryz.ntmps224
  go_wp2
  go_ret
  exact ⟨rfl, ext1 _ _⟩
set_option maxHeartbeats 400000 in
theorem findc_any (nm : ByteArray) (ty : Int) (nn key : Bool) (g : Nat) (s : ByteArray) (w : World) (hg : w.cell? ⟨g, 0, none⟩ = some (.string s)) (hlt : g < w.heap.size) :
    Calls Tryz.prog 218 #[.agg #[.string nm, .int .i64 ty, .bool nn, .bool key], .pointer (some ⟨g, 0, none⟩)] w fun e w' => e = .returned (.bool (nm.toList == s.toList)) ∧ Below w.heap.size w w' := by
  go_enter Tryz.func218, Tryz.ntmps218
  go_wp2
  go_ret
  exact ⟨rfl, ext1 _ _⟩

set_option maxHeartbeats 2000000 in
theorem idx_key (M : Nat → Prop) (w : World) (hM : ∀ b, M b → b < w.heap.size) (A : Option Addr) (n c : Nat) (l : List Col) (hD : Ro w M (SlR 4 A n (colCells l))) (hn : n ≤ 9223372036854775807) :
    Calls Tryz.prog 217 #[.slice A n c, .func (.func 224) #[] #[]] w fun e w' => e = .returned (.int .i64 (findB Col.key l)) ∧ Below w.heap.size w w' := by
  have HL := hid (RdC.of_sl hD.now).len
  have K0 := ((Hold.start M w hM).add (hD.less (by simp [Mut])))
  go_enter Tryz.func217, Tryz.ntmps217
  go_wp2_with fail
  go_loopw [8] (fun i wr => ∃ k : Nat, k ≤ n ∧ i = .int .i64 k ∧ findB Col.key l = findFrom Col.key k (l.drop k) ∧ Hold M none w wr [.ro (SlR 4 A n (colCells l))]) (fun i _ => n - (intOf i).toNat)
  case atStart => exact ⟨0, by omega, rfl, rfl, K0⟩
  case round =>
    obtain ⟨k, hk, rfl, hf, H⟩ := hrel
    have HF := hid hf; clear hf
    by_cases hlt : k < n
    · obtain ⟨⟨nm, ty, nn, key⟩, hc⟩ := get_col HL.out hlt
      obtain ⟨b, o, rfl, hb, c0, c1, c2, c3⟩ := (RdC.of_sl (H.ro 0 rfl).now).at_ hc
      have HC := hid hc; clear hc
      simp only at c0 c1 c2 c3
      cases key
      all_goals
        go_wp2_with fail
        refine (keyc_any nm ty nn _ _).mono ?_
        rintro e w1 ⟨rfl, b1⟩
        have K1 := Hold.call H b1
        skip
        go_wp2_with fail
      · go_roundw
        case rel => exact ⟨k + 1, by omega, by go_num, find_miss HF.out HC.out rfl, K1⟩
        case measure => simp [intOf]; omega
      · go_ret
        exact ⟨by rw [find_hit HF.out HC.out rfl] <;> rfl, K1.below⟩
    · go_wp2
      go_ret
      exact ⟨by rw [find_end HF.out (by rw [HL.out]; omega)] <;> rfl, H.below⟩

set_option maxHeartbeats 2000000 in
theorem idx_find (M : Nat → Prop) (w : World) (hM : ∀ b, M b → b < w.heap.size) (A : Option Addr) (n c : Nat) (l : List Col) (hD : Ro w M (SlR 4 A n (colCells l))) (hn : n ≤ 9223372036854775807) (g : Nat) (s : ByteArray) (hS : Ro w M (fun w => w.heap[g]? = some (.cells #[.string s] 9 (0, 0)))) :
    Calls Tryz.prog 217 #[.slice A n c, .func (.func 218) #[] #[.pointer (some ⟨g, 0, none⟩)]] w fun e w' => e = .returned (.int .i64 (findB (named s) l)) ∧ Below w.heap.size w w' := by
  have HL := hid (RdC.of_sl hD.now).len
  have K0 := ((Hold.start M w hM).add (hD.less (by simp [Mut]))).add (S := fun w => w.heap[g]? = some (.cells #[.string s] 9 (0, 0))) (hS.less (by simp [Mut, Hp.foot]))
  go_enter Tryz.func217, Tryz.ntmps217
  go_wp2_with fail
  go_loopw [8] (fun i wr => ∃ k : Nat, k ≤ n ∧ i = .int .i64 k ∧ findB (named s) l = findFrom (named s) k (l.drop k) ∧ Hold M none w wr [.ro (fun w => w.heap[g]? = some (.cells #[.string s] 9 (0, 0))), .ro (SlR 4 A n (colCells l))]) (fun i _ => n - (intOf i).toNat)
  case atStart => exact ⟨0, by omega, rfl, rfl, K0⟩
  case round =>
    obtain ⟨k, hk, rfl, hf, H⟩ := hrel
    have HF := hid hf; clear hf
    by_cases hlt : k < n
    · obtain ⟨⟨nm, ty, nn, key⟩, hc⟩ := get_col HL.out hlt
      obtain ⟨b, o, rfl, hb, c0, c1, c2, c3⟩ := (RdC.of_sl (H.ro 1 rfl).now).at_ hc
      have HC := hid hc; clear hc
      have hB : Blk _ g 9 #[.string s] := (H.ro 0 rfl).now
      simp only at c0 c1 c2 c3
      cases hp : (nm.toList == s.toList)
      all_goals
        go_wp2_with fail
        refine (findc_any nm ty nn key g s _ (hB.cell 0) hB.lt).mono ?_
        rintro e w1 ⟨rfl, b1⟩
        have K1 := Hold.call H b1
        rw [hp]
        go_wp2_with fail
      · go_roundw
        case rel => exact ⟨k + 1, by omega, by go_num, find_miss HF.out HC.out hp, K1⟩
        case measure => simp [intOf]; omega
      · go_ret
        exact ⟨by rw [find_hit HF.out HC.out hp] <;> rfl, K1.below⟩
    · go_wp2
      go_ret
      exact ⟨by rw [find_end HF.out (by rw [HL.out]; omega)] <;> rfl, H.below⟩

set_option maxHeartbeats 1000000 in
theorem keycol_any (M : Nat → Prop) (w : World) (hM : ∀ b, M b → b < w.heap.size) (nm : ByteArray) (A : Option Addr) (n c : Nat) (l : List Col) (hD : Ro w M (SlR 4 A n (colCells l))) (hn : n ≤ 9223372036854775807) :
    Calls Tryz.prog 199 #[.agg #[.string nm, .slice A n c]] w fun e w' => e = .returned (.int .i64 (findB Col.key l)) ∧ Below w.heap.size w w' := by
  have K0 := ((Hold.start M w hM).add (hD.less (by simp [Mut]))).alloc_cst #[.string nm, .slice A n c] 49
  go_enter Tryz.func199, Tryz.ntmps199
  go_wp2_with fail
  refine (idx_key (Mut M _) _ K0.mutLt A n c l (K0.ro 1 rfl) hn).mono ?_
  rintro e w1 ⟨rfl, b1⟩
  have K1 := Hold.call K0 b1
  go_wp2
  go_ret
  exact ⟨rfl, K1.below⟩
set_option maxHeartbeats 1000000 in
theorem find_any (M : Nat → Prop) (w : World) (hM : ∀ b, M b → b < w.heap.size) (nm : ByteArray) (A : Option Addr) (n c : Nat) (l : List Col) (s : ByteArray) (hD : Ro w M (SlR 4 A n (colCells l))) (hn : n ≤ 9223372036854775807) :
    Calls Tryz.prog 185 #[.agg #[.string nm, .slice A n c], .string s] w fun e w' => e = .returned (.int .i64 (findB (named s) l)) ∧ Below w.heap.size w w' := by
  have K0 := (((Hold.start M w hM).add (hD.less (by simp [Mut]))).alloc_cst #[.string nm, .slice A n c] 49).alloc_cst #[.string s] 9
  simp only [World.size_alloc] at K0
  go_enter Tryz.func185, Tryz.ntmps185
  go_wp2_with fail
  refine (idx_find (Mut M _) _ K0.mutLt A n c l (K0.ro 2 rfl) hn _ s (K0.get 0 rfl)).mono ?_
  rintro e w1 ⟨rfl, b1⟩
  have K1 := Hold.call K0 b1
  go_wp2
  go_ret
  exact ⟨rfl, K1.below⟩

set_option maxHeartbeats 2000000 in
theorem rkeycol_any (M : Nat → Prop) (w : World) (hM : ∀ b, M b → b < w.heap.size) (nm0 : ByteArray) (A : Option Addr) (n c : Nat) (l : List Col) (hD : Ro w M (SlR 4 A n (colCells l))) (hn : n ≤ 9223372036854775807) :
    Calls Tryz.prog 143 #[.agg #[.string nm0, .slice A n c]] w fun e w' => e = .returned (.int .i64 (findB Col.key l)) ∧ Below w.heap.size w w' := by
  have HL := hid (RdC.of_sl hD.now).len
  have K0 := ((Hold.start M w hM).add (hD.less (by simp [Mut]))).alloc_cst #[.string nm0, .slice A n c] 49
  go_enter Tryz.func143, Tryz.ntmps143
  go_wp2_with fail
  go_loopw [8] (fun i wr => ∃ k : Nat, k ≤ n ∧ i = .int .i64 k ∧ findB Col.key l = findFrom Col.key k (l.drop k) ∧ Hold M none w wr [.cst w.heap.size 49 #[.string nm0, .slice A n c], .ro (SlR 4 A n (colCells l))]) (fun i _ => n - (intOf i).toNat)
  case atStart => exact ⟨0, by omega, rfl, rfl, K0⟩
  case round =>
    obtain ⟨k, hk, rfl, hf, H⟩ := hrel
    have HF := hid hf; clear hf
    by_cases hlt : k < n
    · obtain ⟨⟨nm, ty, nn, key⟩, hc⟩ := get_col HL.out hlt
      obtain ⟨b, o, rfl, hb, c0, c1, c2, c3⟩ := (RdC.of_sl (H.ro 1 rfl).now).at_ hc
      have HC := hid hc; clear hc
      simp only at c0 c1 c2 c3
      cases key
      · have K1 := H.alloc_cst #[.string nm, .int .i64 ty, .bool nn, .bool false] 147
        go_wp2_with fail
        go_roundw
        case rel => exact ⟨k + 1, by omega, by go_num, find_miss HF.out HC.out rfl, K1.drop (List.sublist_cons_self _ _)⟩
        case measure => simp [intOf]; omega
      · have K1 := H.alloc_cst #[.string nm, .int .i64 ty, .bool nn, .bool true] 147
        go_wp2_with fail
        go_ret
        exact ⟨by rw [find_hit HF.out HC.out rfl] <;> rfl, K1.below⟩
    · go_wp2
      go_ret
      exact ⟨by rw [find_end HF.out (by rw [HL.out]; omega)] <;> rfl, H.below⟩

set_option maxHeartbeats 2000000 in
theorem rfind_any (M : Nat → Prop) (w : World) (hM : ∀ b, M b → b < w.heap.size) (nm0 : ByteArray) (A : Option Addr) (n c : Nat) (l : List Col) (s : ByteArray) (hD : Ro w M (SlR 4 A n (colCells l))) (hn : n ≤ 9223372036854775807) :
    Calls Tryz.prog 54 #[.agg #[.string nm0, .slice A n c], .string s] w fun e w' => e = .returned (.int .i64 (findB (named s) l)) ∧ Below w.heap.size w w' := by
  have HL := hid (RdC.of_sl hD.now).len
  have K0 := ((Hold.start M w hM).add (hD.less (by simp [Mut]))).alloc_cst #[.string nm0, .slice A n c] 49
  go_enter Tryz.func54, Tryz.ntmps54
  go_wp2_with fail
  go_loopw [10] (fun i wr => ∃ k : Nat, k ≤ n ∧ i = .int .i64 k ∧ findB (named s) l = findFrom (named s) k (l.drop k) ∧ Hold M none w wr [.cst w.heap.size 49 #[.string nm0, .slice A n c], .ro (SlR 4 A n (colCells l))]) (fun i _ => n - (intOf i).toNat)
  case atStart => exact ⟨0, by omega, rfl, rfl, K0⟩
  case round =>
    obtain ⟨k, hk, rfl, hf, H⟩ := hrel
    have HF := hid hf; clear hf
    by_cases hlt : k < n
    · obtain ⟨⟨nm, ty, nn, key⟩, hc⟩ := get_col HL.out hlt
      obtain ⟨b, o, rfl, hb, c0, c1, c2, c3⟩ := (RdC.of_sl (H.ro 1 rfl).now).at_ hc
      have HC := hid hc; clear hc
      simp only at c0 c1 c2 c3
      cases hp : (nm.toList == s.toList)
      · have K1 := H.alloc_cst #[.string nm, .int .i64 ty, .bool nn, .bool key] 147
        go_wp2_with fail
        go_roundw
        case rel => exact ⟨k + 1, by omega, by go_num, find_miss HF.out HC.out hp, K1.drop (List.sublist_cons_self _ _)⟩
        case measure => simp [intOf]; omega
      · have K1 := H.alloc_cst #[.string nm, .int .i64 ty, .bool nn, .bool key] 147
        go_wp2_with fail
        go_ret
        exact ⟨by rw [find_hit HF.out HC.out hp] <;> rfl, K1.below⟩
    · go_wp2
      go_ret
      exact ⟨by rw [find_end HF.out (by rw [HL.out]; omega)] <;> rfl, H.below⟩
end Go.Proofs.YtedogodccblfeaaGreatDoor

namespace Go.Proofs.YtedogodccblfeaaGreatDoor
open Go.RowKit
set_option linter.unusedVariables false
set_option linter.unusedSimpArgs false

abbrev ColsIn (A : Option Addr) (n : Nat) (l : List Col) : World → Prop := SlR 4 A n (colCells l)
theorem one_cols (l : List Col) : ∀ u ∈ colCells l, u.oneCell' = true := fun u hu => by
  unfold colCells at hu
  rw [List.mem_flatMap] at hu
  obtain ⟨x, _, hx⟩ := hu
  simp only [Col.cells, List.mem_cons, List.not_mem_nil, or_false] at hx
  rcases hx with rfl | rfl | rfl | rfl <;> rfl
theorem Tryz.elVl : ElemT Tryz.prog 51 117 3 32 (.agg #[.int .i64 0, .int .i64 0, .string ⟨#[]⟩]) := ⟨Tryz.underlying51, by kernel_rfl, rfl, by omega⟩
theorem Tryz.elCol : ElemT Tryz.prog 47 147 4 32 (.agg #[.string ⟨#[]⟩, .int .i64 0, .bool false, .bool false]) := ⟨Tryz.underlying47, by kernel_rfl, rfl, by omega⟩
theorem Tryz.elRw : ElemT Tryz.prog 41 119 2 32 (.agg #[.int .i64 0, .slice none 0 0]) := ⟨Tryz.underlying41, by kernel_rfl, rfl, by omega⟩
/-- A list handed back, in memory that nobody writes. -/
def RowRet (size : Nat) (xs : List Value) (k : Nat) (w : World) (M : Nat → Prop) (e : Ending) (w' : World) : Prop :=
  ∃ (A : Option Addr) (n c : Nat), e = .returned (.slice A n c) ∧ n = k ∧ n ≤ c ∧ c ≤ 9223372036854775807 ∧ Ro w' M (SlR size A n xs) ∧ Below w.heap.size w w'
set_option maxHeartbeats 4000000 in
set_option maxRecDepth 100000 in
theorem cloneVls_any (M : Nat → Prop) (w : World) (hM : ∀ b, M b → b < w.heap.size) (A : Option Addr) (n c : Nat) (l : List Vl) (hD : Ro w M (VlsIn A n l)) (hn : n ≤ 4398046511104) :
    Calls Tryz.prog 149 #[.slice A n c] w fun e w' => RowRet 3 (vlCells l) l.length w M e w' := by
  have hl := hid (show l.length = n from hD.now.len)
  have hq : ∀ (w : World) (a : Option Addr) (n c : Nat), (binOp .eql 51 (.slice a n c) (.slice none 0 0)).run Tryz.prog w = .ok (.bool a.isNone) w := fun w a n c => Go.Lib.run_eql_slice_nil w _ _ a n c 0 0 Tryz.underlying51
  rcases A with _ | a
  · have h0 : n = 0 := by
      rcases Nat.eq_zero_or_pos n with h | h
      · exact h
      · obtain ⟨_, _, e, _⟩ := (show Rd w w.heap.size 3 none n (vlCells l) from hD.now).2 h; cases e
    subst h0
    obtain rfl : l = [] := List.length_eq_zero_iff.1 hl.out
    go_enter Tryz.func149, Tryz.ntmps149
    go_wp2_with fail
    go_ret
    exact ⟨none, 0, 0, rfl, rfl, by omega, by omega, ro_nil, Below.refl _ _⟩
  · have K0 := (Hold.start M w hM).add (hD.less (by simp [Mut]))
    have K1 := K0.alloc_own #[] 117 3 0 (by unfold maxLen; omega) rfl
    have hr := hid (show VlsIn (some a) n l _ from (K1.ro 1 rfl).now)
    have h1 := hid (one_vls l)
    go_enter Tryz.func149, Tryz.ntmps149
    go_wp2_with (at_builtin; go_must (refine wpList_appAllH K1 0 rfl Tryz.elVl hr.out rfl (.tmp 5) (.tmp 6) rfl rfl rfl h1.out (by omega) (by omega) ?_); intro C' cap' w2 hc1 hm1 K2)
    have KS := K2.sealRow 0 rfl
    go_ret
    simp only [Nat.zero_add, List.nil_append, List.set_cons_zero] at KS hc1
    exact ⟨C', n, cap', by first | rfl | simp, hl.out.symm, hc1, hm1, KS.roOut 0 rfl, KS.below⟩
set_option maxHeartbeats 4000000 in
set_option maxRecDepth 100000 in
theorem cloneCols_any (M : Nat → Prop) (w : World) (hM : ∀ b, M b → b < w.heap.size) (A : Option Addr) (n c : Nat) (l : List Col) (hD : Ro w M (ColsIn A n l)) (hn : n ≤ 4398046511104) :
    Calls Tryz.prog 118 #[.slice A n c] w fun e w' => RowRet 4 (colCells l) l.length w M e w' := by
  have hl := hid (show l.length = n from (RdC.of_sl hD.now).len)
  have hq : ∀ (w : World) (a : Option Addr) (n c : Nat), (binOp .eql 47 (.slice a n c) (.slice none 0 0)).run Tryz.prog w = .ok (.bool a.isNone) w := fun w a n c => Go.Lib.run_eql_slice_nil w _ _ a n c 0 0 Tryz.underlying47
  rcases A with _ | a
  · have h0 : n = 0 := by
      rcases Nat.eq_zero_or_pos n with h | h
      · exact h
      · obtain ⟨_, _, e, _⟩ := (show Rd w w.heap.size 4 none n (colCells l) from hD.now).2 h; cases e
    subst h0
    obtain rfl : l = [] := List.length_eq_zero_iff.1 hl.out
    go_enter Tryz.func118, Tryz.ntmps118
    go_wp2_with fail
    go_ret
    exact ⟨none, 0, 0, rfl, rfl, by omega, by omega, ro_nil, Below.refl _ _⟩
  · have K0 := (Hold.start M w hM).add (hD.less (by simp [Mut]))
    have K1 := K0.alloc_own #[] 147 4 0 (by unfold maxLen; omega) rfl
    have hr := hid (show ColsIn (some a) n l _ from (K1.ro 1 rfl).now)
    have h1 := hid (one_cols l)
    go_enter Tryz.func118, Tryz.ntmps118
    go_wp2_with (at_builtin; go_must (refine wpList_appAllH K1 0 rfl Tryz.elCol hr.out rfl (.tmp 5) (.tmp 6) rfl rfl rfl h1.out (by omega) (by omega) ?_); intro C' cap' w2 hc1 hm1 K2)
    have KS := K2.sealRow 0 rfl
    go_ret
    simp only [Nat.zero_add, List.nil_append, List.set_cons_zero] at KS hc1
    exact ⟨C', n, cap', by first | rfl | simp, hl.out.symm, hc1, hm1, KS.roOut 0 rfl, KS.below⟩
set_option maxHeartbeats 4000000 in
set_option maxRecDepth 100000 in
theorem copyVls_any (M : Nat → Prop) (w : World) (hM : ∀ b, M b → b < w.heap.size) (A : Option Addr) (n c : Nat) (l : List Vl) (hD : Ro w M (VlsIn A n l)) (hn : n ≤ 4398046511104) :
    Calls Tryz.prog 56 #[.slice A n c] w fun e w' => RowRet 3 (vlCells l) l.length w M e w' := by
  have hl := hid (show l.length = n from hD.now.len)
  have K0 := ((Hold.start M w hM).add (hD.less (by simp [Mut]))).nil 117 3
  have hr := hid (show VlsIn A n l _ from (K0.ro 1 rfl).now)
  have h1 := hid (one_vls l)
  go_enter Tryz.func56, Tryz.ntmps56
  go_wp2_with (at_builtin; go_must (refine wpList_appAllH K0 0 rfl Tryz.elVl hr.out rfl (.const (.slice none 0 0)) (.tmp 3) rfl rfl rfl h1.out (by omega) (by omega) ?_); intro C' cap' w2 hc1 hm1 K2)
  have KS := K2.sealRow 0 rfl
  go_ret
  simp only [Nat.zero_add, List.nil_append, List.set_cons_zero] at KS hc1
  exact ⟨C', n, cap', by first | rfl | simp, hl.out.symm, hc1, hm1, KS.roOut 0 rfl, KS.below⟩
end Go.Proofs.YtedogodccblfeaaGreatDoor

namespace Go.Proofs.YtedogodccblfeaaGreatDoor
open Go.RowKit
set_option linter.unusedVariables false
set_option linter.unusedSimpArgs false

set_option maxHeartbeats 1000000 in
theorem rvalid_any (k i : Int) (s : ByteArray) (w : World) (hs : s.size ≤ maxLen) :
    Calls Tryz.prog 195 #[.agg #[.int .i64 k, .int .i64 i, .string s]] w fun e w' => e = .returned (.bool (validB k i s)) ∧ w.alloc (.cells #[.int .i64 k, .int .i64 i, .string s] 117) = w' := by
  unfold maxLen at hs
  by_cases h0 : k = 0
  · subst h0
    cases hi : (i == 0) <;> cases he : s.toList.isEmpty
    all_goals
      go_enter Tryz.func195, Tryz.ntmps195
      go_wp2_with fail
      go_ret
      refine ⟨?_, rfl⟩
      simp [validB, hi, he]
  by_cases h1 : k = 1
  · subst h1
    go_enter Tryz.func195, Tryz.ntmps195
    go_wp2_with fail
    go_ret
    refine ⟨?_, rfl⟩
    simp [validB]
  by_cases h2 : k = 2
  · subst h2
    cases hi : (i == 0) <;> cases hj : (i == 1)
    all_goals
      go_enter Tryz.func195, Tryz.ntmps195
      go_wp2_with fail
      go_ret
      refine ⟨?_, rfl⟩
      simp [validB, hi, hj]
  by_cases h3 : k = 3
  · subst h3
    cases hi : (i == 0)
    · have hi' : (i != 0) = true := by simp only [bne, hi, Bool.not_false]
      go_enter Tryz.func195, Tryz.ntmps195
      go_wp2_with fail
      go_ret
      refine ⟨?_, rfl⟩
      simp [validB, hi]
    · have hi' : (i != 0) = false := by simp only [bne, hi, Bool.not_true]
      by_cases hl : s.size ≤ 64
      · have l0 : ((s.size : Int)) ≤ 64 := by omega
        have HV : Hid (validB 3 i s = plainB s) := by unfold Hid; simp [validB, hi]
        have B0 := Blk.new w 117 #[.int .i64 3, .int .i64 i, .string s]
        obtain ⟨c0, c1, c2, cl⟩ := B0.c3
        go_enter Tryz.func195, Tryz.ntmps195
        go_wp2_with fail
        go_loop [3] (fun j => ∃ k : Nat, k ≤ s.size ∧ j = .int .i64 k ∧ (s.data.toList.take k).all okByte = true) (fun j => s.size - (intOf j).toNat)
        case atStart => exact ⟨0, by omega, rfl, rfl⟩
        case round =>
          obtain ⟨k, hk, rfl, hall⟩ := hrel
          have HA := hid hall; clear hall
          by_cases hlt : k < s.size
          · have hts : Hid (s.data.toList.take (k + 1) = s.data.toList.take k ++ [s[k]]) := by
              unfold Hid; rw [List.take_succ_eq_append_getElem (by simpa using hlt)]; rfl
            by_cases hb : 32 ≤ s[k].toNat ∧ s[k].toNat ≤ 126
            · have b1 : (32 : Int) ≤ (s[k].toNat : Int) := by omega
              have b2 : (s[k].toNat : Int) ≤ 126 := by omega
              have HB := hid hb; clear hb
              go_wp2_with fail
              go_round
              case rel => exact ⟨k + 1, by omega, by go_num, by rw [hts.out, List.all_append, HA.out]; simp [okByte, HB.out]⟩
              case measure => simp [intOf]; omega
            · have hno : Hid (plainB s = false) := by
                unfold Hid plainB
                have : s.data.toList.all okByte = false := by
                  rw [List.all_eq_false]
                  exact ⟨s[k], List.mem_of_getElem (i := k) (h := by simpa using hlt) rfl, by simp [okByte]; omega⟩
                rw [this]; rfl
              by_cases h32 : (s[k].toNat : Int) < 32
              · clear hb
                go_wp2
                go_ret
                exact ⟨by rw [HV.out, hno.out]; rfl, rfl⟩
              · have h126 : (126 : Int) < (s[k].toNat : Int) := by omega
                clear hb
                go_wp2
                go_ret
                exact ⟨by rw [HV.out, hno.out]; rfl, rfl⟩
          · obtain rfl : k = s.size := by omega
            have hyes : Hid (plainB s = true) := by
              unfold Hid plainB
              have h := HA.out
              rw [List.take_of_length_le (by simp)] at h
              rw [h]; simpa using hl
            go_wp2
            go_ret
            exact ⟨by rw [HV.out, hyes.out]; rfl, rfl⟩
      · have l0 : (64 : Int) < (s.size : Int) := by omega
        have HV : Hid (validB 3 i s = false) := by unfold Hid; simp [validB, hi, plainB]; omega
        go_enter Tryz.func195, Tryz.ntmps195
        go_wp2_with fail
        go_ret
        exact ⟨by rw [HV.out]; rfl, rfl⟩
  · have k0 : (k == 0) = false := by simpa using h0
    have k1 : (k == 1) = false := by simpa using h1
    have k2 : (k == 2) = false := by simpa using h2
    have k3 : (k == 3) = false := by simpa using h3
    go_enter Tryz.func195, Tryz.ntmps195
    go_wp2_with fail
    go_ret
    refine ⟨?_, rfl⟩
    simp [validB, h0, h1, h2, h3]

end Go.Proofs.YtedogodccblfeaaGreatDoor

namespace Go.Proofs.YtedogodccblfeaaGreatDoor
open Go.RowKit
set_option linter.unusedVariables false

/-- A call that gives a value, and turns nothing that was there. -/
def Gives (f : FuncId) (args : Array Value) (v : Value) : Prop :=
  ∀ w : World, Calls Tryz.prog f args w fun e w' => e = .returned v ∧ Below w.heap.size w w'

end Go.Proofs.YtedogodccblfeaaGreatDoor

namespace Go.Proofs.YtedogodccblfeaaGreatDoor
open Go.RowKit
set_option linter.unusedVariables false
set_option linter.unusedSimpArgs false

def fitsE (nm : ByteArray) (ty : Int) (nn key : Bool) (k i : Int) (s : ByteArray) : Int :=
  if validB k i s then (if k == 0 then (if nn then 8 else 0) else if k == ty then 0 else 5) else 17

set_option maxHeartbeats 1000000 in
theorem fits_any (nm : ByteArray) (ty : Int) (nn key : Bool) (k i : Int) (s : ByteArray) (hs : s.size ≤ maxLen) :
    Gives 198 #[.agg #[.string nm, .int .i64 ty, .bool nn, .bool key], .agg #[.int .i64 k, .int .i64 i, .string s]] (.int .i64 (fitsE nm ty nn key k i s)) := by
  intro w
  have v1 := fun w => valid_any k i s w hs
  cases e1 : validB k i s <;> cases z : (k == 0) <;> cases nn <;> cases tt : (k == ty)
  all_goals
    rw [e1] at v1
    have V1 := hid v1; clear v1
    have z' : (k != 0) = !(k == 0) := rfl
    have tt' : (k != ty) = !(k == ty) := rfl
    rw [z] at z'
    rw [tt] at tt'
    simp only [Bool.not_true, Bool.not_false] at z' tt'
    go_enter Tryz.func198, Tryz.ntmps198
    go_wp2_with fail
    refine (V1.out _).mono ?_
    rintro e w1 ⟨rfl, rfl⟩
    go_wp2_with fail
    go_ret
    exact ⟨by simp [fitsE, e1, z, tt], ext3 _ _ _ _⟩

set_option maxHeartbeats 1000000 in
theorem rfits_any (nm : ByteArray) (ty : Int) (nn key : Bool) (k i : Int) (s : ByteArray) (hs : s.size ≤ maxLen) :
    Gives 142 #[.agg #[.string nm, .int .i64 ty, .bool nn, .bool key], .agg #[.int .i64 k, .int .i64 i, .string s]] (.int .i64 (fitsE nm ty nn key k i s)) := by
  intro w
  have v1 := fun w => rvalid_any k i s w hs
  cases e1 : validB k i s <;> cases z : (k == 0) <;> cases nn <;> cases tt : (k == ty)
  all_goals
    rw [e1] at v1
    have V1 := hid v1; clear v1
    have z' : (k != 0) = !(k == 0) := rfl
    have tt' : (k != ty) = !(k == ty) := rfl
    rw [z] at z'
    rw [tt] at tt'
    simp only [Bool.not_true, Bool.not_false] at z' tt'
    go_enter Tryz.func142, Tryz.ntmps142
    go_wp2_with fail
    refine (V1.out _).mono ?_
    rintro e w1 ⟨rfl, rfl⟩
    go_wp2_with fail
    go_ret
    exact ⟨by simp [fitsE, e1, z, tt], ext3 _ _ _ _⟩
end Go.Proofs.YtedogodccblfeaaGreatDoor

namespace Go.Proofs.YtedogodccblfeaaGreatDoor
open Go
set_option linter.unusedVariables false
set_option linter.unusedSectionVars false
set_option linter.unusedSimpArgs false

def slot (a : Act) : Option Tmp → Value
  | some t => a.tmps.getD t undef
  | none => undef

section
variable (P : Program) (ops : Array Oper) (C : World → Prop) (G : Option Tmp → Value → World → Prop) (R : World → World → Prop)

/-- What an operation waits for lies there. -/
def Deps (o : Oper) (a : Act) (w : World) : Prop := ∀ e ∈ o.after, Region.binds .any e = true → ∀ oe, ops[e.on]? = some oe → G oe.dst (slot a oe.dst) w
def goodUpon (d : Option Tmp) (w : World) : Result Next → Prop
  | .ok (.value u) w' => G d u w' ∧ C w' ∧ R w w'
  | .ok .skip w' => G d undef w' ∧ C w' ∧ R w w'
  | .ok (.enter f args) w' => Calls P f args w' fun e w'' => ∃ u, e = .returned u ∧ G d u w'' ∧ C w'' ∧ R w w''
  | _ => False
def Good (o : Oper) (a : Act) (w : World) : Prop := goodUpon P C G R o.dst w ((execOp a.eval o).run P w)
def mayUpon (u : Value) : Result Next → Prop
  | .ok (.value x) _ => u = x
  | .ok .skip _ => u = undef
  | .ok (.enter _ _) _ => True
  | _ => False
def StepOk (o : Oper) (a : Act) : Prop :=
  if Region.wanted o (yielded ops a.tmps) = true then ∀ w, C w → Deps ops G o a w → Good P C G R o a w else ∀ w, C w → G o.dst undef w
def May (o : Oper) (a : Act) (u : Value) : Prop :=
  if Region.wanted o (yielded ops a.tmps) = true then ∃ w, C w ∧ Deps ops G o a w ∧ mayUpon u ((execOp a.eval o).run P w) else u = undef
/-- Some world has all that is done so far. -/
def Inh (S : Array Bool) (k : Nat) (a : Act) : Prop := ∃ w, C w ∧ ∀ j oj, ops[j]? = some oj → (S.getD j false = true ∨ j < k) → G oj.dst (slot a oj.dst) w
/-- The walk in the order of the text, over what is still to come (S: what has come up). -/
def Wk (S : Array Bool) (F : Act → Prop) : Nat → Nat → Act → Prop
  | 0, k, a => Inh ops C G S k a → F a
  | m + 1, k, a => Inh ops C G S k a → match ops[k]? with
    | none => False
    | some o => if S.getD k false = true then Wk S F m (k + 1) a else StepOk P ops C G R o a ∧ ∀ u, May P ops C G o a u → Inh ops C G S (k + 1) (a.put o.dst u) → Wk S F m (k + 1) (a.put o.dst u)
def Inv (S : Array Bool) (a : Act) (w : World) : Prop := C w ∧ ∀ j oj, ops[j]? = some oj → S.getD j false = true → G oj.dst (slot a oj.dst) w
end

section
variable {P : Program} {ops : Array Oper} {C : World → Prop} {G : Option Tmp → Value → World → Prop} {R : World → World → Prop}

/-- no two operations of the region fill one slot; each slot lies in the frame -/
def dstsB (ops : Array Oper) (n : Nat) : Bool :=
  (List.range ops.size).all fun i => match (ops[i]?).bind (·.dst) with
    | none => true
    | some d => decide (d < n) && (List.range ops.size).all fun j => j == i || (ops[j]?).bind (·.dst) != some d
theorem dstsB_in {n i : Nat} {o : Oper} {d : Tmp} (h : dstsB ops n = true) (hi : ops[i]? = some o) (hd : o.dst = some d) : d < n := by
  have h1 := List.all_eq_true.1 h i (List.mem_range.2 (Array.getElem?_eq_some_iff.1 hi).1)
  simp only [hi, Option.bind_some, hd, Bool.and_eq_true, decide_eq_true_eq] at h1
  exact h1.1
theorem dstsB_ne {n i j : Nat} {o o' : Oper} {d : Tmp} (h : dstsB ops n = true) (hi : ops[i]? = some o) (hj : ops[j]? = some o') (hd : o.dst = some d) (hij : j ≠ i) : o'.dst ≠ some d := by
  have h1 := List.all_eq_true.1 h i (List.mem_range.2 (Array.getElem?_eq_some_iff.1 hi).1)
  simp only [hi, Option.bind_some, hd, Bool.and_eq_true] at h1
  have h2 := List.all_eq_true.1 h1.2 j (List.mem_range.2 (Array.getElem?_eq_some_iff.1 hj).1)
  simp only [hj, Option.bind_some, Bool.or_eq_true, beq_iff_eq, bne_iff_ne, ne_eq] at h2
  exact h2.resolve_left hij

theorem slot_put_ne {a : Act} {x y : Option Tmp} {v : Value} (h : ∀ d, x = some d → y ≠ some d) : slot (a.put x v) y = slot a y := by
  cases x with
  | none => rfl
  | some d =>
    cases y with
    | none => rfl
    | some t =>
      have hne : d ≠ t := fun e => h d rfl (by rw [e])
      simp only [Act.put, slot, Array.getD_eq_getD_getElem?, Array.getElem?_setIfInBounds_ne hne]
theorem slot_put_same {a : Act} {d : Tmp} {v : Value} (h : d < a.tmps.size) : slot (a.put (some d) v) (some d) = v := by
  simp [Act.put, slot, h]
theorem size_put {a : Act} {x : Option Tmp} {v : Value} : (a.put x v).tmps.size = a.tmps.size := by
  cases x <;> simp [Act.put]

/-- o' is apart from o: its coming up makes no difference to o -/
structure Aside (ops : Array Oper) (o o' : Oper) : Prop where
  sel : ∀ cs b, o.op ≠ .select cs b
  look : ∀ d, o'.dst = some d → d ∉ o.looksAt ops
  deps : ∀ e ∈ o.after, Region.binds .any e = true → ∀ oe, ops[e.on]? = some oe → ∀ d, o'.dst = some d → oe.dst ≠ some d

theorem Aside.wanted {o o' : Oper} (h : Aside ops o o') (a : Act) (v : Value) : Region.wanted o (yielded ops (a.put o'.dst v).tmps) = Region.wanted o (yielded ops a.tmps) := wanted_put o a o'.dst v h.look
theorem Aside.exec {o o' : Oper} (h : Aside ops o o') (a : Act) (v : Value) : execOp (a.put o'.dst v).eval o = execOp a.eval o := execOp_put (ops := ops) o h.sel a o'.dst v h.look
theorem Aside.deps_ {o o' : Oper} (h : Aside ops o o') (a : Act) (v : Value) (w : World) : Deps ops G o (a.put o'.dst v) w ↔ Deps ops G o a w := by
  constructor
  · intro k e he hb oe hoe
    have := k e he hb oe hoe
    rwa [slot_put_ne (h.deps e he hb oe hoe)] at this
  · intro k e he hb oe hoe
    rw [slot_put_ne (h.deps e he hb oe hoe)]
    exact k e he hb oe hoe
theorem Aside.step {o o' : Oper} (h : Aside ops o o') (a : Act) (v : Value) : StepOk P ops C G R o (a.put o'.dst v) ↔ StepOk P ops C G R o a := by
  unfold StepOk Good
  rw [h.wanted, h.exec]
  simp only [h.deps_]
theorem Aside.may {o o' : Oper} (h : Aside ops o o') (a : Act) (v u : Value) : May P ops C G o (a.put o'.dst v) u ↔ May P ops C G o a u := by
  unfold May
  rw [h.wanted, h.exec]
  simp only [h.deps_]

variable {n N : Nat} {F : Act → Prop}

/-- What is known of the region by looking. -/
structure Shape (ops : Array Oper) (n N : Nat) : Prop where
  dsts : dstsB ops N = true
  le : n ≤ ops.size
  /-- a head waits for earlier operations alone, and what comes behind it waits for it or is apart from it -/
  back : ∀ k o, ops[k]? = some o → k < n → ∀ e ∈ o.after, Region.binds .any e = true → e.on < k
  aside : ∀ k i ok oi, k < i → i < n → ops[k]? = some ok → ops[i]? = some oi → (∀ e ∈ oi.after, Region.binds .any e = true → e.on ≠ k) → ok.apart ops oi = true
  sel : ∀ (j : Nat) (o : Oper) cs b, ops[j]? = some o → o.op ≠ .select cs b

theorem Shape.aside_of (h : Shape ops n N) {k i : Nat} {ok oi : Oper} (hki : k < i) (hi : i < n) (hk' : ops[k]? = some ok) (hi' : ops[i]? = some oi) (hno : ∀ e ∈ oi.after, Region.binds .any e = true → e.on ≠ k) : Aside ops oi ok ∧ Aside ops ok oi := by
  obtain ⟨h1, h2, h3⟩ := Oper.apart_spec (h.aside k i ok oi hki hi hk' hi' hno)
  refine ⟨⟨fun cs b => h.sel i oi cs b hi', h1, fun e he hb oe hoe d hd => ?_⟩, ⟨fun cs b => h.sel k ok cs b hk', h3, fun e he hb oe hoe d hd => ?_⟩⟩
  · exact dstsB_ne h.dsts hk' hoe hd (hno e he hb)
  · have := h.back k ok hk' (by omega) e he hb
    exact dstsB_ne h.dsts hi' hoe hd (by omega)

section
variable (sh : Shape ops n N) (hmono : ∀ d u w w', R w w' → G d u w → G d u w')
include sh hmono

theorem slots_keep {S : Array Bool} {i : Nat} {oi : Oper} {a : Act} {u : Value} (hi : ops[i]? = some oi) {j : Nat} {oj : Oper} (hj : ops[j]? = some oj) (hji : j ≠ i) : slot (a.put oi.dst u) oj.dst = slot a oj.dst :=
  slot_put_ne fun d hd => dstsB_ne sh.dsts hi hj hd hji
theorem slots_new {i : Nat} {oi : Oper} {a : Act} {u : Value} (hN : a.tmps.size = N) (hi : ops[i]? = some oi) {w : World} (h : G oi.dst u w) (hu : oi.dst = none → G none undef w) : G oi.dst (slot (a.put oi.dst u) oi.dst) w := by
  cases hd : oi.dst with
  | none => simpa [slot] using hu hd
  | some d =>
    rw [slot_put_same (by rw [hN]; exact dstsB_in sh.dsts hi hd), ← hd]
    exact h

/-- Some result comes, and a world that has it. -/
theorem StepOk.some_ {k : Nat} {o : Oper} {a : Act} {w : World} (h : StepOk P ops C G R o a) (hC : C w) (hD : Deps ops G o a w) (hR : R w w) : ∃ u w', May P ops C G o a u ∧ C w' ∧ R w w' ∧ G o.dst u w' := by
  unfold StepOk at h
  unfold May
  split at h
  · rename_i hw
    simp only [hw, if_true]
    have hg := h w hC hD
    unfold Good at hg
    have key : ∀ r, (execOp a.eval o).run P w = r → goodUpon P C G R o.dst w r → ∃ u w', (∃ w, C w ∧ Deps ops G o a w ∧ mayUpon u ((execOp a.eval o).run P w)) ∧ C w' ∧ R w w' ∧ G o.dst u w' := by
      intro r hr hg
      cases r with
      | ok nx w' =>
        cases nx <;> simp only [goodUpon] at hg
        case value u => exact ⟨u, w', ⟨w, hC, hD, by rw [hr]; rfl⟩, hg.2.1, hg.2.2, hg.1⟩
        case skip => exact ⟨undef, w', ⟨w, hC, hD, by rw [hr]; rfl⟩, hg.2.1, hg.2.2, hg.1⟩
        case enter f args =>
          obtain ⟨e, w2, fr, ⟨u, _, h1, h2, h3⟩, _⟩ := hg []
          exact ⟨u, w2, ⟨w, hC, hD, by rw [hr]; trivial⟩, h2, h3, h1⟩
      | halt x w' => simp only [goodUpon] at hg
    exact key _ rfl hg
  · rename_i hw
    simp only [hw, if_false]
    exact ⟨undef, w, rfl, hC, hR, h w hC⟩

/-- Behind operation i the walk is as it was. -/
theorem Wk.past {S : Array Bool} {i : Nat} : ∀ (m k : Nat) (a : Act), i < k → i < S.size → Wk P ops C G R S F m k a → Wk P ops C G R (S.setIfInBounds i true) F m k a
  | 0, k, a, hk, hS, h => fun ⟨w, hw, hg⟩ => h ⟨w, hw, fun j oj hj hs => hg j oj hj (hs.imp (getD_set_true ·) id)⟩
  | m + 1, k, a, hk, hS, h => fun hI => by
    obtain ⟨w, hw, hg⟩ := hI
    have hI' : Inh ops C G S k a := ⟨w, hw, fun j oj hj hs => hg j oj hj (hs.imp (getD_set_true ·) id)⟩
    have h1 := h hI'
    cases ho : ops[k]? with
    | none => simp only [ho] at h1
    | some o =>
      simp only [ho] at h1 ⊢
      rw [getD_set_ne false (by omega : i ≠ k)]
      split at h1
      · rename_i hs
        simp only [hs, if_true]
        exact Wk.past m (k + 1) a (by omega) hS h1
      · rename_i hs
        simp only [hs, if_false]
        refine ⟨h1.1, fun u hu hI2 => Wk.past m (k + 1) _ (by omega) hS (h1.2 u hu ?_)⟩
        obtain ⟨w, hw, hg⟩ := hI2
        exact ⟨w, hw, fun j oj hj hs => hg j oj hj (hs.imp (getD_set_true ·) id)⟩

/-- Operation i comes up first. -/
theorem Wk.front {S : Array Bool} {i : Nat} {oi : Oper} (hi : ops[i]? = some oi) (hin : i < n) (hS : S.size = ops.size) (hun : S.getD i false = false) (hw : ∀ e ∈ oi.after, Region.binds .any e = true → S.getD e.on false = true) {u : Value} :
    ∀ (m k : Nat) (a : Act), k ≤ i → k + m = n → a.tmps.size = N → May P ops C G oi a u → Wk P ops C G R S F m k a → Wk P ops C G R (S.setIfInBounds i true) F m k (a.put oi.dst u)
  | 0, k, a, hk, hkm, _, _, h => by omega
  | m + 1, k, a, hk, hkm, hN, hu, h => fun hI => by
    have hiS : i < S.size := by rw [hS]; exact (Array.getElem?_eq_some_iff.1 hi).1
    obtain ⟨w, hw', hg⟩ := hI
    have hI' : Inh ops C G S k a := ⟨w, hw', fun j oj hj hs => by
      have hji : j ≠ i := by rintro rfl; rcases hs with hs | hs; · rw [hun] at hs; cases hs
                             · omega
      have := hg j oj hj (hs.imp (getD_set_true ·) id)
      rwa [slots_keep sh hmono (S := S) hi hj hji] at this⟩
    have h1 := h hI'
    by_cases hki : k = i
    · subst hki
      simp only [hi, hun, if_false, Bool.false_eq_true] at h1
      simp only [hi]
      have hst : (S.setIfInBounds k true).getD k false = true := by simp [hiS]
      simp only [hst, if_true]
      refine Wk.past sh hmono m (k + 1) _ (by omega) hiS (h1.2 u hu ⟨w, hw', fun j oj hj hs => hg j oj hj ?_⟩)
      by_cases hjk : j = k
      · subst hjk; exact .inl hst
      · rcases hs with hs | hs
        · exact .inl (getD_set_true hs)
        · exact .inr (by omega)
    · cases ho : ops[k]? with
      | none => simp only [ho] at h1
      | some o =>
        simp only [ho] at h1 ⊢
        rw [getD_set_ne false (Ne.symm hki)]
        split at h1
        · rename_i hs
          simp only [hs, if_true]
          exact Wk.front hi hin hS hun hw m (k + 1) a (by omega) (by omega) hN hu h1
        · rename_i hs
          simp only [hs, if_false]
          have hno : ∀ e ∈ oi.after, Region.binds .any e = true → e.on ≠ k := fun e he hb hek => by
            have := hw e he hb
            rw [hek] at this
            exact hs this
          obtain ⟨as1, as2⟩ := sh.aside_of (show k < i by omega) hin ho hi hno
          refine ⟨(as2.step a u).2 h1.1, fun v hv hI2 => ?_⟩
          rw [as2.may] at hv
          have hdd : ∀ d, o.dst = some d → oi.dst ≠ some d := fun d hd => dstsB_ne sh.dsts ho hi hd (Ne.symm hki)
          have hcomm : (a.put oi.dst u).put o.dst v = (a.put o.dst v).put oi.dst u := (Act.put_comm a v u hdd).symm
          rw [hcomm] at hI2 ⊢
          refine Wk.front hi hin hS hun hw m (k + 1) _ (by omega) (by omega) (by rw [size_put]; exact hN) ((as1.may a v u).2 hu) (h1.2 v hv ?_)
          obtain ⟨w2, hw2, hg2⟩ := hI2
          refine ⟨w2, hw2, fun j oj hj hs2 => ?_⟩
          have hji : j ≠ i := by rintro rfl; rcases hs2 with hs2 | hs2; · rw [hun] at hs2; cases hs2
                                 · omega
          have := hg2 j oj hj (hs2.imp (getD_set_true ·) id)
          rwa [slots_keep sh hmono (S := S) hi hj hji] at this

/-- An operation that is ready is good. -/
theorem Wk.ready {S : Array Bool} {i : Nat} {oi : Oper} (hR : ∀ w, C w → R w w) (hu : ∀ w, C w → G none undef w) (hi : ops[i]? = some oi) (hin : i < n) (hun : S.getD i false = false) (hw : ∀ e ∈ oi.after, Region.binds .any e = true → S.getD e.on false = true) :
    ∀ (m k : Nat) (a : Act) (w : World), k ≤ i → k + m = n → a.tmps.size = N → C w → (∀ j oj, ops[j]? = some oj → (S.getD j false = true ∨ j < k) → G oj.dst (slot a oj.dst) w) → Wk P ops C G R S F m k a → StepOk P ops C G R oi a
  | 0, k, a, w, hk, hkm, _, _, _, h => by omega
  | m + 1, k, a, w, hk, hkm, hN, hC, hg, h => by
    have h1 := h ⟨w, hC, hg⟩
    by_cases hki : k = i
    · subst hki
      simp only [hi, hun, if_false, Bool.false_eq_true] at h1
      exact h1.1
    · cases ho : ops[k]? with
      | none => simp only [ho] at h1
      | some o =>
        simp only [ho] at h1
        split at h1
        · rename_i hs
          exact Wk.ready hR hu hi hin hun hw m (k + 1) a w (by omega) (by omega) hN hC (fun j oj hj hs2 => hg j oj hj (by
            rcases hs2 with hs2 | hs2
            · exact .inl hs2
            · rcases Nat.lt_or_ge j k with h' | h'
              · exact .inr h'
              · obtain rfl : j = k := by omega
                exact .inl hs)) h1
        · rename_i hs
          have hno : ∀ e ∈ oi.after, Region.binds .any e = true → e.on ≠ k := fun e he hb hek => by
            have := hw e he hb
            rw [hek] at this
            exact hs this
          obtain ⟨as1, as2⟩ := sh.aside_of (show k < i by omega) hin ho hi hno
          have hD : Deps ops G o a w := fun e he hb oe hoe => hg e.on oe hoe (.inr (sh.back k o ho (by omega) e he hb))
          obtain ⟨u, w', hm, hC', hR', hG'⟩ := StepOk.some_ sh hmono (k := k) h1.1 hC hD (hR w hC)
          have hg' : ∀ j oj, ops[j]? = some oj → (S.getD j false = true ∨ j < k + 1) → G oj.dst (slot (a.put o.dst u) oj.dst) w' := fun j oj hj hs2 => by
            by_cases hjk : j = k
            · subst hjk
              obtain rfl : o = oj := Option.some.inj (ho.symm.trans hj)
              exact slots_new sh hmono hN hj hG' (fun _ => hu w' hC')
            · rw [slots_keep sh hmono (S := S) ho hj hjk]
              exact hmono _ _ _ _ hR' (hg j oj hj (hs2.imp id (by omega)))
          have := Wk.ready hR hu hi hin hun hw m (k + 1) (a.put o.dst u) w' (by omega) (by omega) (by rw [size_put]; exact hN) hC' hg' (h1.2 u hm ⟨w', hC', hg'⟩)
          exact (as1.step a u).1 this
/-- All has come up. -/
theorem Wk.done {S : Array Bool} : ∀ (m k : Nat) (a : Act) (w : World), k + m = n → (∀ j, j < n → S.getD j false = true) → C w → (∀ j oj, ops[j]? = some oj → (S.getD j false = true ∨ j < k) → G oj.dst (slot a oj.dst) w) → Wk P ops C G R S F m k a → F a
  | 0, k, a, w, hkm, hall, hC, hg, h => h ⟨w, hC, hg⟩
  | m + 1, k, a, w, hkm, hall, hC, hg, h => by
    have h1 := h ⟨w, hC, hg⟩
    have hk := hall k (by omega)
    cases ho : ops[k]? with
    | none => simp only [ho] at h1
    | some o =>
      simp only [ho, hk, if_true] at h1
      exact Wk.done m (k + 1) a w (by omega) hall hC (fun j oj hj hs2 => hg j oj hj (by
        rcases hs2 with hs2 | hs2
        · exact .inl hs2
        · exact .inl (hall j (by omega)))) h1
end

/-! ### Every order -/
theorem count_one {i : Nat} {p q : Nat → Bool} (hp : p i = true) (hq : q i = false) (he : ∀ j, j ≠ i → q j = p j) : ∀ l : List Nat, l.Nodup → (i ∈ l → l.countP p = l.countP q + 1) ∧ (i ∉ l → l.countP p = l.countP q)
  | [], _ => ⟨(fun h => nomatch h), fun _ => rfl⟩
  | x :: l, h => by
    obtain ⟨h1, h2⟩ := List.nodup_cons.1 h
    obtain ⟨i1, i2⟩ := count_one hp hq he l h2
    by_cases hx : x = i
    · subst hx
      refine ⟨fun _ => ?_, fun hn => absurd (List.mem_cons_self ..) hn⟩
      have := i2 h1
      simp [List.countP_cons, hp, hq, this]
    · refine ⟨fun hm => ?_, fun hn => ?_⟩
      · have := i1 ((List.mem_cons.1 hm).resolve_left (Ne.symm hx))
        simp only [List.countP_cons, he x hx, this]
        omega
      · have := i2 fun hm => hn (List.mem_cons_of_mem _ hm)
        simp only [List.countP_cons, he x hx, this]
def unl (n : Nat) (S : Array Bool) : Nat := (List.range n).countP fun i => S.getD i true == false
theorem unl_set {n i : Nat} {S : Array Bool} (hi : i < n) (hun : S.getD i true = false) : unl n S = unl n (S.setIfInBounds i true) + 1 := by
  refine ((count_one (i := i) (by simp [hun]) ?_ fun j hj => ?_) (List.range n) List.nodup_range).1 (List.mem_range.2 hi)
  · rcases Nat.lt_or_ge i S.size with h | h
    · simp [h]
    · simp [Array.getElem?_eq_none h] at hun
  · rw [getD_set_ne true (Ne.symm hj)]
theorem unl_zero {n : Nat} {S : Array Bool} (h : unl n S = 0) (hs : n ≤ S.size) : ∀ j, j < n → S.getD j false = true := fun j hj => by
  have := List.countP_eq_zero.1 h j (List.mem_range.2 hj)
  have hl : j < S.size := by omega
  simpa [hl] using this
theorem unl_pos {n m : Nat} {S : Array Bool} (h : unl n S = m + 1) : ∃ j, j < n ∧ S.getD j true = false := by
  have : 0 < (List.range n).countP fun i => S.getD i true == false := by unfold unl at h; omega
  obtain ⟨j, hj, hp⟩ := List.countP_pos_iff.1 this
  exact ⟨j, List.mem_range.1 hj, by simpa using hp⟩
theorem least {p : Nat → Prop} : ∀ k, p k → ∃ j, p j ∧ ∀ i, i < j → ¬ p i := fun k h => by
  induction k using Nat.strongRecOn with
  | _ k ih =>
    by_cases hh : ∃ i, i < k ∧ p i
    · obtain ⟨i, hi, hp⟩ := hh; exact ih i hi hp
    · exact ⟨k, h, fun i hi hp => hh ⟨i, hi, hp⟩⟩

theorem good_wp {o : Oper} {a : Act} {w : World} {K : Act → World → Prop} {Q : Exit → Act → World → Prop} (hC : C w) (hD : Deps ops G o a w) (hw : Region.wanted o (yielded ops a.tmps) = true) (h : Good P C G R o a w)
    (hK : ∀ u w', May P ops C G o a u → C w' → R w w' → G o.dst u w' → K (a.put o.dst u) w') : o.wp P a w K Q := by
  unfold Good at h
  unfold May at hK
  simp only [hw, if_true] at hK
  unfold Oper.wp
  have key : ∀ r, (execOp a.eval o).run P w = r → goodUpon P C G R o.dst w r → Oper.upon P o a K Q r := by
    intro r hr hg
    cases r with
    | ok nx w' =>
      cases nx <;> simp only [goodUpon] at hg
      case value u => exact hK u w' ⟨w, hC, hD, by rw [hr]; rfl⟩ hg.2.1 hg.2.2 hg.1
      case skip => exact hK undef w' ⟨w, hC, hD, by rw [hr]; rfl⟩ hg.2.1 hg.2.2 hg.1
      case enter f args =>
        exact Calls.mono hg fun e w2 ⟨u, he, h1, h2, h3⟩ => by subst he; exact hK u w2 ⟨w, hC, hD, by rw [hr]; trivial⟩ h2 h3 h1
    | halt x w' => simp only [goodUpon] at hg
  exact key _ rfl h

theorem wpAny_of_wk (sh : Shape ops n N) (hmono : ∀ d u w w', R w w' → G d u w → G d u w') (hR : ∀ w, C w → R w w) (hu : ∀ w, C w → G none undef w) {g : Nat} {Q : Exit → Act → World → Prop} (S0 : Array Bool)
    (htail : ∀ S, HeadInv .any ops n S → (∀ j, S0.getD j false = true → S.getD j false = true) → (∃ i, i < n ∧ S.getD i true = false) → ∀ t, n ≤ t → t ∉ Region.ready .any ops S)
    (hend : ∀ S a w, HeadInv .any ops n S → (∀ j, j < n → S.getD j false = true) → C w → (∀ j oj, ops[j]? = some oj → j < n → G oj.dst (slot a oj.dst) w) → F a → wpAny P .any ops Q g S a w) :
    ∀ (f : Nat) (S : Array Bool) (a : Act) (w : World), HeadInv .any ops n S → (∀ j, S0.getD j false = true → S.getD j false = true) → unl n S = f → a.tmps.size = N → Inv ops C G S a w → Wk P ops C G R S F n 0 a → wpAny P .any ops Q (f + g) S a w
  | 0, S, a, w, hd, h0s, hf, hN, hI, h => by
    have hall := unl_zero hf (by rw [hd.size]; exact sh.le)
    rw [Nat.zero_add]
    exact hend S a w hd hall hI.1 (fun j oj hj hjn => hI.2 j oj hj (hall j hjn)) (Wk.done sh hmono n 0 a w (by omega) hall hI.1 (fun j oj hj hs => hI.2 j oj hj (hs.resolve_right (by omega))) h)
  | f + 1, S, a, w, hd, h0s, hf, hN, hI, h => by
    obtain ⟨k0, hk0, hun0⟩ := unl_pos hf
    obtain ⟨k, ⟨hk, hun⟩, hmin⟩ := least (p := fun j => j < n ∧ S.getD j true = false) k0 ⟨hk0, hun0⟩
    have hrk : k ∈ Region.ready .any ops S := by
      have hks : k < ops.size := by have := sh.le; omega
      refine mem_ready.2 ⟨hun, ops[k], Array.getElem?_eq_getElem hks, fun e he hb => ?_⟩
      have hlt := sh.back k _ (Array.getElem?_eq_getElem hks) hk e he hb
      cases hS : S.getD e.on false with
      | true => rfl
      | false => exact absurd ⟨by omega, getD_in (by rw [hd.size]; have := sh.le; omega) hS⟩ (hmin e.on hlt)
    rw [show f + 1 + g = (f + g) + 1 by omega]
    refine ⟨fun h0 => (by rw [h0] at hrk; cases hrk), fun i hi => ?_⟩
    have hin : i < n := by
      rcases Nat.lt_or_ge i n with h' | h'
      · exact h'
      · exact absurd hi (htail S hd h0s ⟨k, hk, hun⟩ i h')
    obtain ⟨huni, oi, hoi, hall⟩ := mem_ready.1 hi
    have hunf : S.getD i false = false := getD_both huni
    have hst := Wk.ready sh hmono hR hu hoi hin hunf hall n 0 a w (by omega) (by omega) hN hI.1 (fun j oj hj hs => hI.2 j oj hj (hs.resolve_right (by omega))) h
    have hD : Deps ops G oi a w := fun e he hb oe hoe => hI.2 e.on oe hoe (hall e he hb)
    have hnext : ∀ u w', May P ops C G oi a u → C w' → R w w' → G oi.dst u w' → wpAny P .any ops Q (f + g) (S.setIfInBounds i true) (a.put oi.dst u) w' := fun u w' hm hC' hR' hG' => by
      refine wpAny_of_wk sh hmono hR hu S0 htail hend f _ _ w' (hd.set hi hin) (fun j hj => getD_set_true (h0s j hj)) ?_ (by rw [size_put]; exact hN) ⟨hC', fun j oj hj hs => ?_⟩ (Wk.front sh hmono hoi hin (by rw [hd.size]) hunf hall n 0 a (by omega) (by omega) hN hm h)
      · have := unl_set hin huni; omega
      · by_cases hji : j = i
        · subst hji
          obtain rfl : oi = oj := Option.some.inj (hoi.symm.trans hj)
          exact slots_new sh hmono hN hj hG' (fun _ => hu w' hC')
        · rw [slots_keep sh hmono (S := S) hoi hj hji]
          rw [getD_set_ne false (Ne.symm hji)] at hs
          exact hmono _ _ _ _ hR' (hI.2 j oj hj hs)
    unfold wpOp
    simp only [hoi]
    split
    · rename_i hw
      refine .inl (good_wp hI.1 hD hw ?_ hnext)
      unfold StepOk at hst
      simp only [hw, if_true] at hst
      exact hst w hI.1 hD
    · rename_i hw
      unfold StepOk at hst
      rw [if_neg hw] at hst
      exact hnext undef w (by unfold May; rw [if_neg hw]) hI.1 (hR w hI.1) (hst w hI.1)

/-! ### What is looked at, as a Bool -/
def headList (n m : Nat) : Array Bool := (List.replicate n true ++ List.replicate (m - n) false).toArray
def backB (ops : Array Oper) (n : Nat) : Bool := (List.range n).all fun k => match ops[k]? with
  | some o => o.after.all fun e => !Region.binds .any e || decide (e.on < k)
  | none => true
def asideB (ops : Array Oper) (n : Nat) : Bool := (List.range n).all fun i => (List.range i).all fun k => match ops[i]?, ops[k]? with
  | some oi, some ok => oi.after.any (fun e => Region.binds .any e && e.on == k) || ok.apart ops oi
  | _, _ => true
/-- every operation below n, but those of S0, is waited for by a later one up to n -/
def sinkS (ops : Array Oper) (S0 : Array Bool) (n : Nat) : Bool := (List.range n).all fun i => S0.getD i false || (List.range (n + 1)).any fun j => decide (i < j) && Region.waitsFor .any ops j i
/-- S0 holds what its operations wait for, and nothing from n on -/
def closedB (ops : Array Oper) (S0 : Array Bool) (n : Nat) : Bool := decide (S0.size = ops.size) && (List.range ops.size).all fun j => !S0.getD j false || (decide (j < n) && match ops[j]? with
  | some o => o.after.all fun e => !Region.binds .any e || S0.getD e.on false
  | none => true)
/-- what comes behind n waits for something from n on -/
def laterB (ops : Array Oper) (n : Nat) : Bool := (List.range ops.size).all fun t => decide (t ≤ n) || (List.range ops.size).any fun j => decide (n ≤ j) && Region.waitsFor .any ops t j
def relC (ops : Array Oper) (S0 : Array Bool) (n N : Nat) : Bool :=
  Region.noSelect ops && dstsB ops N && decide (n ≤ ops.size) && backB ops n && asideB ops n && (decide (n = ops.size) || (decide (n < ops.size) && sinkS ops S0 n && laterB ops n)) && closedB ops S0 n
def relB (ops : Array Oper) (S0 : Array Bool) (n N : Nat) : Bool := relC ops S0 n N && Region.seqB .any ops (ops.size - n) n (headList n ops.size)
theorem closedB_head {S0 : Array Bool} {n : Nat} (h : closedB ops S0 n = true) : HeadInv .any ops n S0 := by
  simp only [closedB, Bool.and_eq_true, decide_eq_true_eq] at h
  have key : ∀ j, S0.getD j false = true → j < ops.size ∧ j < n ∧ ∀ o, ops[j]? = some o → ∀ e ∈ o.after, Region.binds .any e = true → S0.getD e.on false = true := fun j hj => by
    have hjs : j < ops.size := by
      rcases Nat.lt_or_ge j S0.size with h' | h'
      · rw [← h.1]; exact h'
      · simp [Array.getElem?_eq_none h'] at hj
    have h1 := List.all_eq_true.1 h.2 j (List.mem_range.2 hjs)
    simp only [hj, Bool.not_true, Bool.false_or, Bool.and_eq_true, decide_eq_true_eq] at h1
    refine ⟨hjs, h1.1, fun o ho e he hb => ?_⟩
    have h2 := h1.2
    simp only [ho] at h2
    have h3 := Array.all_eq_true'.1 h2 e he
    simpa only [hb, Bool.not_true, Bool.false_or] using h3
  refine ⟨h.1, fun j oj hj hl e he hb => (key j hl).2.2 oj hj e he hb, fun t ht htl => ?_⟩
  cases hS : S0.getD t true with
  | false => rfl
  | true =>
    have : S0.getD t false = true := by
      have hl : t < S0.size := by rw [h.1]; exact htl
      simpa [hl] using hS
    have := (key t this).2.1
    omega
theorem tail_waitsS {n : Nat} {S0 listed : Array Bool} (hs : sinkS ops S0 n = true) (hc : laterB ops n = true) (hn : n < ops.size) (inv : HeadInv .any ops n listed) (h0 : ∀ j, S0.getD j false = true → listed.getD j false = true) :
    ∀ (d i : Nat), n - i = d → i < n → listed.getD i true = false → ∀ t, n ≤ t → t ∉ Region.ready .any ops listed := by
  intro d
  induction d using Nat.strongRecOn with
  | _ d ih =>
    intro i hd hi hun t ht hr
    obtain ⟨_, ot, hot, hall⟩ := mem_ready.1 hr
    have htlt : t < ops.size := (Array.getElem?_eq_some_iff.1 hot).1
    by_cases htn : t = n
    · subst htn
      have h1 := List.all_eq_true.1 hs i (List.mem_range.2 hi)
      have hnot : S0.getD i false = false := by
        cases hS : S0.getD i false with
        | false => rfl
        | true => have := h0 i hS; rw [getD_both hun] at this; cases this
      rw [hnot, Bool.false_or] at h1
      obtain ⟨j, hj, hj2⟩ := List.any_eq_true.1 h1
      simp only [Bool.and_eq_true, decide_eq_true_eq] at hj2
      obtain ⟨oj, hoj, e, he, hb, hon⟩ := Region.waitsFor_spec hj2.2
      have hjle : j ≤ t := by have := List.mem_range.1 hj; omega
      by_cases hjt : j = t
      · subst hjt
        have : oj = ot := Option.some.inj (hoj.symm.trans hot)
        subst this
        have h2 := hall e he hb
        rw [hon, getD_both hun] at h2
        cases h2
      · cases hl : listed.getD j false with
        | true =>
          have h2 := inv.closed j oj hoj hl e he hb
          rw [hon, getD_both hun] at h2
          cases h2
        | false =>
          have hjs : j < listed.size := by rw [inv.size]; omega
          exact ih (t - j) (by omega) j rfl (by omega) (getD_in hjs hl) t (Nat.le_refl _) hr
    · have h1 := List.all_eq_true.1 hc t (List.mem_range.2 htlt)
      simp only [Bool.or_eq_true, decide_eq_true_eq] at h1
      rcases h1 with h1 | h1
      · omega
      · obtain ⟨j, hj, hj2⟩ := List.any_eq_true.1 h1
        simp only [Bool.and_eq_true, decide_eq_true_eq] at hj2
        obtain ⟨o', ho', e, he, hb, hon⟩ := Region.waitsFor_spec hj2.2
        have : o' = ot := Option.some.inj (ho'.symm.trans hot)
        subst this
        have h2 := hall e he hb
        rw [hon, getD_both (inv.tail j hj2.1 (List.mem_range.1 hj))] at h2
        cases h2
theorem relC_shape {S0 : Array Bool} {n N : Nat} (h : relC ops S0 n N = true) : Shape ops n N := by
  simp only [relC, Bool.and_eq_true, decide_eq_true_eq] at h
  obtain ⟨⟨⟨⟨⟨⟨hsel, hd⟩, hn⟩, hb⟩, ha⟩, _⟩, _⟩ := h
  refine ⟨hd, hn, fun k o hk hkn e he hbd => ?_, fun k i ok oi hki hin hk hi hno => ?_, Region.noSelect_spec hsel⟩
  · have h1 := List.all_eq_true.1 hb k (List.mem_range.2 hkn)
    simp only [hk] at h1
    have h2 := Array.all_eq_true'.1 h1 e he
    simp only [hbd, Bool.not_true, Bool.false_or, decide_eq_true_eq] at h2
    exact h2
  · have h1 := List.all_eq_true.1 (List.all_eq_true.1 ha i (List.mem_range.2 hin)) k (List.mem_range.2 hki)
    simp only [hk, hi, Bool.or_eq_true] at h1
    refine h1.resolve_left fun h2 => ?_
    obtain ⟨e, he, hb2⟩ := Array.any_eq_true'.1 h2
    simp only [Bool.and_eq_true, beq_iff_eq] at hb2
    exact hno e he hb2.1 hb2.2
theorem headList_eq {S : Array Bool} (hs : S.size = ops.size) (hn : n ≤ ops.size) (h1 : ∀ j, j < n → S.getD j false = true) (h2 : ∀ t, n ≤ t → t < ops.size → S.getD t true = false) : S = headList n ops.size := by
  apply Array.ext
  · simp [headList, hs]; omega
  · intro j hj hj'
    rcases Nat.lt_or_ge j n with h | h
    · have := h1 j h
      simp [hj] at this
      simp [headList, List.getElem_append, h, this]
    · have := h2 j h (by omega)
      simp [hj] at this
      simp [headList, List.getElem_append, Nat.not_lt.2 h, this]

/-- The walk in the order of the text. -/
def InhL (ops : Array Oper) (C : World → Prop) (G : Option Tmp → Value → World → Prop) (k : Nat) (a : Act) : Prop := ∃ w, C w ∧ ∀ j oj, ops[j]? = some oj → j < k → G oj.dst (slot a oj.dst) w
def wpRel (P : Program) (ops : Array Oper) (C : World → Prop) (G : Option Tmp → Value → World → Prop) (R : World → World → Prop) (S0 : Array Bool) (F : Act → Prop) : Nat → List Oper → Act → Prop
  | k, [], a => InhL ops C G k a → F a
  | k, o :: rest, a => if S0.getD k false = true then wpRel P ops C G R S0 F (k + 1) rest a else StepOk P ops C G R o a ∧ ∀ u, May P ops C G o a u → (∀ d, o.dst = some d → ∃ w, C w ∧ G (some d) u w) → wpRel P ops C G R S0 F (k + 1) rest (a.put o.dst u)
theorem wk_of_rel {S0 : Array Bool} (sh : Shape ops n N) : ∀ (l : List Oper) (k : Nat) (a : Act), (∀ j, j < l.length → l[j]? = ops[k + j]?) → k + l.length = n → a.tmps.size = N → wpRel P ops C G R S0 F k l a → Wk P ops C G R S0 F l.length k a
  | [], k, a, _, hk, hN, h => fun ⟨w, hw, hg⟩ => h ⟨w, hw, fun j oj hj hjk => hg j oj hj (.inr hjk)⟩
  | o :: l, k, a, hl, hk, hN, h => fun _ => by
    have h0 : ops[k]? = some o := by simpa using (hl 0 (by simp)).symm
    simp only [h0]
    unfold wpRel at h
    split at h
    · rename_i hs
      simp only [hs, if_true]
      exact wk_of_rel sh l (k + 1) a (fun j hj => by have := hl (j + 1) (by simp; omega); simpa [Nat.add_assoc, Nat.add_comm 1 j] using this) (by simp only [List.length_cons] at hk; omega) hN h
    · rename_i hs
      rw [if_neg hs]
      refine ⟨h.1, fun u hu hI => wk_of_rel sh l (k + 1) _ (fun j hj => by have := hl (j + 1) (by simp; omega); simpa [Nat.add_assoc, Nat.add_comm 1 j] using this) (by simp only [List.length_cons] at hk; omega) (by rw [size_put]; exact hN) (h.2 u hu fun d hd => ?_)⟩
      obtain ⟨w, hw, hg⟩ := hI
      refine ⟨w, hw, ?_⟩
      have h1 := hg k o h0 (.inr (by omega))
      rw [hd, slot_put_same (by rw [hN]; exact dstsB_in sh.dsts h0 hd)] at h1
      exact h1

/-- A region that draws its order, the operations of S0 done: the first n operations in any order; then the others. -/
theorem wpAny_relC {Q : Exit → Act → World → Prop} {a : Act} {w : World} {l : List Oper} (S0 : Array Bool) (n N : Nat) (C : World → Prop) (G : Option Tmp → Value → World → Prop) (R : World → World → Prop) {fuel : Nat}
    (hB : relC l.toArray S0 n N = true) (hf : fuel = unl n S0 + (l.length - n)) (hN : a.tmps.size = N) (hmono : ∀ d u w w', R w w' → G d u w → G d u w') (hR : ∀ w, C w → R w w) (hu : ∀ w, C w → G none undef w) (hC : C w)
    (h0 : ∀ j oj, l[j]? = some oj → S0.getD j false = true → G oj.dst (slot a oj.dst) w)
    (h : wpRel P l.toArray C G R S0 (fun a' => ∀ w', C w' → (∀ j oj, l[j]? = some oj → j < n → G oj.dst (slot a' oj.dst) w') → wpAny P .any l.toArray Q (l.length - n) (headList n l.length) a' w') 0 (l.take n) a) : wpAny P .any l.toArray Q fuel S0 a w := by
  have sh := relC_shape hB
  have hB' := hB
  simp only [relC, Bool.and_eq_true, Bool.or_eq_true, decide_eq_true_eq] at hB'
  obtain ⟨⟨⟨⟨⟨⟨hsel, hd⟩, hn⟩, hb⟩, ha⟩, hsc⟩, hcl⟩ := hB'
  have hnl : n ≤ l.length := by simpa using hn
  have htl : (l.take n).length = n := by simp; omega
  have hw := wk_of_rel sh (l.take n) 0 a (fun j hj => by
    have hj' : j < n := by rw [htl] at hj; exact hj
    simp [hj']) (by simpa using htl) hN h
  rw [htl] at hw
  have := wpAny_of_wk (Q := Q) (g := l.length - n) sh hmono hR hu S0 (fun S hI h0s hex t ht hr => ?_) (fun S a' w' hI hall hC' hg hF => ?_) _ S0 a w
    (closedB_head hcl) (fun _ h => h) rfl hN ⟨hC, fun j oj hj hs => h0 j oj (by simpa using hj) hs⟩ hw
  · rw [hf]; exact this
  · obtain ⟨i, hi, hun⟩ := hex
    rcases hsc with hsc | ⟨⟨hlt, hs⟩, hc⟩
    · have := (mem_ready.1 hr).2
      obtain ⟨o, ho, _⟩ := this
      have := (Array.getElem?_eq_some_iff.1 ho).1
      omega
    · exact tail_waitsS hs hc hlt hI h0s _ i rfl hi hun t ht hr
  · have hSeq := headList_eq hI.size hn hall hI.tail
    rw [show l.toArray.size = l.length from by simp] at hSeq
    rw [hSeq]
    exact hF w' hC' fun j oj hj hjn => hg j oj (by simpa using hj) hjn
theorem wpRel_mono {F F' : Act → Prop} (hF : ∀ a, F a → F' a) {S0 : Array Bool} : ∀ (l' : List Oper) (k : Nat) (a : Act), wpRel P ops C G R S0 F k l' a → wpRel P ops C G R S0 F' k l' a
  | [], k, a, h => fun hI => hF a (h hI)
  | o :: l', k, a, h => by
    unfold wpRel at h ⊢
    split
    · rename_i hs; rw [if_pos hs] at h; exact wpRel_mono hF l' _ _ h
    · rename_i hs; rw [if_neg hs] at h; exact ⟨h.1, fun u hu hd => wpRel_mono hF l' _ _ (h.2 u hu hd)⟩
/-- The others as they stand. -/
theorem wpAny_rel {Q : Exit → Act → World → Prop} {a : Act} {w : World} {l : List Oper} (S0 : Array Bool) (n N : Nat) (C : World → Prop) (G : Option Tmp → Value → World → Prop) (R : World → World → Prop) {fuel : Nat}
    (hB : relB l.toArray S0 n N = true) (hf : fuel = unl n S0 + (l.length - n)) (hN : a.tmps.size = N) (hmono : ∀ d u w w', R w w' → G d u w → G d u w') (hR : ∀ w, C w → R w w) (hu : ∀ w, C w → G none undef w) (hC : C w)
    (h0 : ∀ j oj, l[j]? = some oj → S0.getD j false = true → G oj.dst (slot a oj.dst) w)
    (h : wpRel P l.toArray C G R S0 (fun a' => ∀ w', C w' → (∀ j oj, l[j]? = some oj → j < n → G oj.dst (slot a' oj.dst) w') → wpList P l.toArray Q (l.drop n) a' w') 0 (l.take n) a) : wpAny P .any l.toArray Q fuel S0 a w := by
  simp only [relB, Bool.and_eq_true] at hB
  have hdl : (l.drop n).length = l.length - n := by simp
  refine wpAny_relC S0 n N C G R hB.1 hf hN hmono hR hu hC h0 (wpRel_mono (fun a' hF w' hC' hg => ?_) _ _ _ h)
  have := wpAny_of_seq (md := .any) (Q' := Q) (ops := l.toArray) (l.drop n) n (headList n l.length) a' w' (fun j => by simp [List.getElem?_drop]) (by rw [hdl]; simpa using hB.2) (hF w' hC' hg)
  rwa [hdl] at this

/-! ### The steps of the walk -/
section
variable {o : Oper} {rest : List Oper} {a : Act} {k : Nat} {S0 : Array Bool}
theorem rel_nil (h : F a) : wpRel P ops C G R S0 F k [] a := fun _ => h
theorem rel_skip (hS : S0.getD k false = false) (hw : Region.wanted o (yielded ops a.tmps) = false) (hG : ∀ w, C w → G o.dst undef w) (hn : wpRel P ops C G R S0 F (k + 1) rest (a.put o.dst undef)) : wpRel P ops C G R S0 F k (o :: rest) a := by
  unfold wpRel
  rw [hS, if_neg (by simp)]
  refine ⟨by unfold StepOk; simp only [hw, if_false, Bool.false_eq_true]; exact hG, fun u hu _ => ?_⟩
  unfold May at hu
  simp only [hw, if_false, Bool.false_eq_true] at hu
  subst hu
  exact hn
/-- it hands back one value, and leaves the world -/
theorem rel_val (hR : ∀ w, C w → R w w) (hS : S0.getD k false = false) (hw : Region.wanted o (yielded ops a.tmps) = true) (u : Value) (hrun : ∀ w, C w → Deps ops G o a w → (execOp a.eval o).run P w = .ok (.value u) w) (hG : ∀ w, C w → Deps ops G o a w → G o.dst u w) (hn : wpRel P ops C G R S0 F (k + 1) rest (a.put o.dst u)) : wpRel P ops C G R S0 F k (o :: rest) a := by
  unfold wpRel
  rw [hS, if_neg (by simp)]
  refine ⟨by unfold StepOk; simp only [hw, if_true]; intro w hC hD; unfold Good; rw [hrun w hC hD]; exact ⟨hG w hC hD, hC, hR w hC⟩, fun x hx _ => ?_⟩
  unfold May at hx
  simp only [hw, if_true] at hx
  obtain ⟨w, hC, hD, hm⟩ := hx
  rw [hrun w hC hD] at hm
  obtain rfl : x = u := hm
  exact hn
/-- a call: any value that its slot lets in -/
theorem rel_call (hS : S0.getD k false = false) (hw : Region.wanted o (yielded ops a.tmps) = true) (f : FuncId) (args : Array Value) (d : Tmp) (hd : o.dst = some d) (hrun : ∀ w, C w → Deps ops G o a w → (execOp a.eval o).run P w = .ok (.enter f args) w)
    (hc : ∀ w, C w → Deps ops G o a w → Calls P f args w fun e w' => ∃ u, e = .returned u ∧ G (some d) u w' ∧ C w' ∧ R w w') (hn : ∀ u w, C w → G (some d) u w → wpRel P ops C G R S0 F (k + 1) rest (a.put (some d) u)) : wpRel P ops C G R S0 F k (o :: rest) a := by
  unfold wpRel
  rw [hS, if_neg (by simp)]
  refine ⟨by unfold StepOk; simp only [hw, if_true]; intro w hC hD; unfold Good; rw [hrun w hC hD, hd]; exact hc w hC hD, fun x _ hx => ?_⟩
  obtain ⟨w, hC, hg⟩ := hx d hd
  rw [hd]
  exact hn x w hC hg
/-- a new block -/
theorem rel_new (hS : S0.getD k false = false) (hw : Region.wanted o (yielded ops a.tmps) = true) (ob : Obj) (d : Tmp) (hd : o.dst = some d) (mk : Nat → Value) (hrun : ∀ w, C w → Deps ops G o a w → (execOp a.eval o).run P w = .ok (.value (mk w.heap.size)) (w.alloc ob))
    (hc : ∀ w, C w → Deps ops G o a w → G (some d) (mk w.heap.size) (w.alloc ob) ∧ C (w.alloc ob) ∧ R w (w.alloc ob)) (hn : ∀ g w, C w → G (some d) (mk g) w → wpRel P ops C G R S0 F (k + 1) rest (a.put (some d) (mk g))) : wpRel P ops C G R S0 F k (o :: rest) a := by
  unfold wpRel
  rw [hS, if_neg (by simp)]
  refine ⟨by unfold StepOk; simp only [hw, if_true]; intro w hC hD; unfold Good; rw [hrun w hC hD, hd]; exact hc w hC hD, fun x hm hx => ?_⟩
  obtain ⟨w, hC, hg⟩ := hx d hd
  unfold May at hm
  simp only [hw, if_true] at hm
  obtain ⟨w', hC', hD', hm⟩ := hm
  rw [hrun w' hC' hD'] at hm
  obtain rfl : x = mk w'.heap.size := hm
  rw [hd]
  exact hn _ w hC hg
end
end
end Go.Proofs.YtedogodccblfeaaGreatDoor

namespace Go.Proofs.YtedogodccblfeaaGreatDoor
open Go
set_option linter.unusedVariables false
set_option linter.unusedSimpArgs false

abbrev Sp := Tmp → Option (Value → Prop)
section
variable {P : Program} {C : World → Prop} {sp : Sp} {F : Act → Prop} {S0 : Array Bool}
variable {ops : Array Oper} {o : Oper} {rest : List Oper} {a : Act} {k : Nat}
end
end Go.Proofs.YtedogodccblfeaaGreatDoor

namespace Go.Proofs.YtedogodccblfeaaGreatDoor
open Go.RowKit
set_option linter.unusedVariables false
set_option linter.unusedSimpArgs false
/-- a number below n -/
def NatB (n : Nat) (u : Value) : Prop := ∃ r : Nat, r < n ∧ u = .int .i64 r
section
variable {sp : Sp} {F : Act → Prop} {S0 : Array Bool} {ops : Array Oper} {o : Oper} {rest : List Oper} {a : Act} {k : Nat} {M : Nat → Prop} {row : Option Nat} {w0 : World} {L : List Hp} {T : Nat}
end
end Go.Proofs.YtedogodccblfeaaGreatDoor

/- GCol: the tape's draw of a column (package world). -/
import Derived.WalkKit
import Derived.ProofKit
import Derived.OpenShut
import Derived.Below
import Derived.ChangeSame
import Derived.Laws.OwnMore
import Derived.Deep.AppendLies
import Derived.Deep.Draws
import Derived.Deep.QuietTactic
import Derived.IntWalk
import Derived.RowKit
import Derived.Test.YtnbbllkbefagmaaGreatDoorRows
import Derived.SizedLaws
import Derived.Lib.LaidTab
import Derived.Test.YtnbbllkbefagmaaGreatDoorProg
import Derived.WalkSpells
import Derived.BigQuiet
import Derived.WalkLawsBesides
import Derived.Deep.RegionHeld3
import Derived.Deep.DeepHandedRow
import Derived.Maps.AppendAt
import Derived.OwnWalk
import Derived.Laws.MakeOwn
import Derived.StillTailTactics
namespace Go.Proofs.YtnbbllkbefagmaaGreatDoor
open Go.ChangeShapes Go.WideShapes Go.ChangeAt Go.RowKit
set_option linter.unusedVariables false
section
variable {H : Type} {enc : TypeId × Value → H} {P : Program}

theorem post_of_below {f : Func} {s : ChangeSpec} {apart fresh handsOn again : Bool} {W W' : World} {args : Array Value} {v : Value} {ds gs : List (DataW H)} {before pa pv : List MemPlace}
  (hW : DataW.Whole enc P f.params.toList s.vars apart W args.toList ds gs before)
  (hres : ∀ (b : Nat) (sp : Nat → Bool) (hd : Bool), DataW.TrodAll enc P W' b sp hd f.resultTypes.toList (v.resultList f.resultTypes.size) (s.fn H (ds ++ gs)).results [])
  (hargs : ∀ sp : Nat → Bool, (∀ p ∈ before, sp p.block = true) → DataW.TrodAll enc P W' 0 sp true f.params.toList args.toList (s.fn H (ds ++ gs)).args pa)
  (hvars : ∀ sp : Nat → Bool, (∀ p ∈ before, sp p.block = true) → DataW.TrodVars enc P W' sp s.vars (s.fn H (ds ++ gs)).vars pv)
  (hps : before = pa ++ pv) (hb : Below W.heap.size W W')
  (hok : ∀ (j : Nat) (t : TypeId) (r : Value), f.resultTypes[j]? = some t → (v.resultList f.resultTypes.size)[j]? = some r → Value.okWide P W' .any 0 t r) :
  s.post enc P f apart fresh handsOn again W args v W' := by
 have hlt : ∀ p ∈ before, p.block < W.heap.size := fun p hp => hW.lt p hp
 have hold : ∀ p ∈ before, (fun b => decide (b < W.heap.size)) p.block = true := fun p hp => by simpa using hlt p hp
 refine ⟨ds, gs, before, [], pa, pv, hW, hres _ _ _, hargs _ hold, hvars _ hold, World.keptBut_mono (fun p hp => ⟨hp, ?_⟩) (hb.frame (· ∈ before)), fun _ => ?_⟩
 ·rw [hps, List.mem_append] at hp
  exact Or.inr hp
 ·obtain ⟨_, _, _, _, _, hz, hn⟩ := hW
  refine ⟨hok, _, _, ([] ++ pa) ++ pv, ⟨[] ++ pa, pv, trodAll_append (hargs _ (fun _ _ => rfl)) (hres _ _ _), hvars _ (fun _ _ => rfl), rfl, ?_, ?_⟩, ?_⟩
  ·intro b off hp
   have hin : MemPlace.cell b off ∈ before := by rw [hps]; simpa using hp
   rw [hb.frozen (hlt _ hin)]
   exact hz b off hin
  ·intro ha
   have := hn ha
   rw [hps] at this
   simpa using this
  ·intro p hp _
   rw [hps]
   simpa using hp

/-- All the arguments read as they did. -/
theorem trodAll_stays (hl : laidOutB P = true) {W W' : World} {sp : Nat → Bool} : ∀ {ts : List TypeId} {vs : List Value} {ds : List (DataW H)} {ps : List MemPlace},
  ts.all (fun t => P.readableRec t && decide (t < P.types.size)) = true → DataW.TrodAll enc P W 0 (fun _ => true) true ts vs ds ps → (∀ p ∈ ps, W.sameAt W' p) → (∀ p ∈ ps, sp p.block = true) → DataW.TrodAll enc P W' 0 sp true ts vs ds ps
 | [], vs, ds, ps, _, h, _, _ => by
  obtain ⟨rfl, rfl, rfl⟩ := trodAll_nil h; rfl
 | t :: ts, vs, ds, ps, hr, h, hs, hp => by
  obtain ⟨v, vs1, d, ds1, a, b, rfl, rfl, rfl, h1, h2⟩ := trodAll_cons h
  simp only [List.all_cons, Bool.and_eq_true, decide_eq_true_eq] at hr
  exact ⟨a, b, WideElems.Trod_stays hl hr.1.1 hr.1.2 h1 (fun x hx => hs x (by simp [hx])) (fun x hx => hp x (by simp [hx])),
   trodAll_stays hl (by simpa using hr.2) h2 (fun x hx => hs x (by simp [hx])) (fun x hx => hp x (by simp [hx])), rfl⟩

theorem law_post {f : Func} {s : ChangeSpec} {apart fresh handsOn again : Bool} {W W' : World} {args : Array Value} {ds gs : List (DataW H)} {before : List MemPlace} {tb : TypeId}
  (hvs : s.vars = []) (hl : laidOutB P = true) (hrd : f.params.toList.all (fun t => P.readableRec t && decide (t < P.types.size)) = true)
  (htb : f.resultTypes = #[tb]) (hub : P.underlying tb = some .bool) (hfn : s.fn H (ds ++ gs) = { results := [.lit (.bool true)], args := ds })
  (hW : DataW.Whole enc P f.params.toList s.vars apart W args.toList ds gs before) (hb : Below W.heap.size W W') :
  s.post enc P f apart fresh handsOn again W args (.bool true) W' := by
 have hW' := hW
 obtain ⟨p, q, hA, hV, rfl, hfz, hnd⟩ := hW
 rw [hvs] at hV
 obtain ⟨rfl, rfl⟩ := trodVars_none hV
 have hlt : ∀ x ∈ p ++ [], x.block < W.heap.size := fun x hx => hW'.lt x hx
 refine post_of_below (pa := p) (pv := []) hW' ?_ ?_ ?_ rfl hb ?_
 ·intro b sp hd
  rw [hfn, htb]
  exact trodAll_mk1 (shut_bool hub _)
 ·intro sp hsp
  rw [hfn]
  exact trodAll_stays hl hrd hA (fun x hx => hb.same (hlt x (by simpa using hx))) (fun x hx => hsp x (by simpa using hx))
 ·intro sp hsp
  rw [hfn, hvs]
  rfl
 ·exact ok_one htb rfl (okWide_bool_mk hub _)
end
end Go.Proofs.YtnbbllkbefagmaaGreatDoor

namespace Go.Proofs.YtnbbllkbefagmaaGreatDoor
open Go.RowKit
set_option linter.unusedVariables false

theorem hid {p : Prop} (h : p) : Hid p := h
def I64 (x : Int) : Prop := -9223372036854775808 ≤ x ∧ x ≤ 9223372036854775807
def Ints (zs : List Int) : Prop := ∀ x ∈ zs, I64 x
theorem Ints.at_ {zs : List Int} (h : Ints zs) (k : Nat) : I64 (zs.getD k 0) := by
 by_cases hk : k < zs.length
 ·simp only [List.getD, List.getElem?_eq_getElem hk, Option.getD_some]; exact h _ (List.getElem_mem hk)
 ·simp [List.getD, List.getElem?_eq_none (Nat.le_of_not_lt hk), I64]
theorem ints_get (k : IntKind) (zs : List Int) (j : Nat) (hj : j < zs.length) : (zs.map (Value.int k)).getD j undef = .int k (zs.getD j 0) := by
 simp [List.getD, hj]
/-- The slice with address A, n elements of 'size' cells each, reads as the cells xs, all of them in blocks below B. -/
def Rd (w : World) (B size : Nat) (A : Option Addr) (n : Nat) (xs : List Value) : Prop :=
 xs.length = n * size ∧ (0 < n → ∃ b o, A = some ⟨b, o, none⟩ ∧ b < B ∧ ∀ j u, xs[j]? = some u → w.cell? ⟨b, o + j, none⟩ = some u)

section
variable {w w' : World} {B B' size n : Nat} {A : Option Addr} {xs : List Value}
theorem Rd.none_ : Rd w B size A 0 [] := ⟨by simp, fun h => absurd h (by omega)⟩
theorem Rd.keep (h : Rd w B size A n xs) (hk : ∀ p : Addr, p.block < B → w'.cell? p = w.cell? p) : Rd w' B size A n xs :=
 ⟨h.1, fun hn => by
  obtain ⟨b, o, e, hb, hc⟩ := h.2 hn
  exact ⟨b, o, e, hb, fun j u hu => (hk _ hb).trans (hc j u hu)⟩⟩
theorem Rd.more (h : Rd w B size A n xs) (hB : B ≤ B') : Rd w B' size A n xs :=
 ⟨h.1, fun hn => by
  obtain ⟨b, o, e, hb, hc⟩ := h.2 hn
  exact ⟨b, o, e, by omega, hc⟩⟩
theorem Rd.below (h : Rd w B size A n xs) (hb : Below B' w w') (hB : B ≤ B') : Rd w' B size A n xs := h.keep fun _ hp => hb.cell (by omega)
theorem Rd.grown (h : Rd w B size A n xs) {row : Option Nat} (hg : w.grownBy w' row) (hB : B ≤ w.heap.size) (hr : ∀ g, row = some g → B ≤ g) : Rd w' B size A n xs :=
 h.keep fun p hp => World.cell?_of_block (hg.block p.block (by omega) (fun e => by have := hr _ e.symm; omega))
theorem Rd.alloc (h : Rd w B size A n xs) (hB : B ≤ w.heap.size) (o : Obj) : Rd (w.alloc o) B size A n xs := h.keep fun p hp => World.cell?_alloc_lt w o p (by omega)
theorem Rd.drew (h : Rd w B size A n xs) : Rd w.drew B size A n xs := h
theorem Rd.drewN (h : Rd w B size A n xs) (k : Nat) : Rd (w.drewN k) B size A n xs := h
theorem Rd.setCell (h : Rd w B size A n xs) {p : Addr} (hB : B ≤ p.block) (u : Value) : Rd (w.setCell p u) B size A n xs :=
 h.keep fun q hq => World.cell?_setCell_other w p q u (fun e => by subst e; omega)
/-- One-cell elements: the k-th. -/
theorem Rd.at1 (h : Rd w B 1 A n xs) {k : Nat} (hk : k < n) : ∃ b o, A = some ⟨b, o, none⟩ ∧ b < B ∧ w.cell? ⟨b, o + k, none⟩ = some (xs.getD k undef) := by
 obtain ⟨b, o, e, hb, hc⟩ := h.2 (by omega)
 have hl : k < xs.length := by have := h.1; omega
 exact ⟨b, o, e, hb, hc k _ (by simp [List.getD, hl])⟩
theorem Rd.take_ (h : Rd w B size A n xs) {k : Nat} (hk : k ≤ n) : Rd w B size A k (xs.take (k * size)) := by
 refine ⟨by rw [List.length_take, h.1]; exact Nat.min_eq_left (Nat.mul_le_mul_right _ hk), fun hn => ?_⟩
 obtain ⟨b, o, e, hb, hc⟩ := h.2 (by omega)
 exact ⟨b, o, e, hb, fun j u hu => hc j u (by
  have := (List.getElem?_eq_some_iff.1 hu).1
  rw [List.getElem?_take_of_lt (by simp at this; omega)] at hu; exact hu)⟩
theorem Rd.of_own {base : Nat} {e : TypeId} {c : Nat} (h : w.ownsRow base e size (.slice A n c) n xs) : Rd w w.heap.size size A n xs := by
 refine ⟨h.1, fun hn => ?_⟩
 obtain ⟨g, cap, hv, _, hlt⟩ := h.form hn
 have hA : A = some ⟨g, 0, none⟩ := by injection hv
 subst hA
 refine ⟨g, 0, rfl, hlt, fun j u hu => ?_⟩
 have := h.cells (g := g) rfl j u hu
 rwa [Addr.add_lit] at this
end

/-- A block that has just been laid reads as its cells. -/
theorem Rd.lit (w : World) (cs : Array Value) (E : TypeId) {size n : Nat} {xs : List Value} (h : cs.toList = xs) (hn : xs.length = n * size) : Rd (w.alloc (.cells cs E)) (w.heap.size + 1) size (some ⟨w.heap.size, 0, none⟩) n xs := by
 subst h
 refine ⟨hn, fun _ => ⟨_, _, rfl, by omega, fun j u hu => ?_⟩⟩
 have := cell_of_row (w.alloc (.cells cs E)) w.heap.size j cs E (0, 0) (heap_alloc_new w _)
 rw [Nat.zero_add, this]
 simpa using hu

theorem only_drewN {a w : World} {row : Option Nat} (h : a.grownBy w row) (n : Nat) : a.grownBy (w.drewN n) row := ⟨h.os, h.tape, h.output, h.size, h.block⟩
theorem only_drew {a w : World} {row : Option Nat} (h : a.grownBy w row) : a.grownBy w.drew row := ⟨h.os, h.tape, h.output, h.size, h.block⟩
theorem only_alloc {a w : World} {row : Option Nat} (h : a.grownBy w row) (o : Obj) : a.grownBy (w.alloc o) row :=
 ⟨h.os, h.tape, h.output, Nat.le_trans h.size (by simp), fun i hi hne => (Below.heap_alloc w o i (Nat.lt_of_lt_of_le hi h.size)).trans (h.block i hi hne)⟩
theorem only_setCell {a w : World} {g : Nat} (h : a.grownBy w (some g)) {p : Addr} (hp : p.block = g ∨ a.heap.size ≤ p.block) (u : Value) : a.grownBy (w.setCell p u) (some g) :=
 ⟨h.os, h.tape, h.output, by simpa [World.setCell] using h.size, fun i hi hne => (Below.heap_setCell w p u i (by
  rintro rfl
  rcases hp with hp | hp
  ·exact hne (by rw [hp])
  ·omega)).trans (h.block i hi hne)⟩
theorem only_of_below {a w : World} (h : Below a.heap.size a w) (row : Option Nat) : a.grownBy w row := ⟨h.os, h.tape, h.output, h.size, fun i hi _ => h.block i hi⟩
theorem only_trans {a b c : World} {row : Option Nat} (h : a.grownBy b row) (k : b.grownBy c row) : a.grownBy c row :=
 ⟨k.os.trans h.os, k.tape.trans h.tape, k.output.trans h.output, Nat.le_trans h.size k.size, fun i hi hn => (k.block i (Nat.lt_of_lt_of_le hi h.size) hn).trans (h.block i hi hn)⟩
theorem only_below {a b c : World} {row : Option Nat} (h : a.grownBy b row) (k : Below b.heap.size b c) : a.grownBy c row := only_trans h (only_of_below k row)

/-- An own row keeps when another row is written. -/
theorem own_form {w : World} {base : Nat} {e : TypeId} {size : Nat} {v : Value} {n : Nat} {xs : List Value} (h : w.ownsRow base e size v n xs) : ∃ A c, v = .slice A n c := by
 obtain ⟨_, h | ⟨g, cap, _, h, _⟩⟩ := h
 ·obtain ⟨rfl, rfl⟩ := h; exact ⟨_, _, rfl⟩
 ·exact ⟨_, _, h⟩

theorem frozen_blk {w : World} {g : Nat} {t : TypeId} {cs : Array Value} (h : w.heap[g]? = some (.cells cs t (0, 0))) (i : Nat) : w.frozen? ⟨g, i, none⟩ = false := by simp [World.frozen?, h]
theorem blk_set {w : World} {g : Nat} {t : TypeId} {cs : Array Value} {fr : Nat × Nat} (h : w.heap[g]? = some (.cells cs t fr)) (i : Nat) (u : Value) : (w.setCell ⟨g, i, none⟩ u).heap[g]? = some (.cells (cs.setIfInBounds i u) t fr) := by
 simp [World.setCell, Array.getElem?_modify, h]

theorem quiet_add_left {P : Program} {f : FuncId} {args : Array Value} {w : World} {a n : Nat} {v : Value}
  (h : Calls P f args (w.drewN (a + n)) fun e w' => e = .returned v ∧ w.drewN (a + n) = w') : Calls P f args (w.drewN (a + n)) fun e w'' => e = .returned v ∧ ∃ m, w'' = w.drewN (a + m) :=
 h.mono fun _ _ ⟨he, hm⟩ => ⟨he, n, hm.symm⟩
theorem quiet_left {P : Program} {f : FuncId} {args : Array Value} {w : World} {n : Nat} {v : Value}
  (h : Calls P f args (w.drewN n) fun e w' => e = .returned v ∧ w.drewN n = w') : Calls P f args (w.drewN n) fun e w'' => e = .returned v ∧ ∃ m, w'' = w.drewN m :=
 h.mono fun _ _ ⟨he, hm⟩ => ⟨he, n, hm.symm⟩

end Go.Proofs.YtnbbllkbefagmaaGreatDoor

namespace Go.Proofs.YtnbbllkbefagmaaGreatDoor
open Go.RowKit
set_option linter.unusedVariables false

def fit (x : Int) : Bool := decide (-9223372036854775808 ≤ x ∧ x ≤ 9223372036854775807)
def nv (x : Int) : Int := if fit x then x else 0
end Go.Proofs.YtnbbllkbefagmaaGreatDoor

namespace Go.Proofs.YtnbbllkbefagmaaGreatDoor
open Go.ChangeShapes Go.WideShapes Go.ChangeAt Go.RowKit
set_option linter.unusedVariables false

theorem own : ownKnob Tryz.prog.godebug = none := by kernel_rfl
theorem laidOut : laidOutB Tryz.prog = true := by kernel_rfl
end Go.Proofs.YtnbbllkbefagmaaGreatDoor

namespace Go.Proofs.YtnbbllkbefagmaaGreatDoor
open Go.ChangeShapes Go.WideShapes Go.ChangeAt Go.RowKit
set_option linter.unusedVariables false
section
variable {H : Type} {enc : TypeId × Value → H} {P : Program}
theorem i64_wf {x : Int} (h : (Lit.int .i64 x).wf = true) : I64 x := by
 simp [Lit.wf, IntKind.min, IntKind.max, IntKind.signed, IntKind.bits] at h
 exact ⟨by omega, by omega⟩

theorem open_i64s {t e : TypeId} {W : World} {r : Reach} {b0 : Nat} {v : Value} {d : DataW H} {p : List MemPlace} (ht : P.underlying t = some (.slice e)) (he : P.underlying e = some (.int .i64)) (hc : P.cellsOf e = 1)
  (hok : Value.okWide P W r b0 t v) (h : DataW.Trod enc P W 0 (fun _ => true) true t v d p) :
  ∃ A n c zs, v = .slice A n c ∧ Rd W W.heap.size 1 A n (zs.map (Value.int .i64)) ∧ Ints zs ∧ n ≤ c ∧ c ≤ maxLen ∧ ((d = .nil ∧ n = 0) ∨ ∃ el sp, d = .slice el sp ∧ el.length + sp.length = c) := by
 obtain ⟨A, n, c, rfl⟩ := okWide_slice ht hok
 obtain ⟨fuel, hf⟩ := h
 rcases open_ints ht he hc (by simpa [Value.cells] using hf) with ⟨hcs, hx⟩ | ⟨a, len, cap, zs, hcs, _, hl, hm, hz, hx, hcell, hwz⟩
 ·simp at hcs; obtain ⟨rfl, rfl, rfl⟩ := hcs
  simp only [Prod.mk.injEq] at hx
  exact ⟨none, 0, 0, [], rfl, Rd.none_, fun _ h => (nomatch h), Nat.le_refl _, Nat.zero_le _, .inl ⟨hx.1, rfl⟩⟩
 ·simp at hcs; obtain ⟨rfl, rfl, rfl⟩ := hcs
  simp only [if_true] at hz
  simp only [Prod.mk.injEq] at hx
  refine ⟨some a, n, c, zs.take n, rfl, ⟨by simp [hz]; omega, fun hn => ?_⟩, fun x hx => i64_wf (hwz x (List.mem_of_mem_take hx)), hl, hm, .inr ⟨_, _, hx.1, by simp [lits, hz]; omega⟩⟩
  obtain ⟨b, off, rfl, hcc⟩ := ints_at hcell (by omega)
  refine ⟨b, off, rfl, World.block_lt_of_cell? W ⟨b, off + 0, none⟩ (hcc 0 (by omega)), fun j u hu => ?_⟩
  have hj : j < n := by have := (List.getElem?_eq_some_iff.1 hu).1; simp [hz] at this; omega
  rw [hcc j (by omega)]
  rw [← hu]
  simp [List.getElem?_take_of_lt hj, List.getD, show j < zs.length by omega]

end
end Go.Proofs.YtnbbllkbefagmaaGreatDoor

namespace Go.Proofs.YtnbbllkbefagmaaGreatDoor
open Go.ChangeShapes Go.WideShapes Go.ChangeAt Go.RowKit
set_option linter.unusedVariables false

theorem strs_of_head {P : Program} {W : World} {name : String} {bs : List (List UInt8)} {rest : List (String × DataW Unit)} {g : Nat} {t e : TypeId} {n : Nat}
  (hg : P.globalNamed name = some g) (hty : (P.globals[g]?).map (·.type) = some t) (ht : P.underlying t = some (.array n e)) (he : P.underlying e = some .string) (hce : P.cellsOf e = 1)
  (h : laidMet P ((name, .agg (bs.map fun b => .lit (.string b))) :: rest) W) : ∀ i, i < n → ∃ s : ByteArray, W.cell? ⟨g, i, none⟩ = some (.string s) ∧ bs[i]? = some s.data.toList ∧ s.size ≤ maxLen := by
 obtain ⟨ps, ⟨g', t', cs, fuel, p, q, hg', ht', hvar, hd, _, _⟩, _⟩ := h
 obtain rfl := Option.some.inj (hg.symm.trans hg')
 obtain rfl := Option.some.inj (hty.symm.trans ht')
 obtain ⟨xs, m, _, hx, hlen, hxl, hel⟩ := DataW.trod_array ht hd
 intro i hi
 have h1 := hel i hi
 rw [hce, Nat.mul_one] at h1
 have hxi : xs[i]? = some (xs[i]'(by omega)) := List.getElem?_eq_getElem (by omega)
 rw [hxi] at h1
 obtain ⟨s, hs, hv, hm⟩ := DataW.trod_string he h1
 refine ⟨s, ?_, ?_, hm⟩
 ·have hc := World.var?_cell hg hvar i
  rw [hc]
  have : (cs.toList.drop i).take 1 = [.string s] := hs
  have h2 : cs.toList[i]? = some (.string s) := by
   have h3 : ((cs.toList.drop i).take 1)[0]? = some (.string s) := by rw [this]; rfl
   simpa using h3
  simpa using h2
 ·have h4 : (xs.map (·.1))[i]? = some (xs[i]'(by omega)).1 := by simp [hxi]
  simp only [Prod.mk.injEq] at hx
  have h5 : (bs.map fun b => (DataW.lit (.string b) : DataW Unit)) = xs.map (·.1) := by
   have := hx.1; injection this
  rw [← h5, hv] at h4
  simp only [List.getElem?_map, Option.map_eq_some_iff] at h4
  obtain ⟨b, hb, hb2⟩ := h4
  injection hb2 with hb3
  injection hb3 with hb4
  rw [hb, hb4]
end Go.Proofs.YtnbbllkbefagmaaGreatDoor

namespace Go.Proofs.YtnbbllkbefagmaaGreatDoor
open Go.RowKit
set_option linter.unusedVariables false

/-- Block T is a tape: a list of numbers that lies in older blocks, and a place in it. -/
def Tp (w : World) (T : Nat) : Prop :=
 ∃ (A : Option Addr) (n c p : Nat) (zs : List Int), w.heap[T]? = some (.cells #[.slice A n c, .int .i64 p] 101 (0, 0)) ∧ p ≤ n ∧ n ≤ 500 ∧ Rd w T 1 A n (zs.map (Value.int .i64)) ∧ Ints zs

theorem Tp.lt {w : World} {T : Nat} (h : Tp w T) : T < w.heap.size := by
 obtain ⟨A, n, c, p, zs, h, _⟩ := h
 rcases Nat.lt_or_ge T w.heap.size with hlt | hge
 ·exact hlt
 ·rw [Array.getElem?_eq_none hge] at h; cases h
theorem Tp.keep {w w' : World} {T : Nat} (h : Tp w T) (hk : ∀ k, k ≤ T → w'.heap[k]? = w.heap[k]?) : Tp w' T := by
 obtain ⟨A, n, c, p, zs, h1, h2, h3, h4, h5⟩ := h
 exact ⟨A, n, c, p, zs, (hk T (Nat.le_refl _)).trans h1, h2, h3, h4.keep fun q hq => World.cell?_of_block (w := w) (hk q.block (by omega)), h5⟩
theorem Tp.below {w w' : World} {T B : Nat} (h : Tp w T) (hb : Below B w w') (hT : T < B) : Tp w' T := h.keep fun k hk => hb.block k (by omega)
theorem Tp.grown {w w' : World} {T : Nat} {row : Option Nat} (h : Tp w T) (hg : w.grownBy w' row) (hr : ∀ g, row = some g → T < g) : Tp w' T :=
 h.keep fun k hk => hg.block k (by have := h.lt; omega) (fun e => by have := hr k e.symm; omega)
theorem Tp.alloc {w : World} {T : Nat} (h : Tp w T) (o : Obj) : Tp (w.alloc o) T := h.keep fun k hk => Below.heap_alloc w o k (by have := h.lt; omega)
theorem Tp.drew {w : World} {T : Nat} (h : Tp w T) : Tp w.drew T := h
theorem Tp.drewN {w : World} {T : Nat} (h : Tp w T) (n : Nat) : Tp (w.drewN n) T := h
theorem Tp.setCell {w : World} {T : Nat} (h : Tp w T) {p : Addr} (hp : T < p.block) (u : Value) : Tp (w.setCell p u) T := h.keep fun k hk => Below.heap_setCell w p u k (by omega)

theorem mod_eq (v n : Int) (h : 0 < n) : (if v.tmod n < 0 then v.tmod n + n else v.tmod n) = v % n := by
 have h1 : -n < v.tmod n := Int.lt_tmod_of_pos v h
 have h2 : v.tmod n < n := Int.tmod_lt_of_pos v h
 have h3 : v = n * (v.tdiv n) + v.tmod n := (Int.mul_tdiv_add_tmod v n).symm
 split
 ·rename_i hlt
  have : v = (v.tmod n + n) + n * (v.tdiv n - 1) := by rw [Int.mul_sub, Int.mul_one]; omega
  conv => rhs; rw [this]
  rw [Int.add_mul_emod_self_left, Int.emod_eq_of_lt (by omega) (by omega)]
 ·conv => rhs; rw [h3]
  rw [Int.add_comm, Int.add_mul_emod_self_left, Int.emod_eq_of_lt (by omega) (by omega)]

theorem ret_i64 {a b : Int} (h : a = b) : Ending.returned (.int .i64 a) = .returned (.int .i64 b) := by rw [h]

set_option maxHeartbeats 400000 in
theorem wmod_any (v n : Int) (w : World) (hv : I64 v) (h0 : 0 < n) (h1 : n ≤ 9223372036854775807) :
  Calls Tryz.prog 17 #[.int .i64 v, .int .i64 n] w fun e w' => e = .returned (.int .i64 (v % n)) ∧ w = w' := by
 have hm := mod_eq v n h0
 have b1 : -n < v.tmod n := Int.lt_tmod_of_pos v h0
 have b2 : v.tmod n < n := Int.tmod_lt_of_pos v h0
 have hn : (n == 0) = false := by simp; omega
 obtain ⟨t, ht, ht'⟩ : ∃ t, IntKind.i64.wrap (v.tmod n) = t ∧ v.tmod n = t := ⟨_, IntWalk.i64_in _ (by omega), rfl⟩
 rw [ht'] at hm b1 b2
 obtain ⟨hv0, hv1⟩ := hv
 by_cases hlt : t < 0
 ·have HM : Hid (t + n = v % n) := by rw [if_pos hlt] at hm; exact hm
  clear hm
  go_enter Tryz.func17, Tryz.ntmps17
  go_wp2
  go_ret
  exact ⟨ret_i64 HM.out, rfl⟩
 ·have HM : Hid (t = v % n) := by rw [if_neg hlt] at hm; exact hm
  clear hm
  go_enter Tryz.func17, Tryz.ntmps17
  go_wp2
  go_ret
  exact ⟨ret_i64 HM.out, rfl⟩

/-- What a draw from the tape leaves: a number from 0 to n - 1; the tape's block alone has turned. -/
def Drawn (w : World) (T : Nat) (n : Int) (e : Ending) (w' : World) : Prop :=
 ∃ r : Int, e = .returned (.int .i64 r) ∧ 0 ≤ r ∧ r < n ∧ Tp w' T ∧ w.grownBy w' (some T)

set_option maxHeartbeats 1000000 in
theorem next_any (T : Nat) (n : Int) (w : World) (ht : Tp w T) (h0 : 0 < n) (h1 : n ≤ 9223372036854775807) :
  Calls Tryz.prog 31 #[.pointer (some ⟨T, 0, none⟩), .int .i64 n] w fun e w' => Drawn w T n e w' := by
 obtain ⟨A, m, c, p, zs, hb, hp, hm, hr, hz⟩ := ht
 have hc0 : w.cell? ⟨T, 0, none⟩ = some (.slice A m c) := cell_of_row w T 0 _ _ _ hb
 have hc1 : w.cell? ⟨T, 1, none⟩ = some (.int .i64 p) := cell_of_row w T 1 _ _ _ hb
 have hf : w.frozen? ⟨T, 1, none⟩ = false := by simp [World.frozen?, hb]
 have hl : zs.length = m := by simpa using hr.1
 have HL := hid hl; clear hl
 have HB := hid hb; clear hb
 by_cases hlt : p < m
 ·obtain ⟨b, o, rfl, hbT, hc⟩ := hr.at1 hlt
  rw [ints_get _ _ _ (by rw [HL.out]; omega)] at hc
  have bz := hz.at_ p
  have HZ := hid bz; clear bz
  go_enter Tryz.func31, Tryz.ntmps31
  go_wp2_with fail
  go_quiet (fail)
  go_wp2_with fail
  go_quiet ((go_at_call 17; first | exact quiet_left (wmod_any _ _ _ HZ.out h0 h1) | exact quiet_add_left (wmod_any _ _ _ HZ.out h0 h1)))
  go_wp2_with fail
  go_ret
  refine ⟨zs.getD p 0 % n, by simp [List.getD], Int.emod_nonneg _ (by omega), Int.emod_lt_of_pos _ h0, Tp.drewN ⟨_, m, c, p + 1, zs, blk_set (g := T) (w := World.drewN _ _) HB.out 1 _, by omega, hm, Rd.setCell (Rd.drewN hr _) (Nat.le_refl _) _, hz⟩ _, ?_⟩
  exact only_drewN (only_setCell (only_drewN (World.grownBy.refl _ _) _) (.inl rfl) _) _
 ·go_enter Tryz.func31, Tryz.ntmps31
  go_wp2_with fail
  go_quiet (fail)
  go_wp2_with fail
  go_ret
  exact ⟨0, rfl, by omega, h0, Tp.drewN ⟨A, m, c, p, zs, HB.out, hp, hm, hr, hz⟩ _, only_drewN (World.grownBy.refl _ _) _⟩

/-- '1<<n' of the draws: one in n. -/
def Drawn64 (w : World) (T : Nat) (e : Ending) (w' : World) : Prop :=
 ∃ r : Int, e = .returned (.int .i64 r) ∧ I64 r ∧ Tp w' T ∧ w.grownBy w' (some T)

set_option maxHeartbeats 1000000 in
theorem number_any (T : Nat) (w : World) (ht : Tp w T) :
  Calls Tryz.prog 34 #[.pointer (some ⟨T, 0, none⟩)] w fun e w' => Drawn64 w T e w' := by
 go_enter Tryz.func34, Tryz.ntmps34
 go_wp2_with fail
 refine (next_any T 8 _ ht (by omega) (by omega)).mono ?_
 rintro e w1 ⟨r, rfl, r0, r1, t1, g1⟩
 have hcase : r = 0 ∨ r = 1 ∨ r = 2 ∨ ((r == 0) = false ∧ (r == 1) = false ∧ (r == 2) = false) := by
  simp only [beq_eq_false_iff_ne]; omega
 rcases hcase with rfl | rfl | rfl | ⟨k0, k1, k2⟩
 ·go_wp2_with fail
  refine (next_any T 3 _ t1 (by omega) (by omega)).mono ?_
  rintro e w2 ⟨s, rfl, s0, s1, t2, g2⟩
  go_wp2
  go_ret
  exact ⟨9223372036854775807 - s, rfl, by unfold I64; omega, t2, only_trans g1 g2⟩
 ·go_wp2_with fail
  refine (next_any T 3 _ t1 (by omega) (by omega)).mono ?_
  rintro e w2 ⟨s, rfl, s0, s1, t2, g2⟩
  go_wp2
  go_ret
  exact ⟨-9223372036854775808 + s, rfl, by unfold I64; omega, t2, only_trans g1 g2⟩
 ·go_wp2_with fail
  refine (next_any T 9 _ t1 (by omega) (by omega)).mono ?_
  rintro e w2 ⟨s, rfl, s0, s1, t2, g2⟩
  go_wp2
  go_ret
  exact ⟨-s, rfl, by unfold I64; omega, t2, only_trans g1 g2⟩
 ·go_wp2_with fail
  refine (next_any T 9 _ t1 (by omega) (by omega)).mono ?_
  rintro e w2 ⟨s, rfl, s0, s1, t2, g2⟩
  go_wp2
  go_ret
  exact ⟨s, rfl, by unfold I64; omega, t2, only_trans g1 g2⟩

/-- What New leaves: a pointer to a new tape. -/
def NewTape (w : World) (e : Ending) (w' : World) : Prop :=
 ∃ T, e = .returned (.pointer (some ⟨T, 0, none⟩)) ∧ w.heap.size ≤ T ∧ Tp w' T ∧ Below w.heap.size w w'

set_option maxHeartbeats 1000000 in
theorem new_any (A : Option Addr) (n c : Nat) (zs : List Int) (w : World) (hr : Rd w w.heap.size 1 A n (zs.map (Value.int .i64))) (hz : Ints zs) (hn : n ≤ c) (hc : c ≤ 9223372036854775807) :
  Calls Tryz.prog 8 #[.slice A n c] w fun e w' => NewTape w e w' := by
 by_cases hlt : 500 < n
 ·go_enter Tryz.func8, Tryz.ntmps8
  go_wp2
  go_ret
  refine ⟨w.heap.size, rfl, Nat.le_refl _, ⟨A, 500, c, 0, zs.take 500, heap_alloc_new w _, by omega, by omega, ?_, fun x hx => hz x (List.mem_of_mem_take hx)⟩, (Below.refl _ _).alloc (Nat.le_refl _) _⟩
  have := (hr.take_ (k := 500) (by omega)).alloc (Nat.le_refl _) (.cells #[.slice A 500 c, .int .i64 0] 101)
  simpa [List.map_take] using this
 ·go_enter Tryz.func8, Tryz.ntmps8
  go_wp2
  go_ret
  exact ⟨w.heap.size, rfl, Nat.le_refl _, ⟨A, n, c, 0, zs, heap_alloc_new w _, by omega, by omega, hr.alloc (Nat.le_refl _) _, hz⟩, (Below.refl _ _).alloc (Nat.le_refl _) _⟩
end Go.Proofs.YtnbbllkbefagmaaGreatDoor

namespace Go.Proofs.YtnbbllkbefagmaaGreatDoor
open Go.RowKit
set_option linter.unusedVariables false
set_option linter.unusedSimpArgs false

def DrawnB (w : World) (T : Nat) (e : Ending) (w' : World) : Prop :=
 ∃ b : Bool, e = .returned (.bool b) ∧ Tp w' T ∧ w.grownBy w' (some T)

set_option maxHeartbeats 400000 in
theorem bool_any (T : Nat) (n : Int) (w : World) (ht : Tp w T) (h0 : 0 < n) (h1 : n ≤ 9223372036854775807) :
  Calls Tryz.prog 33 #[.pointer (some ⟨T, 0, none⟩), .int .i64 n] w fun e w' => DrawnB w T e w' := by
 go_enter Tryz.func33, Tryz.ntmps33
 go_wp2_with fail
 refine (next_any T n _ ht h0 h1).mono ?_
 rintro e w1 ⟨r, rfl, r0, r1, t1, g1⟩
 go_wp2
 go_ret
 exact ⟨_, rfl, t1, g1⟩

end Go.Proofs.YtnbbllkbefagmaaGreatDoor

namespace Go.Proofs.YtnbbllkbefagmaaGreatDoor
open Go.RowKit
set_option linter.unusedVariables false

/-- A value of the store: its kind, its number, its text. -/
structure Vl where
 k : Int
 i : Int
 s : ByteArray
deriving DecidableEq

def okByte (c : UInt8) : Bool := decide (32 ≤ c.toNat ∧ c.toNat ≤ 126)
def plainB (s : ByteArray) : Bool := s.data.toList.all okByte && decide (s.size ≤ 64)

/-- Which values are valid. -/
def validB (k i : Int) (s : ByteArray) : Bool :=
 if k = 0 then i == 0 && s.toList.isEmpty else if k = 1 then s.toList.isEmpty else if k = 2 then (i == 0 || i == 1) && s.toList.isEmpty else if k = 3 then i == 0 && plainB s else false

end Go.Proofs.YtnbbllkbefagmaaGreatDoor

namespace Go.Proofs.YtnbbllkbefagmaaGreatDoor
open Go.RowKit
set_option linter.unusedVariables false

def Blk (w : World) (g : Nat) (t : TypeId) (cs : Array Value) : Prop := w.heap[g]? = some (.cells cs t (0, 0))

section
variable {w w' w1 : World} {g : Nat} {t : TypeId} {cs : Array Value}
theorem Blk.lt (h : Blk w g t cs) : g < w.heap.size := by
 rcases Nat.lt_or_ge g w.heap.size with hlt | hge
 ·exact hlt
 ·unfold Blk at h; rw [Array.getElem?_eq_none hge] at h; cases h
theorem Blk.cell (h : Blk w g t cs) (i : Nat) : w.cell? ⟨g, i, none⟩ = cs[i]? := cell_of_row w g i cs t (0, 0) h
theorem Blk.frozen (h : Blk w g t cs) (i : Nat) : w.frozen? ⟨g, i, none⟩ = false := frozen_blk h i
theorem Blk.new (w : World) (t : TypeId) (cs : Array Value) : Blk (w.alloc (.cells cs t)) w.heap.size t cs := heap_alloc_new w _
theorem Blk.alloc (h : Blk w g t cs) (o : Obj) : Blk (w.alloc o) g t cs := (Below.heap_alloc w o g h.lt).trans h
theorem Blk.below {B : Nat} (h : Blk w g t cs) (hb : Below B w w') (hg : g < B) : Blk w' g t cs := (hb.block g hg).trans h
theorem Blk.over (h : Blk w g t cs) (hb : Below w.heap.size w w') : Blk w' g t cs := h.below hb h.lt
theorem Blk.far (h : Blk w g t cs) {p : Addr} (hp : g ≠ p.block) (u : Value) : Blk (w.setCell p u) g t cs := (Below.heap_setCell w p u g hp).trans h
theorem Blk.drew (h : Blk w g t cs) : Blk w.drew g t cs := h
theorem Blk.drewN (h : Blk w g t cs) (n : Nat) : Blk (w.drewN n) g t cs := h
theorem Blk.grown {row : Option Nat} (h : Blk w g t cs) (hb : w.grownBy w' row) (hg : some g ≠ row) : Blk w' g t cs := (hb.block g h.lt hg).trans h
/-- three cells -/
theorem Blk.c3 {x y z : Value} (h : Blk w g t #[x, y, z]) : w.cell? ⟨g, 0, none⟩ = some x ∧ w.cell? ⟨g, 1, none⟩ = some y ∧ w.cell? ⟨g, 2, none⟩ = some z ∧ g < w.heap.size := ⟨h.cell 0, h.cell 1, h.cell 2, h.lt⟩
end
theorem ext1 (w : World) (o : Obj) : Below w.heap.size w (w.alloc o) := (Below.refl _ _).alloc (Nat.le_refl _) _
theorem ext2 (w : World) (o o' : Obj) : Below w.heap.size w ((w.alloc o).alloc o') := (ext1 w o).alloc (by simp) _
end Go.Proofs.YtnbbllkbefagmaaGreatDoor

namespace Go.Proofs.YtnbbllkbefagmaaGreatDoor
open Go.RowKit
set_option linter.unusedVariables false
set_option linter.unusedSimpArgs false

/-- The table of words: six texts that are valid. -/
def Wds (w : World) : Prop := ∀ j, j < 6 → ∃ s : ByteArray, w.cell? ⟨1, j, none⟩ = some (.string s) ∧ plainB s = true ∧ s.size ≤ 4
theorem Wds.keep {w w' : World} (h : Wds w) (hk : w'.heap[1]? = w.heap[1]?) : Wds w' := fun j hj => by
 obtain ⟨s, h1, h2⟩ := h j hj
 exact ⟨s, (World.cell?_of_block (w := w) (a := ⟨1, j, none⟩) hk).trans h1, h2⟩
theorem Wds.below {w w' : World} {B : Nat} (h : Wds w) (hb : Below B w w') (hB : 1 < B) : Wds w' := h.keep (hb.block _ hB)
theorem Wds.lt {w : World} (h : Wds w) : 1 < w.heap.size := by
 obtain ⟨s, h1, _⟩ := h 0 (by omega)
 exact World.block_lt_of_cell? w ⟨1, 0, none⟩ h1
theorem Wds.grown {w w' : World} {row : Option Nat} (h : Wds w) (hg : w.grownBy w' row) (hr : some 1 ≠ row) : Wds w' := h.keep (hg.block _ h.lt hr)

def DrawnS (w : World) (T : Nat) (e : Ending) (w' : World) : Prop :=
 ∃ s : ByteArray, e = .returned (.string s) ∧ plainB s = true ∧ s.size ≤ 4 ∧ Tp w' T ∧ w.grownBy w' (some T)

set_option maxHeartbeats 400000 in
theorem word_any (T : Nat) (w : World) (ht : Tp w T) (hw : Wds w) (hT : 1 < T) :
  Calls Tryz.prog 157 #[.pointer (some ⟨T, 0, none⟩)] w fun e w' => DrawnS w T e w' := by
 go_enter Tryz.func157, Tryz.ntmps157
 go_wp2_with fail
 refine (next_any T 6 _ ht (by omega) (by omega)).mono ?_
 rintro e w1 ⟨r, rfl, r0, r1, t1, g1⟩
 have hw1 := hw.grown g1 (by intro e; injection e with e; omega)
 obtain ⟨r, rfl⟩ := Int.eq_ofNat_of_zero_le r0
 obtain ⟨s, hs, hp, hl⟩ := hw1 r (by omega)
 have HP := hid hp; clear hp hw1 hw
 go_wp2
 go_ret
 exact ⟨s, rfl, HP.out, hl, t1, g1⟩

/-- A value drawn: of the kind asked for, valid. -/
def DrawnV (w : World) (T : Nat) (K : Int → Int → ByteArray → Prop) (e : Ending) (w' : World) : Prop :=
 ∃ (k i : Int) (s : ByteArray), e = .returned (.agg #[.int .i64 k, .int .i64 i, .string s]) ∧ K k i s ∧ s.size ≤ 80 ∧ I64 i ∧ Tp w' T ∧ Wds w' ∧ w.grownBy w' (some T)
/-- valid, and of the kind 'kind' where that is 1, 2 or 3; else null -/
def OfKind (kind k i : Int) (s : ByteArray) : Prop := validB k i s = true ∧ ((kind = 1 ∨ kind = 2 ∨ kind = 3) → k = kind) ∧ (¬ (kind = 1 ∨ kind = 2 ∨ kind = 3) → k = 0)

theorem empty_toList : (⟨#[]⟩ : ByteArray).toList = [] := by kernel_rfl
theorem tp_set3 {w : World} {T g : Nat} (h : Tp w T) (hg : T < g) (x y z : Value) : Tp (((w.setCell ⟨g, 0, none⟩ x).setCell ⟨g, 1, none⟩ y).setCell ⟨g, 2, none⟩ z) T :=
 Tp.setCell (p := ⟨g, 2, none⟩) (Tp.setCell (p := ⟨g, 1, none⟩) (Tp.setCell (p := ⟨g, 0, none⟩) h hg x) hg y) hg z
theorem only_set3 {a w : World} {T g : Nat} (h : a.grownBy w (some T)) (hg : a.heap.size ≤ g) (x y z : Value) : a.grownBy (((w.setCell ⟨g, 0, none⟩ x).setCell ⟨g, 1, none⟩ y).setCell ⟨g, 2, none⟩ z) (some T) :=
 only_setCell (p := ⟨g, 2, none⟩) (only_setCell (p := ⟨g, 1, none⟩) (only_setCell (p := ⟨g, 0, none⟩) h (.inr hg) x) (.inr hg) y) (.inr hg) z
theorem drawnV_mk {w w1 : World} {T g : Nat} {K : Int → Int → ByteArray → Prop} {k i : Int} {s : ByteArray} (hK : K k i s) (hs : s.size ≤ 80) (hi : I64 i) (t1 : Tp w1 T) (hTw : T < w.heap.size) (hw : Wds w) (hT : 1 < T)
  (g1 : w.grownBy w1 (some T)) (hg : w.heap.size ≤ g) : DrawnV w T K (.returned (.agg #[.int .i64 k, .int .i64 i, .string s])) (((w1.setCell ⟨g, 0, none⟩ (.int .i64 k)).setCell ⟨g, 1, none⟩ (.int .i64 i)).setCell ⟨g, 2, none⟩ (.string s)) := by
 have g2 := only_set3 g1 hg (.int .i64 k) (.int .i64 i) (.string s)
 exact ⟨k, i, s, rfl, hK, hs, hi, tp_set3 t1 (by omega) _ _ _, hw.grown g2 (by intro e; injection e with e; omega), g2⟩
theorem kind_null {kind : Int} (h : ¬ (kind = 1 ∨ kind = 2 ∨ kind = 3)) : OfKind kind 0 0 ⟨#[]⟩ := ⟨by kernel_rfl, fun k => absurd k h, fun _ => rfl⟩
theorem kind_int (x : Int) : OfKind 1 1 x ⟨#[]⟩ := ⟨by simp [validB, empty_toList], fun _ => rfl, fun h => absurd (.inl rfl) h⟩
theorem kind_bool {x : Int} (h0 : 0 ≤ x) (h1 : x < 2) : OfKind 2 2 x ⟨#[]⟩ := ⟨by
 obtain rfl | rfl : x = 0 ∨ x = 1 := by omega
 all_goals simp [validB, empty_toList], fun _ => rfl, fun h => absurd (.inr (.inl rfl)) h⟩
theorem kind_text {s : ByteArray} (h : plainB s = true) : OfKind 3 3 0 s := ⟨by simp [validB, h], fun _ => rfl, fun h => absurd (.inr (.inr rfl)) h⟩

set_option maxHeartbeats 1000000 in
theorem typed_any (T : Nat) (kind : Int) (w : World) (ht : Tp w T) (hw : Wds w) (hT : 1 < T) :
  Calls Tryz.prog 125 #[.pointer (some ⟨T, 0, none⟩), .int .i64 kind] w fun e w' => DrawnV w T (OfKind kind) e w' := by
 have hlt := ht.lt
 have B0 := Blk.new w 122 #[.int .i64 0, .int .i64 0, .string ⟨#[]⟩]
 have t0 := ht.alloc (.cells #[.int .i64 0, .int .i64 0, .string ⟨#[]⟩] 122)
 have g0 : w.grownBy (w.alloc (.cells #[.int .i64 0, .int .i64 0, .string ⟨#[]⟩] 122)) (some T) := only_alloc (World.grownBy.refl _ _) _
 have w0 : Wds (w.alloc (.cells #[.int .i64 0, .int .i64 0, .string ⟨#[]⟩] 122)) := hw.grown g0 (by intro e; injection e with e; omega)
 have hI0 : I64 0 := by unfold I64; omega
 by_cases h1 : kind = 1
 ·subst h1
  go_enter Tryz.func125, Tryz.ntmps125
  go_wp2_with fail
  refine (number_any T _ t0).mono ?_
  rintro e w1 ⟨x, rfl, hx, t1, g1⟩
  have B1 := B0.grown g1 (by intro e; injection e with e; omega)
  have g2 := only_trans g0 g1
  obtain ⟨c0, c1, c2, cl⟩ := B1.c3
  have f0 := B1.frozen 0; have f1 := B1.frozen 1; have f2 := B1.frozen 2
  clear t0 g0 B0 w0 g1
  go_wp2
  exact bodyPost_ret (v := .agg #[.int .i64 1, .int .i64 x, .string ⟨#[]⟩]) (by simp [results, Tryz.results125, go_sem, c0, c1, c2]) rfl (drawnV_mk (kind_int x) (by decide) hx t1 hlt hw hT g2 (Nat.le_refl _))
 by_cases h2 : kind = 2
 ·subst h2
  go_enter Tryz.func125, Tryz.ntmps125
  go_wp2_with fail
  refine (next_any T 2 _ t0 (by omega) (by omega)).mono ?_
  rintro e w1 ⟨x, rfl, x0, x1, t1, g1⟩
  have B1 := B0.grown g1 (by intro e; injection e with e; omega)
  have g2 := only_trans g0 g1
  obtain ⟨c0, c1, c2, cl⟩ := B1.c3
  have f0 := B1.frozen 0; have f1 := B1.frozen 1; have f2 := B1.frozen 2
  clear t0 g0 B0 w0 g1
  go_wp2
  exact bodyPost_ret (v := .agg #[.int .i64 2, .int .i64 x, .string ⟨#[]⟩]) (by simp [results, Tryz.results125, go_sem, c0, c1, c2]) rfl (drawnV_mk (kind_bool x0 x1) (by decide) (by unfold I64; omega) t1 hlt hw hT g2 (Nat.le_refl _))
 by_cases h3 : kind = 3
 ·subst h3
  go_enter Tryz.func125, Tryz.ntmps125
  go_wp2_with fail
  refine (word_any T _ t0 w0 hT).mono ?_
  rintro e w1 ⟨s, rfl, hp, hs, t1, g1⟩
  have B1 := B0.grown g1 (by intro e; injection e with e; omega)
  have g2 := only_trans g0 g1
  obtain ⟨c0, c1, c2, cl⟩ := B1.c3
  have f0 := B1.frozen 0; have f1 := B1.frozen 1; have f2 := B1.frozen 2
  clear t0 g0 B0 w0 g1
  go_wp2
  exact bodyPost_ret (v := .agg #[.int .i64 3, .int .i64 0, .string s]) (by simp [results, Tryz.results125, go_sem, c0, c1, c2]) rfl (drawnV_mk (kind_text hp) (by omega) hI0 t1 hlt hw hT g2 (Nat.le_refl _))
 ·have k1 : (kind == 1) = false := by simpa using h1
  have k2 : (kind == 2) = false := by simpa using h2
  have k3 : (kind == 3) = false := by simpa using h3
  have hn : ¬ (kind = 1 ∨ kind = 2 ∨ kind = 3) := by omega
  have HN := hid (kind_null hn); clear hn
  go_enter Tryz.func125, Tryz.ntmps125
  clear h1 h2 h3
  go_wp2
  refine bodyPost_ret (v := .agg #[.int .i64 0, .int .i64 0, .string ⟨#[]⟩]) (by simp [results, Tryz.results125, go_sem]) rfl ?_
  exact ⟨0, 0, ⟨#[]⟩, rfl, HN.out, by decide, hI0, t0, w0, g0⟩

end Go.Proofs.YtnbbllkbefagmaaGreatDoor

namespace Go.Proofs.YtnbbllkbefagmaaGreatDoor
open Go.ChangeShapes Go.WideShapes Go.ChangeAt Go.RowKit
set_option linter.unusedVariables false
set_option linter.unusedSimpArgs false

theorem gWords : Tryz.prog.globalNamed "triggerstore/triggerstoreworld.words" = some 1 := by kernel_rfl
theorem gWordsType : (Tryz.prog.globals[1]?).map (·.type) = some 279 := by kernel_rfl
def wordBytes : List (List UInt8) := [[], [97], [98], [105, 116, 39, 115], [90, 32, 122], [126]]
theorem words_all : ∀ b ∈ wordBytes, (b.all okByte && decide (b.length ≤ 4)) = true := by decide

theorem wds_of_laid {W : World} {rest : List (String × DataW Unit)} (h : laidMet Tryz.prog (("triggerstore/triggerstoreworld.words", Rows.laid_triggerstore_triggerstoreworld_words) :: rest) W) : Wds W := by
 intro j hj
 obtain ⟨s, h1, h2, _⟩ := strs_of_head (bs := wordBytes) (rest := rest) gWords gWordsType Tryz.underlying279 Tryz.underlying9 (by kernel_rfl) h j hj
 have h3 := words_all _ (List.mem_of_getElem? h2)
 simp only [Bool.and_eq_true, decide_eq_true_eq] at h3
 have hs : s.size = s.data.toList.length := (Array.length_toList (xs := s.data)).symm
 refine ⟨s, h1, ?_, by omega⟩
 unfold plainB
 rw [h3.1, Bool.true_and, decide_eq_true_eq]
 omega

/-- A world for the witness of a row: the settled one, the table of words laid. -/
noncomputable def wordsWorld (os : Os) : World :=
 { World.holding Tryz.prog os ⟨#[], #[], []⟩ with heap := (World.holding Tryz.prog os ⟨#[], #[], []⟩).heap.modify 1 fun
   | .cells _ t frozen => .cells #[.string ⟨#[]⟩, .string ⟨#[97]⟩, .string ⟨#[98]⟩, .string ⟨#[105, 116, 39, 115]⟩, .string ⟨#[90, 32, 122]⟩, .string ⟨#[126]⟩] t frozen
   | o => o }
end Go.Proofs.YtnbbllkbefagmaaGreatDoor

namespace Go.Proofs.YtnbbllkbefagmaaGreatDoor
open Go.RowKit
set_option linter.unusedVariables false

/-- An item of memory: a block known whole, a row that grows, a tape, or a statement on cells that are never written again. -/
inductive Hp where
 | blk (g : Nat) (t : TypeId) (cs : Array Value)
 | own (e : TypeId) (size : Nat) (v : Value) (n : Nat) (xs : List Value)
 | tp (T : Nat)
 | ro (S : World → Prop)
 | cst (g : Nat) (t : TypeId) (cs : Array Value)
 | ob (g : Nat) (F : World → Prop)

/-- the block that the item may write -/
def Hp.foot : Hp → Option Nat
 | .blk g _ _ => some g
 | .own _ _ v _ _ => v.ownBlock
 | .tp T => some T
 | .ro _ => none
 | .cst _ _ _ => none
 | .ob g _ => some g

/-- the blocks that may be written: a caller's own (M), and those of the items -/
def Mut (M : Nat → Prop) (L : List Hp) (b : Nat) : Prop := M b ∨ ∃ h ∈ L, h.foot = some b

/-- S holds in w, and as long as nothing but the blocks of M and new ones turns -/
def Ro (w : World) (M : Nat → Prop) (S : World → Prop) : Prop :=
 ∀ w' : World, w.heap.size ≤ w'.heap.size → (∀ b, b < w.heap.size → ¬ M b → w'.heap[b]? = w.heap[b]?) → S w'

theorem Ro.now {w : World} {M : Nat → Prop} {S : World → Prop} (h : Ro w M S) : S w := h w (Nat.le_refl _) (fun _ _ _ => rfl)
theorem Ro.step {w w' : World} {M M' : Nat → Prop} {S : World → Prop} (h : Ro w M S) (hs : w.heap.size ≤ w'.heap.size) (hb : ∀ b, b < w.heap.size → ¬ M b → w'.heap[b]? = w.heap[b]?)
  (hM : ∀ b, b < w.heap.size → M' b → M b) : Ro w' M' S := fun w2 h1 h2 => h w2 (Nat.le_trans hs h1) fun b hbl hn => (h2 b (Nat.lt_of_lt_of_le hbl hs) (fun hm => hn (hM b hbl hm))).trans (hb b hbl hn)
theorem Ro.less {w : World} {M M' : Nat → Prop} {S : World → Prop} (h : Ro w M S) (hM : ∀ b, M' b → M b) : Ro w M' S := h.step (Nat.le_refl _) (fun _ _ _ => rfl) (fun b _ hb => hM b hb)
theorem Ro.imp {w : World} {M : Nat → Prop} {S S' : World → Prop} (h : Ro w M S) (hi : ∀ w, S w → S' w) : Ro w M S' := fun w2 h1 h2 => hi _ (h w2 h1 h2)
theorem Ro.and {w : World} {M : Nat → Prop} {S S' : World → Prop} (h : Ro w M S) (k : Ro w M S') : Ro w M (fun w => S w ∧ S' w) := fun w2 h1 h2 => ⟨h w2 h1 h2, k w2 h1 h2⟩
theorem Ro.below {w w' : World} {M : Nat → Prop} {S : World → Prop} (h : Ro w M S) (hb : Below w.heap.size w w') : Ro w' M S := h.step hb.size (fun b hl _ => hb.block b hl) (fun _ _ hm => hm)
theorem Ro.grown {w w' : World} {M : Nat → Prop} {S : World → Prop} {T : Nat} (h : Ro w M S) (hb : w.grownBy w' (some T)) (hT : M T) : Ro w' M S :=
 h.step hb.size (fun b hl hn => hb.block b hl (fun e => by injection e with e; subst e; exact hn hT)) (fun _ _ hm => hm)
def Hp.sat (B : Nat) (w : World) (M : Nat → Prop) : Hp → Prop
 | .blk g t cs => w.heap[g]? = some (.cells cs t (0, 0))
 | .own e size v n xs => w.ownsRow B e size v n xs
 | .tp T => Tp w T ∧ ∀ b, M b → T ≤ b
 | .ro S => Ro w M S
 | .cst g t cs => Ro w M (fun w => w.heap[g]? = some (.cells cs t (0, 0)))
 | .ob g F => ∀ w' : World, w'.heap[g]? = w.heap[g]? → F w'

/-- no two items may write one block -/
def Apart : List Hp → Prop
 | [] => True
 | h :: L => (∀ b, h.foot = some b → ∀ k ∈ L, k.foot ≠ some b) ∧ Apart L

/-- From w0 to w nothing turned but the block 'row' and new ones; the items of L hold in w. M: blocks of the caller's that it may write. -/
structure Hold (M : Nat → Prop) (row : Option Nat) (w0 w : World) (L : List Hp) : Prop where
 grow : w0.grownBy w row
 low : ∀ b, M b → b < w0.heap.size
 sat : ∀ h ∈ L, h.sat w0.heap.size w (Mut M L)
 fresh : ∀ h ∈ L, ∀ b, h.foot = some b → (w0.heap.size ≤ b ∨ (row = some b ∧ h = .tp b)) ∧ b < w.heap.size
 sep : Apart L

section
variable {M : Nat → Prop} {row : Option Nat} {w0 w w' : World} {L L' : List Hp}

theorem Hold.start (M : Nat → Prop) (w : World) (h : ∀ b, M b → b < w.heap.size) : Hold M none w w [] :=
 ⟨World.grownBy.refl _ _, h, (fun _ h => nomatch h), (fun _ h => nomatch h), trivial⟩
theorem Hold.startT (M : Nat → Prop) (w : World) (T : Nat) (h : ∀ b, M b → b < w.heap.size) (ht : Tp w T) (hM : ∀ b, M b → T ≤ b) : Hold M (some T) w w [.tp T] := by
 refine ⟨World.grownBy.refl _ _, h, fun k hm => ?_, fun k hm b hf => ?_, ⟨fun _ _ k hk => by simp at hk, trivial⟩⟩
 ·simp only [List.mem_singleton] at hm; subst hm
  refine ⟨ht, fun b hb => ?_⟩
  rcases hb with hb | ⟨k, hm, hf⟩
  ·exact hM b hb
  ·simp only [List.mem_singleton] at hm; subst hm; injection hf with hf; omega
 ·simp only [List.mem_singleton] at hm; subst hm; injection hf with hf; subst hf; exact ⟨.inr ⟨rfl, rfl⟩, ht.lt⟩

theorem Hold.mutLt (h : Hold M row w0 w L) : ∀ b, Mut M L b → b < w.heap.size := fun b hb => by
 rcases hb with hb | ⟨k, hk, hf⟩
 ·exact Nat.lt_of_lt_of_le (h.low b hb) h.grow.size
 ·exact (h.fresh k hk b hf).2
theorem Hold.below (h : Hold M none w0 w L) : Below w0.heap.size w0 w := ⟨h.grow.os, h.grow.tape, h.grow.output, h.grow.size, fun k hk => h.grow.block k hk (by simp)⟩
theorem mut_cons {k : Hp} {b : Nat} : Mut M (k :: L) b ↔ (k.foot = some b ∨ Mut M L b) := by
 unfold Mut; simp only [List.mem_cons, exists_eq_or_imp]
 constructor
 ·rintro (h | h | h)
  ·exact .inr (.inl h)
  ·exact .inl h
  ·exact .inr (.inr h)
 ·rintro (h | h | h)
  ·exact .inr (.inl h)
  ·exact .inl h
  ·exact .inr (.inr h)

/-- An item's truth over a step that leaves all that may not be written, and the item's own block. -/
theorem Hp.sat_step {B : Nat} {M M' : Nat → Prop} {k : Hp} (h : k.sat B w M) (hs : w.heap.size ≤ w'.heap.size) (hb : ∀ b, b < w.heap.size → ¬ M b → w'.heap[b]? = w.heap[b]?)
  (hM : ∀ b, b < w.heap.size → M' b → M b) (hT : ∀ b, k.foot = some b → w'.heap[b]? = w.heap[b]?) (hlow : ∀ T, k = .tp T → (∀ b, b < T → w'.heap[b]? = w.heap[b]?)) : k.sat B w' M' := by
 cases k with
 | blk g t cs => exact (hT g rfl).trans h
 | own e size v n xs =>
  refine ⟨h.1, ?_⟩
  rcases h.2 with hn | ⟨g, cap, cur, rfl, hb', hgg, rest⟩
  ·exact .inl hn
  ·exact .inr ⟨g, cap, cur, rfl, hb', (hT g rfl).trans hgg, rest⟩
 | tp T =>
  refine ⟨h.1.keep fun b hbT => ?_, fun b hb' => ?_⟩
  ·rcases Nat.lt_or_ge b T with hlt | hge
   ·exact hlow T rfl b hlt
   ·obtain rfl : b = T := by omega
    exact hT b rfl
  ·rcases Nat.lt_or_ge b w.heap.size with hlt | hge
   ·exact h.2 b (hM b hlt hb')
   ·have := h.1.lt; omega
 | ro S => exact h.step hs hb hM
 | cst g t cs => exact Ro.step h hs hb hM
 | ob g F => exact fun w2 h2 => h w2 (h2.trans (hT g rfl))

/-- The step of a call that leaves old memory (and the caller's blocks). -/
theorem Hold.call (h : Hold M row w0 w L) (hb : Below w.heap.size w w') : Hold M row w0 w' L :=
 ⟨only_below h.grow hb, h.low,
  fun k hk => Hp.sat_step (k := k) (h.sat k hk) hb.size (fun b hl _ => hb.block b hl) (fun _ _ hm => hm) (fun b hf => hb.block b (h.fresh k hk b hf).2)
   (fun T hT b hlt => by
    have := h.fresh k hk T (by subst hT; rfl)
    exact hb.block b (by omega)),
  fun k hk b hf => ⟨(h.fresh k hk b hf).1, Nat.lt_of_lt_of_le (h.fresh k hk b hf).2 hb.size⟩, h.sep⟩

theorem Hold.drew (h : Hold M row w0 w L) : Hold M row w0 w.drew L :=
 ⟨only_drew h.grow, h.low, fun k hk => Hp.sat_step (k := k) (h.sat k hk) (Nat.le_refl _) (fun _ _ _ => rfl) (fun _ _ hm => hm) (fun _ _ => rfl) (fun _ _ _ _ => rfl), h.fresh, h.sep⟩
theorem Hold.drewN (h : Hold M row w0 w L) (n : Nat) : Hold M row w0 (w.drewN n) L :=
 ⟨only_drewN h.grow n, h.low, fun k hk => Hp.sat_step (k := k) (h.sat k hk) (Nat.le_refl _) (fun _ _ _ => rfl) (fun _ _ hm => hm) (fun _ _ => rfl) (fun _ _ _ _ => rfl), h.fresh, h.sep⟩

/-- A new block. -/
theorem Hold.alloc (h : Hold M row w0 w L) (cs : Array Value) (t : TypeId) : Hold M row w0 (w.alloc (.cells cs t)) (.blk w.heap.size t cs :: L) := by
 have hsz : (w.alloc (.cells cs t)).heap.size = w.heap.size + 1 := by simp
 have hMM : ∀ b, b < w.heap.size → Mut M (.blk w.heap.size t cs :: L) b → Mut M L b := fun b hl hm => by
  rcases mut_cons.1 hm with hf | hm
  ·injection hf with hf; omega
  ·exact hm
 refine ⟨only_alloc h.grow _, h.low, fun k hk => ?_, fun k hk b hf => ?_, ⟨fun b hf k hk he => ?_, h.sep⟩⟩
 ·rcases List.mem_cons.1 hk with rfl | hk
  ·exact heap_alloc_new w _
  ·exact Hp.sat_step (k := k) (h.sat k hk) (by omega) (fun b hl _ => Below.heap_alloc w _ b hl) hMM (fun b hf => Below.heap_alloc w _ b (h.fresh k hk b hf).2)
    (fun T hT b hlt => by
     have := h.fresh k hk T (by subst hT; rfl)
     exact Below.heap_alloc w _ b (by omega))
 ·rcases List.mem_cons.1 hk with rfl | hk
  ·injection hf with hf; subst hf; exact ⟨.inl h.grow.size, by omega⟩
  ·exact ⟨(h.fresh k hk b hf).1, by have := (h.fresh k hk b hf).2; omega⟩
 ·injection hf with hf; subst hf
  have := (h.fresh k hk _ he).2; omega

/-- An item that may be written is replaced by one of the same block, or of a new one; a step of the world that turns nothing but that block. -/
theorem Apart.mem (h : Apart L) {i j : Nat} {a b : Hp} (hi : L[i]? = some a) (hj : L[j]? = some b) (hij : i ≠ j) {x : Nat} (ha : a.foot = some x) : b.foot ≠ some x := by
 induction L generalizing i j with
 | nil => cases hi
 | cons c L ih =>
  obtain ⟨h1, h2⟩ := h
  cases i with
  | zero =>
   cases j with
   | zero => exact absurd rfl hij
   | succ j => simp only [List.getElem?_cons_zero, Option.some.injEq] at hi; subst hi; exact h1 x ha b (List.mem_of_getElem? (by simpa using hj))
  | succ i =>
   cases j with
   | zero =>
    simp only [List.getElem?_cons_zero, Option.some.injEq] at hj; subst hj
    intro hb
    exact h1 x hb a (List.mem_of_getElem? (by simpa using hi)) ha
   | succ j => exact ih h2 (by simpa using hi) (by simpa using hj) (fun e => hij (by omega))
theorem apart_of (h : ∀ (i j : Nat) (a b : Hp), L[i]? = some a → L[j]? = some b → i ≠ j → ∀ x, a.foot = some x → b.foot ≠ some x) : Apart L := by
 induction L with
 | nil => trivial
 | cons c L ih =>
  refine ⟨fun x hx k hk => ?_, ih fun i j a b hi hj hij => h (i + 1) (j + 1) a b (by simpa using hi) (by simpa using hj) (by omega)⟩
  obtain ⟨n, hn⟩ := List.getElem?_of_mem hk
  exact h 0 (n + 1) c k rfl (by simpa using hn) (by omega) x hx

theorem set_get {k : Hp} {i j : Nat} {a : Hp} (h : (L.set i k)[j]? = some a) : (i = j ∧ a = k) ∨ (i ≠ j ∧ L[j]? = some a) := by
 by_cases e : i = j
 ·subst e
  left
  rw [List.getElem?_set] at h
  simp only [if_true] at h
  split at h
  ·injection h with h; exact ⟨rfl, h.symm⟩
  ·cases h
 ·right
  rw [List.getElem?_set, if_neg e] at h
  exact ⟨e, h⟩

theorem Hold.turn (h : Hold M row w0 w L) (i : Nat) {k k' : Hp} (hi : L[i]? = some k) (hsz : w.heap.size ≤ w'.heap.size) (hos : w'.os = w.os ∧ w'.tape = w.tape ∧ w'.output = w.output)
  (hb : ∀ b, b < w.heap.size → k.foot ≠ some b → w'.heap[b]? = w.heap[b]?)
  (hf : ∀ b, k'.foot = some b → (k.foot = some b ∨ w.heap.size ≤ b) ∧ b < w'.heap.size)
  (hs : k'.sat w0.heap.size w' (Mut M (L.set i k'))) (hnt : ∀ T, k = .tp T → k' = .tp T) : Hold M row w0 w' (L.set i k') := by
 have hkm : k ∈ L := List.mem_of_getElem? hi
 have hMM : ∀ b, b < w.heap.size → Mut M (L.set i k') b → Mut M L b := fun b hl hm => by
  rcases hm with hm | ⟨a, ha, hfa⟩
  ·exact .inl hm
  ·obtain ⟨j, hj⟩ := List.getElem?_of_mem ha
   rcases set_get hj with ⟨rfl, rfl⟩ | ⟨_, hj⟩
   ·rcases (hf b hfa).1 with h1 | h1
    ·exact .inr ⟨k, hkm, h1⟩
    ·omega
   ·exact .inr ⟨a, List.mem_of_getElem? hj, hfa⟩
 have hkM : ∀ b, k.foot = some b → Mut M L b := fun b hb => .inr ⟨k, hkm, hb⟩
 refine ⟨⟨hos.1.trans h.grow.os, hos.2.1.trans h.grow.tape, hos.2.2.trans h.grow.output, Nat.le_trans h.grow.size hsz, fun b hl hne => ?_⟩, h.low, fun a ha => ?_, fun a ha b hfa => ?_, ?_⟩
 ·refine (hb b (Nat.lt_of_lt_of_le hl h.grow.size) fun hk => ?_).trans (h.grow.block b hl hne)
  rcases (h.fresh k hkm b hk).1 with h1 | h1
  ·omega
  ·exact hne h1.1.symm
 ·obtain ⟨j, hj⟩ := List.getElem?_of_mem ha
  rcases set_get hj with ⟨rfl, rfl⟩ | ⟨hij, hj⟩
  ·exact hs
  ·have ham := List.mem_of_getElem? hj
   refine Hp.sat_step (k := a) (h.sat a ham) hsz (fun b hl hn => hb b hl fun hk => hn (hkM b hk)) hMM (fun b hfb => hb b (h.fresh a ham b hfb).2 (h.sep.mem hj hi (fun e => hij e.symm) hfb)) (fun T hT b hlt => ?_)
   subst hT
   have h1 := (h.fresh _ ham T rfl).2
   refine hb b (by omega) fun hk => ?_
   have h2 := (h.sat _ ham).2 b (hkM b hk)
   omega
 ·obtain ⟨j, hj⟩ := List.getElem?_of_mem ha
  rcases set_get hj with ⟨rfl, rfl⟩ | ⟨hij, hj⟩
  ·obtain ⟨h1, h2⟩ := hf b hfa
   rcases h1 with h1 | h1
   ·refine ⟨?_, h2⟩
    rcases (h.fresh k hkm b h1).1 with h3 | ⟨h3, h4⟩
    ·exact .inl h3
    ·exact .inr ⟨h3, hnt b h4⟩
   ·exact ⟨.inl (Nat.le_trans h.grow.size h1), h2⟩
  ·have ham := List.mem_of_getElem? hj
   exact ⟨(h.fresh a ham b hfa).1, Nat.lt_of_lt_of_le (h.fresh a ham b hfa).2 hsz⟩
 ·refine apart_of fun x y a b hx hy hxy g hg => ?_
  rcases set_get hx with ⟨rfl, rfl⟩ | ⟨hix, hx'⟩ <;> rcases set_get hy with ⟨rfl, rfl⟩ | ⟨hiy, hy'⟩
  ·exact absurd rfl hxy
  ·rcases (hf g hg).1 with h1 | h1
   ·exact h.sep.mem hi hy' hxy h1
   ·intro he; have := (h.fresh b (List.mem_of_getElem? hy') g he).2; omega
  ·intro he
   rcases (hf g he).1 with h1 | h1
   ·exact h.sep.mem hx' hi hxy hg h1
   ·have := (h.fresh a (List.mem_of_getElem? hx') g hg).2; omega
  ·exact h.sep.mem hx' hy' hxy hg

/-- A store into a block that is known whole. -/
theorem Hold.store (h : Hold M row w0 w L) (i : Nat) {g : Nat} {t : TypeId} {cs : Array Value} (hi : L[i]? = some (.blk g t cs)) (j : Nat) (u : Value) :
  Hold M row w0 (w.setCell ⟨g, j, none⟩ u) (L.set i (.blk g t (cs.setIfInBounds j u))) := by
 have hkm := List.mem_of_getElem? hi
 refine h.turn i hi (by simp [World.setCell]) ⟨rfl, rfl, rfl⟩ (fun b _ hne => Below.heap_setCell w _ u b fun e => hne (by rw [e]; rfl)) (fun b hf => ?_) (blk_set (h.sat _ hkm) j u) (fun T hT => by cases hT)
 have : some g = some b := hf
 injection this with this
 subst this
 exact ⟨.inl rfl, by have := (h.fresh _ hkm g rfl).2; simpa [World.setCell] using this⟩

/-- A store into an own row (below its length). -/
theorem Hold.put_ (h : Hold M row w0 w L) (i : Nat) {e : TypeId} {size n cap g : Nat} {xs : List Value} (hi : L[i]? = some (.own e size (.slice (some ⟨g, 0, none⟩) n cap) n xs)) (j : Nat) (u : Value) :
  Hold M row w0 (w.setCell ⟨g, j, none⟩ u) (L.set i (.own e size (.slice (some ⟨g, 0, none⟩) n cap) n (xs.set j u))) := by
 have hkm := List.mem_of_getElem? hi
 have hs := World.ownsRow.stored (h.sat _ hkm) j u
 refine h.turn i hi (by simp [World.setCell]) ⟨rfl, rfl, rfl⟩ (fun b _ hne => Below.heap_setCell w _ u b fun e => hne (by rw [e]; rfl)) (fun b hf => ?_) hs.1 (fun T hT => by cases hT)
 have : some g = some b := hf
 injection this with this
 subst this
 exact ⟨.inl rfl, by have := (h.fresh _ hkm g rfl).2; simpa [World.setCell] using this⟩

/-- An append to an own row. -/
theorem Hold.append (h : Hold M row w0 w L) (i : Nat) {e : TypeId} {size n n' g cap : Nat} {v : Value} {xs ys : List Value} (hi : L[i]? = some (.own e size v n xs))
  (ho : w'.ownsRow w0.heap.size e size (.slice (some ⟨g, 0, none⟩) n' cap) n' ys) (hg : w.grownBy w' v.ownBlock) (hd : v.ownBlock = some g ∨ w.heap.size ≤ g) (hl : g < w'.heap.size) :
  Hold M row w0 w' (L.set i (.own e size (.slice (some ⟨g, 0, none⟩) n' cap) n' ys)) := by
 refine h.turn i hi hg.size ⟨hg.os, hg.tape, hg.output⟩ (fun b hl hne => hg.block b hl fun e => hne e.symm) (fun b hf => ?_) ho (fun T hT => by cases hT)
 have : some g = some b := hf
 injection this with this
 subst this
 exact ⟨hd, hl⟩

/-- A call that turns the tape. -/
theorem Hold.callT (h : Hold M row w0 w L) (i : Nat) {T : Nat} (hi : L[i]? = some (.tp T)) (hg : w.grownBy w' (some T)) (ht : Tp w' T) : Hold M row w0 w' L := by
 have hkm := List.mem_of_getElem? hi
 have hlt := (h.fresh _ hkm T rfl).2
 have := h.turn (k' := .tp T) i hi hg.size ⟨hg.os, hg.tape, hg.output⟩ (fun b hl hne => hg.block b hl fun e => hne e.symm) (fun b hf => ⟨.inl hf, by
  injection hf with hf; subst hf; exact Nat.lt_of_lt_of_le hlt hg.size⟩) ⟨ht, fun b hb => by
   have hb' : Mut M L b := by
    rcases hb with hb | ⟨a, ha, hfa⟩
    ·exact .inl hb
    ·obtain ⟨j, hj⟩ := List.getElem?_of_mem ha
     rcases set_get hj with ⟨rfl, rfl⟩ | ⟨_, hj⟩
     ·exact .inr ⟨_, hkm, hfa⟩
     ·exact .inr ⟨a, List.mem_of_getElem? hj, hfa⟩
   exact (h.sat _ hkm).2 b hb'⟩ (fun T' hT' => by injection hT' with hT'; rw [hT'])
 have e : L.set i (.tp T) = L := by
  apply List.ext_getElem?
  intro j
  rw [List.getElem?_set]
  split
  ·subst i; split
   ·exact hi.symm
   ·rw [List.getElem?_eq_none (by omega)]
  ·rfl
 rwa [e] at this

/-- More is known. -/
theorem Hold.add (h : Hold M row w0 w L) {S : World → Prop} (hr : Ro w (Mut M L) S) : Hold M row w0 w (.ro S :: L) := by
 have e : ∀ b, Mut M (.ro S :: L) b → Mut M L b := fun b hb => by
  rcases mut_cons.1 hb with hf | hm
  ·cases hf
  ·exact hm
 refine ⟨h.grow, h.low, fun k hk => ?_, fun k hk b hf => ?_, ⟨(fun b hf => nomatch hf), h.sep⟩⟩
 ·rcases List.mem_cons.1 hk with rfl | hk
  ·exact hr.less e
  ·exact Hp.sat_step (k := k) (h.sat k hk) (Nat.le_refl _) (fun _ _ _ => rfl) (fun b _ hb => e b hb) (fun _ _ => rfl) (fun _ _ _ _ => rfl)
 ·rcases List.mem_cons.1 hk with rfl | hk
  ·cases hf
  ·exact h.fresh k hk b hf

/-- A row of the call's own, empty. -/
theorem Hold.nil (h : Hold M row w0 w L) (e : TypeId) (size : Nat) : Hold M row w0 w (.own e size (.slice none 0 0) 0 [] :: L) := by
 have ee : ∀ b, Mut M (.own e size (.slice none 0 0) 0 [] :: L) b → Mut M L b := fun b hb => by
  rcases mut_cons.1 hb with hf | hm
  ·cases hf
  ·exact hm
 refine ⟨h.grow, h.low, fun k hk => ?_, fun k hk b hf => ?_, ⟨(fun b hf => nomatch hf), h.sep⟩⟩
 ·rcases List.mem_cons.1 hk with rfl | hk
  ·exact World.ownsRow_nil _ _ _ _
  ·exact Hp.sat_step (k := k) (h.sat k hk) (Nat.le_refl _) (fun _ _ _ => rfl) (fun b _ hb => ee b hb) (fun _ _ => rfl) (fun _ _ _ _ => rfl)
 ·rcases List.mem_cons.1 hk with rfl | hk
  ·cases hf
  ·exact h.fresh k hk b hf

/-- A new block taken for an own row: a literal, or what make laid. -/
theorem Hold.alloc_own (h : Hold M row w0 w L) (cs : Array Value) (t : TypeId) (size n : Nat) (hm : n ≤ maxLen) (hs : cs.size = n * size) :
  Hold M row w0 (w.alloc (.cells cs t)) (.own t size (.slice (some ⟨w.heap.size, 0, none⟩) n n) n cs.toList :: L) := by
 have h1 := h.alloc cs t
 exact h1.turn (k' := .own t size (.slice (some ⟨w.heap.size, 0, none⟩) n n) n cs.toList) 0 rfl (Nat.le_refl _) ⟨rfl, rfl, rfl⟩ (fun _ _ _ => rfl) (fun b hf => ⟨.inl hf, (h1.fresh _ (List.mem_cons_self ..) b hf).2⟩)
  (World.ownsRow_lit w cs n h.grow.size hm hs) (fun T hT => by cases hT)

/-- Less is known. -/
theorem Hold.drop (h : Hold M row w0 w L) (hL : List.Sublist L' L) : Hold M row w0 w L' := by
 have e : ∀ b, Mut M L' b → Mut M L b := fun b hb => by
  rcases hb with hb | ⟨k, hk, hf⟩
  ·exact .inl hb
  ·exact .inr ⟨k, hL.subset hk, hf⟩
 refine ⟨h.grow, h.low, fun k hk => Hp.sat_step (k := k) (h.sat k (hL.subset hk)) (Nat.le_refl _) (fun _ _ _ => rfl) (fun b _ hb => e b hb) (fun _ _ => rfl) (fun _ _ _ _ => rfl), fun k hk => h.fresh k (hL.subset hk), ?_⟩
 have h1 := h.sep
 clear h e
 induction hL with
 | slnil => trivial
 | cons _ _ ih => exact ih h1.2
 | cons_cons a hs ih => exact ⟨fun b hb k hk => h1.1 b hb k (hs.subset hk), ih h1.2⟩

/-- An item that may be written is laid down for good: whatever its block says. -/
theorem Hold.sealTo (h : Hold M row w0 w L) (i : Nat) {k k' : Hp} (hi : L[i]? = some k) (hk : ∀ T, k ≠ .tp T) (hk' : k'.foot = none) {S : World → Prop}
  (hS : ∀ w2 : World, k.sat w0.heap.size w (Mut M L) → (∀ b, k.foot = some b → w2.heap[b]? = w.heap[b]?) → S w2) (hs : Ro w (Mut M (L.set i k')) S → k'.sat w0.heap.size w (Mut M (L.set i k'))) : Hold M row w0 w (L.set i k') := by
 have hkm := List.mem_of_getElem? hi
 refine h.turn i hi (Nat.le_refl _) ⟨rfl, rfl, rfl⟩ (fun _ _ _ => rfl) (fun b hf => by rw [hk'] at hf; cases hf) (hs ?_) (fun T hT => absurd hT (hk T))
 intro w2 h1 h2
 refine hS w2 (h.sat k hkm) fun b hf => h2 b (h.fresh k hkm b hf).2 ?_
 rintro (hm | ⟨a, ha, hfa⟩)
 ·rcases (h.fresh k hkm b hf).1 with h3 | ⟨h3, h4⟩
  ·have := h.low b hm; omega
  ·exact absurd h4 (hk b)
 ·obtain ⟨j, hj⟩ := List.getElem?_of_mem ha
  rcases set_get hj with ⟨rfl, rfl⟩ | ⟨hij, hj⟩
  ·rw [hk'] at hfa; cases hfa
  ·exact h.sep.mem hi hj hij hf hfa
theorem Hold.seal (h : Hold M row w0 w L) (i : Nat) {k : Hp} (hi : L[i]? = some k) (hk : ∀ T, k ≠ .tp T) {S : World → Prop}
  (hS : ∀ w2 : World, k.sat w0.heap.size w (Mut M L) → (∀ b, k.foot = some b → w2.heap[b]? = w.heap[b]?) → S w2) : Hold M row w0 w (L.set i (.ro S)) :=
 h.sealTo i hi hk rfl hS id
/-- A block that will not be written again. -/
theorem Hold.fix_ (h : Hold M row w0 w L) (i : Nat) {g : Nat} {t : TypeId} {cs : Array Value} (hi : L[i]? = some (.blk g t cs)) : Hold M row w0 w (L.set i (.cst g t cs)) :=
 h.sealTo i hi (fun T e => nomatch e) rfl (S := fun w => w.heap[g]? = some (.cells cs t (0, 0))) (fun w2 h1 h2 => (h2 g rfl).trans h1) id
/-- A new block that will not be written again. -/
theorem Hold.alloc_cst (h : Hold M row w0 w L) (cs : Array Value) (t : TypeId) : Hold M row w0 (w.alloc (.cells cs t)) (.cst w.heap.size t cs :: L) := (h.alloc cs t).fix_ 0 rfl
/-- A new tape, where nothing that may be written is known. -/
theorem Hold.newTape (h : Hold M row w0 w L) {T : Nat} (hb : Below w.heap.size w w') (ht : Tp w' T) (hT : w.heap.size ≤ T) (hm : ∀ b, ¬ Mut M L b) : Hold M row w0 w' (.tp T :: L) := by
 have h1 := h.call hb
 have hM : ∀ b, Mut M (.tp T :: L) b → b = T := fun b hb => by
  rcases mut_cons.1 hb with hf | hm'
  ·injection hf with hf; exact hf.symm
  ·exact absurd hm' (hm b)
 have hfo : ∀ k ∈ L, ∀ b, k.foot ≠ some b := fun k hk b hf => hm b (.inr ⟨k, hk, hf⟩)
 refine ⟨h1.grow, h.low, fun k hk => ?_, fun k hk b hf => ?_, ⟨fun b _ k hk => hfo k hk b, h.sep⟩⟩
 ·rcases List.mem_cons.1 hk with rfl | hk
  ·exact ⟨ht, fun b hb => by rw [hM b hb]; exact Nat.le_refl _⟩
  ·exact Hp.sat_step (k := k) (h.sat k hk) hb.size (fun b hl _ => hb.block b hl) (fun b hl hm' => by have := hM b hm'; omega) (fun b hf => absurd hf (hfo k hk b)) (fun T' hT' => absurd (by rw [hT']; rfl) (hfo k hk T'))
 ·rcases List.mem_cons.1 hk with rfl | hk
  ·injection hf with hf; subst hf; exact ⟨.inl (Nat.le_trans h.grow.size hT), ht.lt⟩
  ·exact absurd hf (hfo k hk b)
end
/-- The cells of a block, one by one: what the walk reads. -/
def cellsF (w : World) (g : Nat) : Nat → List Value → Prop
 | _, [] => True
 | i, x :: r => w.cell? ⟨g, i, none⟩ = some x ∧ w.frozen? ⟨g, i, none⟩ = false ∧ cellsF w g (i + 1) r
def factsL (w : World) : List Hp → Prop
 | [] => True
 | .blk g t cs :: L => g < w.heap.size ∧ cellsF w g 0 cs.toList ∧ factsL w L
 | .own _ _ _ _ _ :: L => factsL w L
 | .tp _ :: L => factsL w L
 | .ro _ :: L => factsL w L
 | .cst g t cs :: L => g < w.heap.size ∧ cellsF w g 0 cs.toList ∧ factsL w L
 | .ob _ _ :: L => factsL w L
theorem cellsF_of {w : World} {g : Nat} {t : TypeId} {cs : Array Value} (h : w.heap[g]? = some (.cells cs t (0, 0))) : ∀ (l : List Value) (i : Nat), (∀ j, l[j]? = cs[i + j]?) → cellsF w g i l
 | [], _, _ => trivial
 | x :: r, i, hl => by
  refine ⟨?_, frozen_blk h i, cellsF_of h r (i + 1) fun j => ?_⟩
  ·rw [cell_of_row w g i cs t (0, 0) h]; exact (hl 0).symm
  ·have := hl (j + 1); rw [show i + 1 + j = i + (j + 1) from by omega]; simpa using this
theorem factsL_of {w : World} {B : Nat} {M : Nat → Prop} : ∀ {L : List Hp}, (∀ h ∈ L, h.sat B w M) → (∀ h ∈ L, ∀ b, h.foot = some b → b < w.heap.size) → factsL w L
 | [], _, _ => trivial
 | .blk g t cs :: L, h, k => ⟨k _ (List.mem_cons_self ..) g rfl, cellsF_of (h _ (List.mem_cons_self ..)) cs.toList 0 (by simp), factsL_of (fun a ha => h a (List.mem_cons_of_mem _ ha)) (fun a ha => k a (List.mem_cons_of_mem _ ha))⟩
 | .own .. :: L, h, k => factsL_of (L := L) (fun a ha => h a (List.mem_cons_of_mem _ ha)) (fun a ha => k a (List.mem_cons_of_mem _ ha))
 | .tp _ :: L, h, k => factsL_of (L := L) (fun a ha => h a (List.mem_cons_of_mem _ ha)) (fun a ha => k a (List.mem_cons_of_mem _ ha))
 | .ro _ :: L, h, k => factsL_of (L := L) (fun a ha => h a (List.mem_cons_of_mem _ ha)) (fun a ha => k a (List.mem_cons_of_mem _ ha))
 | .ob _ _ :: L, h, k => factsL_of (L := L) (fun a ha => h a (List.mem_cons_of_mem _ ha)) (fun a ha => k a (List.mem_cons_of_mem _ ha))
 | .cst g t cs :: L, h, k => by
  have h1 : w.heap[g]? = some (.cells cs t (0, 0)) := Ro.now (show Ro w M (fun w => w.heap[g]? = some (.cells cs t (0, 0))) from h _ (List.mem_cons_self ..))
  refine ⟨?_, cellsF_of h1 cs.toList 0 (by simp), factsL_of (fun a ha => h a (List.mem_cons_of_mem _ ha)) (fun a ha => k a (List.mem_cons_of_mem _ ha))⟩
  rcases Nat.lt_or_ge g w.heap.size with hlt | hge
  ·exact hlt
  ·rw [Array.getElem?_eq_none hge] at h1; cases h1
theorem Hold.facts {M : Nat → Prop} {row : Option Nat} {w0 w : World} {L : List Hp} (h : Hold M row w0 w L) : factsL w L := factsL_of h.sat fun a ha b hb => (h.fresh a ha b hb).2
/-- The blocks differ. -/
def neF (g : Nat) : List Hp → Prop
 | [] => True
 | .blk g' _ _ :: L => ¬ g = g' ∧ ¬ g' = g ∧ neF g L
 | .own _ _ _ _ _ :: L => neF g L
 | .tp T :: L => ¬ g = T ∧ ¬ T = g ∧ neF g L
 | .ro _ :: L => neF g L
 | .cst _ _ _ :: L => neF g L
 | .ob g' _ :: L => ¬ g = g' ∧ ¬ g' = g ∧ neF g L
def nesL : List Hp → Prop
 | [] => True
 | .blk g _ _ :: L => neF g L ∧ nesL L
 | .own _ _ _ _ _ :: L => nesL L
 | .tp T :: L => neF T L ∧ nesL L
 | .ro _ :: L => nesL L
 | .cst _ _ _ :: L => nesL L
 | .ob g _ :: L => neF g L ∧ nesL L
theorem neF_of {g : Nat} : ∀ {L : List Hp}, (∀ k ∈ L, k.foot ≠ some g) → neF g L
 | [], _ => trivial
 | .blk g' _ _ :: L, h => ⟨fun e => h _ (List.mem_cons_self ..) (by rw [e]; rfl), fun e => h _ (List.mem_cons_self ..) (by rw [← e]; rfl), neF_of fun k hk => h k (List.mem_cons_of_mem _ hk)⟩
 | .own .. :: L, h => neF_of (L := L) fun k hk => h k (List.mem_cons_of_mem _ hk)
 | .tp T :: L, h => ⟨fun e => h _ (List.mem_cons_self ..) (by rw [e]; rfl), fun e => h _ (List.mem_cons_self ..) (by rw [← e]; rfl), neF_of fun k hk => h k (List.mem_cons_of_mem _ hk)⟩
 | .ro _ :: L, h => neF_of (L := L) fun k hk => h k (List.mem_cons_of_mem _ hk)
 | .cst .. :: L, h => neF_of (L := L) fun k hk => h k (List.mem_cons_of_mem _ hk)
 | .ob g' _ :: L, h => ⟨fun e => h _ (List.mem_cons_self ..) (by rw [e]; rfl), fun e => h _ (List.mem_cons_self ..) (by rw [← e]; rfl), neF_of fun k hk => h k (List.mem_cons_of_mem _ hk)⟩
theorem nesL_of : ∀ {L : List Hp}, Apart L → nesL L
 | [], _ => trivial
 | .blk g _ _ :: L, h => ⟨neF_of (h.1 g rfl), nesL_of h.2⟩
 | .own .. :: L, h => nesL_of (L := L) h.2
 | .tp T :: L, h => ⟨neF_of (h.1 T rfl), nesL_of h.2⟩
 | .ro _ :: L, h => nesL_of (L := L) h.2
 | .cst .. :: L, h => nesL_of (L := L) h.2
 | .ob g _ :: L, h => ⟨neF_of (h.1 g rfl), nesL_of h.2⟩
theorem Hold.nes {M : Nat → Prop} {row : Option Nat} {w0 w : World} {L : List Hp} (h : Hold M row w0 w L) : nesL L := nesL_of h.sep
/-- an item by its place -/
theorem Hold.get {M : Nat → Prop} {row : Option Nat} {w0 w : World} {L : List Hp} (h : Hold M row w0 w L) (i : Nat) {k : Hp} (hi : L[i]? = some k) : k.sat w0.heap.size w (Mut M L) := h.sat k (List.mem_of_getElem? hi)
theorem Hold.ro {M : Nat → Prop} {row : Option Nat} {w0 w : World} {L : List Hp} (h : Hold M row w0 w L) (i : Nat) {S : World → Prop} (hi : L[i]? = some (.ro S)) : Ro w (Mut M L) S := h.get i hi
theorem Hold.cst_ {M : Nat → Prop} {row : Option Nat} {w0 w : World} {L : List Hp} (h : Hold M row w0 w L) (i : Nat) {g : Nat} {t : TypeId} {cs : Array Value} (hi : L[i]? = some (.cst g t cs)) : Blk w g t cs := Ro.now (S := fun w => w.heap[g]? = some (.cells cs t (0, 0))) (h.get i hi)
theorem Hold.blk_ {M : Nat → Prop} {row : Option Nat} {w0 w : World} {L : List Hp} (h : Hold M row w0 w L) (i : Nat) {g : Nat} {t : TypeId} {cs : Array Value} (hi : L[i]? = some (.blk g t cs)) : Blk w g t cs := h.get i hi
theorem Hold.tp_ {M : Nat → Prop} {row : Option Nat} {w0 w : World} {L : List Hp} (h : Hold M row w0 w L) (i : Nat) {T : Nat} (hi : L[i]? = some (.tp T)) : Tp w T := (h.get i hi).1
theorem Hold.roOut {M : Nat → Prop} {row : Option Nat} {w0 w : World} {L : List Hp} (h : Hold M row w0 w L) (i : Nat) {S : World → Prop} (hi : L[i]? = some (.ro S)) : Ro w M S := (h.ro i hi).less fun b hb => .inl hb
/-- no block of a caller's that may be written -/
def None_ (b : Nat) : Prop := False
theorem Hold.begin_ (w : World) : Hold None_ none w w [] := Hold.start None_ w (fun b hb => hb.elim)
theorem zm {M : Nat → Prop} {L : List Hp} : ∀ b, M b → Mut M L b := fun b hb => .inl hb
theorem zn {M : Nat → Prop} : ∀ b, None_ b → M b := fun b h => h.elim
end Go.Proofs.YtnbbllkbefagmaaGreatDoor

namespace Go.Proofs.YtnbbllkbefagmaaGreatDoor
open Go.RowKit
set_option linter.unusedVariables false

theorem flat_get {α β : Type} (f : α → List β) (n : Nat) (hf : ∀ a, (f a).length = n) : ∀ (l : List α) (k j : Nat) (a : α), j < n → l[k]? = some a → (l.flatMap f)[k * n + j]? = (f a)[j]?
 | [], k, j, a, _, h => by simp at h
 | x :: l, 0, j, a, hj, h => by
  simp only [List.getElem?_cons_zero, Option.some.injEq] at h
  subst h
  simp only [List.flatMap_cons, Nat.zero_mul, Nat.zero_add]
  rw [List.getElem?_append_left (by rw [hf]; exact hj)]
 | x :: l, k + 1, j, a, hj, h => by
  simp only [List.getElem?_cons_succ] at h
  simp only [List.flatMap_cons]
  rw [List.getElem?_append_right (by rw [hf, Nat.succ_mul]; omega), hf, show (k + 1) * n + j - n = k * n + j by rw [Nat.succ_mul]; omega]
  exact flat_get f n hf l k j a hj h
theorem flat_len {α β : Type} (f : α → List β) (n : Nat) (hf : ∀ a, (f a).length = n) (l : List α) : (l.flatMap f).length = l.length * n := by
 induction l with
 | nil => simp
 | cons x l ih => simp [List.flatMap_cons, hf, ih, Nat.succ_mul]; omega
/-- A column. -/
structure Col where
 name : ByteArray
 ty : Int
 nn : Bool
 key : Bool
deriving DecidableEq
def Col.cells (c : Col) : List Value := [.string c.name, .int .i64 c.ty, .bool c.nn, .bool c.key]
def colCells (l : List Col) : List Value := l.flatMap Col.cells
theorem colCells_len (l : List Col) : (colCells l).length = l.length * 4 := flat_len _ 4 (fun _ => rfl) l
theorem colCells_at {l : List Col} {k : Nat} {c : Col} (h : l[k]? = some c) : (colCells l)[k * 4]? = some (.string c.name) ∧ (colCells l)[k * 4 + 1]? = some (.int .i64 c.ty) ∧ (colCells l)[k * 4 + 2]? = some (.bool c.nn) ∧ (colCells l)[k * 4 + 3]? = some (.bool c.key) :=
 ⟨flat_get Col.cells 4 (fun _ => rfl) l k 0 c (by omega) h, flat_get Col.cells 4 (fun _ => rfl) l k 1 c (by omega) h, flat_get Col.cells 4 (fun _ => rfl) l k 2 c (by omega) h, flat_get Col.cells 4 (fun _ => rfl) l k 3 c (by omega) h⟩

/-- The slice with address A and n elements reads as the columns l. -/
def RdC (w : World) (B : Nat) (A : Option Addr) (n : Nat) (l : List Col) : Prop := Rd w B 4 A n (colCells l)
theorem RdC.len {w : World} {B n : Nat} {A : Option Addr} {l : List Col} (h : RdC w B A n l) : l.length = n := by
 have := h.1
 rw [colCells_len] at this
 omega
theorem RdC.at_ {w : World} {B n : Nat} {A : Option Addr} {l : List Col} (h : RdC w B A n l) {k : Nat} {c : Col} (hc : l[k]? = some c) :
  ∃ b o, A = some ⟨b, o, none⟩ ∧ b < B ∧ w.cell? ⟨b, o + k * 4, none⟩ = some (.string c.name) ∧ w.cell? ⟨b, o + k * 4 + 1, none⟩ = some (.int .i64 c.ty) ∧ w.cell? ⟨b, o + k * 4 + 2, none⟩ = some (.bool c.nn) ∧ w.cell? ⟨b, o + k * 4 + 3, none⟩ = some (.bool c.key) := by
 have hk : k < n := by rw [← h.len]; exact (List.getElem?_eq_some_iff.1 hc).1
 obtain ⟨b, o, e, hb, hcell⟩ := h.2 (by omega)
 obtain ⟨h0, h1, h2, h3⟩ := colCells_at hc
 exact ⟨b, o, e, hb, hcell _ _ h0, hcell _ _ h1, hcell _ _ h2, hcell _ _ h3⟩
end Go.Proofs.YtnbbllkbefagmaaGreatDoor

namespace Go.Proofs.YtnbbllkbefagmaaGreatDoor
open Go.RowKit
set_option linter.unusedVariables false

/-- The slice with address A and n elements of 'size' cells reads as xs. -/
def SlR (size : Nat) (A : Option Addr) (n : Nat) (xs : List Value) (w : World) : Prop := Rd w w.heap.size size A n xs

section
variable {w w' : World} {M : Nat → Prop} {B size n : Nat} {A : Option Addr} {xs : List Value}
theorem Rd.ro (h : Rd w B size A n xs) (hB : B ≤ w.heap.size) (hM : ∀ b, b < B → ¬ M b) : Ro w M (SlR size A n xs) := fun w2 h1 h2 =>
 (h.keep fun p hp => World.cell?_of_block (w := w) (h2 p.block (by omega) (hM _ hp))).more (by omega)
theorem ro_block {g : Nat} {t : TypeId} {cs : Array Value} (h : Ro w M (fun w => w.heap[g]? = some (.cells cs t (0, 0)))) (hl : cs.toList.length = n * size) : Ro w M (SlR size (some ⟨g, 0, none⟩) n cs.toList) :=
 h.imp fun w2 h2 => ⟨hl, fun _ => ⟨g, 0, rfl, Blk.lt (t := t) (cs := cs) h2, fun j u hu => by
  rw [cell_of_row w2 g (0 + j) cs t (0, 0) h2, Nat.zero_add]; simpa using hu⟩⟩
theorem ro_nil : Ro w M (SlR size none 0 []) := fun _ _ _ => Rd.none_
/-- More is known: an item that writes nothing. -/
theorem Hold.addItem {row : Option Nat} {w0 : World} {L : List Hp} (h : Hold M row w0 w L) {k' : Hp} (hk' : k'.foot = none) (hs : k'.sat w0.heap.size w (Mut M (k' :: L))) : Hold M row w0 w (k' :: L) := by
 have e : ∀ b, Mut M (k' :: L) b → Mut M L b := fun b hb => by
  rcases mut_cons.1 hb with hf | hm
  ·rw [hk'] at hf; cases hf
  ·exact hm
 refine ⟨h.grow, h.low, fun k hk => ?_, fun k hk b hf => ?_, ⟨(fun b hf => by rw [hk'] at hf; cases hf), h.sep⟩⟩
 ·rcases List.mem_cons.1 hk with rfl | hk
  ·exact hs
  ·exact Hp.sat_step (k := k) (h.sat k hk) (Nat.le_refl _) (fun _ _ _ => rfl) (fun b _ hb => e b hb) (fun _ _ => rfl) (fun _ _ _ _ => rfl)
 ·rcases List.mem_cons.1 hk with rfl | hk
  ·rw [hk'] at hf; cases hf
  ·exact h.fresh k hk b hf
theorem mut_none {k' : Hp} (hk' : k'.foot = none) {L : List Hp} : ∀ b, Mut M (k' :: L) b → Mut M L b := fun b hb => by
 rcases mut_cons.1 hb with hf | hm
 ·rw [hk'] at hf; cases hf
 ·exact hm
theorem Hold.addCst {row : Option Nat} {w0 : World} {L : List Hp} (h : Hold M row w0 w L) {g : Nat} {t : TypeId} {cs : Array Value} (hr : Ro w (Mut M L) (fun w => w.heap[g]? = some (.cells cs t (0, 0)))) : Hold M row w0 w (.cst g t cs :: L) :=
 h.addItem rfl (hr.less (mut_none rfl))
/-- An own row, for good. -/
theorem Hold.sealRow {row : Option Nat} {w0 : World} {L : List Hp} (h : Hold M row w0 w L) (i : Nat) {e : TypeId} {A : Option Addr} {c : Nat} (hi : L[i]? = some (.own e size (.slice A n c) n xs)) :
  Hold M row w0 w (L.set i (.ro (SlR size A n xs))) :=
 h.seal i hi (fun T e => nomatch e) fun w2 h1 h2 => by
  have h3 : w2.ownsRow w0.heap.size e size (.slice A n c) n xs := by
   refine ⟨h1.1, ?_⟩
   rcases h1.2 with hn | ⟨g, cap, cur, hv, hb, hgg, rest⟩
   ·exact .inl hn
   ·injection hv with hv1 hv2 hv3
    subst hv1 hv3
    exact .inr ⟨g, c, cur, rfl, hb, (h2 g rfl).trans hgg, rest⟩
  exact Rd.of_own h3
end
theorem take_eq_succ {α} {xs ys : List α} {k : Nat} {x y : α} (hx : xs[k]? = some x) (hy : ys[k]? = some y) (h : xs.take k = ys.take k) (he : x = y) : xs.take (k + 1) = ys.take (k + 1) := by
 rw [List.take_add_one, List.take_add_one, hx, hy, h, he]
theorem get_of {α : Type} {l : List α} {n k : Nat} (h : l.length = n) (hk : k < n) : ∃ x, l[k]? = some x := ⟨l[k]'(by omega), List.getElem?_eq_getElem _⟩
end Go.Proofs.YtnbbllkbefagmaaGreatDoor

namespace Go.Proofs.YtnbbllkbefagmaaGreatDoor
open Go.RowKit
set_option linter.unusedVariables false

theorem drop_cons {α : Type} {l : List α} {k : Nat} {c : α} (h : l[k]? = some c) : l.drop k = c :: l.drop (k + 1) := by
 obtain ⟨hk, rfl⟩ := List.getElem?_eq_some_iff.1 h
 exact List.drop_eq_getElem_cons hk

def findFrom {α : Type} (p : α → Bool) (k : Nat) : List α → Int
 | [] => -1
 | c :: r => if p c then (k : Int) else findFrom p (k + 1) r
def findB {α : Type} (p : α → Bool) (l : List α) : Int := findFrom p 0 l
section
variable {α : Type} {p : α → Bool} {l : List α} {k : Nat} {c : α}
theorem find_hit (h : findB p l = findFrom p k (l.drop k)) (hc : l[k]? = some c) (hp : p c = true) : findB p l = k := by
 rw [h, drop_cons hc, findFrom, if_pos hp]
theorem find_miss (h : findB p l = findFrom p k (l.drop k)) (hc : l[k]? = some c) (hp : p c = false) : findB p l = findFrom p (k + 1) (l.drop (k + 1)) := by
 rw [h, drop_cons hc, findFrom, if_neg (by simp [hp])]
theorem find_end (h : findB p l = findFrom p k (l.drop k)) (hk : l.length ≤ k) : findB p l = -1 := by
 rw [h, List.drop_of_length_le hk, findFrom]
theorem findFrom_range (p : α → Bool) : ∀ (l : List α) (k : Nat), findFrom p k l = -1 ∨ ((k : Int) ≤ findFrom p k l ∧ findFrom p k l < k + l.length)
 | [], k => .inl rfl
 | c :: r, k => by
  simp only [findFrom]
  split
  ·right; simp; omega
  ·rcases findFrom_range p r (k + 1) with h | ⟨h1, h2⟩
   ·exact .inl h
   ·right
    have h1' : (k : Int) + 1 ≤ findFrom p (k + 1) r := by simpa using h1
    refine ⟨by omega, ?_⟩
    simp only [List.length_cons]
    have h2' : findFrom p (k + 1) r < (k : Int) + 1 + r.length := by simpa using h2
    omega
theorem findFrom_le (p : α → Bool) (c : α) (hp : p c = true) : ∀ (l : List α) (k i : Nat), l[i]? = some c → (k : Int) ≤ findFrom p k l ∧ findFrom p k l ≤ k + i
 | [], k, i, h => by simp at h
 | x :: r, k, 0, h => by
  simp only [List.getElem?_cons_zero, Option.some.injEq] at h
  subst h
  rw [findFrom, if_pos hp]; omega
 | x :: r, k, i + 1, h => by
  simp only [List.getElem?_cons_succ] at h
  rw [findFrom]
  split
  ·omega
  ·have := findFrom_le p c hp r (k + 1) i h
   omega
theorem find_le (hp : p c = true) {i : Nat} (h : l[i]? = some c) : 0 ≤ findB p l ∧ findB p l ≤ i := by
 have := findFrom_le p c hp l 0 i h
 simpa [findB] using this
theorem find_range (p : α → Bool) (l : List α) : -1 ≤ findB p l ∧ findB p l < max l.length 1 := by
 have := findFrom_range p l 0
 unfold findB
 omega
end

def named (s : ByteArray) (c : Col) : Bool := c.name.toList == s.toList
/-- A list in which each element passes a test of its place. -/
def okFrom {α : Type} (t : Nat → α → Bool) (k : Nat) : List α → Bool
 | [] => true
 | c :: r => t k c && okFrom t (k + 1) r
section
variable {α : Type} {t : Nat → α → Bool} {l : List α} {k : Nat} {c : α}
theorem ok_bad (h : okFrom t 0 l = okFrom t k (l.drop k)) (hc : l[k]? = some c) (hp : t k c = false) : okFrom t 0 l = false := by
 rw [h, drop_cons hc, okFrom, hp, Bool.false_and]
theorem ok_good (h : okFrom t 0 l = okFrom t k (l.drop k)) (hc : l[k]? = some c) (hp : t k c = true) : okFrom t 0 l = okFrom t (k + 1) (l.drop (k + 1)) := by
 rw [h, drop_cons hc, okFrom, hp, Bool.true_and]
theorem ok_end (h : okFrom t 0 l = okFrom t k (l.drop k)) (hk : l.length ≤ k) : okFrom t 0 l = true := by
 rw [h, List.drop_of_length_le hk, okFrom]
end
theorem take_snoc' {α : Type} {l : List α} {k : Nat} {c : α} (h : l[k]? = some c) : l.take (k + 1) = l.take k ++ [c] := by
 obtain ⟨hk, rfl⟩ := List.getElem?_eq_some_iff.1 h
 exact List.take_succ_eq_append_getElem hk
theorem filter_snoc {α : Type} {l : List α} {k : Nat} {c : α} (p : α → Bool) (h : l[k]? = some c) : ((l.take (k + 1)).filter p).length = ((l.take k).filter p).length + (if p c then 1 else 0) := by
 rw [take_snoc' h, List.filter_append, List.length_append]
 congr 1
 cases hp : p c <;> simp [List.filter, hp]
end Go.Proofs.YtnbbllkbefagmaaGreatDoor

namespace Go.Proofs.YtnbbllkbefagmaaGreatDoor
open Go.RowKit
set_option linter.unusedVariables false
set_option linter.unusedSimpArgs false

def Vl.val (x : Vl) : Value := .agg #[.int .i64 x.k, .int .i64 x.i, .string x.s]
def Vl.cells (x : Vl) : List Value := [.int .i64 x.k, .int .i64 x.i, .string x.s]
def Vl.ok (x : Vl) : Prop := I64 x.k ∧ I64 x.i ∧ x.s.size ≤ maxLen
def vlCells (l : List Vl) : List Value := l.flatMap Vl.cells
theorem vlCells_len (l : List Vl) : (vlCells l).length = l.length * 3 := flat_len _ 3 (fun _ => rfl) l
def VlsIn (A : Option Addr) (n : Nat) (l : List Vl) : World → Prop := SlR 3 A n (vlCells l)
theorem VlsIn.len {w : World} {A : Option Addr} {n : Nat} {l : List Vl} (h : VlsIn A n l w) : l.length = n := by
 have := (show Rd w w.heap.size 3 A n (vlCells l) from h).1
 rw [vlCells_len] at this
 omega
theorem VlsIn.at_ {w : World} {A : Option Addr} {n : Nat} {l : List Vl} (h : VlsIn A n l w) {k : Nat} {x : Vl} (hx : l[k]? = some x) :
  ∃ b o, A = some ⟨b, o, none⟩ ∧ b < w.heap.size ∧ w.cell? ⟨b, o + k * 3, none⟩ = some (.int .i64 x.k) ∧ w.cell? ⟨b, o + k * 3 + 1, none⟩ = some (.int .i64 x.i) ∧ w.cell? ⟨b, o + k * 3 + 2, none⟩ = some (.string x.s) := by
 have hk : k < n := by rw [← h.len]; exact (List.getElem?_eq_some_iff.1 hx).1
 obtain ⟨b, o, e, hb, hc⟩ := (show Rd w w.heap.size 3 A n (vlCells l) from h).2 (by omega)
 exact ⟨b, o, e, hb, hc _ _ (flat_get Vl.cells 3 (fun _ => rfl) l k 0 x (by omega) hx), hc _ _ (flat_get Vl.cells 3 (fun _ => rfl) l k 1 x (by omega) hx), hc _ _ (flat_get Vl.cells 3 (fun _ => rfl) l k 2 x (by omega) hx)⟩
theorem one_vls (l : List Vl) : ∀ u ∈ vlCells l, u.oneCell' = true := fun u hu => by
 unfold vlCells at hu
 rw [List.mem_flatMap] at hu
 obtain ⟨x, _, hx⟩ := hu
 simp only [Vl.cells, List.mem_cons, List.not_mem_nil, or_false] at hx
 rcases hx with rfl | rfl | rfl <;> rfl

/-- A row in memory: its number, the slice of its values, the values. -/
structure Rw where
 id : Int
 A : Option Addr
 n : Nat
 c : Nat
 vs : List Vl
def Rw.cells (r : Rw) : List Value := [.int .i64 r.id, .slice r.A r.n r.c]
def rwCells (l : List Rw) : List Value := l.flatMap Rw.cells
theorem rwCells_len (l : List Rw) : (rwCells l).length = l.length * 2 := flat_len _ 2 (fun _ => rfl) l
/-- the rows' values stand in memory -/
def ValsIn (l : List Rw) (w : World) : Prop := ∀ r ∈ l, VlsIn r.A r.n r.vs w
def RwsIn (A : Option Addr) (n : Nat) (l : List Rw) (w : World) : Prop := SlR 2 A n (rwCells l) w ∧ ValsIn l w
theorem RwsIn.len {w : World} {A : Option Addr} {n : Nat} {l : List Rw} (h : RwsIn A n l w) : l.length = n := by
 have := (show Rd w w.heap.size 2 A n (rwCells l) from h.1).1
 rw [rwCells_len] at this
 omega
theorem RwsIn.at_ {w : World} {A : Option Addr} {n : Nat} {l : List Rw} (h : RwsIn A n l w) {k : Nat} {x : Rw} (hx : l[k]? = some x) :
  ∃ b o, A = some ⟨b, o, none⟩ ∧ b < w.heap.size ∧ w.cell? ⟨b, o + k * 2, none⟩ = some (.int .i64 x.id) ∧ w.cell? ⟨b, o + k * 2 + 1, none⟩ = some (.slice x.A x.n x.c) ∧ VlsIn x.A x.n x.vs w := by
 have hk : k < n := by rw [← h.len]; exact (List.getElem?_eq_some_iff.1 hx).1
 obtain ⟨b, o, e, hb, hc⟩ := (show Rd w w.heap.size 2 A n (rwCells l) from h.1).2 (by omega)
 exact ⟨b, o, e, hb, hc _ _ (flat_get Rw.cells 2 (fun _ => rfl) l k 0 x (by omega) hx), hc _ _ (flat_get Rw.cells 2 (fun _ => rfl) l k 1 x (by omega) hx), h.2 x (List.mem_of_getElem? hx)⟩
/-- a row's numbers are numbers of Go's, its slice has room -/
structure Rw.ok (r : Rw) : Prop where
 id : I64 r.id
 nc : r.n ≤ r.c
 c : r.c ≤ 9223372036854775807
 vs : ∀ v ∈ r.vs, v.ok
abbrev Row := Int × List Vl
def Rw.row (r : Rw) : Row := (r.id, r.vs)

/-- a row's first reason not to fit -/
def fitsV (c : Col) (v : Vl) : Int := if validB v.k v.i v.s then (if v.k == 0 then (if c.nn then 8 else 0) else if v.k == c.ty then 0 else 5) else 17
def fitsL : List Col → List Vl → Int
 | c :: cs, v :: vs => if fitsV c v = 0 then fitsL cs vs else fitsV c v
 | _, _ => 0
def fitsT (cs : List Col) (vs : List Vl) : Int := if vs.length = cs.length then fitsL cs vs else 17
/-- do two rows have one key? -/
def dupF (k : Int) : List Vl → List (List Vl) → Bool
 | _, [] => false
 | seen, r :: rs => if 0 ≤ k then match r[k.toNat]? with
  | some v => if v ∈ seen then true else dupF k (v :: seen) rs
  | none => dupF k seen rs
  else dupF k seen rs
def dupB (cs : List Col) (rs : List Row) : Bool := dupF (findB Col.key cs) [] (rs.map (·.2))
/-- rows numbered upward, below next, that fit -/
def okR (cs : List Col) (next : Int) : Int → List Row → Bool
 | _, [] => true
 | last, r :: rs => decide (last < r.1) && decide (r.1 < next) && decide (fitsT cs r.2 = 0) && okR cs next r.1 rs
end Go.Proofs.YtnbbllkbefagmaaGreatDoor

namespace Go.Proofs.YtnbbllkbefagmaaGreatDoor
open Go.RowKit
set_option linter.unusedVariables false

theorem wpList_app2 {P : Program} (w0 : World) (cs : Array Value) {ops : Array Oper} {rest : List Oper} {o : Oper} {a : Act} {Q : Exit → Act → World → Prop} (hgd : o.guard = none) (s x : Operand) (t : TypeId)
  (ho : o.op = .call { callee := .builtin .append, args := #[s, x], argTypes := #[t, t] })
  (base : Nat) (e : TypeId) (size bytes : Nat) (z : Value) (ht : P.underlying t = some (.slice e)) (hi : (P.info? e).map (fun i => (i.zero, i.size, i.bytes)) = some (some z, size, bytes))
  (hzs : z.cells.size = size) (hsz : 0 < size)
  (v : Value) (n : Nat) (xs : List Value) (hs : a.eval s = v) (hown : w0.ownsRow base e size v n xs)
  (H : Nat) (hH : w0.heap.size = H) (hx : a.eval x = .slice (some ⟨H, 0, none⟩) 1 1) (hl : cs.size = size) (h1 : ∀ u ∈ cs.toList, u.oneCell' = true)
  (hn : n < 140737488355328) (hbytes : (n + 1) * bytes ≤ 140737488355328) (hbase : base ≤ w0.heap.size)
  (h : ∀ g cap w', w'.ownsRow base e size (.slice (some ⟨g, 0, none⟩) (n + 1) cap) (n + 1) (xs ++ cs.toList) → (w0.alloc (.cells cs e)).grownBy w' v.ownBlock → (v.ownBlock = some g ∨ (w0.alloc (.cells cs e)).heap.size ≤ g) → g < w'.heap.size →
   wpList P ops Q rest (a.put o.dst (.slice (some ⟨g, 0, none⟩) (n + 1) cap)) w') :
  wpList P ops Q (o :: rest) a (w0.alloc (.cells cs e)) := by
 subst hH
 obtain ⟨i, hi1, hi2, hi3, hi4⟩ := info_parts hi
 refine wpList_append_lies (w := w0.alloc (.cells cs e)) hgd s x t ho base e i z size bytes ht hi1 hi2 hi3 hi4 hzs hsz v n xs hs (hown.alloc _) ⟨w0.heap.size, 0, none⟩ 1 1 cs.toList hx (by simpa using hl) ?_ h1 (by omega) (by unfold maxLen; omega) hbytes (by simp; omega) (w0.heap.size + 1) (by simp) ?_
 ·exact World.news_of_block (heap_alloc_new w0 _)
 ·intro g cap w' h2 h3 h4 h5
  exact h g cap w' h2 h3 (h4.imp id fun e => by rw [e]; simp) h5
end Go.Proofs.YtnbbllkbefagmaaGreatDoor

namespace Go.Proofs.YtnbbllkbefagmaaGreatDoor
open Go.RowKit
set_option linter.unusedVariables false

/-- A slice type and its element type, as the table of types says them. -/
structure ElemT (P : Program) (t e : TypeId) (size bytes : Nat) (z : Value) : Prop where
 ht : P.underlying t = some (.slice e)
 hi : (P.info? e).map (fun i => (i.zero, i.size, i.bytes)) = some (some z, size, bytes)
 hzs : z.cells.size = size
 hsz : 0 < size

section
variable {P : Program} {M : Nat → Prop} {row : Option Nat} {w0 w w' : World} {L L' : List Hp}

theorem own_caps {w : World} {base : Nat} {e : TypeId} {size n m c : Nat} {A : Option Addr} {xs : List Value} (h : w.ownsRow base e size (.slice A n c) m xs) : m ≤ c ∧ c ≤ 9223372036854775807 ∧ n = m := by
 obtain ⟨h1, ⟨h2, h3⟩ | ⟨g, cap, cur, hv, _, _, hle, hm, _⟩⟩ := h
 ·have e1 := (Value.slice.inj h2).2.2
  have e2 := (Value.slice.inj h2).2.1
  omega
 ·have e1 := (Value.slice.inj hv).2.2
  have e2 := (Value.slice.inj hv).2.1
  unfold maxLen at hm
  omega
theorem own_addr {w : World} {base : Nat} {e : TypeId} {size n m c : Nat} {A : Option Addr} {xs : List Value} (h : w.ownsRow base e size (.slice A n c) m xs) : (A = none ∧ m = 0 ∧ c = 0) ∨ ∃ g, A = some ⟨g, 0, none⟩ ∧ base ≤ g := by
 obtain ⟨h1, ⟨h2, h3⟩ | ⟨g, cap, cur, hv, hb, _⟩⟩ := h
 ·exact .inl ⟨(Value.slice.inj h2).1, h3, (Value.slice.inj h2).2.2⟩
 ·exact .inr ⟨g, (Value.slice.inj hv).1, hb⟩

/-- append(s, x): one element, laid ahead in a block of its own. -/
theorem wpList_appH (K : Hold M row w0 w L) (i : Nat) {t e : TypeId} {size bytes q cap : Nat} {C : Option Addr} {xs : List Value} {z : Value} (hi : L[i]? = some (.own e size (.slice C q cap) q xs)) (hE : ElemT P t e size bytes z)
  (cs : Array Value) {ops : Array Oper} {rest : List Oper} {o : Oper} {a : Act} {Q : Exit → Act → World → Prop} (hgd : o.guard = none) (s x : Operand) (ho : o.op = .call { callee := .builtin .append, args := #[s, x], argTypes := #[t, t] })
  (hs : a.eval s = .slice C q cap) (H : Nat) (hH : w.heap.size = H) (hx : a.eval x = .slice (some ⟨H, 0, none⟩) 1 1) (hl : cs.size = size) (h1 : ∀ u ∈ cs.toList, u.oneCell' = true) (hq : q < 140737488355328) (hb : (q + 1) * bytes ≤ 140737488355328)
  (h : ∀ g cap' w', q + 1 ≤ cap' → cap' ≤ 9223372036854775807 → Hold M row w0 w' (L.set i (.own e size (.slice (some ⟨g, 0, none⟩) (q + 1) cap') (q + 1) (xs ++ cs.toList))) → wpList P ops Q rest (a.put o.dst (.slice (some ⟨g, 0, none⟩) (q + 1) cap')) w') :
  wpList P ops Q (o :: rest) a (w.alloc (.cells cs e)) := by
 refine wpList_app2 w cs hgd s x t ho w0.heap.size e size bytes z hE.ht hE.hi hE.hzs hE.hsz (.slice C q cap) q xs hs (K.get i hi) H hH hx hl h1 hq hb K.grow.size ?_
 intro g cap' w' ho' hg hd hl'
 obtain ⟨c1, c2, _⟩ := own_caps ho'
 have K1 := K.alloc_cst cs e
 have K2 := K1.append (i + 1) (by simpa using hi) ho' hg hd hl'
 refine h g cap' w' c1 c2 (K2.drop ?_)
 simp

theorem run_append_self (w : World) (base : Nat) (t ty e : TypeId) (i : TypeInfo) (size : Nat) (ht : P.underlying t = some (.slice e)) (hi : P.info? e = some i)
  (v : Value) (n : Nat) (xs : List Value) (hown : w.ownsRow base e size v n xs) (c : Nat) : (Builtin.append_ #[t, t] ty #[v, .slice none 0 c]).run P w = .ok v w := by
 rcases hown.2 with ⟨rfl, rfl⟩ | ⟨g, cap, cur, rfl, _, _, hnc, _⟩
 ·simp [Builtin.append_, run_underlying ht, sizeOf, typeInfo, hi, Builtin.lenOf, Builtin.firstCells]
 ·simp [Builtin.append_, run_underlying ht, sizeOf, typeInfo, hi, Builtin.lenOf, Builtin.firstCells, hnc, storeCells]

/-- append(s, xs...): whatever list, nil and empty too. -/
theorem wpList_appAllH (K : Hold M row w0 w L) (i : Nat) {t e : TypeId} {size bytes q cap : Nat} {C : Option Addr} {xs : List Value} {z : Value} (hi : L[i]? = some (.own e size (.slice C q cap) q xs)) (hE : ElemT P t e size bytes z)
  {A : Option Addr} {m c : Nat} {ys : List Value} (hr : SlR size A m ys w) {ops : Array Oper} {rest : List Oper} {o : Oper} {a : Act} {Q : Exit → Act → World → Prop} (hgd : o.guard = none) (s x : Operand) (ho : o.op = .call { callee := .builtin .append, args := #[s, x], argTypes := #[t, t] })
  (hs : a.eval s = .slice C q cap) (hx : a.eval x = .slice A m c) (h1 : ∀ u ∈ ys, u.oneCell' = true) (hq : q + m < 140737488355328) (hb : (q + m) * bytes ≤ 140737488355328)
  (h : ∀ C' cap' w', q + m ≤ cap' → cap' ≤ 9223372036854775807 → Hold M row w0 w' (L.set i (.own e size (.slice C' (q + m) cap') (q + m) (xs ++ ys))) → wpList P ops Q rest (a.put o.dst (.slice C' (q + m) cap')) w') :
  wpList P ops Q (o :: rest) a w := by
 obtain ⟨i0, hi1, hi2, hi3, hi4⟩ := info_parts hE.hi
 have hown := K.get i hi
 have hrun : ∃ C' cap' w', (Builtin.append_ #[t, t] o.type #[.slice C q cap, .slice A m c]).run P w = .ok (.slice C' (q + m) cap') w' ∧ q + m ≤ cap' ∧ cap' ≤ 9223372036854775807 ∧ Hold M row w0 w' (L.set i (.own e size (.slice C' (q + m) cap') (q + m) (xs ++ ys))) := by
  have hz : A = none → m = 0 := fun hA => by
   rcases Nat.eq_zero_or_pos m with h0 | h0
   ·exact h0
   ·obtain ⟨b, o, h, _⟩ := hr.2 h0
    rw [hA] at h; cases h
  rcases A with _ | ad
  ·obtain rfl := hz rfl
   have hn : ys = [] := List.eq_nil_of_length_eq_zero (by simpa using hr.1)
   subst hn
   have hc := own_caps hown
   have e : L.set i (.own e size (.slice C (q + 0) cap) (q + 0) (xs ++ [])) = L := by
    rw [Nat.add_zero, List.append_nil]
    apply List.ext_getElem?
    intro j
    rw [List.getElem?_set]
    split
    ·subst i; split
     ·exact hi.symm
     ·rw [List.getElem?_eq_none (by omega)]
    ·rfl
   exact ⟨C, cap, w, run_append_self w _ t _ _ i0 size hE.ht hi1 _ _ _ hown c, hc.1, hc.2.1, by rw [e]; exact K⟩
  ·have hcells : ∀ j u, ys[j]? = some u → w.cell? (ad.add j) = some u := by
    intro j u hu
    have hpos : 0 < m := by
     rcases Nat.eq_zero_or_pos m with h0 | h0
     ·have hn : ys = [] := List.eq_nil_of_length_eq_zero (by have := hr.1; rw [h0] at this; simpa using this)
      rw [hn] at hu; simp at hu
     ·exact h0
    obtain ⟨b, o', hA, _, hc⟩ := hr.2 hpos
    injection hA with hA
    subst hA
    have := hc j u hu
    rwa [Addr.add_lit]
   obtain ⟨v', w', hrun, h2, h3, _, h5⟩ := run_append_own_at (P := P) w w0.heap.size t o.type e i0 z size bytes hE.ht hi1 hi2 hi3 hi4 hE.hzs hE.hsz _ q xs hown ad m c ys hr.1 hcells h1 (by unfold maxLen; omega) hb K.grow.size
   obtain ⟨C', cap', rfl⟩ := own_form h2
   have hc := own_caps h2
   refine ⟨C', cap', w', hrun, hc.1, hc.2.1, ?_⟩
   refine K.turn i hi h3.size ⟨h3.os, h3.tape, h3.output⟩ (fun b hl hne => h3.block b hl fun e => hne e.symm) (fun b hf => ?_) h2 (fun T hT => by cases hT)
   have hlt := (h2.lt b hf).2
   refine ⟨?_, hlt⟩
   have hf' : Value.ownBlock (.slice C' (q + m) cap') = some b := hf
   rcases h5 with h5 | h5
   ·left; rw [h5] at hf'; exact hf'
   ·right; rw [h5] at hf'; injection hf' with hf'; omega
 obtain ⟨C', cap', w', hr', c1, c2, hK⟩ := hrun
 refine wpList_plain hgd fun K' hK' => ?_
 unfold Oper.wp execOp
 simp only [ho, resolve, invoke, builtin, Sem.run_bind, Sem.run_pure, Result.andThen_ok, List.map_toArray, List.map_cons, List.map_nil, hs, hx, hr']
 exact hK' _ _ (h C' cap' w' c1 c2 hK)

/-- A call that hands back a row of its own. -/
theorem Hold.callOwn (K : Hold M row w0 w L) {e : TypeId} {size n : Nat} {v : Value} {xs : List Value} (hb : Below w.heap.size w w') (ho : w'.ownsRow w.heap.size e size v n xs) : Hold M row w0 w' (.own e size v n xs :: L) := by
 have h1 := K.call hb
 have hbase : ∀ b, v.ownBlock = some b → w.heap.size ≤ b ∧ b < w'.heap.size := fun b hf => ho.lt b hf
 have ee : ∀ b, b < w.heap.size → Mut M (.own e size v n xs :: L) b → Mut M L b := fun b hl hb => by
  rcases mut_cons.1 hb with hf | hm
  ·have := (hbase b hf).1; omega
  ·exact hm
 refine ⟨h1.grow, h1.low, fun k hk => ?_, fun k hk b hf => ?_, ⟨fun b hf k hk he => ?_, K.sep⟩⟩
 ·rcases List.mem_cons.1 hk with rfl | hk
  ·refine ⟨ho.1, ?_⟩
   rcases ho.2 with hn | ⟨g, cap, cur, hv, hg, rest⟩
   ·exact .inl hn
   ·exact .inr ⟨g, cap, cur, hv, Nat.le_trans K.grow.size hg, rest⟩
  ·exact Hp.sat_step (k := k) (K.sat k hk) hb.size (fun b hl _ => hb.block b hl) ee (fun b hf => hb.block b (K.fresh k hk b hf).2)
    (fun T hT b hlt => by
     have := K.fresh k hk T (by subst hT; rfl)
     exact hb.block b (by omega))
 ·rcases List.mem_cons.1 hk with rfl | hk
  ·have := hbase b hf
   exact ⟨.inl (Nat.le_trans K.grow.size this.1), this.2⟩
  ·exact h1.fresh k hk b hf
 ·have := (hbase b hf).1
  have h2 := (K.fresh k hk b he).2
  omega

theorem apart_pair : ∀ {L : List Hp}, Apart L ↔ L.Pairwise fun h k => ∀ b, h.foot = some b → k.foot ≠ some b
 | [] => ⟨fun _ => List.Pairwise.nil, fun _ => trivial⟩
 | h :: L => by
  rw [List.pairwise_cons, ← apart_pair]
  exact ⟨fun ⟨a, b⟩ => ⟨fun k hk x hx => a x hx k hk, b⟩, fun ⟨a, b⟩ => ⟨fun x hx k hk => a k hk x hx, b⟩⟩
/-- The items in another order. -/
theorem Hold.perm (K : Hold M row w0 w L) (hp : L.Perm L') : Hold M row w0 w L' := by
 have hm : ∀ b, Mut M L' b → Mut M L b := fun b hb => hb.imp id fun ⟨k, hk, hf⟩ => ⟨k, hp.symm.subset hk, hf⟩
 refine ⟨K.grow, K.low, fun k hk => ?_, fun k hk => K.fresh k (hp.symm.subset hk), apart_pair.2 ((hp.pairwise_iff fun h b hy hx => h b hx hy).1 (apart_pair.1 K.sep))⟩
 exact Hp.sat_step (k := k) (K.sat k (hp.symm.subset hk)) (Nat.le_refl _) (fun _ _ _ => rfl) (fun b _ hb => hm b hb) (fun _ _ => rfl) (fun _ _ _ _ => rfl)
/-- The first item goes to place i. -/
theorem Hold.sinkN {a : Hp} (K : Hold M row w0 w (a :: L)) (i : Nat) : Hold M row w0 w (L.take i ++ a :: L.drop i) := by
 refine K.perm (List.Perm.trans ?_ List.perm_middle.symm)
 rw [List.take_append_drop]
/-- Another statement in the place of one. -/
theorem Hold.swapRo (K : Hold M row w0 w L) (i : Nat) {S S' : World → Prop} (hi : L[i]? = some (.ro S)) (hr : Ro w (Mut M L) S') : Hold M row w0 w (L.set i (.ro S')) := by
 refine K.turn i hi (Nat.le_refl _) ⟨rfl, rfl, rfl⟩ (fun _ _ _ => rfl) (fun b hf => by cases hf) ?_ (fun T hT => by cases hT)
 refine hr.less fun b hb => ?_
 rcases hb with hb | ⟨k, hk, hf⟩
 ·exact .inl hb
 ·rcases List.mem_or_eq_of_mem_set hk with hk | rfl
  ·exact .inr ⟨k, hk, hf⟩
  ·cases hf
/-- A row is cut down: its first n elements. -/
theorem Hold.cutRow (K : Hold M row w0 w L) (i : Nat) {e : TypeId} {size n m cap g : Nat} {xs : List Value} (hi : L[i]? = some (.own e size (.slice (some ⟨g, 0, none⟩) m cap) m xs)) (hn : n ≤ m) :
  Hold M row w0 w (L.set i (.own e size (.slice (some ⟨g, 0, none⟩) n cap) n (xs.take (n * size)))) := by
 have hown := K.get i hi
 have hkm := List.mem_of_getElem? hi
 refine K.turn i hi (Nat.le_refl _) ⟨rfl, rfl, rfl⟩ (fun _ _ _ => rfl) (fun b hf => ⟨.inl hf, (K.fresh _ hkm b hf).2⟩) ?_ (fun T hT => by cases hT)
 have h1 := hown.1
 refine ⟨by rw [List.length_take, h1]; exact Nat.min_eq_left (Nat.mul_le_mul_right _ hn), ?_⟩
 rcases hown.2 with ⟨h, _⟩ | ⟨g', cap', cur, hv, hb, hg, hle, hm, hcs, ht⟩
 ·cases h
 ·obtain ⟨e1, _, e2⟩ := Value.slice.inj hv
  injection e1 with e1; injection e1 with e1
  subst e1 e2
  refine .inr ⟨g, cap, cur, rfl, hb, hg, by omega, hm, hcs, ?_⟩
  rw [← ht, List.take_take, Nat.min_eq_left (Nat.mul_le_mul_right _ hn)]
end
end Go.Proofs.YtnbbllkbefagmaaGreatDoor

namespace Go.Proofs.YtnbbllkbefagmaaGreatDoor
open Go.RowKit
set_option linter.unusedVariables false
set_option linter.unusedSimpArgs false

theorem RdC.of_sl {w : World} {A : Option Addr} {n : Nat} {l : List Col} (h : SlR 4 A n (colCells l) w) : RdC w w.heap.size A n l := h
theorem get_col {l : List Col} {n k : Nat} (h : l.length = n) (hk : k < n) : ∃ c, l[k]? = some c := ⟨l[k]'(by omega), List.getElem?_eq_getElem _⟩

set_option maxHeartbeats 400000 in
theorem findc_any (nm : ByteArray) (ty : Int) (nn key : Bool) (g : Nat) (s : ByteArray) (w : World) (hg : w.cell? ⟨g, 0, none⟩ = some (.string s)) (hlt : g < w.heap.size) :
  Calls Tryz.prog 137 #[.agg #[.string nm, .int .i64 ty, .bool nn, .bool key], .pointer (some ⟨g, 0, none⟩)] w fun e w' => e = .returned (.bool (nm.toList == s.toList)) ∧ Below w.heap.size w w' := by
 go_enter Tryz.func137, Tryz.ntmps137
 go_wp2
 go_ret
 exact ⟨rfl, ext1 _ _⟩

set_option maxHeartbeats 2000000 in
theorem idx_find (M : Nat → Prop) (w : World) (hM : ∀ b, M b → b < w.heap.size) (A : Option Addr) (n c : Nat) (l : List Col) (hD : Ro w M (SlR 4 A n (colCells l))) (hn : n ≤ 9223372036854775807) (g : Nat) (s : ByteArray) (hS : Ro w M (fun w => w.heap[g]? = some (.cells #[.string s] 9 (0, 0)))) :
  Calls Tryz.prog 136 #[.slice A n c, .func (.func 137) #[] #[.pointer (some ⟨g, 0, none⟩)]] w fun e w' => e = .returned (.int .i64 (findB (named s) l)) ∧ Below w.heap.size w w' := by
 have HL := hid (RdC.of_sl hD.now).len
 have K0 := ((Hold.start M w hM).add (hD.less (by simp [Mut]))).add (S := fun w => w.heap[g]? = some (.cells #[.string s] 9 (0, 0))) (hS.less (by simp [Mut, Hp.foot]))
 go_enter Tryz.func136, Tryz.ntmps136
 go_wp2_with fail
 go_loopw [8] (fun i wr => ∃ k : Nat, k ≤ n ∧ i = .int .i64 k ∧ findB (named s) l = findFrom (named s) k (l.drop k) ∧ Hold M none w wr [.ro (fun w => w.heap[g]? = some (.cells #[.string s] 9 (0, 0))), .ro (SlR 4 A n (colCells l))]) (fun i _ => n - (intOf i).toNat)
 case atStart => exact ⟨0, by omega, rfl, rfl, K0⟩
 case round =>
  obtain ⟨k, hk, rfl, hf, H⟩ := hrel
  have HF := hid hf; clear hf
  by_cases hlt : k < n
  ·obtain ⟨⟨nm, ty, nn, key⟩, hc⟩ := get_col HL.out hlt
   obtain ⟨b, o, rfl, hb, c0, c1, c2, c3⟩ := (RdC.of_sl (H.ro 1 rfl).now).at_ hc
   have HC := hid hc; clear hc
   have hB : Blk _ g 9 #[.string s] := (H.ro 0 rfl).now
   simp only at c0 c1 c2 c3
   cases hp : (nm.toList == s.toList)
   all_goals
    go_wp2_with fail
    refine (findc_any nm ty nn key g s _ (hB.cell 0) hB.lt).mono ?_
    rintro e w1 ⟨rfl, b1⟩
    have K1 := Hold.call H b1
    rw [hp]
    go_wp2_with fail
   ·go_roundw
    case rel => exact ⟨k + 1, by omega, by go_num, find_miss HF.out HC.out hp, K1⟩
    case measure => simp [intOf]; omega
   ·go_ret
    exact ⟨by rw [find_hit HF.out HC.out hp] <;> rfl, K1.below⟩
  ·go_wp2
   go_ret
   exact ⟨by rw [find_end HF.out (by rw [HL.out]; omega)] <;> rfl, H.below⟩

set_option maxHeartbeats 1000000 in
theorem find_any (M : Nat → Prop) (w : World) (hM : ∀ b, M b → b < w.heap.size) (nm : ByteArray) (A : Option Addr) (n c : Nat) (l : List Col) (s : ByteArray) (hD : Ro w M (SlR 4 A n (colCells l))) (hn : n ≤ 9223372036854775807) :
  Calls Tryz.prog 82 #[.agg #[.string nm, .slice A n c], .string s] w fun e w' => e = .returned (.int .i64 (findB (named s) l)) ∧ Below w.heap.size w w' := by
 have K0 := (((Hold.start M w hM).add (hD.less (by simp [Mut]))).alloc_cst #[.string nm, .slice A n c] 49).alloc_cst #[.string s] 9
 simp only [World.size_alloc] at K0
 go_enter Tryz.func82, Tryz.ntmps82
 go_wp2_with fail
 refine (idx_find (Mut M _) _ K0.mutLt A n c l (K0.ro 2 rfl) hn _ s (K0.get 0 rfl)).mono ?_
 rintro e w1 ⟨rfl, b1⟩
 have K1 := Hold.call K0 b1
 go_wp2
 go_ret
 exact ⟨rfl, K1.below⟩

set_option maxHeartbeats 2000000 in
theorem rfind_any (M : Nat → Prop) (w : World) (hM : ∀ b, M b → b < w.heap.size) (nm0 : ByteArray) (A : Option Addr) (n c : Nat) (l : List Col) (s : ByteArray) (hD : Ro w M (SlR 4 A n (colCells l))) (hn : n ≤ 9223372036854775807) :
  Calls Tryz.prog 53 #[.agg #[.string nm0, .slice A n c], .string s] w fun e w' => e = .returned (.int .i64 (findB (named s) l)) ∧ Below w.heap.size w w' := by
 have HL := hid (RdC.of_sl hD.now).len
 have K0 := ((Hold.start M w hM).add (hD.less (by simp [Mut]))).alloc_cst #[.string nm0, .slice A n c] 49
 go_enter Tryz.func53, Tryz.ntmps53
 go_wp2_with fail
 go_loopw [10] (fun i wr => ∃ k : Nat, k ≤ n ∧ i = .int .i64 k ∧ findB (named s) l = findFrom (named s) k (l.drop k) ∧ Hold M none w wr [.cst w.heap.size 49 #[.string nm0, .slice A n c], .ro (SlR 4 A n (colCells l))]) (fun i _ => n - (intOf i).toNat)
 case atStart => exact ⟨0, by omega, rfl, rfl, K0⟩
 case round =>
  obtain ⟨k, hk, rfl, hf, H⟩ := hrel
  have HF := hid hf; clear hf
  by_cases hlt : k < n
  ·obtain ⟨⟨nm, ty, nn, key⟩, hc⟩ := get_col HL.out hlt
   obtain ⟨b, o, rfl, hb, c0, c1, c2, c3⟩ := (RdC.of_sl (H.ro 1 rfl).now).at_ hc
   have HC := hid hc; clear hc
   simp only at c0 c1 c2 c3
   cases hp : (nm.toList == s.toList)
   ·have K1 := H.alloc_cst #[.string nm, .int .i64 ty, .bool nn, .bool key] 158
    go_wp2_with fail
    go_roundw
    case rel => exact ⟨k + 1, by omega, by go_num, find_miss HF.out HC.out hp, K1.drop (List.sublist_cons_self _ _)⟩
    case measure => simp [intOf]; omega
   ·have K1 := H.alloc_cst #[.string nm, .int .i64 ty, .bool nn, .bool key] 158
    go_wp2_with fail
    go_ret
    exact ⟨by rw [find_hit HF.out HC.out hp] <;> rfl, K1.below⟩
  ·go_wp2
   go_ret
   exact ⟨by rw [find_end HF.out (by rw [HL.out]; omega)] <;> rfl, H.below⟩
end Go.Proofs.YtnbbllkbefagmaaGreatDoor

namespace Go.Proofs.YtnbbllkbefagmaaGreatDoor
open Go.RowKit
set_option linter.unusedVariables false
set_option linter.unusedSimpArgs false

abbrev ColsIn (A : Option Addr) (n : Nat) (l : List Col) : World → Prop := SlR 4 A n (colCells l)
theorem one_cols (l : List Col) : ∀ u ∈ colCells l, u.oneCell' = true := fun u hu => by
 unfold colCells at hu
 rw [List.mem_flatMap] at hu
 obtain ⟨x, _, hx⟩ := hu
 simp only [Col.cells, List.mem_cons, List.not_mem_nil, or_false] at hx
 rcases hx with rfl | rfl | rfl | rfl <;> rfl
theorem Tryz.elVl : ElemT Tryz.prog 51 122 3 32 (.agg #[.int .i64 0, .int .i64 0, .string ⟨#[]⟩]) := ⟨Tryz.underlying51, by kernel_rfl, rfl, by omega⟩
theorem Tryz.elCol : ElemT Tryz.prog 47 158 4 32 (.agg #[.string ⟨#[]⟩, .int .i64 0, .bool false, .bool false]) := ⟨Tryz.underlying47, by kernel_rfl, rfl, by omega⟩
/-- A list handed back, in memory that nobody writes. -/
def RowRet (size : Nat) (xs : List Value) (k : Nat) (w : World) (M : Nat → Prop) (e : Ending) (w' : World) : Prop :=
 ∃ (A : Option Addr) (n c : Nat), e = .returned (.slice A n c) ∧ n = k ∧ n ≤ c ∧ c ≤ 9223372036854775807 ∧ Ro w' M (SlR size A n xs) ∧ Below w.heap.size w w'
set_option maxHeartbeats 4000000 in
set_option maxRecDepth 100000 in
theorem copyVls_any (M : Nat → Prop) (w : World) (hM : ∀ b, M b → b < w.heap.size) (A : Option Addr) (n c : Nat) (l : List Vl) (hD : Ro w M (VlsIn A n l)) (hn : n ≤ 4398046511104) :
  Calls Tryz.prog 55 #[.slice A n c] w fun e w' => RowRet 3 (vlCells l) l.length w M e w' := by
 have hl := hid (show l.length = n from hD.now.len)
 have K0 := ((Hold.start M w hM).add (hD.less (by simp [Mut]))).nil 122 3
 have hr := hid (show VlsIn A n l _ from (K0.ro 1 rfl).now)
 have h1 := hid (one_vls l)
 go_enter Tryz.func55, Tryz.ntmps55
 go_wp2_with (at_builtin; go_must (refine wpList_appAllH K0 0 rfl Tryz.elVl hr.out rfl (.const (.slice none 0 0)) (.tmp 3) rfl rfl rfl h1.out (by omega) (by omega) ?_); intro C' cap' w2 hc1 hm1 K2)
 have KS := K2.sealRow 0 rfl
 go_ret
 simp only [Nat.zero_add, List.nil_append, List.set_cons_zero] at KS hc1
 exact ⟨C', n, cap', by first | rfl | simp, hl.out.symm, hc1, hm1, KS.roOut 0 rfl, KS.below⟩
end Go.Proofs.YtnbbllkbefagmaaGreatDoor

namespace Go.Proofs.YtnbbllkbefagmaaGreatDoor
open Go.RowKit
set_option linter.unusedVariables false
set_option linter.unusedSimpArgs false

/-- the values of the row with a number -/
def getR (rs : List Row) (id : Int) : Option (List Vl) := (rs.find? fun r => r.1 == id).map (·.2)
end Go.Proofs.YtnbbllkbefagmaaGreatDoor

namespace Go.Proofs.YtnbbllkbefagmaaGreatDoor
open Go.RowKit
set_option linter.unusedVariables false
set_option linter.unusedSimpArgs false

def iCells (l : List Int) : List Value := l.map (.int .i64)
theorem iCells_len (l : List Int) : (iCells l).length = l.length := by simp [iCells]
def IsIn (A : Option Addr) (n : Nat) (l : List Int) : World → Prop := SlR 1 A n (iCells l)
theorem IsIn.len {w : World} {A : Option Addr} {n : Nat} {l : List Int} (h : IsIn A n l w) : l.length = n := by
 have := (show Rd w w.heap.size 1 A n (iCells l) from h).1
 rw [iCells_len] at this
 omega
theorem IsIn.cells {w : World} {A : Option Addr} {n : Nat} {l : List Int} (h : IsIn A n l w) (h0 : 0 < n) : ∃ b o, A = some ⟨b, o, none⟩ ∧ b < w.heap.size ∧ ∀ j, j < l.length → w.cell? ⟨b, o + j, none⟩ = some (.int .i64 (l.getD j 0)) := by
 obtain ⟨b, o, rfl, hb, hc⟩ := (show Rd w w.heap.size 1 A n (iCells l) from h).2 h0
 refine ⟨b, o, rfl, hb, fun j hj => hc j _ ?_⟩
 simp [iCells, List.getD, hj]
end Go.Proofs.YtnbbllkbefagmaaGreatDoor

namespace Go.Proofs.YtnbbllkbefagmaaGreatDoor
open Go.RowKit
set_option linter.unusedVariables false
set_option linter.unusedSimpArgs false

/-- A row without a number in memory: the slice of its values, the values. -/
structure Sl where
 A : Option Addr
 n : Nat
 c : Nat
 vs : List Vl
def Sl.cells (r : Sl) : List Value := [.slice r.A r.n r.c]
def slCells (l : List Sl) : List Value := l.flatMap Sl.cells
theorem slCells_len (l : List Sl) : (slCells l).length = l.length := by have := flat_len Sl.cells 1 (fun _ => rfl) l; simpa [slCells] using this
def SlsIn (A : Option Addr) (n : Nat) (l : List Sl) (w : World) : Prop := SlR 1 A n (slCells l) w ∧ ∀ r ∈ l, VlsIn r.A r.n r.vs w
theorem SlsIn.len {w : World} {A : Option Addr} {n : Nat} {l : List Sl} (h : SlsIn A n l w) : l.length = n := by
 have := (show Rd w w.heap.size 1 A n (slCells l) from h.1).1
 rw [slCells_len] at this
 omega
theorem SlsIn.at_ {w : World} {A : Option Addr} {n : Nat} {l : List Sl} (h : SlsIn A n l w) {k : Nat} {x : Sl} (hx : l[k]? = some x) :
  ∃ b o, A = some ⟨b, o, none⟩ ∧ b < w.heap.size ∧ w.cell? ⟨b, o + k, none⟩ = some (.slice x.A x.n x.c) ∧ VlsIn x.A x.n x.vs w := by
 have hk : k < n := by rw [← h.len]; exact (List.getElem?_eq_some_iff.1 hx).1
 obtain ⟨b, o, e, hb, hc⟩ := (show Rd w w.heap.size 1 A n (slCells l) from h.1).2 (by omega)
 have h0 := flat_get Sl.cells 1 (fun _ => rfl) l k 0 x (by omega) hx
 rw [Nat.mul_one, Nat.add_zero] at h0
 exact ⟨b, o, e, hb, hc _ _ h0, h.2 x (List.mem_of_getElem? hx)⟩
structure Sl.ok (r : Sl) : Prop where
 nc : r.n ≤ r.c
 c : r.c ≤ 9223372036854775807
 vs : ∀ v ∈ r.vs, v.ok
/-- An update in memory. -/
structure Pr where
 id : Int
 oA : Option Addr
 on : Nat
 oc : Nat
 old : List Vl
 nA : Option Addr
 nn : Nat
 nc : Nat
 new : List Vl
def Pr.cells (r : Pr) : List Value := [.int .i64 r.id, .slice r.oA r.on r.oc, .slice r.nA r.nn r.nc]
def prCells (l : List Pr) : List Value := l.flatMap Pr.cells
theorem prCells_len (l : List Pr) : (prCells l).length = l.length * 3 := flat_len _ 3 (fun _ => rfl) l
def PrsIn (A : Option Addr) (n : Nat) (l : List Pr) (w : World) : Prop := SlR 3 A n (prCells l) w ∧ ∀ r ∈ l, VlsIn r.oA r.on r.old w ∧ VlsIn r.nA r.nn r.new w
theorem PrsIn.len {w : World} {A : Option Addr} {n : Nat} {l : List Pr} (h : PrsIn A n l w) : l.length = n := by
 have := (show Rd w w.heap.size 3 A n (prCells l) from h.1).1
 rw [prCells_len] at this
 omega
theorem PrsIn.at_ {w : World} {A : Option Addr} {n : Nat} {l : List Pr} (h : PrsIn A n l w) {k : Nat} {x : Pr} (hx : l[k]? = some x) :
  ∃ b o, A = some ⟨b, o, none⟩ ∧ b < w.heap.size ∧ w.cell? ⟨b, o + k * 3, none⟩ = some (.int .i64 x.id) ∧ w.cell? ⟨b, o + k * 3 + 1, none⟩ = some (.slice x.oA x.on x.oc) ∧ w.cell? ⟨b, o + k * 3 + 2, none⟩ = some (.slice x.nA x.nn x.nc) ∧ VlsIn x.oA x.on x.old w ∧ VlsIn x.nA x.nn x.new w := by
 have hk : k < n := by rw [← h.len]; exact (List.getElem?_eq_some_iff.1 hx).1
 obtain ⟨b, o, e, hb, hc⟩ := (show Rd w w.heap.size 3 A n (prCells l) from h.1).2 (by omega)
 have h2 := h.2 x (List.mem_of_getElem? hx)
 exact ⟨b, o, e, hb, hc _ _ (flat_get Pr.cells 3 (fun _ => rfl) l k 0 x (by omega) hx), hc _ _ (flat_get Pr.cells 3 (fun _ => rfl) l k 1 x (by omega) hx), hc _ _ (flat_get Pr.cells 3 (fun _ => rfl) l k 2 x (by omega) hx), h2.1, h2.2⟩
structure Pr.ok (r : Pr) : Prop where
 id : I64 r.id
 oc : r.on ≤ r.oc
 oc2 : r.oc ≤ 9223372036854775807
 nc : r.nn ≤ r.nc
 nc2 : r.nc ≤ 9223372036854775807
 old : ∀ v ∈ r.old, v.ok
 new : ∀ v ∈ r.new, v.ok
abbrev Upd := Int × List Vl × List Vl
def Pr.upd (r : Pr) : Upd := (r.id, r.old, r.new)

end Go.Proofs.YtnbbllkbefagmaaGreatDoor

namespace Go.Proofs.YtnbbllkbefagmaaGreatDoor
open Go.RowKit
set_option linter.unusedVariables false
set_option linter.unusedSimpArgs false

/-- a query: its items and its condition are of type α -/
structure QuP (α : Type) where
 star : Bool
 A : Option Addr
 n : Nat
 c : Nat
 items : List α
 src : ByteArray
 B : Option Addr
 m : Nat
 d : Nat
 wh : List α
/-- an expression, with the places of its lists -/
structure Ex where
 kind : Int
 op : Int
 nt : Bool
 v : Vl
 tab : ByteArray
 nm : ByteArray
 A : Option Addr
 n : Nat
 c : Nat
 args : List Ex
 B : Option Addr
 m : Nat
 d : Nat
 sub : List (QuP Ex)
abbrev Qu := QuP Ex
def Ex.cells (e : Ex) : List Value := [.int .i64 e.kind, .int .i64 e.op, .bool e.nt, .int .i64 e.v.k, .int .i64 e.v.i, .string e.v.s, .string e.tab, .string e.nm, .slice e.A e.n e.c, .slice e.B e.m e.d]
def Ex.val (e : Ex) : Value := .agg #[.int .i64 e.kind, .int .i64 e.op, .bool e.nt, .int .i64 e.v.k, .int .i64 e.v.i, .string e.v.s, .string e.tab, .string e.nm, .slice e.A e.n e.c, .slice e.B e.m e.d]
def Qu.cells (q : Qu) : List Value := [.bool q.star, .slice q.A q.n q.c, .string q.src, .slice q.B q.m q.d]
def exCells (l : List Ex) : List Value := l.flatMap Ex.cells
def quCells (l : List Qu) : List Value := l.flatMap Qu.cells
theorem exCells_len (l : List Ex) : (exCells l).length = l.length * 10 := flat_len _ 10 (fun _ => rfl) l
theorem quCells_len (l : List Qu) : (quCells l).length = l.length * 4 := flat_len _ 4 (fun _ => rfl) l
/-- the tree below e lies in memory, at most d levels deep (a query and the expressions in it are two levels) -/
def ExIn : Nat → Ex → World → Prop
 | 0, _, _ => False
 | d + 1, e, w => SlR 10 e.A e.n (exCells e.args) w ∧ (∀ a ∈ e.args, ExIn d a w) ∧ SlR 4 e.B e.m (quCells e.sub) w ∧ ∀ q ∈ e.sub, (SlR 10 q.A q.n (exCells q.items) w ∧ ∀ a ∈ q.items, ExIn d a w) ∧ SlR 10 q.B q.m (exCells q.wh) w ∧ ∀ a ∈ q.wh, ExIn d a w
def QuIn (d : Nat) (q : Qu) (w : World) : Prop := (SlR 10 q.A q.n (exCells q.items) w ∧ ∀ a ∈ q.items, ExIn d a w) ∧ SlR 10 q.B q.m (exCells q.wh) w ∧ ∀ a ∈ q.wh, ExIn d a w
def ExsIn (d : Nat) (A : Option Addr) (n : Nat) (l : List Ex) (w : World) : Prop := SlR 10 A n (exCells l) w ∧ ∀ e ∈ l, ExIn d e w
theorem ExIn.succ {d : Nat} {e : Ex} {w : World} : ExIn (d + 1) e w ↔ ExsIn d e.A e.n e.args w ∧ SlR 4 e.B e.m (quCells e.sub) w ∧ ∀ q ∈ e.sub, QuIn d q w := by
 constructor
 ·rintro ⟨h1, h2, h3, h4⟩; exact ⟨⟨h1, h2⟩, h3, h4⟩
 ·rintro ⟨⟨h1, h2⟩, h3, h4⟩; exact ⟨h1, h2, h3, h4⟩
theorem ExIn.more {w : World} : ∀ {d : Nat} {e : Ex}, ExIn d e w → ExIn (d + 1) e w
 | 0, _, h => h.elim
 | d + 1, e, ⟨h1, h2, h3, h4⟩ => ⟨h1, fun a ha => (h2 a ha).more, h3, fun q hq => ⟨⟨(h4 q hq).1.1, fun a ha => ((h4 q hq).1.2 a ha).more⟩, (h4 q hq).2.1, fun a ha => ((h4 q hq).2.2 a ha).more⟩⟩
theorem ExIn.le {w : World} {d d' : Nat} {e : Ex} (h : ExIn d e w) (hd : d ≤ d') : ExIn d' e w := by
 obtain ⟨k, rfl⟩ : ∃ k, d' = d + k := ⟨d' - d, by omega⟩
 clear hd
 induction k with
 | zero => exact h
 | succ k ih => exact ih.more
theorem ExsIn.len {d : Nat} {A : Option Addr} {n : Nat} {l : List Ex} {w : World} (h : ExsIn d A n l w) : l.length = n := by
 have := (show Rd w w.heap.size 10 A n (exCells l) from h.1).1
 rw [exCells_len] at this
 omega
theorem ExsIn.at_ {d : Nat} {w : World} {A : Option Addr} {n : Nat} {l : List Ex} (h : ExsIn d A n l w) {k : Nat} {x : Ex} (hx : l[k]? = some x) :
  ∃ b o, A = some ⟨b, o, none⟩ ∧ b < w.heap.size ∧ (∀ j u, j < 10 → x.cells[j]? = some u → w.cell? ⟨b, o + k * 10 + j, none⟩ = some u) ∧ ExIn d x w := by
 have hk : k < n := by rw [← h.len]; exact (List.getElem?_eq_some_iff.1 hx).1
 obtain ⟨b, o, e, hb, hc⟩ := (show Rd w w.heap.size 10 A n (exCells l) from h.1).2 (by omega)
 refine ⟨b, o, e, hb, fun j u hj hu => ?_, h.2 x (List.mem_of_getElem? hx)⟩
 rw [Nat.add_assoc]
 exact hc _ _ ((flat_get Ex.cells 10 (fun _ => rfl) l k j x hj hx).trans hu)
/-- numbers and room within limits, all the way down -/
def ExOk : Nat → Ex → Prop
 | 0, _ => False
 | d + 1, e => (I64 e.kind ∧ I64 e.op ∧ I64 e.v.k ∧ I64 e.v.i ∧ e.n ≤ e.c ∧ e.c ≤ 9223372036854775807 ∧ e.m ≤ e.d ∧ e.d ≤ 9223372036854775807) ∧ (∀ a ∈ e.args, ExOk d a) ∧ ∀ q ∈ e.sub, (q.n ≤ q.c ∧ q.c ≤ 9223372036854775807 ∧ q.m ≤ q.d ∧ q.d ≤ 9223372036854775807) ∧ (∀ a ∈ q.items, ExOk d a) ∧ ∀ a ∈ q.wh, ExOk d a
/-- the usual trees -/
def vlZ : Vl := ⟨0, 0, ⟨#[]⟩⟩
def litE (v : Vl) : Ex := ⟨1, 0, false, v, ⟨#[]⟩, ⟨#[]⟩, none, 0, 0, [], none, 0, 0, []⟩
def colE (t n : ByteArray) : Ex := ⟨2, 0, false, vlZ, t, n, none, 0, 0, [], none, 0, 0, []⟩
def opE (kind op : Int) (nt : Bool) (g k : Nat) (l : List Ex) : Ex := ⟨kind, op, nt, vlZ, ⟨#[]⟩, ⟨#[]⟩, some ⟨g, 0, none⟩, k, k, l, none, 0, 0, []⟩
/-- a number as an expression: a literal, or a literal behind a minus sign -/
def NumE (x : Ex) (n : Int) : Prop := (0 ≤ n ∧ x = litE ⟨1, n, ⟨#[]⟩⟩) ∨ (n < 0 ∧ ∃ g, x = opE 4 0 false g 1 [litE ⟨1, -n, ⟨#[]⟩⟩])
theorem slr_nil (size : Nat) (w : World) : SlR size none 0 [] w := ⟨by simp, fun h => absurd h (Nat.lt_irrefl 0)⟩
theorem lit_in (v : Vl) (w : World) : ExIn 1 (litE v) w := ⟨slr_nil 10 w, fun a ha => (nomatch ha), slr_nil 4 w, fun q hq => (nomatch hq)⟩
theorem col_in (t n : ByteArray) (w : World) : ExIn 1 (colE t n) w := ⟨slr_nil 10 w, fun a ha => (nomatch ha), slr_nil 4 w, fun q hq => (nomatch hq)⟩
theorem op_in {d : Nat} {kind op : Int} {nt : Bool} {g k : Nat} {l : List Ex} {w : World} (h : ExsIn d (some ⟨g, 0, none⟩) k l w) : ExIn (d + 1) (opE kind op nt g k l) w := ⟨h.1, h.2, slr_nil 4 w, fun q hq => (nomatch hq)⟩
theorem one_ex (x : Ex) : ∀ u ∈ x.cells, u.oneCell' = true := fun u hu => by
 simp only [Ex.cells, List.mem_cons, List.not_mem_nil, or_false] at hu
 rcases hu with rfl | rfl | rfl | rfl | rfl | rfl | rfl | rfl | rfl | rfl <;> rfl
theorem exs_block {d : Nat} {w : World} {M : Nat → Prop} {g : Nat} {t : TypeId} {cs : Array Value} {l : List Ex} (h : Ro w M (fun w => w.heap[g]? = some (.cells cs t (0, 0)))) (hl : cs.toList = exCells l) (hr : ∀ x ∈ l, Ro w M (ExIn d x)) : Ro w M (ExsIn d (some ⟨g, 0, none⟩) l.length l) := by
 have h1 : Ro w M (SlR 10 (some ⟨g, 0, none⟩) l.length cs.toList) := ro_block h (by rw [hl, exCells_len])
 rw [hl] at h1
 exact h1.and fun w2 a b x hx => hr x hx w2 a b
end Go.Proofs.YtnbbllkbefagmaaGreatDoor

namespace Go.Proofs.YtnbbllkbefagmaaGreatDoor
open Go.RowKit
set_option linter.unusedVariables false
set_option linter.unusedSimpArgs false

/-- a slice with its place and what it holds -/
structure SlP (α : Type) where
 A : Option Addr
 n : Nat
 c : Nat
 l : List α
def SlP.v {α : Type} (s : SlP α) : Value := .slice s.A s.n s.c
def SlP.nil {α : Type} : SlP α := ⟨none, 0, 0, []⟩
def SlP.In {α : Type} (s : SlP α) (k : Nat) (cel : α → List Value) (P : α → World → Prop) (w : World) : Prop := SlR k s.A s.n (s.l.flatMap cel) w ∧ ∀ x ∈ s.l, P x w
theorem SlP.In.len {α : Type} {s : SlP α} {k : Nat} {cel : α → List Value} {P : α → World → Prop} {w : World} (h : s.In k cel P w) (hk : 0 < k) (hc : ∀ x, (cel x).length = k) : s.l.length = s.n := by
 have := (show Rd w w.heap.size k s.A s.n (s.l.flatMap cel) from h.1).1
 rw [flat_len cel k hc] at this
 exact Nat.eq_of_mul_eq_mul_right hk this
theorem SlP.In.at_ {α : Type} {s : SlP α} {k : Nat} {cel : α → List Value} {P : α → World → Prop} {w : World} (h : s.In k cel P w) (hk : 0 < k) (hc : ∀ x, (cel x).length = k) {i : Nat} {x : α} (hx : s.l[i]? = some x) :
  ∃ b o, s.A = some ⟨b, o, none⟩ ∧ b < w.heap.size ∧ (∀ j u, j < k → (cel x)[j]? = some u → w.cell? ⟨b, o + i * k + j, none⟩ = some u) ∧ P x w := by
 have hi : i < s.n := by rw [← h.len hk hc]; exact (List.getElem?_eq_some_iff.1 hx).1
 obtain ⟨b, o, e, hb, hcl⟩ := (show Rd w w.heap.size k s.A s.n (s.l.flatMap cel) from h.1).2 (by omega)
 refine ⟨b, o, e, hb, fun j u hj hu => ?_, h.2 x (List.mem_of_getElem? hx)⟩
 rw [Nat.add_assoc]
 exact hcl _ _ ((flat_get cel k hc s.l i j x hj hx).trans hu)
theorem SlP.nil_in {α : Type} (k : Nat) (cel : α → List Value) (P : α → World → Prop) (w : World) : (SlP.nil : SlP α).In k cel P w := ⟨slr_nil k w, fun _ hx => (nomatch hx)⟩
/-- an assignment -/
structure Se where
 col : ByteArray
 e : Ex
def Se.cells (s : Se) : List Value := .string s.col :: s.e.cells
/-- a certificate -/
structure Rk where
 tab : ByteArray
 col : ByteArray
 lo : Int
 hi : Int
def Rk.cells (r : Rk) : List Value := [.string r.tab, .string r.col, .int .i64 r.lo, .int .i64 r.hi]
/-- an action -/
structure Ac where
 kind : Int
 tab : ByteArray
 rows : SlP (SlP Ex)
 qs : SlP Qu
 sets : SlP Se
 wh : SlP Ex
 text : ByteArray
def Ac.cells (a : Ac) : List Value := [.int .i64 a.kind, .string a.tab, a.rows.v, a.qs.v, a.sets.v, a.wh.v, .string a.text]
/-- a trigger -/
structure Tg where
 name : ByteArray
 tab : ByteArray
 before : Bool
 event : Int
 cols : SlP ByteArray
 each : Bool
 prec : SlP ByteArray
 foll : SlP ByteArray
 rank : SlP Rk
 cond : SlP Ex
 acts : SlP Ac
def Tg.cells (t : Tg) : List Value := [.string t.name, .string t.tab, .bool t.before, .int .i64 t.event, t.cols.v, .bool t.each, t.prec.v, t.foll.v, t.rank.v, t.cond.v, t.acts.v]
def SeIn (d : Nat) (s : Se) (w : World) : Prop := ExIn d s.e w
def AcIn (d : Nat) (a : Ac) (w : World) : Prop :=
 a.rows.In 1 (fun r => [r.v]) (fun r w => r.In 10 Ex.cells (ExIn d) w) w ∧ a.qs.In 4 Qu.cells (QuIn d) w ∧ a.sets.In 11 Se.cells (SeIn d) w ∧ a.wh.In 10 Ex.cells (ExIn d) w
def strc (s : ByteArray) : List Value := [.string s]
def TgIn (d : Nat) (t : Tg) (w : World) : Prop :=
 t.cols.In 1 strc (fun _ _ => True) w ∧ t.prec.In 1 strc (fun _ _ => True) w ∧ t.foll.In 1 strc (fun _ _ => True) w ∧ t.rank.In 4 Rk.cells (fun _ _ => True) w ∧ t.cond.In 10 Ex.cells (ExIn d) w ∧ t.acts.In 7 Ac.cells (AcIn d) w
def RkOk (r : Rk) : Prop := I64 r.lo ∧ I64 r.hi
def assignedA (a : Ac) : List ByteArray := if a.kind = 2 then a.sets.l.map Se.col else []
end Go.Proofs.YtnbbllkbefagmaaGreatDoor

namespace Go.Proofs.YtnbbllkbefagmaaGreatDoor
open Go.RowKit
set_option linter.unusedVariables false
set_option linter.unusedSimpArgs false

/-- a frame -/
structure Fr where
 nm : ByteArray
 strict : Bool
 cols : SlP Col
 vals : SlP Vl
def Fr.cells (f : Fr) : List Value := [.string f.nm, .bool f.strict, f.cols.v, f.vals.v]
def frCells (l : List Fr) : List Value := l.flatMap Fr.cells
/-- a schema with its place -/
structure Sm where
 nm : ByteArray
 cols : SlP Col
def Sm.cells (s : Sm) : List Value := [.string s.nm, s.cols.v]
def smCells (l : List Sm) : List Value := l.flatMap Sm.cells
theorem smCells_len (l : List Sm) : (smCells l).length = l.length * 2 := flat_len _ 2 (fun _ => rfl) l
def SlP.ColsIn (s : SlP Col) (w : World) : Prop := s.In 4 Col.cells (fun _ _ => True) w
def FrIn (f : Fr) (w : World) : Prop := f.cols.ColsIn w ∧ f.vals.In 3 Vl.cells (fun _ _ => True) w
def SmIn (s : Sm) (w : World) : Prop := s.cols.ColsIn w
def FrsIn (s : SlP Fr) (w : World) : Prop := s.In 4 Fr.cells FrIn w
def SmsIn (s : SlP Sm) (w : World) : Prop := s.In 2 Sm.cells SmIn w
/-- numbers and room within limits and short lists, all the way down -/
def ExGd : Nat → Ex → Prop
 | 0, _ => False
 | d + 1, e => (I64 e.kind ∧ I64 e.op ∧ I64 e.v.k ∧ I64 e.v.i ∧ e.n ≤ e.c ∧ e.c ≤ 9223372036854775807 ∧ e.m ≤ e.d ∧ e.d ≤ 9223372036854775807) ∧ (1 ≤ e.kind ∧ e.args.length ≤ 3 ∧ e.sub.length ≤ 1) ∧ (∀ a ∈ e.args, ExGd d a) ∧ ∀ q ∈ e.sub, (q.n ≤ q.c ∧ q.c ≤ 9223372036854775807 ∧ q.m ≤ q.d ∧ q.d ≤ 9223372036854775807) ∧ (q.items.length ≤ 8 ∧ q.wh.length ≤ 1) ∧ (∀ a ∈ q.items, ExGd d a) ∧ ∀ a ∈ q.wh, ExGd d a
/-- an expression drawn -/
def ExRet (w : World) (T : Nat) (M : Nat → Prop) (d : Nat) (e : Ending) (w' : World) : Prop :=
 ∃ x : Ex, e = .returned x.val ∧ ExGd d x ∧ Ro w' M (ExIn d x) ∧ Tp w' T ∧ w.grownBy w' (some T)
theorem i64_lit (n : Int) (h : (-9223372036854775808 : Int) ≤ n ∧ n ≤ 9223372036854775807) : I64 n := h
theorem lit_ok (v : Vl) (h1 : I64 v.k) (h2 : I64 v.i) : ExGd 1 (litE v) := ⟨⟨i64_lit 1 (by decide), i64_lit 0 (by decide), h1, h2, Nat.le_refl _, by simp [litE], Nat.le_refl _, by simp [litE]⟩, ⟨by simp [litE], by simp [litE], by simp [litE]⟩, fun a ha => (nomatch ha), fun q hq => (nomatch hq)⟩
theorem col_ok (t n : ByteArray) : ExGd 1 (colE t n) := ⟨⟨i64_lit 2 (by decide), i64_lit 0 (by decide), i64_lit 0 (by decide), i64_lit 0 (by decide), Nat.le_refl _, by simp [colE], Nat.le_refl _, by simp [colE]⟩, ⟨by simp [colE], by simp [colE], by simp [colE]⟩, fun a ha => (nomatch ha), fun q hq => (nomatch hq)⟩
theorem op_ok {d : Nat} {kind op : Int} {nt : Bool} {g k : Nat} {l : List Ex} (h1 : I64 kind) (h2 : I64 op) (hk : k ≤ 9223372036854775807) (h : ∀ a ∈ l, ExGd d a) (hl : l.length ≤ 3 := by simp) (hk0 : 1 ≤ kind := by omega) : ExGd (d + 1) (opE kind op nt g k l) := ⟨⟨h1, h2, i64_lit 0 (by decide), i64_lit 0 (by decide), Nat.le_refl _, hk, Nat.le_refl _, by simp [opE]⟩, ⟨hk0, hl, by simp [opE]⟩, h, fun q hq => (nomatch hq)⟩
theorem ExGd.more : ∀ {d : Nat} {e : Ex}, ExGd d e → ExGd (d + 1) e
 | 0, _, h => h.elim
 | d + 1, e, ⟨h1, h4, h2, h3⟩ => ⟨h1, h4, fun a ha => (h2 a ha).more, fun q hq => ⟨(h3 q hq).1, (h3 q hq).2.1, fun a ha => ((h3 q hq).2.2.1 a ha).more, fun a ha => ((h3 q hq).2.2.2 a ha).more⟩⟩
theorem ExGd.le {d d' : Nat} {e : Ex} (h : ExGd d e) (hd : d ≤ d') : ExGd d' e := by
 obtain ⟨k, rfl⟩ : ∃ k, d' = d + k := ⟨d' - d, by omega⟩
 clear hd
 induction k with
 | zero => exact h
 | succ k ih => exact ih.more
theorem ExGd.ok : ∀ {d : Nat} {e : Ex}, ExGd d e → ExOk d e
 | 0, _, h => h.elim
 | d + 1, e, ⟨h1, h4, h2, h3⟩ => ⟨h1, fun a ha => (h2 a ha).ok, fun q hq => ⟨(h3 q hq).1, fun a ha => ((h3 q hq).2.2.1 a ha).ok, fun a ha => ((h3 q hq).2.2.2 a ha).ok⟩⟩
end Go.Proofs.YtnbbllkbefagmaaGreatDoor

namespace Go.Proofs.YtnbbllkbefagmaaGreatDoor
open Go.RowKit
set_option linter.unusedVariables false
set_option linter.unusedSimpArgs false

theorem zl.{u} : (∀ {α : Type u} {x : α} {xs : List α} {a : α}, (x :: xs).set 0 a = a :: xs) ∧ (∀ {α : Type u} {x : α} {xs : List α} {i : Nat} {a : α}, (x :: xs).set (i + 1) a = x :: xs.set i a) ∧ ∀ {α : Type u} (l : List α) (i : Nat) (a : α), l.toArray.setIfInBounds i a = (l.set i a).toArray := ⟨List.set_cons_zero, List.set_cons_succ, List.setIfInBounds_toArray⟩
theorem zf.{u} : (∀ (w : World) (o : Obj), (w.alloc o).heap.size = w.heap.size + 1) ∧ (∀ w : World, w.drew.heap.size = w.heap.size) ∧ (∀ {α : Type u} {l : List α}, l.toArray.toList = l) ∧ (∀ p : Prop, (p ∧ True) = p) ∧ ∀ p : Prop, (True ∧ p) = p := ⟨World.size_alloc, World.size_drew, List.toList_toArray, and_true, true_and⟩
theorem zd.{u} : (∀ {α : Type u} {a : α} {l : List α} {i : Nat}, List.take (i + 1) (a :: l) = a :: List.take i l) ∧ (∀ {α : Type u} {l : List α}, List.take 0 l = []) ∧ (∀ {α : Type u} {a : α} {l : List α} {i : Nat}, List.drop (i + 1) (a :: l) = List.drop i l) ∧ ∀ {α : Type u} {l : List α}, List.drop 0 l = l := ⟨List.take_succ_cons, List.take_zero, List.drop_succ_cons, List.drop_zero⟩
set_option maxHeartbeats 2000000 in
theorem col_any (w : World) (t n : ByteArray) : Calls Tryz.prog 133 #[.string t, .string n] w fun e w' => e = .returned (colE t n).val ∧ Below w.heap.size w w' := by
 have K0 := (Hold.begin_ w).alloc #[.int .i64 2, .int .i64 0, .bool false, .int .i64 0, .int .i64 0, .string ⟨#[]⟩, .string t, .string n, .slice none 0 0, .slice none 0 0] 126
 have F := K0.facts
 simp only [factsL, cellsF, Nat.reduceAdd, zf, zl] at F
 have HB := hid K0.below
 go_enter Tryz.func133, Tryz.ntmps133
 go_wp2_with fail
 exact bodyPost_ret (v := (colE t n).val) (by simp [results, Tryz.results133, go_sem, F, Ex.val, colE, vlZ]) rfl ⟨rfl, HB.out⟩
set_option maxHeartbeats 2000000 in
theorem lit_any (w : World) (v : Vl) : Calls Tryz.prog 154 #[.agg #[.int .i64 v.k, .int .i64 v.i, .string v.s]] w fun e w' => e = .returned (litE v).val ∧ Below w.heap.size w w' := by
 have K0 := ((Hold.begin_ w).alloc_cst #[.int .i64 v.k, .int .i64 v.i, .string v.s] 122).alloc #[.int .i64 1, .int .i64 0, .bool false, .int .i64 v.k, .int .i64 v.i, .string v.s, .string ⟨#[]⟩, .string ⟨#[]⟩, .slice none 0 0, .slice none 0 0] 126
 have F := K0.facts
 simp only [factsL, cellsF, Nat.reduceAdd, zf, zl] at F
 have HB := hid K0.below
 go_enter Tryz.func154, Tryz.ntmps154
 go_wp2_with fail
 exact bodyPost_ret (v := (litE v).val) (by simp [results, Tryz.results154, go_sem, F, Ex.val, litE, vlZ]) rfl ⟨rfl, HB.out⟩
set_option maxHeartbeats 4000000 in
theorem bin_any (M : Nat → Prop) (w : World) (hM : ∀ b, M b → b < w.heap.size) (op : Int) (a b : Ex) (d : Nat) (ha : Ro w M (ExIn d a)) (hb : Ro w M (ExIn d b)) : Calls Tryz.prog 132 #[.int .i64 op, .agg #[.int .i64 a.kind, .int .i64 a.op, .bool a.nt, .int .i64 a.v.k, .int .i64 a.v.i, .string a.v.s, .string a.tab, .string a.nm, .slice a.A a.n a.c, .slice a.B a.m a.d], .agg #[.int .i64 b.kind, .int .i64 b.op, .bool b.nt, .int .i64 b.v.k, .int .i64 b.v.i, .string b.v.s, .string b.tab, .string b.nm, .slice b.A b.n b.c, .slice b.B b.m b.d]] w fun e w' => ∃ g : Nat, e = .returned (opE 5 op false g 2 [a, b]).val ∧ Ro w' M (ExIn (d + 1) (opE 5 op false g 2 [a, b])) ∧ Below w.heap.size w w' := by
 have K0 := (((((Hold.start M w hM).add (hb.less (by simp [Mut]))).add (ha.less (by simp [Mut, Hp.foot]))).alloc_cst #[.int .i64 a.kind, .int .i64 a.op, .bool a.nt, .int .i64 a.v.k, .int .i64 a.v.i, .string a.v.s, .string a.tab, .string a.nm, .slice a.A a.n a.c, .slice a.B a.m a.d] 126).alloc_cst #[.int .i64 b.kind, .int .i64 b.op, .bool b.nt, .int .i64 b.v.k, .int .i64 b.v.i, .string b.v.s, .string b.tab, .string b.nm, .slice b.A b.n b.c, .slice b.B b.m b.d] 126).alloc #[.int .i64 5, .int .i64 op, .bool false, .int .i64 0, .int .i64 0, .string ⟨#[]⟩, .string ⟨#[]⟩, .string ⟨#[]⟩, .slice (some ⟨w.heap.size + 1 + 1 + 1, 0, none⟩) 2 2, .slice none 0 0] 126
 simp only [World.size_alloc] at K0
 have K1 := K0.alloc_cst #[.int .i64 a.kind, .int .i64 a.op, .bool a.nt, .int .i64 a.v.k, .int .i64 a.v.i, .string a.v.s, .string a.tab, .string a.nm, .slice a.A a.n a.c, .slice a.B a.m a.d, .int .i64 b.kind, .int .i64 b.op, .bool b.nt, .int .i64 b.v.k, .int .i64 b.v.i, .string b.v.s, .string b.tab, .string b.nm, .slice b.A b.n b.c, .slice b.B b.m b.d] 126
 simp only [World.size_alloc] at K1
 have F := K1.facts
 simp only [factsL, cellsF, Nat.reduceAdd, zf, zl] at F
 have hr := exs_block (d := d) (l := [a, b]) (K1.get 0 rfl) rfl (fun x hx => by
  simp only [List.mem_cons, List.not_mem_nil, or_false] at hx
  rcases hx with rfl | rfl
  ·exact K1.ro 4 rfl
  ·exact K1.ro 5 rfl)
 have HR := hid (show Ro _ M (ExIn (d + 1) (opE 5 op false (w.heap.size + 1 + 1 + 1) 2 [a, b])) from (hr.less fun b hb => .inl hb).imp fun w2 h2 => op_in h2)
 have HB := hid K1.below
 clear K0 K1 hr
 go_enter Tryz.func132, Tryz.ntmps132
 go_wp2_with fail
 exact bodyPost_ret (v := (opE 5 op false (w.heap.size + 1 + 1 + 1) 2 [a, b]).val) (by simp [results, Tryz.results132, go_sem, F, Ex.val, opE, vlZ]) rfl ⟨_, rfl, HR.out, HB.out⟩
set_option maxHeartbeats 4000000 in
theorem num0_any (w : World) (n : Int) (h : 0 ≤ n) : Calls Tryz.prog 134 #[.int .i64 n] w fun e w' => e = .returned (litE ⟨1, n, ⟨#[]⟩⟩).val ∧ Below w.heap.size w w' := by
 have K0 := (Hold.begin_ w).alloc #[.int .i64 0, .int .i64 0, .bool false, .int .i64 0, .int .i64 0, .string ⟨#[]⟩, .string ⟨#[]⟩, .string ⟨#[]⟩, .slice none 0 0, .slice none 0 0] 126
 have hd : decide (n < 0) = false := by simp; omega
 have hd2 : ¬ n < 0 := by omega
 obtain ⟨g, hg⟩ : ∃ g, g = w.heap.size := ⟨_, rfl⟩
 rw [← hg] at K0
 go_enter Tryz.func134, Tryz.ntmps134
 go_wp2_with fail
 rw [← hg]
 have HG := hid hg
 clear hg
 refine (lit_any _ ⟨1, n, ⟨#[]⟩⟩).mono ?_
 rintro e w1 ⟨rfl, b1⟩
 have K1 := K0.call b1
 clear K0 b1
 have F := K1.facts
 simp only [factsL, cellsF, Nat.reduceAdd, zf, zl] at F
 have K2 := ((((((((((K1.store 0 rfl 0 (.int .i64 1)).store 0 rfl 1 (.int .i64 0)).store 0 rfl 2 (.bool false)).store 0 rfl 3 (.int .i64 1)).store 0 rfl 4 (.int .i64 n)).store 0 rfl 5 (.string ⟨#[]⟩)).store 0 rfl 6 (.string ⟨#[]⟩)).store 0 rfl 7 (.string ⟨#[]⟩)).store 0 rfl 8 (.slice none 0 0)).store 0 rfl 9 (.slice none 0 0))
 simp only [zl] at K2
 have HB := hid K2.below
 rw [show (litE ⟨1, n, ⟨#[]⟩⟩).val = .agg #[.int .i64 1, .int .i64 0, .bool false, .int .i64 1, .int .i64 n, .string ⟨#[]⟩, .string ⟨#[]⟩, .string ⟨#[]⟩, .slice none 0 0, .slice none 0 0] from rfl]
 go_wp2_with fail
 exact bodyPost_ret (v := .agg #[.int .i64 1, .int .i64 0, .bool false, .int .i64 1, .int .i64 n, .string ⟨#[]⟩, .string ⟨#[]⟩, .string ⟨#[]⟩, .slice none 0 0, .slice none 0 0]) (by simp [results, Tryz.results134, go_sem, F]) rfl ⟨rfl, HB.out⟩
set_option maxHeartbeats 4000000 in
theorem numN_any (M : Nat → Prop) (w : World) (hM : ∀ b, M b → b < w.heap.size) (n : Int) (h : n < 0) (h2 : -4611686018427387904 ≤ n) : Calls Tryz.prog 134 #[.int .i64 n] w fun e w' => ∃ g : Nat, e = .returned (opE 4 0 false g 1 [litE ⟨1, -n, ⟨#[]⟩⟩]).val ∧ Ro w' M (ExIn 2 (opE 4 0 false g 1 [litE ⟨1, -n, ⟨#[]⟩⟩])) ∧ Below w.heap.size w w' := by
 have K0 := (Hold.start M w hM).alloc #[.int .i64 0, .int .i64 0, .bool false, .int .i64 0, .int .i64 0, .string ⟨#[]⟩, .string ⟨#[]⟩, .string ⟨#[]⟩, .slice none 0 0, .slice none 0 0] 126
 have hd : decide (n < 0) = true := by simp; omega
 have hw : IntKind.i64.wrap (-n) = -n := by rw [IntKind.wrap_i64]; omega
 obtain ⟨g, hg⟩ : ∃ g, g = w.heap.size := ⟨_, rfl⟩
 rw [← hg] at K0
 go_enter Tryz.func134, Tryz.ntmps134
 go_wp2_with fail
 rw [← hg]
 have HG := hid hg
 clear hg
 refine (num0_any _ (-n) (by omega)).mono ?_
 rintro e w1 ⟨rfl, b1⟩
 have KA := K0.call b1
 have K1 := KA.alloc_cst #[.int .i64 1, .int .i64 0, .bool false, .int .i64 1, .int .i64 (-n), .string ⟨#[]⟩, .string ⟨#[]⟩, .string ⟨#[]⟩, .slice none 0 0, .slice none 0 0] 126
 clear KA b1
 obtain ⟨g2, hg2⟩ : ∃ g, g = w1.heap.size := ⟨_, rfl⟩
 rw [← hg2] at K1
 have F := K1.facts
 simp only [factsL, cellsF, Nat.reduceAdd, zf, zl] at F
 have K2 := ((((((((((K1.store 1 rfl 0 (.int .i64 4)).store 1 rfl 1 (.int .i64 0)).store 1 rfl 2 (.bool false)).store 1 rfl 3 (.int .i64 0)).store 1 rfl 4 (.int .i64 0)).store 1 rfl 5 (.string ⟨#[]⟩)).store 1 rfl 6 (.string ⟨#[]⟩)).store 1 rfl 7 (.string ⟨#[]⟩)).store 1 rfl 8 (.slice (some ⟨g2, 0, none⟩) 1 1)).store 1 rfl 9 (.slice none 0 0))
 simp only [zl] at K2
 clear K1 K0
 have F2 := K2.facts
 simp only [factsL, cellsF, Nat.reduceAdd, zf, zl] at F2
 have hr := exs_block (d := 1) (l := [litE ⟨1, -n, ⟨#[]⟩⟩]) (K2.get 0 rfl) rfl (fun x hx w2 _ _ => by
  simp only [List.mem_cons, List.not_mem_nil, or_false] at hx
  subst hx
  exact lit_in _ _)
 have HR := hid (show Ro _ M (ExIn 2 (opE 4 0 false g2 1 [litE ⟨1, -n, ⟨#[]⟩⟩])) from (hr.less fun b hb => .inl hb).imp fun w2 h2 => op_in h2)
 have HB := hid K2.below
 rw [show (litE ⟨1, -n, ⟨#[]⟩⟩).val = .agg #[.int .i64 1, .int .i64 0, .bool false, .int .i64 1, .int .i64 (-n), .string ⟨#[]⟩, .string ⟨#[]⟩, .string ⟨#[]⟩, .slice none 0 0, .slice none 0 0] from rfl]
 clear hr K2
 go_wp2_with fail
 rw [← hg2]
 have HG2 := hid hg2
 clear hg2
 refine bodyPost_ret (v := (opE 4 0 false g2 1 [litE ⟨1, -n, ⟨#[]⟩⟩]).val) ?_ rfl ⟨_, rfl, HR.out, HB.out⟩
 have HO : (opE 4 0 false g2 1 [litE ⟨1, -n, ⟨#[]⟩⟩]).val = .agg #[.int .i64 4, .int .i64 0, .bool false, .int .i64 0, .int .i64 0, .string ⟨#[]⟩, .string ⟨#[]⟩, .string ⟨#[]⟩, .slice (some ⟨g2, 0, none⟩) 1 1, .slice none 0 0] := rfl
 rw [HO]
 clear HO HR HB
 simp [results, Tryz.results134, go_sem, F2]
theorem wnum_any (M : Nat → Prop) (w : World) (hM : ∀ b, M b → b < w.heap.size) (n : Int) (h2 : -4611686018427387904 ≤ n) : Calls Tryz.prog 134 #[.int .i64 n] w fun e w' => ∃ x : Ex, e = .returned x.val ∧ NumE x n ∧ Ro w' M (ExIn 2 x) ∧ Below w.heap.size w w' := by
 by_cases h : n < 0
 ·refine (numN_any M w hM n h h2).mono ?_
  rintro e w1 ⟨g, rfl, r, b⟩
  exact ⟨_, rfl, .inr ⟨h, g, rfl⟩, r, b⟩
 ·refine (num0_any w n (by omega)).mono ?_
  rintro e w1 ⟨rfl, b⟩
  exact ⟨_, rfl, .inl ⟨by omega, rfl⟩, fun w2 _ _ => (lit_in _ _).more, b⟩
set_option maxHeartbeats 4000000 in
theorem between_any (M : Nat → Prop) (w : World) (hM : ∀ b, M b → b < w.heap.size) (s : ByteArray) (lo hi : Int) (h1 : -4611686018427387904 ≤ lo) (h2 : -4611686018427387904 ≤ hi) : Calls Tryz.prog 135 #[.string s, .int .i64 lo, .int .i64 hi] w fun e w' => ∃ (g : Nat) (x y : Ex), e = .returned (opE 7 0 false g 3 [colE ⟨#[]⟩ s, x, y]).val ∧ NumE x lo ∧ NumE y hi ∧ Ro w' M (ExIn 3 (opE 7 0 false g 3 [colE ⟨#[]⟩ s, x, y])) ∧ Below w.heap.size w w' := by
 have K0 := (Hold.start M w hM).alloc #[.int .i64 0, .int .i64 0, .bool false, .int .i64 0, .int .i64 0, .string ⟨#[]⟩, .string ⟨#[]⟩, .string ⟨#[]⟩, .slice none 0 0, .slice none 0 0] 126
 obtain ⟨g, hg⟩ : ∃ g, g = w.heap.size := ⟨_, rfl⟩
 rw [← hg] at K0
 go_enter Tryz.func135, Tryz.ntmps135
 go_wp2_with fail
 rw [← hg]
 have HG := hid hg
 clear hg
 refine (col_any _ ⟨#[]⟩ s).mono ?_
 rintro e w1 ⟨rfl, b1⟩
 have K1 := K0.call b1
 clear K0 b1
 go_wp2_with fail
 refine (wnum_any _ _ K1.mutLt lo h1).mono ?_
 rintro e w2 ⟨x, rfl, hx, rx, b1⟩
 have K2 := (K1.call b1).add rx
 have HX := hid hx
 clear K1 b1 rx hx
 go_wp2_with fail
 refine (wnum_any _ _ K2.mutLt hi h2).mono ?_
 rintro e w3 ⟨y, rfl, hy, ry, b1⟩
 have K3 := ((K2.call b1).add ry).perm (L' := [.blk g 126 #[.int .i64 0, .int .i64 0, .bool false, .int .i64 0, .int .i64 0, .string ⟨#[]⟩, .string ⟨#[]⟩, .string ⟨#[]⟩, .slice none 0 0, .slice none 0 0], .ro (ExIn 2 x), .ro (ExIn 2 y)]) (List.reverse_perm _).symm
 have HY := hid hy
 clear K2 b1 ry hy
 have K1 := K3.alloc_cst #[.int .i64 2, .int .i64 0, .bool false, .int .i64 0, .int .i64 0, .string ⟨#[]⟩, .string ⟨#[]⟩, .string s, .slice none 0 0, .slice none 0 0, .int .i64 x.kind, .int .i64 x.op, .bool x.nt, .int .i64 x.v.k, .int .i64 x.v.i, .string x.v.s, .string x.tab, .string x.nm, .slice x.A x.n x.c, .slice x.B x.m x.d, .int .i64 y.kind, .int .i64 y.op, .bool y.nt, .int .i64 y.v.k, .int .i64 y.v.i, .string y.v.s, .string y.tab, .string y.nm, .slice y.A y.n y.c, .slice y.B y.m y.d] 126
 obtain ⟨g2, hg2⟩ : ∃ g, g = w3.heap.size := ⟨_, rfl⟩
 rw [← hg2] at K1
 have F := K1.facts
 simp only [factsL, cellsF, Nat.reduceAdd, zf, zl] at F
 have K2 := ((((((((((K1.store 1 rfl 0 (.int .i64 7)).store 1 rfl 1 (.int .i64 0)).store 1 rfl 2 (.bool false)).store 1 rfl 3 (.int .i64 0)).store 1 rfl 4 (.int .i64 0)).store 1 rfl 5 (.string ⟨#[]⟩)).store 1 rfl 6 (.string ⟨#[]⟩)).store 1 rfl 7 (.string ⟨#[]⟩)).store 1 rfl 8 (.slice (some ⟨g2, 0, none⟩) 3 3)).store 1 rfl 9 (.slice none 0 0))
 simp only [zl] at K2
 clear K1 K3
 have F2 := K2.facts
 simp only [factsL, cellsF, Nat.reduceAdd, zf, zl] at F2
 have hr := exs_block (d := 2) (l := [colE ⟨#[]⟩ s, x, y]) (K2.get 0 rfl) rfl (fun z hz => by
  simp only [List.mem_cons, List.not_mem_nil, or_false] at hz
  rcases hz with rfl | rfl | rfl
  ·exact fun w2 _ _ => (col_in _ _ _).more
  ·exact K2.ro 2 rfl
  ·exact K2.ro 3 rfl)
 have HR := hid (show Ro _ M (ExIn 3 (opE 7 0 false g2 3 [colE ⟨#[]⟩ s, x, y])) from (hr.less fun b hb => .inl hb).imp fun w2 h2 => op_in h2)
 have HB := hid K2.below
 rw [show (colE ⟨#[]⟩ s).val = .agg #[.int .i64 2, .int .i64 0, .bool false, .int .i64 0, .int .i64 0, .string ⟨#[]⟩, .string ⟨#[]⟩, .string s, .slice none 0 0, .slice none 0 0] from rfl, show x.val = .agg #[.int .i64 x.kind, .int .i64 x.op, .bool x.nt, .int .i64 x.v.k, .int .i64 x.v.i, .string x.v.s, .string x.tab, .string x.nm, .slice x.A x.n x.c, .slice x.B x.m x.d] from rfl, show y.val = .agg #[.int .i64 y.kind, .int .i64 y.op, .bool y.nt, .int .i64 y.v.k, .int .i64 y.v.i, .string y.v.s, .string y.tab, .string y.nm, .slice y.A y.n y.c, .slice y.B y.m y.d] from rfl]
 clear hr K2
 go_wp2_with fail
 rw [← hg2]
 have HG2 := hid hg2
 clear hg2
 refine bodyPost_ret (v := (opE 7 0 false g2 3 [colE ⟨#[]⟩ s, x, y]).val) ?_ rfl ⟨_, x, y, rfl, HX.out, HY.out, HR.out, HB.out⟩
 have HO : (opE 7 0 false g2 3 [colE ⟨#[]⟩ s, x, y]).val = .agg #[.int .i64 7, .int .i64 0, .bool false, .int .i64 0, .int .i64 0, .string ⟨#[]⟩, .string ⟨#[]⟩, .string ⟨#[]⟩, .slice (some ⟨g2, 0, none⟩) 3 3, .slice none 0 0] := rfl
 rw [HO]
 clear HO HR HB HX HY
 simp [results, Tryz.results135, go_sem, F2]
end Go.Proofs.YtnbbllkbefagmaaGreatDoor

namespace Go.Proofs.YtnbbllkbefagmaaGreatDoor
open Go.RowKit
set_option linter.unusedVariables false

/-- items by their places, in any order -/
theorem pick_apart {L : List Hp} (h : Apart L) : ∀ (is : List Nat), is.Nodup → Apart (is.filterMap (fun i => L[i]?))
 | [], _ => trivial
 | i :: is, hn => by
  obtain ⟨h1, h2⟩ := List.nodup_cons.1 hn
  have ih := pick_apart h is h2
  rw [List.filterMap_cons]
  split
  ·exact ih
  ·rename_i a ha
   refine ⟨fun b hb k hk => ?_, ih⟩
   obtain ⟨j, hj, hjk⟩ := List.mem_filterMap.1 hk
   exact h.mem ha hjk (fun e => h1 (e ▸ hj)) hb
theorem Hold.pick {M : Nat → Prop} {row : Option Nat} {w0 w : World} {L : List Hp} (K : Hold M row w0 w L) (is : List Nat) (hn : is.Nodup) {L' : List Hp} (hL : is.filterMap (fun i => L[i]?) = L') : Hold M row w0 w L' := by
 subst hL
 have hmem : ∀ a ∈ is.filterMap (fun i => L[i]?), a ∈ L := fun a ha => by
  obtain ⟨j, _, hj⟩ := List.mem_filterMap.1 ha
  exact List.mem_of_getElem? hj
 have e : ∀ b, Mut M (is.filterMap (fun i => L[i]?)) b → Mut M L b := fun b hb => by
  rcases hb with hb | ⟨k, hk, hf⟩
  ·exact .inl hb
  ·exact .inr ⟨k, hmem k hk, hf⟩
 refine ⟨K.grow, K.low, fun k hk => ?_, fun k hk => K.fresh k (hmem k hk), pick_apart K.sep is hn⟩
 exact Hp.sat_step (k := k) (K.sat k (hmem k hk)) (Nat.le_refl _) (fun _ _ _ => rfl) (fun b _ hb => e b hb) (fun _ _ => rfl) (fun _ _ _ _ => rfl)
end Go.Proofs.YtnbbllkbefagmaaGreatDoor

namespace Go.Proofs.YtnbbllkbefagmaaGreatDoor
open Go.RowKit
set_option linter.unusedVariables false
set_option linter.unusedSimpArgs false

/-- what an expression can refer to -/
structure Pl where
 fr : SlP Fr
 tb : SlP Sm
def Pl.val (p : Pl) : Value := .agg #[.slice p.fr.A p.fr.n p.fr.c, .slice p.tb.A p.tb.n p.tb.c]
def PlIn (p : Pl) (w : World) : Prop := FrsIn p.fr w ∧ SmsIn p.tb w
/-- few frames and tables of few columns -/
structure PlB (p : Pl) : Prop where
 f : p.fr.n ≤ p.fr.c ∧ p.fr.n ≤ 100
 t : p.tb.n ≤ p.tb.c ∧ p.tb.n ≤ 100
 fc : ∀ f ∈ p.fr.l, f.cols.n ≤ 100
 tc : ∀ s ∈ p.tb.l, s.cols.n ≤ 100
theorem FrsIn.len {s : SlP Fr} {w : World} (h : FrsIn s w) : s.l.length = s.n := SlP.In.len (s := s) (k := 4) (cel := Fr.cells) (P := FrIn) h (by omega) (fun _ => rfl)
theorem FrsIn.at_ {s : SlP Fr} {w : World} (h : FrsIn s w) {k : Nat} {x : Fr} (hx : s.l[k]? = some x) :
  ∃ b o, s.A = some ⟨b, o, none⟩ ∧ b < w.heap.size ∧ (∀ j u, j < 4 → x.cells[j]? = some u → w.cell? ⟨b, o + k * 4 + j, none⟩ = some u) ∧ FrIn x w := SlP.In.at_ (s := s) (k := 4) (cel := Fr.cells) (P := FrIn) h (by omega) (fun _ => rfl) hx
theorem FrIn.cols {f : Fr} {w : World} (h : FrIn f w) : SlR 4 f.cols.A f.cols.n (colCells f.cols.l) w := h.1.1
/-- columns without a table or with one -/
def AllCol (l : List Ex) : Prop := ∀ x ∈ l, ∃ t n, x = colE t n
theorem AllCol.snoc {l : List Ex} (h : AllCol l) (t n : ByteArray) : AllCol (l ++ [colE t n]) := fun x hx => by
 rcases List.mem_append.1 hx with hx | hx
 ·exact h x hx
 ·exact ⟨t, n, by simpa using hx⟩
theorem exCells_col (l : List Ex) (t n : ByteArray) : exCells l ++ (#[.int .i64 2, .int .i64 0, .bool false, .int .i64 0, .int .i64 0, .string ⟨#[]⟩, .string t, .string n, .slice none 0 0, .slice none 0 0] : Array Value).toList = exCells (l ++ [colE t n]) := by simp [exCells, Ex.cells, colE, vlZ]
theorem get_anyG {α : Type} {l : List α} {n k : Nat} (h : l.length = n) (hk : k < n) : ∃ c, l[k]? = some c := ⟨l[k]'(by omega), List.getElem?_eq_getElem _⟩
def zeroE : Ex := ⟨0, 0, false, vlZ, ⟨#[]⟩, ⟨#[]⟩, none, 0, 0, [], none, 0, 0, []⟩
def ColRet (w : World) (T : Nat) (e : Ending) (w' : World) : Prop := ∃ (x : Ex) (ok : Bool), e = .returned (.tuple #[x.val, .bool ok]) ∧ ((ok = false ∧ x = zeroE) ∨ ∃ t n, x = colE t n) ∧ Tp w' T ∧ w.grownBy w' (some T)
theorem Tryz.elExG : ElemT Tryz.prog 37 126 10 136 (.agg #[.int .i64 0, .int .i64 0, .bool false, .int .i64 0, .int .i64 0, .string ⟨#[]⟩, .string ⟨#[]⟩, .string ⟨#[]⟩, .slice none 0 0, .slice none 0 0]) := ⟨Tryz.underlying37, by kernel_rfl, rfl, by omega⟩
set_option maxRecDepth 100000 in
set_option maxHeartbeats 8000000 in
theorem column_any (M : Nat → Prop) (T : Nat) (w : World) (hM : ∀ b, M b → b < w.heap.size) (ht : Tp w T) (hMT : ∀ b, M b → T ≤ b) (p : Pl) (want : Int) (hp : Ro w (Mut M [.tp T]) (PlIn p)) (hB : PlB p) :
  Calls Tryz.prog 153 #[.pointer (some ⟨T, 0, none⟩), p.val, .int .i64 want] w fun e w' => ColRet w T e w' := by
 obtain ⟨⟨fA, fn, fc, fl⟩, ⟨sA, sn, sc, sl⟩⟩ := p
 have hfn : fn ≤ 100 := hB.f.2
 have HFC := hid hB.fc
 have HL := hid (show fl.length = fn from FrsIn.len hp.now.1)
 have KS := (((Hold.startT M w T hM ht hMT).add (hp.imp fun w2 h2 => h2.1)).alloc_cst #[.slice fA fn fc, .slice sA sn sc] 177).alloc #[.int .i64 0, .int .i64 0, .bool false, .int .i64 0, .int .i64 0, .string ⟨#[]⟩, .string ⟨#[]⟩, .string ⟨#[]⟩, .slice none 0 0, .slice none 0 0] 126
 rw [World.size_alloc] at KS
 obtain ⟨gp, hgp⟩ : ∃ g, g = w.heap.size := ⟨_, rfl⟩
 rw [← hgp] at KS
 obtain ⟨gr, hgr⟩ : ∃ g, g = gp + 1 := ⟨_, rfl⟩
 rw [← hgr] at KS
 have K0 := (KS.perm (L' := [.cst gp 177 #[.slice fA fn fc, .slice sA sn sc], .ro (FrsIn ⟨fA, fn, fc, fl⟩), .blk gr 126 #[.int .i64 0, .int .i64 0, .bool false, .int .i64 0, .int .i64 0, .string ⟨#[]⟩, .string ⟨#[]⟩, .string ⟨#[]⟩, .slice none 0 0, .slice none 0 0], .tp T]) (by
  refine (List.Perm.swap _ _ _).trans ?_
  exact ((List.Perm.swap _ _ _).cons _))).nil 126 10
 have F0 := K0.facts
 simp only [factsL, cellsF, Nat.reduceAdd, zf, zl] at F0
 simp only [Pl.val]
 clear KS hp hB
 go_enter Tryz.func153, Tryz.ntmps153
 go_wp2_with fail
 rw [← hgp]
 try rw [← hgr]
 have HG := hid (And.intro hgp hgr)
 clear hgp hgr F0
 go_loopw [8, 16] (fun ov iv wr => ∃ (j k cap : Nat) (O : Option Addr) (outs : List Ex), j ≤ fn ∧ iv = .int .i64 j ∧ ov = .slice O k cap ∧ k ≤ 200 * j ∧ AllCol outs ∧ Hold M (some T) w wr [.own 126 10 (.slice O k cap) k (exCells outs), .cst gp 177 #[.slice fA fn fc, .slice sA sn sc], .ro (FrsIn ⟨fA, fn, fc, fl⟩), .blk gr 126 #[.int .i64 0, .int .i64 0, .bool false, .int .i64 0, .int .i64 0, .string ⟨#[]⟩, .string ⟨#[]⟩, .string ⟨#[]⟩, .slice none 0 0, .slice none 0 0], .tp T]) (fun _ iv _ => fn - (intOf iv).toNat)
 case atStart => exact ⟨0, 0, 0, none, [], by omega, rfl, rfl, by omega, fun x hx => (nomatch hx), K0⟩
 case round =>
  clear K0
  obtain ⟨j, k, cap, O, outs, hj, rfl, rfl, hkb, hall, H⟩ := hrel
  by_cases hlt : j < fn
  ·obtain ⟨⟨fnm, fst, ⟨cA, cn, cc, cl⟩, ⟨vA, vn, vc, vl⟩⟩, hc⟩ := get_anyG HL.out hlt
   obtain ⟨b, o, rfl, hb, hcl, -⟩ := FrsIn.at_ (H.ro 2 rfl).now hc
   have c0 := hcl 0 _ (by omega) rfl
   have c1 := hcl 1 _ (by omega) rfl
   have c2 := hcl 2 _ (by omega) rfl
   have c3 := hcl 3 _ (by omega) rfl
   simp only [Nat.add_zero, SlP.v] at c0 c1 c2 c3
   clear hcl
   have hcn : cn ≤ 100 := HFC.out _ (List.mem_of_getElem? hc)
   have HM := hid (List.mem_of_getElem? hc)
   clear hc
   have KI := ((H.alloc_cst #[.string fnm, .bool fst, .slice cA cn cc, .slice vA vn vc] 210).add (S := SlR 4 cA cn (colCells cl)) (((H.alloc_cst #[.string fnm, .bool fst, .slice cA cn cc, .slice vA vn vc] 210).ro 3 rfl).imp fun w2 h2 => (h2.2 _ HM.out).cols)).pick [2, 1, 0, 3, 4, 5, 6] (by decide) rfl
   obtain ⟨gF, hgF⟩ : ∃ g, g = wr.heap.size := ⟨_, rfl⟩
   have K1 : Hold M (some T) w (wr.alloc (.cells #[.string fnm, .bool fst, .slice cA cn cc, .slice vA vn vc] 210)) [.own 126 10 (.slice O k cap) k (exCells outs), .cst gF 210 #[.string fnm, .bool fst, .slice cA cn cc, .slice vA vn vc], .ro (SlR 4 cA cn (colCells cl)), .cst gp 177 #[.slice (some ⟨b, o, none⟩) fn fc, .slice sA sn sc], .ro (FrsIn ⟨some ⟨b, o, none⟩, fn, fc, fl⟩), .blk gr 126 #[.int .i64 0, .int .i64 0, .bool false, .int .i64 0, .int .i64 0, .string ⟨#[]⟩, .string ⟨#[]⟩, .string ⟨#[]⟩, .slice none 0 0, .slice none 0 0], .tp T] := by rw [hgF]; exact KI
   have F1 := K1.facts
   simp only [factsL, cellsF, Nat.reduceAdd, zf, zl] at F1
   clear KI H
   have hA : cn = 0 ∨ ∃ b2 o2, cA = some ⟨b2, o2, none⟩ := by
    rcases Nat.eq_zero_or_pos cn with h0 | h0
    ·exact .inl h0
    ·obtain ⟨b2, o2, e, _⟩ := (show Rd _ _ 4 cA cn (colCells cl) from (K1.ro 2 rfl).now).2 h0
     exact .inr ⟨b2, o2, e⟩
   rcases hA with rfl | ⟨b2, o2, rfl⟩
   ·go_wp2_with fail
    rw [← hgF]
    have HGF := hid hgF
    clear hgF F1 c0 c1 c2 c3
    have HCL := hid (show cl.length = 0 from (RdC.of_sl (K1.ro 2 rfl).now).len)
    go_loopw [8, 24] (fun ov iv wr2 => ∃ (j2 k2 cap2 : Nat) (O2 : Option Addr) (outs2 : List Ex), j2 ≤ 0 ∧ iv = .int .i64 j2 ∧ ov = .slice O2 k2 cap2 ∧ k2 ≤ 200 * j + 2 * j2 ∧ AllCol outs2 ∧ Hold M (some T) w wr2 [.own 126 10 (.slice O2 k2 cap2) k2 (exCells outs2), .cst gF 210 #[.string fnm, .bool fst, .slice cA 0 cc, .slice vA vn vc], .ro (SlR 4 cA 0 (colCells cl)), .cst gp 177 #[.slice (some ⟨b, o, none⟩) fn fc, .slice sA sn sc], .ro (FrsIn ⟨some ⟨b, o, none⟩, fn, fc, fl⟩), .blk gr 126 #[.int .i64 0, .int .i64 0, .bool false, .int .i64 0, .int .i64 0, .string ⟨#[]⟩, .string ⟨#[]⟩, .string ⟨#[]⟩, .slice none 0 0, .slice none 0 0], .tp T]) (fun _ iv _ => 0 - (intOf iv).toNat)
    case atStart => exact ⟨0, k, cap, O, outs, by omega, rfl, rfl, by omega, hall, K1⟩
    case round =>
     clear K1
     obtain ⟨j2, k2, cap2, O2, outs2, hj2, rfl, rfl, hkb2, hall2, H⟩ := hrel
     obtain rfl : j2 = 0 := by omega
     have F := H.facts
     simp only [factsL, cellsF, Nat.reduceAdd, zf, zl] at F
     go_wp2_with fail
     go_roundw
     case rel => exact ⟨j + 1, k2, cap2, O2, outs2, by omega, by go_num, by first | rfl | trivial, by omega, hall2, H.pick [0, 3, 4, 5, 6] (by decide) rfl⟩
     case measure => simp [intOf]; omega

   ·go_wp2_with fail
    rw [← hgF]
    have HGF := hid hgF
    clear hgF F1 c0 c1 c2 c3
    have HCL := hid (show cl.length = cn from (RdC.of_sl (K1.ro 2 rfl).now).len)
    go_loopw [8, 24] (fun ov iv wr2 => ∃ (j2 k2 cap2 : Nat) (O2 : Option Addr) (outs2 : List Ex), j2 ≤ cn ∧ iv = .int .i64 j2 ∧ ov = .slice O2 k2 cap2 ∧ k2 ≤ 200 * j + 2 * j2 ∧ AllCol outs2 ∧ Hold M (some T) w wr2 [.own 126 10 (.slice O2 k2 cap2) k2 (exCells outs2), .cst gF 210 #[.string fnm, .bool fst, .slice (some ⟨b2, o2, none⟩) cn cc, .slice vA vn vc], .ro (SlR 4 (some ⟨b2, o2, none⟩) cn (colCells cl)), .cst gp 177 #[.slice (some ⟨b, o, none⟩) fn fc, .slice sA sn sc], .ro (FrsIn ⟨some ⟨b, o, none⟩, fn, fc, fl⟩), .blk gr 126 #[.int .i64 0, .int .i64 0, .bool false, .int .i64 0, .int .i64 0, .string ⟨#[]⟩, .string ⟨#[]⟩, .string ⟨#[]⟩, .slice none 0 0, .slice none 0 0], .tp T]) (fun _ iv _ => cn - (intOf iv).toNat)
    case atStart => exact ⟨0, k, cap, O, outs, by omega, rfl, rfl, by omega, hall, K1⟩
    case round =>
     clear K1
     obtain ⟨j2, k2, cap2, O2, outs2, hj2, rfl, rfl, hkb2, hall2, H⟩ := hrel
     by_cases hlt2 : j2 < cn
     ·obtain ⟨⟨xnm, xty, xnn, xkey⟩, hc⟩ := get_col HCL.out hlt2
      obtain ⟨b2', o2', hcA, hb2, x0, x1, x2, x3⟩ := (RdC.of_sl (H.ro 2 rfl).now).at_ hc
      obtain ⟨rfl, rfl⟩ : b2 = b2' ∧ o2 = o2' := by injection hcA with hcA; injection hcA with e1 e2; exact ⟨e1, e2⟩
      clear hcA
      simp only at x0 x1 x2 x3
      clear hc
      have K2 := H.alloc_cst #[.string xnm, .int .i64 xty, .bool xnn, .bool xkey] 158
      have F2 := K2.facts
      simp only [factsL, cellsF, Nat.reduceAdd, zf, zl] at F2
      clear H
      by_cases hty : xty = want
      ·subst hty
       go_wp2_with fail
       refine (col_any _ fnm xnm).mono ?_
       rintro e w3 ⟨rfl, b3⟩
       have K3 := K2.call b3
       rw [show (colE fnm xnm).val = .agg #[.int .i64 2, .int .i64 0, .bool false, .int .i64 0, .int .i64 0, .string ⟨#[]⟩, .string fnm, .string xnm, .slice none 0 0, .slice none 0 0] from rfl]
       clear K2 F2 b3
       have F3 := K3.facts
       simp only [factsL, cellsF, Nat.reduceAdd, zf, zl] at F3
       have hs1 : IntKind.i64.wrap ((fn : Int) - 1) = (fn : Int) - 1 := IntWalk.i64_in _ (by omega)
       cases hnf : (!fst)
       ·skip
        go_wp2_with (at_builtin; go_must (refine wpList_appH K3 1 rfl Tryz.elExG #[.int .i64 2, .int .i64 0, .bool false, .int .i64 0, .int .i64 0, .string ⟨#[]⟩, .string fnm, .string xnm, .slice none 0 0, .slice none 0 0] rfl (.tmp 32) (.tmp 38) rfl rfl _ (by first | rfl | simp) rfl rfl (by intro u hu; simp at hu; rcases hu with rfl | rfl | rfl | rfl | rfl | rfl | rfl | rfl | rfl | rfl <;> rfl) (by omega) (by omega) ?_); intro gA capA wA hcA hmA KA; rw [exCells_col (outs2) fnm xnm] at KA; simp only [zl] at KA; have FA := KA.facts; simp only [factsL, cellsF, Nat.reduceAdd, zf, zl] at FA)
        go_roundw
        case rel => exact ⟨j2 + 1, k2 + 1, capA, _, outs2 ++ [colE fnm xnm], by omega, by go_num, by first | rfl | trivial, by omega, hall2.snoc fnm xnm, KA.drop (List.sublist_cons_self _ _)⟩
        case measure => simp [intOf]; omega
       ·cases hje : ((j : Int) == (fn : Int) - 1)
        ·skip
         go_wp2_with (at_builtin; go_must (refine wpList_appH K3 1 rfl Tryz.elExG #[.int .i64 2, .int .i64 0, .bool false, .int .i64 0, .int .i64 0, .string ⟨#[]⟩, .string fnm, .string xnm, .slice none 0 0, .slice none 0 0] rfl (.tmp 32) (.tmp 38) rfl rfl _ (by first | rfl | simp) rfl rfl (by intro u hu; simp at hu; rcases hu with rfl | rfl | rfl | rfl | rfl | rfl | rfl | rfl | rfl | rfl <;> rfl) (by omega) (by omega) ?_); intro gA capA wA hcA hmA KA; rw [exCells_col (outs2) fnm xnm] at KA; simp only [zl] at KA; have FA := KA.facts; simp only [factsL, cellsF, Nat.reduceAdd, zf, zl] at FA)
         go_roundw
         case rel => exact ⟨j2 + 1, k2 + 1, capA, _, outs2 ++ [colE fnm xnm], by omega, by go_num, by first | rfl | trivial, by omega, hall2.snoc fnm xnm, KA.drop (List.sublist_cons_self _ _)⟩
         case measure => simp [intOf]; omega
        ·skip
         go_wp2_with (at_builtin; go_must (refine wpList_appH K3 1 rfl Tryz.elExG #[.int .i64 2, .int .i64 0, .bool false, .int .i64 0, .int .i64 0, .string ⟨#[]⟩, .string fnm, .string xnm, .slice none 0 0, .slice none 0 0] rfl (.tmp 32) (.tmp 38) rfl rfl _ (by first | rfl | simp) rfl rfl (by intro u hu; simp at hu; rcases hu with rfl | rfl | rfl | rfl | rfl | rfl | rfl | rfl | rfl | rfl <;> rfl) (by omega) (by omega) ?_); intro gA capA wA hcA hmA KA; rw [exCells_col (outs2) fnm xnm] at KA; simp only [zl] at KA; have FA := KA.facts; simp only [factsL, cellsF, Nat.reduceAdd, zf, zl] at FA)
         refine (col_any _ ⟨#[]⟩ xnm).mono ?_
         rintro e w4 ⟨rfl, b4⟩
         have K4 := KA.call b4
         rw [show (colE ⟨#[]⟩ xnm).val = .agg #[.int .i64 2, .int .i64 0, .bool false, .int .i64 0, .int .i64 0, .string ⟨#[]⟩, .string ⟨#[]⟩, .string xnm, .slice none 0 0, .slice none 0 0] from rfl]
         clear KA FA K3 F3 b4
         go_wp2_with (at_builtin; go_must (refine wpList_appH K4 1 rfl Tryz.elExG #[.int .i64 2, .int .i64 0, .bool false, .int .i64 0, .int .i64 0, .string ⟨#[]⟩, .string ⟨#[]⟩, .string xnm, .slice none 0 0, .slice none 0 0] rfl (.tmp 51) (.tmp 55) rfl rfl _ (by first | rfl | simp) rfl rfl (by intro u hu; simp at hu; rcases hu with rfl | rfl | rfl | rfl | rfl | rfl | rfl | rfl | rfl | rfl <;> rfl) (by omega) (by omega) ?_); intro gB capB wB hcB hmB KB; rw [exCells_col (outs2 ++ [colE fnm xnm]) ⟨#[]⟩ xnm] at KB; simp only [zl] at KB; have FB := KB.facts; simp only [factsL, cellsF, Nat.reduceAdd, zf, zl] at FB)
         go_roundw
         case rel => exact ⟨j2 + 1, k2 + 1 + 1, capB, _, outs2 ++ [colE fnm xnm] ++ [colE ⟨#[]⟩ xnm], by omega, by go_num, by first | rfl | trivial, by omega, (hall2.snoc fnm xnm).snoc ⟨#[]⟩ xnm, KB.drop (List.sublist_cons_self _ _)⟩
         case measure => simp [intOf]; omega
      ·have htb : (xty != want) = true := by simpa using hty
       go_wp2_with fail
       all_goals first
        | (exfalso; omega)
        | skip
       go_roundw
       case rel => exact ⟨j2 + 1, k2, cap2, _, outs2, by omega, by go_num, by first | rfl | trivial, by omega, hall2, K2.drop (List.sublist_cons_self _ _)⟩
       case measure => simp [intOf]; omega
     ·obtain rfl : cn = j2 := by omega
      have F := H.facts
      simp only [factsL, cellsF, Nat.reduceAdd, zf, zl] at F
      go_wp2_with fail
      go_roundw
      case rel => exact ⟨j + 1, k2, cap2, O2, outs2, by omega, by go_num, by first | rfl | trivial, by omega, hall2, H.pick [0, 3, 4, 5, 6] (by decide) rfl⟩
      case measure => simp [intOf]; omega

  ·obtain rfl : fn = j := by omega
   by_cases hk0 : k = 0
   ·subst hk0
    have K5 := H
    have F5 := K5.facts
    simp only [factsL, cellsF, Nat.reduceAdd, zf, zl] at F5
    have K6 := ((((((((((K5.store 3 rfl 0 (.int .i64 0)).store 3 rfl 1 (.int .i64 0)).store 3 rfl 2 (.bool false)).store 3 rfl 3 (.int .i64 0)).store 3 rfl 4 (.int .i64 0)).store 3 rfl 5 (.string ⟨#[]⟩)).store 3 rfl 6 (.string ⟨#[]⟩)).store 3 rfl 7 (.string ⟨#[]⟩)).store 3 rfl 8 (.slice none 0 0)).store 3 rfl 9 (.slice none 0 0))
    simp only [zl] at K6
    have F6 := K6.facts
    simp only [factsL, cellsF, Nat.reduceAdd, zf, zl] at F6
    have HT := hid (And.intro (K6.tp_ 4 rfl) K6.grow)
    clear H K5 K6
    go_wp2_with fail
    refine bodyPost_ret (v := .tuple #[.agg #[.int .i64 0, .int .i64 0, .bool false, .int .i64 0, .int .i64 0, .string ⟨#[]⟩, .string ⟨#[]⟩, .string ⟨#[]⟩, .slice none 0 0, .slice none 0 0], .bool false]) ?_ rfl ?_
    ·clear HT
     simp [results, Tryz.results153, go_sem, F6]
    ·exact ⟨zeroE, false, rfl, .inl ⟨rfl, rfl⟩, HT.out.1, HT.out.2⟩
   ·have hkk : ((k : Int) == 0) = false := by simp; omega
    have hlo : exCells outs = exCells outs := rfl
    have hcap := own_caps (H.get 0 rfl)
    obtain ⟨-, -, h0⟩ | ⟨go1, rfl, -⟩ := own_addr (H.get 0 rfl)
    ·omega
    have hlen : outs.length = k := by
     have h1 := (H.get 0 rfl).1
     rw [exCells_len] at h1
     omega
    go_wp2_with fail
    refine (next_any T k _ (H.tp_ 4 rfl) (by omega) (by omega)).mono ?_
    rintro e w3 ⟨r, rfl, r0, r1, t3, g3⟩
    have K5 := Hold.callT H 4 rfl g3 t3
    clear g3 t3
    obtain ⟨r, rfl⟩ := Int.eq_ofNat_of_zero_le r0
    have hrk : r < k := by omega
    obtain ⟨x, hx⟩ := get_anyG hlen hrk
    obtain ⟨xt, xn, rfl⟩ := hall x (List.mem_of_getElem? hx)
    have KS := K5.sealRow 0 rfl
    simp only [List.set_cons_zero] at KS
    obtain ⟨b5, o5, e5, hb5, hcl⟩ := (show Rd _ _ 10 (some ⟨go1, 0, none⟩) k (exCells outs) from (KS.ro 0 rfl).now).2 (by omega)
    obtain ⟨rfl, rfl⟩ : go1 = b5 ∧ 0 = o5 := by injection e5 with e5; injection e5 with x1 x2; exact ⟨x1, x2⟩
    have hcc : ∀ q u, q < 10 → (colE xt xn).cells[q]? = some u → w3.cell? ⟨go1, r * 10 + q, none⟩ = some u := fun q u hq hu => by
     have := hcl _ _ ((flat_get Ex.cells 10 (fun _ => rfl) outs r q (colE xt xn) hq hx).trans hu)
     simpa using this
    have y0 := hcc 0 _ (by omega) rfl
    have y1 := hcc 1 _ (by omega) rfl
    have y2 := hcc 2 _ (by omega) rfl
    have y3 := hcc 3 _ (by omega) rfl
    have y4 := hcc 4 _ (by omega) rfl
    have y5 := hcc 5 _ (by omega) rfl
    have y6 := hcc 6 _ (by omega) rfl
    have y7 := hcc 7 _ (by omega) rfl
    have y8 := hcc 8 _ (by omega) rfl
    have y9 := hcc 9 _ (by omega) rfl
    simp only [Nat.add_zero, colE, vlZ] at y0 y1 y2 y3 y4 y5 y6 y7 y8 y9
    clear hcc hcl hx
    have FS := KS.facts
    simp only [factsL, cellsF, Nat.reduceAdd, zf, zl] at FS
    have K6 := ((((((((((KS.store 3 rfl 0 (.int .i64 2)).store 3 rfl 1 (.int .i64 0)).store 3 rfl 2 (.bool false)).store 3 rfl 3 (.int .i64 0)).store 3 rfl 4 (.int .i64 0)).store 3 rfl 5 (.string ⟨#[]⟩)).store 3 rfl 6 (.string xt)).store 3 rfl 7 (.string xn)).store 3 rfl 8 (.slice none 0 0)).store 3 rfl 9 (.slice none 0 0))
    simp only [zl] at K6
    have F6 := K6.facts
    simp only [factsL, cellsF, Nat.reduceAdd, zf, zl] at F6
    have HT := hid (And.intro (K6.tp_ 4 rfl) K6.grow)
    clear H K5 K6 KS
    go_wp2_with fail
    refine bodyPost_ret (v := .tuple #[.agg #[.int .i64 2, .int .i64 0, .bool false, .int .i64 0, .int .i64 0, .string ⟨#[]⟩, .string xt, .string xn, .slice none 0 0, .slice none 0 0], .bool true]) ?_ rfl ?_
    ·clear HT
     simp [results, Tryz.results153, go_sem, F6]
    ·exact ⟨colE xt xn, true, rfl, .inr ⟨xt, xn, rfl⟩, HT.out.1, HT.out.2⟩
end Go.Proofs.YtnbbllkbefagmaaGreatDoor

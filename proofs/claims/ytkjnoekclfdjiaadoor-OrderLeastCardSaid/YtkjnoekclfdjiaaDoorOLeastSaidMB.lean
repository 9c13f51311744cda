/- StrCont: Clone and Contains over texts. -/
import Derived.Test.YtkjnoekclfdjiaaDoorOLeastSaidMA
import Derived.Test.YtkjnoekclfdjiaaDoorProg
import Derived.WalkSpells
import Derived.WalkLawsBesides
import Derived.Deep.QuietTactic
import Derived.BigQuiet
import Derived.StillTailTactics
import Derived.Test.YtkjnoekclfdjiaaDoorRows
import Derived.Deep.DeepHandedRow
import Derived.Shelf.SlGeneric
import Derived.Shelf.SlSortCmp.NoneTotal
import Derived.Shelf.SlSortCmp.WholeK
import Derived.Shelf.SortM.Plain
import Derived.Shelf.SortM.SortNone
import Derived.Shelf.SlicesG.CompactS
import Derived.Ground.SlsfProg
import Derived.Ground.SlgmProg
import Derived.Ground.SlgnProg
import Derived.Shelf.SlSortCmp.QuietGrown
import Derived.Shelf.SlSortCmp.InsertionK
import Derived.Maps.OwnOps
import Derived.Maps.Views
import Derived.DeepKeys4
import Derived.Maps.RangeWalk
import Derived.Deep.RegionHeld3
import Derived.Sort.Statements
import Derived.Shelf.SlSortCmp.Insertion
import Derived.Lib.SliceRun
namespace Go.Proofs.YtkjnoekclfdjiaaDoor
open Go.RowKit
set_option linter.unusedVariables false
set_option linter.unusedSimpArgs false

def allO (l : List Lk) (nm : ByteArray) (ps fs : List ByteArray) : List Lk := l ++ ps.map (fun s => ⟨nm, s⟩) ++ fs.map (fun s => ⟨s, nm⟩)
theorem tr_of_mem {l l' : List Lk} (h : ∀ z, z ∈ l ↔ z ∈ l') (a b : ByteArray) : Tr l a b ↔ Tr l' a b :=
  ⟨fun k => Tr.mono (fun z hz => .one ((h z).1 hz)) k, fun k => Tr.mono (fun z hz => .one ((h z).2 hz)) k⟩
theorem lks_ext : ∀ {l l' : List Lk}, LkSorted l → LkSorted l' → (∀ z, z ∈ l ↔ z ∈ l') → l = l'
  | [], [], _, _, _ => rfl
  | [], y :: l', _, _, h => nomatch (h y).2 (List.mem_cons_self ..)
  | x :: l, [], _, _, h => nomatch (h x).1 (List.mem_cons_self ..)
  | x :: l, y :: l', h1, h2, h => by
    obtain ⟨a1, a2⟩ := List.pairwise_cons.1 h1
    obtain ⟨b1, b2⟩ := List.pairwise_cons.1 h2
    have hxy : x = y := by
      rcases List.mem_cons.1 ((h x).1 (List.mem_cons_self ..)) with e | e
      · exact e
      · rcases List.mem_cons.1 ((h y).2 (List.mem_cons_self ..)) with e2 | e2
        · exact e2.symm
        · have := bef_trans (b1 x e) (a1 y e2)
          rw [bef_irrefl] at this; cases this
    subst hxy
    rw [lks_ext a2 b2 fun z => ?_]
    constructor
    · intro hz
      rcases List.mem_cons.1 ((h z).1 (List.mem_cons_of_mem _ hz)) with e | e
      · subst e; have := a1 z hz; rw [bef_irrefl] at this; cases this
      · exact e
    · intro hz
      rcases List.mem_cons.1 ((h z).2 (List.mem_cons_of_mem _ hz)) with e | e
      · subst e; have := b1 z hz; rw [bef_irrefl] at this; cases this
      · exact e
theorem sorted_step {l : List Lk} (h : LkSorted l) {i : Nat} (hi : i + 1 < l.length) : befB (lkAt l i) (lkAt l (i + 1)) = true := by
  have := List.pairwise_iff_getElem.1 h i (i + 1) (by omega) hi (by omega)
  rw [lkAt_of (List.getElem?_eq_getElem (by omega)), lkAt_of (List.getElem?_eq_getElem hi)]
  exact this
/-- a closure is valid if no link leads to itself -/
theorem clos_valid {l r : List Lk} (h : ClosOf l r) : validLk r = true ↔ ∀ z ∈ r, z.a ≠ z.b := by
  obtain ⟨hs, hm⟩ := h
  constructor
  · intro hv z hz e
    obtain ⟨i, hi, rfl⟩ := List.getElem_of_mem hz
    have := valid_at hv hi
    unfold okAt at this
    rw [lkAt_of (List.getElem?_eq_getElem hi), e] at this
    simp at this
  · intro hn
    unfold validLk
    rw [List.all_eq_true]
    intro i hi
    have hi := List.mem_range.1 hi
    have hz := List.getElem_mem hi
    unfold okAt
    rw [lkAt_of (List.getElem?_eq_getElem hi)]
    simp only [Bool.and_eq_true, Bool.or_eq_true, Bool.not_eq_true', List.all_eq_true]
    refine ⟨⟨?_, ?_⟩, fun y hy => ?_⟩
    · rw [beq_eq_false_iff_ne]; intro e; exact hn _ hz (ba_ext e)
    · rcases Nat.eq_zero_or_pos i with h0 | h0
      · left; simp [h0]
      · right
        obtain ⟨j, rfl⟩ : ∃ j, i = j + 1 := ⟨i - 1, by omega⟩
        have := sorted_step hs hi
        rwa [lkAt_of (List.getElem?_eq_getElem hi)] at this
    · unfold trB
      cases he : (r[i].b.toList == y.a.toList)
      · rfl
      · have e : r[i].b = y.a := ba_beq.1 he
        have h1 := (hm r[i].a r[i].b).1 hz
        have h2 := (hm y.a y.b).1 hy
        rw [← e] at h2
        have h3 := (hm r[i].a y.b).2 (.step h1 h2)
        simp [precB_iff.2 h3]
/-- What Add of the package answers. -/
def OAddRet (w : World) (M : Nat → Prop) (l : List Lk) (nm : ByteArray) (ps fs : List ByteArray) (e : Ending) (w' : World) : Prop :=
  Below w.heap.size w w' ∧ ((validLk l = false ∧ e = .returned (.tuple #[.slice none 0 0, .int .i64 17])) ∨
   (validLk l = true ∧ (((∃ s, Tr (allO l nm ps fs) s s) ∧ e = .returned (.tuple #[.slice none 0 0, .int .i64 13])) ∨
     ∃ r, ClosOf (allO l nm ps fs) r ∧ validLk r = true ∧ ∃ (A : Option Addr) (n c : Nat), e = .returned (.tuple #[.slice A n c, .int .i64 0]) ∧ n = r.length ∧ n ≤ c ∧ c ≤ 9223372036854775807 ∧ Ro w' M (LksIn A n r))))
theorem clos_same {l l' r r' : List Lk} (h : ∀ z, z ∈ l ↔ z ∈ l') (k : ClosOf l r) (k' : ClosOf l' r') : r = r' :=
  lks_ext k.1 k'.1 fun z => (k.2 z.a z.b).trans ((tr_of_mem h z.a z.b).trans (k'.2 z.a z.b).symm)
theorem clos_self {l r : List Lk} (h : ClosOf l r) {s : ByteArray} (k : Tr l s s) : validLk r = false := by
  cases hv : validLk r
  · rfl
  · exact absurd rfl ((clos_valid h).1 hv ⟨s, s⟩ ((h.2 s s).2 k))
end Go.Proofs.YtkjnoekclfdjiaaDoor

namespace Go.Proofs.YtkjnoekclfdjiaaDoor
open Go.RowKit
set_option linter.unusedVariables false
set_option linter.unusedSimpArgs false
section
variable {P : Program} {M : Nat → Prop} {row : Option Nat} {w0 w1 : World} {L : List Hp} {sp : SpW} {F : Act → Prop} {S0 : Array Bool}
variable {ops : Array Oper} {o : Oper} {rest : List Oper} {a : Act} {k : Nat}
/-- a call of any kind; what came since the region's start is at hand -/
theorem dw_callR {f : FuncId} {args : Array Value} (d : Tmp) (V : Value → World → Prop) (hS : S0.getD k false = false) (hw : Region.wanted o (yielded ops a.tmps) = true) (hd : o.dst = some d) (hsp : sp d = some V) (hrun : ∀ w, (execOp a.eval o).run P w = .ok (.enter f args) w)
    (hc : ∀ w, Hold M row w0 w L → RM (Mut M L) w1 w → Deps ops (GW sp) o a w → Calls P f args w fun e w' => ∃ u, e = .returned u ∧ V u w' ∧ Hold M row w0 w' L ∧ RM (Mut M L) w w') (hn : ∀ u w, Hold M row w0 w L → V u w → wpRel P ops (HC M row w0 w1 L) (GW sp) (RM (Mut M L)) S0 F (k + 1) rest (a.put (some d) u)) : wpRel P ops (HC M row w0 w1 L) (GW sp) (RM (Mut M L)) S0 F k (o :: rest) a :=
  rel_call hS hw f args d hd (fun w _ _ => hrun w) (fun w hC hD => (hc w hC.1 hC.2 hD).mono fun e' w' ⟨u, h1, h2, h3, h4⟩ => ⟨u, h1, (GW_on hsp).2 h2, ⟨h3, hC.2.trans h4⟩, h4⟩) fun u w hC hu => hn u w hC.1 ((GW_on hsp).1 hu)
end
end Go.Proofs.YtkjnoekclfdjiaaDoor

namespace Go.Proofs.YtkjnoekclfdjiaaDoor
open Go.RowKit
set_option linter.unusedVariables false

/-- A value of the store: its kind, its number, its text. -/
structure Vl where
  k : Int
  i : Int
  s : ByteArray
deriving DecidableEq

end Go.Proofs.YtkjnoekclfdjiaaDoor

namespace Go.Proofs.YtkjnoekclfdjiaaDoor
open Go.RowKit
set_option linter.unusedVariables false

section
variable {α : Type} {p : α → Bool} {l : List α} {k : Nat} {c : α}
end

section
variable {α : Type} {t : Nat → α → Bool} {l : List α} {k : Nat} {c : α}
end
end Go.Proofs.YtkjnoekclfdjiaaDoor

namespace Go.Proofs.YtkjnoekclfdjiaaDoor
open Go.RowKit
set_option linter.unusedVariables false
set_option linter.unusedSimpArgs false

def Vl.val (x : Vl) : Value := .agg #[.int .i64 x.k, .int .i64 x.i, .string x.s]
def Vl.cells (x : Vl) : List Value := [.int .i64 x.k, .int .i64 x.i, .string x.s]
def Vl.ok (x : Vl) : Prop := I64 x.k ∧ I64 x.i ∧ x.s.size ≤ maxLen
def vlCells (l : List Vl) : List Value := l.flatMap Vl.cells
theorem vlCells_len (l : List Vl) : (vlCells l).length = l.length * 3 := flat_len _ 3 (fun _ => rfl) l
def VlsIn (A : Option Addr) (n : Nat) (l : List Vl) : World → Prop := SlR 3 A n (vlCells l)
theorem VlsIn.len {w : World} {A : Option Addr} {n : Nat} {l : List Vl} (h : VlsIn A n l w) : l.length = n := by
  have := (show Rd w w.heap.size 3 A n (vlCells l) from h).1
  rw [vlCells_len] at this
  omega
theorem VlsIn.at_ {w : World} {A : Option Addr} {n : Nat} {l : List Vl} (h : VlsIn A n l w) {k : Nat} {x : Vl} (hx : l[k]? = some x) :
    ∃ b o, A = some ⟨b, o, none⟩ ∧ b < w.heap.size ∧ w.cell? ⟨b, o + k * 3, none⟩ = some (.int .i64 x.k) ∧ w.cell? ⟨b, o + k * 3 + 1, none⟩ = some (.int .i64 x.i) ∧ w.cell? ⟨b, o + k * 3 + 2, none⟩ = some (.string x.s) := by
  have hk : k < n := by rw [← h.len]; exact (List.getElem?_eq_some_iff.1 hx).1
  obtain ⟨b, o, e, hb, hc⟩ := (show Rd w w.heap.size 3 A n (vlCells l) from h).2 (by omega)
  exact ⟨b, o, e, hb, hc _ _ (flat_get Vl.cells 3 (fun _ => rfl) l k 0 x (by omega) hx), hc _ _ (flat_get Vl.cells 3 (fun _ => rfl) l k 1 x (by omega) hx), hc _ _ (flat_get Vl.cells 3 (fun _ => rfl) l k 2 x (by omega) hx)⟩
/-- A row in memory: its number, the slice of its values, the values. -/
structure Rw where
  id : Int
  A : Option Addr
  n : Nat
  c : Nat
  vs : List Vl
def Rw.cells (r : Rw) : List Value := [.int .i64 r.id, .slice r.A r.n r.c]
def rwCells (l : List Rw) : List Value := l.flatMap Rw.cells
theorem rwCells_len (l : List Rw) : (rwCells l).length = l.length * 2 := flat_len _ 2 (fun _ => rfl) l
/-- the rows' values stand in memory -/
def ValsIn (l : List Rw) (w : World) : Prop := ∀ r ∈ l, VlsIn r.A r.n r.vs w
def RwsIn (A : Option Addr) (n : Nat) (l : List Rw) (w : World) : Prop := SlR 2 A n (rwCells l) w ∧ ValsIn l w
theorem RwsIn.len {w : World} {A : Option Addr} {n : Nat} {l : List Rw} (h : RwsIn A n l w) : l.length = n := by
  have := (show Rd w w.heap.size 2 A n (rwCells l) from h.1).1
  rw [rwCells_len] at this
  omega
theorem RwsIn.at_ {w : World} {A : Option Addr} {n : Nat} {l : List Rw} (h : RwsIn A n l w) {k : Nat} {x : Rw} (hx : l[k]? = some x) :
    ∃ b o, A = some ⟨b, o, none⟩ ∧ b < w.heap.size ∧ w.cell? ⟨b, o + k * 2, none⟩ = some (.int .i64 x.id) ∧ w.cell? ⟨b, o + k * 2 + 1, none⟩ = some (.slice x.A x.n x.c) ∧ VlsIn x.A x.n x.vs w := by
  have hk : k < n := by rw [← h.len]; exact (List.getElem?_eq_some_iff.1 hx).1
  obtain ⟨b, o, e, hb, hc⟩ := (show Rd w w.heap.size 2 A n (rwCells l) from h.1).2 (by omega)
  exact ⟨b, o, e, hb, hc _ _ (flat_get Rw.cells 2 (fun _ => rfl) l k 0 x (by omega) hx), hc _ _ (flat_get Rw.cells 2 (fun _ => rfl) l k 1 x (by omega) hx), h.2 x (List.mem_of_getElem? hx)⟩
/-- a row's numbers are numbers of Go's, its slice has room -/
structure Rw.ok (r : Rw) : Prop where
  id : I64 r.id
  nc : r.n ≤ r.c
  c : r.c ≤ 9223372036854775807
  vs : ∀ v ∈ r.vs, v.ok
abbrev Row := Int × List Vl
def Rw.row (r : Rw) : Row := (r.id, r.vs)

end Go.Proofs.YtkjnoekclfdjiaaDoor

namespace Go.Proofs.YtkjnoekclfdjiaaDoor
open Go.RowKit
set_option linter.unusedVariables false
set_option linter.unusedSimpArgs false
section
variable {P : Program} {M : Nat → Prop} {row : Option Nat} {w0 w1 : World} {L : List Hp} {sp : SpW} {F : Act → Prop} {S0 : Array Bool}
variable {ops : Array Oper} {o : Oper} {rest : List Oper} {a : Act} {k : Nat}
end
end Go.Proofs.YtkjnoekclfdjiaaDoor

namespace Go.Proofs.YtkjnoekclfdjiaaDoor
open Go.RowKit
set_option linter.unusedVariables false
set_option linter.unusedSimpArgs false

end Go.Proofs.YtkjnoekclfdjiaaDoor

namespace Go.Proofs.YtkjnoekclfdjiaaDoor
open Go.RowKit
set_option linter.unusedVariables false
set_option linter.unusedSimpArgs false

end Go.Proofs.YtkjnoekclfdjiaaDoor

namespace Go.Proofs.YtkjnoekclfdjiaaDoor
open Go.RowKit
set_option linter.unusedVariables false
set_option linter.unusedSimpArgs false

end Go.Proofs.YtkjnoekclfdjiaaDoor

namespace Go.Proofs.YtkjnoekclfdjiaaDoor
open Go.RowKit
set_option linter.unusedVariables false
set_option linter.unusedSimpArgs false

def iCells (l : List Int) : List Value := l.map (.int .i64)
theorem iCells_len (l : List Int) : (iCells l).length = l.length := by simp [iCells]
def IsIn (A : Option Addr) (n : Nat) (l : List Int) : World → Prop := SlR 1 A n (iCells l)
theorem IsIn.len {w : World} {A : Option Addr} {n : Nat} {l : List Int} (h : IsIn A n l w) : l.length = n := by
  have := (show Rd w w.heap.size 1 A n (iCells l) from h).1
  rw [iCells_len] at this
  omega
theorem IsIn.cells {w : World} {A : Option Addr} {n : Nat} {l : List Int} (h : IsIn A n l w) (h0 : 0 < n) : ∃ b o, A = some ⟨b, o, none⟩ ∧ b < w.heap.size ∧ ∀ j, j < l.length → w.cell? ⟨b, o + j, none⟩ = some (.int .i64 (l.getD j 0)) := by
  obtain ⟨b, o, rfl, hb, hc⟩ := (show Rd w w.heap.size 1 A n (iCells l) from h).2 h0
  refine ⟨b, o, rfl, hb, fun j hj => hc j _ ?_⟩
  simp [iCells, List.getD, hj]
end Go.Proofs.YtkjnoekclfdjiaaDoor

namespace Go.Proofs.YtkjnoekclfdjiaaDoor
open Go.RowKit
set_option linter.unusedVariables false
set_option linter.unusedSimpArgs false

/-- A row without a number in memory: the slice of its values, the values. -/
structure Sl where
  A : Option Addr
  n : Nat
  c : Nat
  vs : List Vl
def Sl.cells (r : Sl) : List Value := [.slice r.A r.n r.c]
def slCells (l : List Sl) : List Value := l.flatMap Sl.cells
theorem slCells_len (l : List Sl) : (slCells l).length = l.length := by have := flat_len Sl.cells 1 (fun _ => rfl) l; simpa [slCells] using this
def SlsIn (A : Option Addr) (n : Nat) (l : List Sl) (w : World) : Prop := SlR 1 A n (slCells l) w ∧ ∀ r ∈ l, VlsIn r.A r.n r.vs w
theorem SlsIn.len {w : World} {A : Option Addr} {n : Nat} {l : List Sl} (h : SlsIn A n l w) : l.length = n := by
  have := (show Rd w w.heap.size 1 A n (slCells l) from h.1).1
  rw [slCells_len] at this
  omega
theorem SlsIn.at_ {w : World} {A : Option Addr} {n : Nat} {l : List Sl} (h : SlsIn A n l w) {k : Nat} {x : Sl} (hx : l[k]? = some x) :
    ∃ b o, A = some ⟨b, o, none⟩ ∧ b < w.heap.size ∧ w.cell? ⟨b, o + k, none⟩ = some (.slice x.A x.n x.c) ∧ VlsIn x.A x.n x.vs w := by
  have hk : k < n := by rw [← h.len]; exact (List.getElem?_eq_some_iff.1 hx).1
  obtain ⟨b, o, e, hb, hc⟩ := (show Rd w w.heap.size 1 A n (slCells l) from h.1).2 (by omega)
  have h0 := flat_get Sl.cells 1 (fun _ => rfl) l k 0 x (by omega) hx
  rw [Nat.mul_one, Nat.add_zero] at h0
  exact ⟨b, o, e, hb, hc _ _ h0, h.2 x (List.mem_of_getElem? hx)⟩
structure Sl.ok (r : Sl) : Prop where
  nc : r.n ≤ r.c
  c : r.c ≤ 9223372036854775807
  vs : ∀ v ∈ r.vs, v.ok
/-- An update in memory. -/
structure Pr where
  id : Int
  oA : Option Addr
  on : Nat
  oc : Nat
  old : List Vl
  nA : Option Addr
  nn : Nat
  nc : Nat
  new : List Vl
def Pr.cells (r : Pr) : List Value := [.int .i64 r.id, .slice r.oA r.on r.oc, .slice r.nA r.nn r.nc]
def prCells (l : List Pr) : List Value := l.flatMap Pr.cells
theorem prCells_len (l : List Pr) : (prCells l).length = l.length * 3 := flat_len _ 3 (fun _ => rfl) l
def PrsIn (A : Option Addr) (n : Nat) (l : List Pr) (w : World) : Prop := SlR 3 A n (prCells l) w ∧ ∀ r ∈ l, VlsIn r.oA r.on r.old w ∧ VlsIn r.nA r.nn r.new w
theorem PrsIn.len {w : World} {A : Option Addr} {n : Nat} {l : List Pr} (h : PrsIn A n l w) : l.length = n := by
  have := (show Rd w w.heap.size 3 A n (prCells l) from h.1).1
  rw [prCells_len] at this
  omega
theorem PrsIn.at_ {w : World} {A : Option Addr} {n : Nat} {l : List Pr} (h : PrsIn A n l w) {k : Nat} {x : Pr} (hx : l[k]? = some x) :
    ∃ b o, A = some ⟨b, o, none⟩ ∧ b < w.heap.size ∧ w.cell? ⟨b, o + k * 3, none⟩ = some (.int .i64 x.id) ∧ w.cell? ⟨b, o + k * 3 + 1, none⟩ = some (.slice x.oA x.on x.oc) ∧ w.cell? ⟨b, o + k * 3 + 2, none⟩ = some (.slice x.nA x.nn x.nc) ∧ VlsIn x.oA x.on x.old w ∧ VlsIn x.nA x.nn x.new w := by
  have hk : k < n := by rw [← h.len]; exact (List.getElem?_eq_some_iff.1 hx).1
  obtain ⟨b, o, e, hb, hc⟩ := (show Rd w w.heap.size 3 A n (prCells l) from h.1).2 (by omega)
  have h2 := h.2 x (List.mem_of_getElem? hx)
  exact ⟨b, o, e, hb, hc _ _ (flat_get Pr.cells 3 (fun _ => rfl) l k 0 x (by omega) hx), hc _ _ (flat_get Pr.cells 3 (fun _ => rfl) l k 1 x (by omega) hx), hc _ _ (flat_get Pr.cells 3 (fun _ => rfl) l k 2 x (by omega) hx), h2.1, h2.2⟩
structure Pr.ok (r : Pr) : Prop where
  id : I64 r.id
  oc : r.on ≤ r.oc
  oc2 : r.oc ≤ 9223372036854775807
  nc : r.nn ≤ r.nc
  nc2 : r.nc ≤ 9223372036854775807
  old : ∀ v ∈ r.old, v.ok
  new : ∀ v ∈ r.new, v.ok
end Go.Proofs.YtkjnoekclfdjiaaDoor

namespace Go.Proofs.YtkjnoekclfdjiaaDoor
open Go.RowKit
set_option linter.unusedVariables false
set_option linter.unusedSimpArgs false

theorem bytesEq {a b : ByteArray} (h : a.toList = b.toList) : a = b := Go.WideShapes.bytes_inj (by rw [← ByteArray.toList_eq, ← ByteArray.toList_eq]; exact h)
end Go.Proofs.YtkjnoekclfdjiaaDoor

namespace Go.Proofs.YtkjnoekclfdjiaaDoor
open Go.RowKit
set_option linter.unusedVariables false
set_option linter.unusedSimpArgs false

/-- a table in plain words -/
structure Tb where
  nm : ByteArray
  cs : List Col
  nx : Int
  rs : List Row
deriving DecidableEq
end Go.Proofs.YtkjnoekclfdjiaaDoor

namespace Go.Proofs.YtkjnoekclfdjiaaDoor
open Go.RowKit
set_option linter.unusedVariables false
set_option linter.unusedSimpArgs false

section
variable {M : Nat → Prop}
end
end Go.Proofs.YtkjnoekclfdjiaaDoor

namespace Go.Proofs.YtkjnoekclfdjiaaDoor
open Go.RowKit
set_option linter.unusedVariables false
set_option linter.unusedSimpArgs false

theorem mut_tpO {M : Nat → Prop} {L : List Hp} {T i : Nat} (hi : L[i]? = some (.tp T)) : ∀ b, Mut (Mut M L) [.tp T] b → Mut M L b := fun b hb => by
  rcases hb with hb | ⟨k, hk, hf⟩
  · exact hb
  · simp only [List.mem_singleton] at hk
    subst hk
    exact .inr ⟨_, List.mem_of_getElem? hi, hf⟩
def lets5 : List ByteArray := [⟨#[97]⟩, ⟨#[98]⟩, ⟨#[99]⟩, ⟨#[100]⟩, ⟨#[101]⟩]
def let5 (k : Nat) : ByteArray := lets5.getD k ⟨#[]⟩
theorem let5_mem {r : Nat} (hr : r < 5) : let5 r ∈ lets5 := by
  obtain rfl | rfl | rfl | rfl | rfl : r = 0 ∨ r = 1 ∨ r = 2 ∨ r = 3 ∨ r = 4 := by omega
  all_goals simp [let5, lets5]
theorem lets5_small : ∀ s ∈ lets5, s.size ≤ maxLen := by
  intro s hs
  unfold maxLen
  simp [lets5] at hs
  rcases hs with rfl | rfl | rfl | rfl | rfl <;> decide
/-- The table of letters. -/
def Lts (w : World) : Prop := ∀ j, j < 5 → w.cell? ⟨0, j, none⟩ = some (.string (let5 j))
theorem Lts.keep {w w' : World} (h : Lts w) (hk : w'.heap[0]? = w.heap[0]?) : Lts w' := fun j hj => (World.cell?_of_block (w := w) (a := ⟨0, j, none⟩) hk).trans (h j hj)
theorem Lts.below {w w' : World} {B : Nat} (h : Lts w) (hb : Below B w w') (hB : 0 < B) : Lts w' := h.keep (hb.block _ hB)
theorem Lts.lt {w : World} (h : Lts w) : 0 < w.heap.size := World.block_lt_of_cell? w ⟨0, 0, none⟩ (h 0 (by omega))
theorem Lts.ro {w : World} {M : Nat → Prop} (h : Lts w) (hM : ¬ M 0) : Ro w M Lts := fun w2 _ h2 => h.keep (h2 _ h.lt hM)
/-- a few letters drawn -/
def SomeRet (w : World) (T : Nat) (M : Nat → Prop) (e : Ending) (w' : World) : Prop :=
  ∃ (A : Option Addr) (n c : Nat) (ss : List ByteArray), e = .returned (.slice A n c) ∧ n ≤ 2 ∧ (∀ s ∈ ss, s ∈ lets5) ∧ Ro w' M (StrsIn A n ss) ∧ Tp w' T ∧ w.grownBy w' (some T)
theorem Tryd.elStg : ElemT Tryd.prog 32 9 1 16 (.string ⟨#[]⟩) := ⟨Tryd.underlying32, by kernel_rfl, rfl, by omega⟩
set_option maxHeartbeats 4000000 in
set_option maxRecDepth 100000 in
theorem some_any (M : Nat → Prop) (T : Nat) (w : World) (hM : ∀ b, M b → b < w.heap.size) (ht : Tp w T) (hMT : ∀ b, M b → T ≤ b) (hL : Ro w (Mut M [.tp T]) Lts) :
    Calls Tryd.prog 10 #[.pointer (some ⟨T, 0, none⟩)] w fun e w' => SomeRet w T M e w' := by
  have K0 := ((Hold.startT M w T hM ht hMT).add hL).nil 9 1
  clear hL
  go_enter Tryd.func10, Tryd.ntmps10
  go_wp2_with fail
  refine (next_any T 3 _ (K0.tp_ 2 rfl) (by omega) (by omega)).mono ?_
  rintro e w1 ⟨n, rfl, n0, n1, t1, g1⟩
  have K1 := Hold.callT K0 2 rfl g1 t1
  clear g1 t1 K0
  obtain ⟨n, rfl⟩ := Int.eq_ofNat_of_zero_le n0
  go_wp2_with fail
  go_loopw [3, 4] (fun v i wr => ∃ (k q cap : Nat) (A : Option Addr) (ss : List ByteArray), i = .int .i64 k ∧ v = .slice A q cap ∧ q + k = n ∧ Hid (∀ s ∈ ss, s ∈ lets5) ∧ Hold M (some T) w wr [.own 9 1 (.slice A q cap) q (strsCells ss), .ro Lts, .tp T]) (fun _ i _ => (intOf i).toNat)
  case atStart => exact ⟨n, 0, 0, none, [], rfl, rfl, by omega, hid (fun s hs => nomatch hs), K1⟩
  case round =>
    clear K1
    obtain ⟨k, q, cap, A, ss, rfl, rfl, hqk, HS, H⟩ := hrel
    by_cases hlt : 0 < k
    · obtain ⟨k, rfl⟩ : ∃ k', k = k' + 1 := ⟨k - 1, by omega⟩
      have hd : decide (((k + 1 : Nat) : Int) > 0) = true := by rw [decide_eq_true_iff]; omega
      clear hlt
      go_wp2_with fail
      refine (next_any T 5 _ (H.tp_ 2 rfl) (by omega) (by omega)).mono ?_
      rintro e w2 ⟨r, rfl, r0, r1, t2, g2⟩
      have K2 := Hold.callT H 2 rfl g2 t2
      clear H g2 t2
      obtain ⟨r, rfl⟩ := Int.eq_ofNat_of_zero_le r0
      have hc := (K2.ro 1 rfl).now r (by omega)
      have HM := hid (let5_mem (show r < 5 by omega))
      go_wp2_with (at_builtin; go_must (refine wpList_appH K2 0 rfl Tryd.elStg #[.string (let5 r)] rfl (.tmp 11) (.tmp 16) rfl rfl _ (by first | rfl | simp) rfl rfl (by intro u hu; simp at hu; rcases hu with rfl; rfl) (by omega) (by omega) ?_); intro g9 cap9 w9 hc9 hm9 KB; simp only [List.set_cons_zero, List.set_cons_succ] at KB)
      go_roundw
      case rel => exact ⟨k, q + 1, cap9, _, ss ++ [let5 r], by go_num, rfl, by omega, hid (fun s hs => by
        rcases List.mem_append.1 hs with hs | hs
        · exact HS.out s hs
        · simp at hs; subst hs; exact HM.out), by rw [show strsCells (ss ++ [let5 r]) = strsCells ss ++ (#[Value.string (let5 r)]).toList by simp [strsCells]]; exact KB⟩
      case measure => simp [intOf] <;> omega
    · obtain rfl : k = 0 := by omega
      have KS := H.sealRow 0 rfl
      simp only [List.set_cons_zero] at KS
      go_wp2_with fail
      go_ret
      exact ⟨A, q, cap, ss, rfl, by omega, HS.out, KS.roOut 0 rfl, KS.tp_ 2 rfl, KS.grow⟩
/-- an order drawn: valid, over the letters -/
def OMadeRet (w : World) (T : Nat) (M : Nat → Prop) (e : Ending) (w' : World) : Prop :=
  ∃ (B : Option Addr) (m d : Nat) (l : List Lk), e = .returned (.slice B m d) ∧ m ≤ 25 ∧ m ≤ d ∧ d ≤ 9223372036854775807 ∧ validLk l = true ∧ NamesIn lets5 l ∧ Ro w' M (LksIn B m l) ∧ Tp w' T ∧ w.grownBy w' (some T)
def OSlot (M : Nat → Prop) (u : Value) (w : World) : Prop :=
  (∃ ec : Int, u = .tuple #[.slice none 0 0, .int .i64 ec] ∧ (ec == 0) = false) ∨
  ∃ (A : Option Addr) (n c : Nat) (r : List Lk), u = .tuple #[.slice A n c, .int .i64 0] ∧ NamesIn lets5 r ∧ validLk r = true ∧ n ≤ c ∧ c ≤ 9223372036854775807 ∧ Ro w M (LksIn A n r)
theorem oSlot_mono {M : Nat → Prop} (u : Value) (w w' : World) (hr : RM M w w') (h : OSlot M u w) : OSlot M u w' := by
  rcases h with h | ⟨A, n, c, r, h1, h2, h3, h4, h5, h6⟩
  · exact .inl h
  · exact .inr ⟨A, n, c, r, h1, h2, h3, h4, h5, hr.ro h6⟩
def SomeSlot (M : Nat → Prop) (u : Value) (w : World) : Prop := ∃ (A : Option Addr) (n c : Nat) (ss : List ByteArray), u = .slice A n c ∧ n ≤ 2 ∧ (∀ s ∈ ss, s ∈ lets5) ∧ Ro w M (StrsIn A n ss)
theorem someSlot_mono {M : Nat → Prop} (u : Value) (w w' : World) (hr : RM M w w') (h : SomeSlot M u w) : SomeSlot M u w' := by
  obtain ⟨A, n, c, ss, h1, h2, h3, h4⟩ := h
  exact ⟨A, n, c, ss, h1, h2, h3, hr.ro h4⟩
theorem addS_names {l : List Lk} {nm : ByteArray} {ps fs ns : List ByteArray} (hl : LkSorted l) (h : NamesIn ns l) (hn : nm ∈ ns) (hp : ∀ s ∈ ps, s ∈ ns) (hf : ∀ s ∈ fs, s ∈ ns) : NamesIn ns (addS l nm ps fs) :=
  insMany_names (insMany_spec _ _ l hl).1 (insMany_names hl h fun y hy => ⟨hn, hp y hy⟩) fun y hy => ⟨hf y hy, hn⟩
theorem clos_names {l r : List Lk} {ns : List ByteArray} (h : ClosOf l r) (hn : NamesIn ns l) : NamesIn ns r := fun z hz => Tr.names hn ((h.2 z.a z.b).1 hz)
set_option maxHeartbeats 8000000 in
set_option maxRecDepth 100000 in
theorem omade_any (M : Nat → Prop) (T : Nat) (w : World) (hM : ∀ b, M b → b < w.heap.size) (ht : Tp w T) (hMT : ∀ b, M b → T ≤ b) (hL : Ro w (Mut M [.tp T]) Lts) :
    Calls Tryd.prog 7 #[.pointer (some ⟨T, 0, none⟩)] w fun e w' => OMadeRet w T M e w' := by
  have K0 := (Hold.startT M w T hM ht hMT).add hL
  clear hL
  go_enter Tryd.func7, Tryd.ntmps7
  go_wp2_with fail
  refine (next_any T 6 _ (K0.tp_ 1 rfl) (by omega) (by omega)).mono ?_
  rintro e w1 ⟨n, rfl, n0, n1, t1, g1⟩
  have K1 := (Hold.callT K0 1 rfl g1 t1).add (S := LksIn none 0 []) ro_nil
  clear g1 t1 K0
  obtain ⟨n, rfl⟩ := Int.eq_ofNat_of_zero_le n0
  go_wp2_with fail
  go_loopw [3, 4] (fun v i wr => ∃ (k m c : Nat) (A2 : Option Addr) (l : List Lk), i = .int .i64 k ∧ k ≤ 6 ∧ v = .slice A2 m c ∧ m ≤ c ∧ c ≤ 9223372036854775807 ∧ Hid (NamesIn lets5 l ∧ validLk l = true) ∧ Hold M (some T) w wr [.ro (LksIn A2 m l), .ro Lts, .tp T]) (fun _ i _ => (intOf i).toNat)
  case atStart => exact ⟨n, 0, 0, none, [], rfl, by omega, rfl, by omega, by omega, hid ⟨fun z hz => (by cases hz), by decide⟩, K1⟩
  case round =>
    clear K1 n1 n0
    obtain ⟨k, m, c, A2, l, rfl, hk, rfl, hmc, hcm, HV, H⟩ := hrel
    have hml : m ≤ 25 := by
      rw [← (H.ro 0 rfl).now.len]
      exact HV.out.1.len (valid_sorted HV.out.2)
    by_cases hlt : 0 < k
    · obtain ⟨k, rfl⟩ : ∃ k', k = k' + 1 := ⟨k - 1, by omega⟩
      have hd : decide (((k + 1 : Nat) : Int) > 0) = true := by rw [decide_eq_true_iff]; omega
      clear hlt
      go_wp2_with fail
      refine wp_region_any (by kernel_rfl) ?_
      refine wpAny_holdC 10 30 ([.ro (LksIn A2 m l), .ro Lts, .tp T]) (spL [(16, fun u _ => NatB 5 u), (20, SomeSlot (Mut M [.ro (LksIn A2 m l), .ro Lts, .tp T])), (22, SomeSlot (Mut M [.ro (LksIn A2 m l), .ro Lts, .tp T])), (23, OSlot (Mut M [.ro (LksIn A2 m l), .ro Lts, .tp T]))]) (by kernel_rfl) (by kernel_rfl) (by kernel_rfl) rfl ?_ (H.drew) ?_
      · exact stays_cons (fun _ _ _ _ h => h) (stays_cons someSlot_mono (stays_cons someSlot_mono (stays_cons oSlot_mono (stays_nil _))))
      simp only [List.take_succ_cons, List.take_zero, List.drop_succ_cons, List.drop_zero, Act.put, List.getElem_toArray, List.getElem_cons_zero, List.getElem_cons_succ, List.setIfInBounds_toArray, List.set_cons_succ, List.set_cons_zero]
      refine dw_val rfl rfl rfl ?_; apply Exists.intro; refine ⟨fun wv HC => ?_, ?_⟩
      ·  go_simp <;> rfl
      simp only [Act.put, List.setIfInBounds_toArray, List.set_cons_succ, List.set_cons_zero]
      refine dw_val rfl rfl rfl ?_; apply Exists.intro; refine ⟨fun wv HC => ?_, ?_⟩
      ·  go_simp <;> rfl
      simp only [Act.put, List.setIfInBounds_toArray, List.set_cons_succ, List.set_cons_zero]
      refine dw_next 5 2 rfl 16 rfl rfl rfl rfl (fun wv => ?_) ?_
      · go_simp <;> rfl
      rintro r hr
      simp only [Act.put, List.setIfInBounds_toArray, List.set_cons_succ, List.set_cons_zero]
      have r4 : (r : Int) < 5 := by omega
      have r0 : (0 : Int) ≤ (r : Int) := by omega
      refine dw_val rfl rfl rfl ?_; apply Exists.intro; refine ⟨fun wv HC => ?_, ?_⟩
      ·  go_simp <;> rfl
      simp only [Act.put, List.setIfInBounds_toArray, List.set_cons_succ, List.set_cons_zero]
      refine dw_val rfl rfl rfl ?_; apply Exists.intro; refine ⟨fun wv HC => ?_, ?_⟩
      · have hc := (HC.ro 1 rfl).now r hr; go_simp <;> rfl
      simp only [Act.put, List.setIfInBounds_toArray, List.set_cons_succ, List.set_cons_zero]
      refine dw_val rfl rfl rfl ?_; apply Exists.intro; refine ⟨fun wv HC => ?_, ?_⟩
      ·  go_simp <;> rfl
      simp only [Act.put, List.setIfInBounds_toArray, List.set_cons_succ, List.set_cons_zero]
      refine dw_callR 20 (SomeSlot (Mut M [.ro (LksIn A2 m l), .ro Lts, .tp T])) (f := 10) (args := #[.pointer (some ⟨T, 0, none⟩)]) rfl rfl rfl rfl (fun wv => ?_) (fun wv HC hrm hD => ?_) ?_
      · go_simp <;> rfl
      · refine (some_any (Mut M _) T wv HC.mutLt (HC.tp_ 2 rfl) (HC.get 2 rfl).2 ((HC.ro 1 rfl).less (mut_tpO (i := 2) rfl))).mono ?_
        rintro e w5 ⟨A5, n5, c5, ss5, rfl, h1, h2, h3, t5, g5⟩
        exact ⟨_, rfl, ⟨A5, n5, c5, ss5, rfl, h1, h2, h3⟩, Hold.callT HC 2 rfl g5 t5, RM.grown g5 (.inr ⟨_, List.mem_of_getElem? (i := 2) rfl, rfl⟩)⟩
      rintro u1 wx HCx ⟨A5, n5, c5, ss5, rfl, -, -, -⟩
      clear HCx
      simp only [Act.put, List.setIfInBounds_toArray, List.set_cons_succ, List.set_cons_zero]
      refine dw_val rfl rfl rfl ?_; apply Exists.intro; refine ⟨fun wv HC => ?_, ?_⟩
      ·  go_simp <;> rfl
      simp only [Act.put, List.setIfInBounds_toArray, List.set_cons_succ, List.set_cons_zero]
      refine dw_callR 22 (SomeSlot (Mut M [.ro (LksIn A2 m l), .ro Lts, .tp T])) (f := 10) (args := #[.pointer (some ⟨T, 0, none⟩)]) rfl rfl rfl rfl (fun wv => ?_) (fun wv HC hrm hD => ?_) ?_
      · go_simp <;> rfl
      · refine (some_any (Mut M _) T wv HC.mutLt (HC.tp_ 2 rfl) (HC.get 2 rfl).2 ((HC.ro 1 rfl).less (mut_tpO (i := 2) rfl))).mono ?_
        rintro e w5 ⟨A6, n6, c6, ss6, rfl, h1, h2, h3, t5, g5⟩
        exact ⟨_, rfl, ⟨A6, n6, c6, ss6, rfl, h1, h2, h3⟩, Hold.callT HC 2 rfl g5 t5, RM.grown g5 (.inr ⟨_, List.mem_of_getElem? (i := 2) rfl, rfl⟩)⟩
      rintro u2 wx HCx ⟨A6, n6, c6, ss6, rfl, -, -, -⟩
      clear HCx
      simp only [Act.put, List.setIfInBounds_toArray, List.set_cons_succ, List.set_cons_zero]
      refine dw_callR 23 (OSlot (Mut M [.ro (LksIn A2 m l), .ro Lts, .tp T])) (f := 19) (args := #[.slice A2 m c, .string (let5 r), .slice A5 n5 c5, .slice A6 n6 c6]) rfl rfl rfl rfl (fun wv => ?_) (fun wv HC hrm hD => ?_) ?_
      · go_simp <;> rfl
      · have hs1 : SomeSlot _ (.slice A5 n5 c5) wv := deps_at hD 6 rfl (by kernel_rfl) rfl rfl
        have hs2 : SomeSlot _ (.slice A6 n6 c6) wv := deps_at hD 8 rfl (by kernel_rfl) rfl rfl
        obtain ⟨A7, n7, c7, s7, e7, a7, b7, r7⟩ := hs1
        obtain ⟨A8, n8, c8, s8, e8, a8, b8, r8⟩ := hs2
        injection e7 with q1 q2 q3
        injection e8 with p1 p2 p3
        subst q1 q2 q3 p1 p2 p3
        refine (radd_any _ wv HC.mutLt A2 m c l (let5 r) A5 n5 c5 s7 A6 n6 c6 s8 lets5 (HC.ro 0 rfl) r7 r8 HV.out.1 (let5_mem hr) b7 b8 (by decide) (by omega) (by omega) (by omega)).mono ?_
        rintro e w' ⟨hb, hcase⟩
        rcases hcase with ⟨_, rfl⟩ | ⟨hvl, rr, hcl, ⟨_, rfl⟩ | ⟨hvr, A9, n9, c9, rfl, h5, h6, h7, h8⟩⟩
        · exact ⟨_, rfl, .inl ⟨17, rfl, by decide⟩, HC.call hb, RM.below hb⟩
        · exact ⟨_, rfl, .inl ⟨13, rfl, by decide⟩, HC.call hb, RM.below hb⟩
        · exact ⟨_, rfl, .inr ⟨A9, n9, c9, rr, rfl, clos_names hcl (addS_names (valid_sorted hvl) HV.out.1 (let5_mem hr) b7 b8), hvr, h6, h7, h8⟩, HC.call hb, RM.below hb⟩
      rintro u wu HCu _
      simp only [Act.put, List.setIfInBounds_toArray, List.set_cons_succ, List.set_cons_zero]
      refine rel_nil ?_
      rintro wx HX _hrm HG
      simp only [List.length_cons, List.length_nil, Nat.reduceAdd, Nat.reduceSub]
      have hu : OSlot (Mut M [.ro (LksIn A2 m l), .ro Lts, .tp T]) u wx := (GW_on (d := 23) rfl).1 (HG 9 _ rfl (by omega))
      clear HG HCu
      rcases hu with ⟨ec, rfl, hec⟩ | ⟨A5, n5, c5, rr, rfl, hn5, hv5, h55, h56, r5⟩
      · have _hh := hec
        refine wpAny_take (i := 10) (v := .tuple #[.slice none 0 0, .int .i64 ec]) rfl (by kernel_rfl) (by kernel_rfl) (by kernel_rfl) (fun _ _ _ h => h) (Or.inl ⟨by rfl, fun w => ?_⟩) ?_
        · go_simp
        simp only [Act.put, List.getElem_toArray, List.getElem_cons_zero, List.getElem_cons_succ, List.setIfInBounds_toArray, List.set_cons_succ, List.set_cons_zero]
        refine wpAny_take (i := 11) (v := .slice none 0 0) rfl (by kernel_rfl) (by kernel_rfl) (by kernel_rfl) (fun _ _ _ h => h) (Or.inl ⟨by rfl, fun w => ?_⟩) ?_
        · go_simp
        simp only [Act.put, List.getElem_toArray, List.getElem_cons_zero, List.getElem_cons_succ, List.setIfInBounds_toArray, List.set_cons_succ, List.set_cons_zero]
        refine wpAny_take (i := 13) (v := .slice none 0 0) rfl (by kernel_rfl) (by kernel_rfl) (by kernel_rfl) (fun _ _ _ h => h) (Or.inl ⟨by rfl, fun w => ?_⟩) ?_
        · go_simp
        simp only [Act.put, List.getElem_toArray, List.getElem_cons_zero, List.getElem_cons_succ, List.setIfInBounds_toArray, List.set_cons_succ, List.set_cons_zero]
        refine wpAny_take (i := 12) (v := .int .i64 ec) rfl (by kernel_rfl) (by kernel_rfl) (by kernel_rfl) (fun _ _ _ h => h) (Or.inl ⟨by rfl, fun w => ?_⟩) ?_
        · go_simp
        simp only [Act.put, List.getElem_toArray, List.getElem_cons_zero, List.getElem_cons_succ, List.setIfInBounds_toArray, List.set_cons_succ, List.set_cons_zero]
        refine wpAny_take (i := 14) (v := .int .i64 ec) rfl (by kernel_rfl) (by kernel_rfl) (by kernel_rfl) (fun _ _ _ h => h) (Or.inl ⟨by rfl, fun w => ?_⟩) ?_
        · go_simp
        simp only [Act.put, List.getElem_toArray, List.getElem_cons_zero, List.getElem_cons_succ, List.setIfInBounds_toArray, List.set_cons_succ, List.set_cons_zero]
        refine wpAny_done (by kernel_rfl) ?_ _
        go_wp2_with fail
        go_roundw
        case rel => exact ⟨k, m, c, A2, l, by go_num, by omega, rfl, hmc, hcm, HV, HX⟩
        case measure => simp [intOf] <;> omega
      · have HV5 := hid (And.intro hn5 hv5)
        have K5 := (HX.add r5).drop (List.Sublist.cons_cons _ (List.sublist_cons_self _ _))
        refine wpAny_take (i := 10) (v := .tuple #[.slice A5 n5 c5, .int .i64 0]) rfl (by kernel_rfl) (by kernel_rfl) (by kernel_rfl) (fun _ _ _ h => h) (Or.inl ⟨by rfl, fun w => ?_⟩) ?_
        · go_simp
        simp only [Act.put, List.getElem_toArray, List.getElem_cons_zero, List.getElem_cons_succ, List.setIfInBounds_toArray, List.set_cons_succ, List.set_cons_zero]
        refine wpAny_take (i := 11) (v := .slice A5 n5 c5) rfl (by kernel_rfl) (by kernel_rfl) (by kernel_rfl) (fun _ _ _ h => h) (Or.inl ⟨by rfl, fun w => ?_⟩) ?_
        · go_simp
        simp only [Act.put, List.getElem_toArray, List.getElem_cons_zero, List.getElem_cons_succ, List.setIfInBounds_toArray, List.set_cons_succ, List.set_cons_zero]
        refine wpAny_take (i := 13) (v := .slice A5 n5 c5) rfl (by kernel_rfl) (by kernel_rfl) (by kernel_rfl) (fun _ _ _ h => h) (Or.inl ⟨by rfl, fun w => ?_⟩) ?_
        · go_simp
        simp only [Act.put, List.getElem_toArray, List.getElem_cons_zero, List.getElem_cons_succ, List.setIfInBounds_toArray, List.set_cons_succ, List.set_cons_zero]
        refine wpAny_take (i := 12) (v := .int .i64 0) rfl (by kernel_rfl) (by kernel_rfl) (by kernel_rfl) (fun _ _ _ h => h) (Or.inl ⟨by rfl, fun w => ?_⟩) ?_
        · go_simp
        simp only [Act.put, List.getElem_toArray, List.getElem_cons_zero, List.getElem_cons_succ, List.setIfInBounds_toArray, List.set_cons_succ, List.set_cons_zero]
        refine wpAny_take (i := 14) (v := .int .i64 0) rfl (by kernel_rfl) (by kernel_rfl) (by kernel_rfl) (fun _ _ _ h => h) (Or.inl ⟨by rfl, fun w => ?_⟩) ?_
        · go_simp
        simp only [Act.put, List.getElem_toArray, List.getElem_cons_zero, List.getElem_cons_succ, List.setIfInBounds_toArray, List.set_cons_succ, List.set_cons_zero]
        refine wpAny_done (by kernel_rfl) ?_ _
        go_wp2_with fail
        go_roundw
        case rel => exact ⟨k, n5, c5, A5, rr, by go_num, by omega, rfl, h55, h56, HV5, K5⟩
        case measure => simp [intOf] <;> omega
    · obtain rfl : k = 0 := by omega
      go_wp2_with fail
      go_ret
      exact ⟨A2, m, c, l, rfl, hml, hmc, hcm, HV.out.2, HV.out.1, H.roOut 0 rfl, H.tp_ 2 rfl, H.grow⟩
end Go.Proofs.YtkjnoekclfdjiaaDoor

namespace Go.Proofs.YtkjnoekclfdjiaaDoor
open Go.ChangeShapes Go.WideShapes Go.ChangeAt Go.RowKit
set_option linter.unusedVariables false
set_option linter.unusedSimpArgs false

theorem gLets : Tryd.prog.globalNamed "triggerstore/triggerstorelaw18.letters" = some 0 := by kernel_rfl
theorem gLetsType : (Tryd.prog.globals[0]?).map (·.type) = some 30 := by kernel_rfl
def letBytes : List (List UInt8) := [[97], [98], [99], [100], [101]]
theorem lts_of_laid {W : World} {rest : List (String × DataW Unit)} (h : laidMet Tryd.prog (("triggerstore/triggerstorelaw18.letters", Rows.laid_triggerstore_triggerstorelaw18_letters) :: rest) W) : Lts W := by
  intro j hj
  obtain ⟨s, h1, h2, _⟩ := strs_of_head (bs := letBytes) (rest := rest) gLets gLetsType Tryd.underlying30 Tryd.underlying9 (by kernel_rfl) h j hj
  rw [h1]
  have : s = let5 j := by
    have h3 : s.data.toList = ((letBytes[j]?).getD []) := by rw [h2]; rfl
    have h4 : s = ⟨(s.data.toList).toArray⟩ := by simp
    rw [h4, h3]
    obtain rfl | rfl | rfl | rfl | rfl : j = 0 ∨ j = 1 ∨ j = 2 ∨ j = 3 ∨ j = 4 := by omega
    all_goals rfl
  rw [this]

/-- A world for the witness of a row: the settled one, the table of letters laid. -/
noncomputable def letsWorld (os : Os) : World :=
  { World.holding Tryd.prog os ⟨#[], #[], []⟩ with heap := (World.holding Tryd.prog os ⟨#[], #[], []⟩).heap.modify 0 fun
      | .cells _ t frozen => .cells #[.string ⟨#[97]⟩, .string ⟨#[98]⟩, .string ⟨#[99]⟩, .string ⟨#[100]⟩, .string ⟨#[101]⟩] t frozen
      | o => o }
end Go.Proofs.YtkjnoekclfdjiaaDoor

namespace Go.Proofs
open Go.Shelf
def Tryd.sortLk_ren : Go.Shelf.Ren := ⟨fun | 6 => 21 | 15 => 37 | 14 => 36 | 28 => 53 | 29 => 54 | 20 => 45 | 21 => 46 | 22 => 47 | 23 => 48 | 24 => 49 | 25 => 50 | 26 => 51 | 27 => 52 | 46 => 57 | 47 => 58 | 48 => 59 | 49 => 60 | 50 => 61 | 57 => 71 | n => n, fun | 22 => 25 | 24 => 41 | 25 => 51 | 3 => 3 | 39 => 62 | 0 => 0 | 53 => 78 | 55 => 80 | 4 => 4 | 46 => 71 | 45 => 70 | 50 => 75 | 5 => 5 | 9 => 9 | 66 => 83 | 70 => 87 | 76 => 95 | 77 => 96 | n => n, fun | n => n⟩
theorem Tryd.sortLk : Go.Proofs.SlLaysF0.n6 Tryd.prog Tryd.sortLk_ren := {
  mixed := by kernel_rfl
  f6 := ⟨Tryd.f21.name, by decide, Tryd.func21.trans (congrArg some (by kernel_rfl))⟩
  f14 := ⟨Tryd.f36.name, by decide, Tryd.func36.trans (congrArg some (by kernel_rfl))⟩
  f15 := Tryd.func37.trans (congrArg some (by kernel_rfl))
  f20 := ⟨Tryd.f45.name, by decide, Tryd.func45.trans (congrArg some (by kernel_rfl))⟩
  f21 := ⟨Tryd.f46.name, by decide, Tryd.func46.trans (congrArg some (by kernel_rfl))⟩
  f22 := ⟨Tryd.f47.name, by decide, Tryd.func47.trans (congrArg some (by kernel_rfl))⟩
  f23 := ⟨Tryd.f48.name, by decide, Tryd.func48.trans (congrArg some (by kernel_rfl))⟩
  f24 := ⟨Tryd.f49.name, by decide, Tryd.func49.trans (congrArg some (by kernel_rfl))⟩
  f25 := ⟨Tryd.f50.name, by decide, Tryd.func50.trans (congrArg some (by kernel_rfl))⟩
  f26 := ⟨Tryd.f51.name, by decide, Tryd.func51.trans (congrArg some (by kernel_rfl))⟩
  f27 := ⟨Tryd.f52.name, by decide, Tryd.func52.trans (congrArg some (by kernel_rfl))⟩
  f28 := Tryd.func53.trans (congrArg some (by kernel_rfl))
  f29 := Tryd.func54.trans (congrArg some (by kernel_rfl))
  f46 := ⟨Tryd.f57.name, by decide, Tryd.func57.trans (congrArg some (by kernel_rfl))⟩
  f47 := Tryd.func58.trans (congrArg some (by kernel_rfl))
  f48 := Tryd.func59.trans (congrArg some (by kernel_rfl))
  f49 := ⟨Tryd.f60.name, by decide, Tryd.func60.trans (congrArg some (by kernel_rfl))⟩
  f50 := ⟨Tryd.f61.name, by decide, Tryd.func61.trans (congrArg some (by kernel_rfl))⟩
  f57 := ⟨Tryd.f71.name, by decide, Tryd.func71.trans (congrArg some (by kernel_rfl))⟩
  t0 := Tryd.underlying0
  a0 := Tryd.isAgg0
  z0 := Tryd.sizeOf0
  v0 := Tryd.zeroValue0
  t3 := Tryd.underlying3
  a3 := Tryd.isAgg3
  z3 := Tryd.sizeOf3
  v3 := Tryd.zeroValue3
  t4 := Tryd.underlying4
  a4 := Tryd.isAgg4
  z4 := Tryd.sizeOf4
  v4 := Tryd.zeroValue4
  t5 := Tryd.underlying5
  a5 := Tryd.isAgg5
  z5 := Tryd.sizeOf5
  v5 := Tryd.zeroValue5
  t9 := Tryd.underlying9
  a9 := Tryd.isAgg9
  z9 := Tryd.sizeOf9
  v9 := Tryd.zeroValue9
  t22 := Tryd.underlying25
  a22 := Tryd.isAgg25
  z22 := Tryd.sizeOf25
  v22 := Tryd.zeroValue25
  t25 := Tryd.underlying51
  a25 := Tryd.isAgg51
  z25 := Tryd.sizeOf51
  v25 := Tryd.zeroValue51
  t39 := Tryd.underlying62
  a39 := Tryd.isAgg62
  z39 := Tryd.sizeOf62
  v39 := Tryd.zeroValue62
  t45 := Tryd.underlying70
  a45 := Tryd.isAgg70
  z45 := Tryd.sizeOf70
  v45 := Tryd.zeroValue70
  t46 := Tryd.underlying71
  a46 := Tryd.isAgg71
  z46 := Tryd.sizeOf71
  v46 := Tryd.zeroValue71
  t50 := Tryd.underlying75
  a50 := Tryd.isAgg75
  z50 := Tryd.sizeOf75
  v50 := Tryd.zeroValue75
  t53 := Tryd.underlying78
  a53 := Tryd.isAgg78
  z53 := Tryd.sizeOf78
  v53 := Tryd.zeroValue78
  t55 := Tryd.underlying80
  a55 := Tryd.isAgg80
  z55 := Tryd.sizeOf80
  v55 := Tryd.zeroValue80
  t66 := Tryd.underlying83
  a66 := Tryd.isAgg83
  z66 := Tryd.sizeOf83
  v66 := Tryd.zeroValue83
  t70 := Tryd.underlying87
  a70 := Tryd.isAgg87
  z70 := Tryd.sizeOf87
  v70 := Tryd.zeroValue87
  t76 := Tryd.underlying95
  a76 := Tryd.isAgg95
  z76 := Tryd.sizeOf95
  v76 := Tryd.zeroValue95
  t77 := Tryd.underlying96
  a77 := Tryd.isAgg96
  z77 := Tryd.sizeOf96
  v77 := Tryd.zeroValue96 }
def Tryd.sortStr_ren : Go.Shelf.Ren := ⟨fun | 6 => 43 | 8 => 37 | 9 => 56 | 19 => 53 | 20 => 54 | 21 => 62 | 22 => 63 | 23 => 64 | 24 => 65 | 25 => 66 | 26 => 67 | 27 => 68 | 28 => 69 | 29 => 70 | 36 => 72 | 31 => 58 | 32 => 59 | 37 => 73 | 38 => 74 | 39 => 55 | 41 => 75 | n => n, fun | 27 => 32 | 29 => 9 | 3 => 3 | 32 => 62 | 26 => 32 | 0 => 0 | 44 => 78 | 46 => 80 | 4 => 4 | 36 => 71 | 35 => 70 | 41 => 75 | 5 => 5 | 9 => 9 | 53 => 83 | 57 => 87 | 63 => 95 | 64 => 96 | n => n, fun | n => n⟩
theorem Tryd.sortStr : Go.Proofs.SlLaysM.n6 Tryd.prog Tryd.sortStr_ren := {
  mixed := by kernel_rfl
  f6 := ⟨Tryd.f43.name, by decide, Tryd.func43.trans (congrArg some (by kernel_rfl))⟩
  f8 := Tryd.func37.trans (congrArg some (by kernel_rfl))
  f9 := ⟨Tryd.f56.name, by decide, Tryd.func56.trans (congrArg some (by kernel_rfl))⟩
  f19 := Tryd.func53.trans (congrArg some (by kernel_rfl))
  f20 := Tryd.func54.trans (congrArg some (by kernel_rfl))
  f21 := ⟨Tryd.f62.name, by decide, Tryd.func62.trans (congrArg some (by kernel_rfl))⟩
  f22 := ⟨Tryd.f63.name, by decide, Tryd.func63.trans (congrArg some (by kernel_rfl))⟩
  f23 := ⟨Tryd.f64.name, by decide, Tryd.func64.trans (congrArg some (by kernel_rfl))⟩
  f24 := ⟨Tryd.f65.name, by decide, Tryd.func65.trans (congrArg some (by kernel_rfl))⟩
  f25 := ⟨Tryd.f66.name, by decide, Tryd.func66.trans (congrArg some (by kernel_rfl))⟩
  f26 := ⟨Tryd.f67.name, by decide, Tryd.func67.trans (congrArg some (by kernel_rfl))⟩
  f27 := ⟨Tryd.f68.name, by decide, Tryd.func68.trans (congrArg some (by kernel_rfl))⟩
  f28 := ⟨Tryd.f69.name, by decide, Tryd.func69.trans (congrArg some (by kernel_rfl))⟩
  f29 := ⟨Tryd.f70.name, by decide, Tryd.func70.trans (congrArg some (by kernel_rfl))⟩
  f31 := Tryd.func58.trans (congrArg some (by kernel_rfl))
  f32 := Tryd.func59.trans (congrArg some (by kernel_rfl))
  f36 := ⟨Tryd.f72.name, by decide, Tryd.func72.trans (congrArg some (by kernel_rfl))⟩
  f37 := ⟨Tryd.f73.name, by decide, Tryd.func73.trans (congrArg some (by kernel_rfl))⟩
  f38 := ⟨Tryd.f74.name, by decide, Tryd.func74.trans (congrArg some (by kernel_rfl))⟩
  f39 := ⟨Tryd.f55.name, by decide, Tryd.func55.trans (congrArg some (by kernel_rfl))⟩
  f41 := ⟨Tryd.f75.name, by decide, Tryd.func75.trans (congrArg some (by kernel_rfl))⟩
  t0 := Tryd.underlying0
  a0 := Tryd.isAgg0
  z0 := Tryd.sizeOf0
  v0 := Tryd.zeroValue0
  t3 := Tryd.underlying3
  a3 := Tryd.isAgg3
  z3 := Tryd.sizeOf3
  v3 := Tryd.zeroValue3
  t4 := Tryd.underlying4
  a4 := Tryd.isAgg4
  z4 := Tryd.sizeOf4
  v4 := Tryd.zeroValue4
  t5 := Tryd.underlying5
  a5 := Tryd.isAgg5
  z5 := Tryd.sizeOf5
  v5 := Tryd.zeroValue5
  t9 := Tryd.underlying9
  a9 := Tryd.isAgg9
  z9 := Tryd.sizeOf9
  v9 := Tryd.zeroValue9
  t26 := Tryd.underlying32
  a26 := Tryd.isAgg32
  z26 := Tryd.sizeOf32
  v26 := Tryd.zeroValue32
  t27 := Tryd.underlying32
  a27 := Tryd.isAgg32
  z27 := Tryd.sizeOf32
  v27 := Tryd.zeroValue32
  t29 := Tryd.underlying9
  a29 := Tryd.isAgg9
  z29 := Tryd.sizeOf9
  v29 := Tryd.zeroValue9
  t32 := Tryd.underlying62
  a32 := Tryd.isAgg62
  z32 := Tryd.sizeOf62
  v32 := Tryd.zeroValue62
  t35 := Tryd.underlying70
  a35 := Tryd.isAgg70
  z35 := Tryd.sizeOf70
  v35 := Tryd.zeroValue70
  t36 := Tryd.underlying71
  a36 := Tryd.isAgg71
  z36 := Tryd.sizeOf71
  v36 := Tryd.zeroValue71
  t41 := Tryd.underlying75
  a41 := Tryd.isAgg75
  z41 := Tryd.sizeOf75
  v41 := Tryd.zeroValue75
  t44 := Tryd.underlying78
  a44 := Tryd.isAgg78
  z44 := Tryd.sizeOf78
  v44 := Tryd.zeroValue78
  t46 := Tryd.underlying80
  a46 := Tryd.isAgg80
  z46 := Tryd.sizeOf80
  v46 := Tryd.zeroValue80
  t53 := Tryd.underlying83
  a53 := Tryd.isAgg83
  z53 := Tryd.sizeOf83
  v53 := Tryd.zeroValue83
  t57 := Tryd.underlying87
  a57 := Tryd.isAgg87
  z57 := Tryd.sizeOf87
  v57 := Tryd.zeroValue87
  t63 := Tryd.underlying95
  a63 := Tryd.isAgg95
  z63 := Tryd.sizeOf95
  v63 := Tryd.zeroValue95
  t64 := Tryd.underlying96
  a64 := Tryd.isAgg96
  z64 := Tryd.sizeOf96
  v64 := Tryd.zeroValue96 }
def Tryd.compStr_ren : Go.Shelf.Ren := ⟨fun | 44 => 44 | n => n, fun | 25 => 32 | 26 => 9 | 3 => 3 | 4 => 4 | 0 => 0 | n => n, fun | n => n⟩
theorem Tryd.compStr : Go.Proofs.SlLaysN.n44 Tryd.prog Tryd.compStr_ren := {
  mixed := by kernel_rfl
  f44 := ⟨Tryd.f44.name, by decide, Tryd.func44.trans (congrArg some (by kernel_rfl))⟩
  t0 := Tryd.underlying0
  a0 := Tryd.isAgg0
  z0 := Tryd.sizeOf0
  v0 := Tryd.zeroValue0
  t3 := Tryd.underlying3
  a3 := Tryd.isAgg3
  z3 := Tryd.sizeOf3
  v3 := Tryd.zeroValue3
  t4 := Tryd.underlying4
  a4 := Tryd.isAgg4
  z4 := Tryd.sizeOf4
  v4 := Tryd.zeroValue4
  t25 := Tryd.underlying32
  a25 := Tryd.isAgg32
  z25 := Tryd.sizeOf32
  v25 := Tryd.zeroValue32
  t26 := Tryd.underlying9
  a26 := Tryd.isAgg9
  z26 := Tryd.sizeOf9
  v26 := Tryd.zeroValue9
  i26 := by kernel_rfl }
end Go.Proofs

namespace Go.Proofs.YtkjnoekclfdjiaaDoor
open Go.RowKit Go.Sort
set_option linter.unusedVariables false

/-- from w to w' nothing but draws and new blocks -/
def Gr (w w' : World) : Prop := ∃ (q : Nat) (os : Array Obj), w' = grow (w.drewN q) os
theorem Gr.refl (w : World) : Gr w w := ⟨0, #[], by rw [grow_empty]; rfl⟩
theorem Gr.trans {a b c : World} (h : Gr a b) (k : Gr b c) : Gr a c := by
  obtain ⟨q, os, rfl⟩ := h
  obtain ⟨q2, os2, rfl⟩ := k
  exact ⟨q + q2, os ++ os2, by show grow (grow ((a.drewN q).drewN q2) os) os2 = _; rw [grow_grow, World.drewN_drewN]⟩
theorem Gr.alloc (w : World) (o : Obj) : Gr w (w.alloc o) := ⟨0, #[o], by rw [alloc_eq_grow]; rfl⟩
theorem Gr.drew (w : World) : Gr w w.drew := ⟨1, #[], by rw [grow_empty]; rfl⟩
theorem Gr.drewN (w : World) (n : Nat) : Gr w (w.drewN n) := ⟨n, #[], by rw [grow_empty]⟩
theorem Gr.size {w w' : World} (h : Gr w w') : w.heap.size ≤ w'.heap.size := by
  obtain ⟨q, os, rfl⟩ := h
  rw [size_grow]
  exact Nat.le_add_right _ _
theorem Gr.block {w w' : World} (h : Gr w w') {k : Nat} (hk : k < w.heap.size) : w'.heap[k]? = w.heap[k]? := by
  obtain ⟨q, os, rfl⟩ := h
  exact heap_grow_old (w.drewN q) os hk
theorem Gr.below {w w' : World} (h : Gr w w') : Below w.heap.size w w' := by
  have h1 := h.size
  have h2 := fun k (hk : k < w.heap.size) => h.block hk
  obtain ⟨q, os, rfl⟩ := h
  exact ⟨rfl, rfl, rfl, h1, h2⟩
theorem Gr.ro {w w' : World} {M : Nat → Prop} {S : World → Prop} (h : Gr w w') (hs : Ro w M S) : Ro w' M S := hs.below h.below
end Go.Proofs.YtkjnoekclfdjiaaDoor

namespace Go.Proofs.YtkjnoekclfdjiaaDoor
open Go.RowKit Go.Sort
set_option linter.unusedVariables false
set_option linter.unusedSimpArgs false

theorem sortWd_heap {α : Type} [Inhabited α] (enc : α → Value) (w : World) (g m : Nat) (d : Array α) (os : Array Obj) {b : Nat} (hb : b < w.heap.size) (hne : b ≠ g) : (sortWorld enc w g 0 m d os).heap[b]? = w.heap[b]? := by
  show ((w.heap.modify g _) ++ os)[b]? = _
  rw [Array.getElem?_append, if_pos (by simpa using hb), Array.getElem?_modify, if_neg (fun e => hne e.symm)]
theorem sortWd_size {α : Type} [Inhabited α] (enc : α → Value) (w : World) (g m : Nat) (d : Array α) (os : Array Obj) : w.heap.size ≤ (sortWorld enc w g 0 m d os).heap.size := by
  show _ ≤ ((w.heap.modify g _) ++ os).size
  simp
theorem sortWd_at {α : Type} [Inhabited α] (enc : α → Value) (w : World) (g m : Nat) (d : Array α) (os : Array Obj) {cs : Array Value} {t : TypeId} (h : w.heap[g]? = some (.cells cs t (0, 0))) : (sortWorld enc w g 0 m d os).heap[g]? = some (.cells (Go.Sort.putCells enc 0 d cs) t (0, 0)) := by
  have hb : g < w.heap.size := (Array.getElem?_eq_some_iff.1 h).1
  show ((w.heap.modify g _) ++ os)[g]? = _
  rw [Array.getElem?_append, if_pos (by simpa using hb), Array.getElem?_modify, if_pos rfl, h]
  rfl
section
variable {α : Type} [Inhabited α] (enc : α → List Value) (k : Nat) (hk : ∀ x, (enc x).length = k)
include hk
theorem flatK_cell (d : Array α) {t : Nat} (ht : t < d.size * k) : (flatK enc k d)[t]! = (d.toList.flatMap enc)[t]?.getD default ∧ t < (d.toList.flatMap enc).length := by
  have hl : (d.toList.flatMap enc).length = d.size * k := by rw [flat_len enc k hk]; simp
  have k0 : 0 < k := by
    rcases Nat.eq_zero_or_pos k with h | h
    · subst h; simp at ht
    · exact h
  have h1 : t / k < d.size := Nat.div_lt_of_lt_mul (by rw [Nat.mul_comm]; exact ht)
  have h2 : t % k < k := Nat.mod_lt _ k0
  refine ⟨?_, by rw [hl]; exact ht⟩
  rw [get_flatK _ _ _ _ ht]
  have hx : d.toList[t / k]? = some d[t / k] := by rw [Array.getElem?_toList, Array.getElem?_eq_getElem h1]
  have h3 := flat_get enc k hk d.toList (t / k) (t % k) _ h2 hx
  rw [show t / k * k + t % k = t by rw [Nat.mul_comm]; exact Nat.div_add_mod t k] at h3
  rw [h3, getElem!_pos d _ h1]
  rw [getElem!_pos _ _ (by rw [hk]; exact h2), List.getElem?_eq_getElem (by rw [hk]; exact h2)]
  rfl
theorem flatK_at (d : Array α) {t : Nat} (ht : t < d.size * k) : (d.toList.flatMap enc)[t]? = some (flatK enc k d)[t]! := by
  obtain ⟨h1, h2⟩ := flatK_cell enc k hk d ht
  rw [h1, List.getElem?_eq_getElem h2]; rfl
theorem holdsK_own {w : World} {base : Nat} {e : TypeId} {g q cap : Nat} {d : Array α} (hs : d.size = q) (ho : w.ownsRow base e k (.slice (some ⟨g, 0, none⟩) q cap) q (d.toList.flatMap enc)) : HoldsK enc k w g 0 d := fun j hj => by
  rw [size_flatK] at hj
  rw [Nat.zero_add]
  refine ⟨(ho.cellAt j (by rw [← hs]; exact hj)).trans (flatK_at enc k hk d hj), ho.frozenAt j⟩
/-- an own row behind the sort -/
theorem own_sortK {w : World} {base : Nat} {e : TypeId} {g q cap : Nat} {xs : List Value} (ho : w.ownsRow base e k (.slice (some ⟨g, 0, none⟩) q cap) q xs) {d' : Array α} (hs : d'.size = q) (m : Nat) (os : Array Obj) : (sortWorldK enc k w g 0 m d' os).ownsRow base e k (.slice (some ⟨g, 0, none⟩) q cap) q (d'.toList.flatMap enc) := by
  have hl : (d'.toList.flatMap enc).length = q * k := by rw [flat_len enc k hk]; simp [hs]
  obtain ⟨hlen2, ⟨hv0, _⟩ | ⟨g', cap', cur, hveq, hbase, hcell, hqc, hcm, hcs, htk⟩⟩ := ho
  · cases hv0
  · injection hveq with e1 e2 e3
    injection e1 with e1
    injection e1 with e1
    subst e1; subst e3
    have hle : q * k ≤ cap * k := Nat.mul_le_mul_right _ hqc
    refine ⟨hl, .inr ⟨g, cap, _, rfl, hbase, sortWd_at id w g m (flatK enc k d') os hcell, hqc, hcm, ?_, ?_⟩⟩
    · rw [← hcs]
      show (cur.mapIdx _).size = _
      simp
    · refine List.ext_getElem? fun j => ?_
      by_cases hj : j < q * k
      · rw [List.getElem?_take, if_pos hj, flatK_at enc k hk d' (by rw [hs]; exact hj)]
        have hjc : j < cur.size := by rw [hcs]; omega
        show ((cur.mapIdx fun i x => if 0 ≤ i ∧ i < 0 + (flatK enc k d').size then id (flatK enc k d')[i - 0]! else x).toList)[j]? = _
        rw [Array.getElem?_toList, Array.getElem?_mapIdx, Array.getElem?_eq_getElem hjc]
        simp only [Option.map_some, Nat.zero_add, Nat.sub_zero, Nat.zero_le, true_and, size_flatK]
        rw [if_pos (by rw [hs]; exact hj)]
        rfl
      · rw [List.getElem?_eq_none (by rw [List.length_take]; omega), List.getElem?_eq_none (by rw [hl]; omega)]
theorem Hold.sortK {M : Nat → Prop} {row : Option Nat} {w0 w : World} {L : List Hp} (K : Hold M row w0 w L) (i : Nat) {e : TypeId} {g q cap : Nat} {xs : List Value} (hi : L[i]? = some (.own e k (.slice (some ⟨g, 0, none⟩) q cap) q xs)) {d' : Array α} (hs : d'.size = q) (m : Nat) (os : Array Obj) : Hold M row w0 (sortWorldK enc k w g 0 m d' os) (L.set i (.own e k (.slice (some ⟨g, 0, none⟩) q cap) q (d'.toList.flatMap enc))) := by
  have hg : g < w.heap.size := (K.fresh _ (List.mem_of_getElem? hi) g rfl).2
  exact K.append (w' := sortWorldK enc k w g 0 m d' os) i hi (own_sortK enc k hk (K.get i hi) hs m os) ⟨rfl, rfl, rfl, sortWd_size id w g m (flatK enc k d') os, fun b hb hne => sortWd_heap id w g m (flatK enc k d') os hb fun e => hne (by rw [e]; rfl)⟩ (.inl rfl) (Nat.lt_of_lt_of_le hg (sortWd_size id w g m (flatK enc k d') os))
end
end Go.Proofs.YtkjnoekclfdjiaaDoor

namespace Go.Proofs.YtkjnoekclfdjiaaDoor
open Go.RowKit Go.Sort
set_option linter.unusedVariables false
set_option linter.unusedSimpArgs false

/-- an own row of one-cell elements behind the sort -/
theorem own_sort1 {α : Type} [Inhabited α] (enc : α → Value) {w : World} {base : Nat} {e : TypeId} {g q cap : Nat} {xs : List Value} (ho : w.ownsRow base e 1 (.slice (some ⟨g, 0, none⟩) q cap) q xs) {d' : Array α} (hs : d'.size = q) (m : Nat) (os : Array Obj) : (sortWorld enc w g 0 m d' os).ownsRow base e 1 (.slice (some ⟨g, 0, none⟩) q cap) q (d'.toList.map enc) := by
  have hl : (d'.toList.map enc).length = q * 1 := by simp [hs]
  obtain ⟨hlen2, ⟨hv0, _⟩ | ⟨g', cap', cur, hveq, hbase, hcell, hqc, hcm, hcs, htk⟩⟩ := ho
  · cases hv0
  · injection hveq with e1 e2 e3
    injection e1 with e1
    injection e1 with e1
    subst e1; subst e3
    refine ⟨hl, .inr ⟨g, cap, _, rfl, hbase, sortWd_at enc w g m d' os hcell, hqc, hcm, ?_, ?_⟩⟩
    · rw [← hcs]
      show (cur.mapIdx _).size = _
      simp
    · refine List.ext_getElem? fun j => ?_
      by_cases hj : j < q
      · have hj2 : j < d'.size := by omega
        have hr : (d'.toList.map enc)[j]? = some (enc d'[j]!) := by
          rw [List.getElem?_map, Array.getElem?_toList, Array.getElem?_eq_getElem hj2, getElem!_pos d' j hj2]; rfl
        rw [List.getElem?_take, if_pos (by omega), hr]
        have hjc : j < cur.size := by rw [hcs]; omega
        show ((cur.mapIdx fun i x => if 0 ≤ i ∧ i < 0 + d'.size then enc d'[i - 0]! else x).toList)[j]? = _
        rw [Array.getElem?_toList, Array.getElem?_mapIdx, Array.getElem?_eq_getElem hjc]
        simp only [Option.map_some, Nat.zero_add, Nat.sub_zero, Nat.zero_le, true_and]
        rw [if_pos hj2]
      · rw [List.getElem?_eq_none (by rw [List.length_take]; omega), List.getElem?_eq_none (by rw [hl]; omega)]
theorem Hold.sort1 {α : Type} [Inhabited α] (enc : α → Value) {M : Nat → Prop} {row : Option Nat} {w0 w : World} {L : List Hp} (K : Hold M row w0 w L) (i : Nat) {e : TypeId} {g q cap : Nat} {xs : List Value} (hi : L[i]? = some (.own e 1 (.slice (some ⟨g, 0, none⟩) q cap) q xs)) {d' : Array α} (hs : d'.size = q) (m : Nat) (os : Array Obj) : Hold M row w0 (sortWorld enc w g 0 m d' os) (L.set i (.own e 1 (.slice (some ⟨g, 0, none⟩) q cap) q (d'.toList.map enc))) := by
  have hg : g < w.heap.size := (K.fresh _ (List.mem_of_getElem? hi) g rfl).2
  exact K.append (w' := sortWorld enc w g 0 m d' os) i hi (own_sort1 enc (K.get i hi) hs m os) ⟨rfl, rfl, rfl, sortWd_size enc w g m d' os, fun b hb hne => sortWd_heap enc w g m d' os hb fun e => hne (by rw [e]; rfl)⟩ (.inl rfl) (Nat.lt_of_lt_of_le hg (sortWd_size enc w g m d' os))
def bytesOf (s : ByteArray) : List UInt8 := s.data.toList
def strOf (z : List UInt8) : ByteArray := ⟨z.toArray⟩
theorem strOf_bytesOf (s : ByteArray) : strOf (bytesOf s) = s := by simp [strOf, bytesOf]
theorem strs_enc (ss : List ByteArray) : (ss.map bytesOf).map encStr = strsCells ss := by
  unfold strsCells
  rw [List.map_map]
  refine List.map_congr_left fun s _ => ?_
  show Value.string (strOf (bytesOf s)) = _
  rw [strOf_bytesOf]
theorem enc_strs (zs : List (List UInt8)) : zs.map encStr = strsCells (zs.map strOf) := by
  unfold strsCells
  rw [List.map_map]; rfl
theorem strs_back (ss : List ByteArray) : (ss.map bytesOf).map strOf = ss := by
  rw [List.map_map]
  conv => rhs; rw [← List.map_id ss]
  exact List.map_congr_left fun s _ => strOf_bytesOf s
theorem holds_strs {w : World} {base : Nat} {e : TypeId} {g q cap : Nat} {ss : List ByteArray} (ho : w.ownsRow base e 1 (.slice (some ⟨g, 0, none⟩) q cap) q (strsCells ss)) : Holds encStr w g 0 (ss.map bytesOf).toArray := fun j hj => by
  have hl : ss.length = q := by have := ho.1; simpa [strsCells] using this
  have hj2 : j < q := by simpa [hl] using hj
  rw [Nat.zero_add]
  refine ⟨(ho.cellAt j (by omega)).trans ?_, ho.frozenAt j⟩
  have hx : (ss.map bytesOf).toArray[j]! = (ss.map bytesOf)[j]'(by simpa using hj) := by rw [getElem!_pos (ss.map bytesOf).toArray j hj]; simp
  rw [← strs_enc, List.getElem?_map, hx, List.getElem?_eq_getElem (by simpa using hj)]
  rfl
theorem sortstr_any {M : Nat → Prop} {row : Option Nat} {w0 w : World} {L : List Hp} (K : Hold M row w0 w L) (i : Nat) {e : TypeId} {g q cap : Nat} {ss : List ByteArray} (hi : L[i]? = some (.own e 1 (.slice (some ⟨g, 0, none⟩) q cap) q (strsCells ss))) (hq : q < 4611686018427387904) :
    Calls Tryd.prog 43 #[.slice (some ⟨g, 0, none⟩) q cap] w fun e' w' => e' = .returned (.tuple #[]) ∧ ∃ ss' : List ByteArray, ss'.Perm ss ∧ Hold M row w0 w' (L.set i (.own e 1 (.slice (some ⟨g, 0, none⟩) q cap) q (strsCells ss'))) := by
  have ho := K.get i hi
  have hg : g < w.heap.size := (K.fresh _ (List.mem_of_getElem? hi) g rfl).2
  have hl : ss.length = q := by have := ho.1; simpa [strsCells] using this
  have hc := AnyM.slices_Sort_string Tryd.sortStr g 0 cap (ss.map bytesOf) w (holds_strs ho) hg (by rw [List.length_map, hl]; exact hq)
  rw [List.length_map, hl] at hc
  refine Calls.mono (show Calls Tryd.prog 43 _ w _ from hc) ?_
  rintro e' w' ⟨rfl, n, os, rfl⟩
  refine ⟨rfl, ((ss.map bytesOf).mergeSort fun x y => decide (x ≤ y)).map strOf, ?_, ?_⟩
  · have := (List.mergeSort_perm (ss.map bytesOf) fun x y => decide (x ≤ y)).map strOf
    rwa [strs_back] at this
  · rw [← enc_strs]
    exact K.sort1 encStr i hi (d' := ((ss.map bytesOf).mergeSort fun x y => decide (x ≤ y)).toArray) (by simp [hl]) n os
theorem compact_has {α : Type} [Inhabited α] [DecidableEq α] (d : Array α) (m : Nat) : ∀ j, j < m → d[j]! ∈ Lib.compactUpTo d m
  | 0, h => List.mem_map.2 ⟨0, List.mem_filter.2 ⟨List.mem_range.2 h, by simp [Lib.keeps]⟩, rfl⟩
  | j + 1, h => by
    by_cases hk : Lib.keeps d (j + 1) = true
    · exact List.mem_map.2 ⟨j + 1, List.mem_filter.2 ⟨List.mem_range.2 h, hk⟩, rfl⟩
    · have he : d[j + 1]! = d[j]! := by simpa [Lib.keeps] using hk
      rw [he]
      exact compact_has d m j (by omega)
theorem compact_mem {α : Type} [Inhabited α] [DecidableEq α] (zs : List α) (z : α) : z ∈ Lib.compact zs ↔ z ∈ zs := by
  constructor
  · intro h
    obtain ⟨j, hj, rfl⟩ := List.mem_map.1 h
    have hj2 := List.mem_range.1 (List.mem_filter.1 hj).1
    rw [getElem!_pos _ _ (by simpa using hj2)]
    simp
  · intro h
    obtain ⟨j, hj, rfl⟩ := List.getElem_of_mem h
    have := compact_has zs.toArray zs.length j hj
    rwa [getElem!_pos _ _ (by simpa using hj)] at this
theorem compstr_any {M : Nat → Prop} {row : Option Nat} {w0 w : World} {L : List Hp} (K : Hold M row w0 w L) (i : Nat) {e : TypeId} {g q cap : Nat} {ss : List ByteArray} (hi : L[i]? = some (.own e 1 (.slice (some ⟨g, 0, none⟩) q cap) q (strsCells ss))) (hq : q ≤ 9223372036854775807) :
    Calls Tryd.prog 44 #[.slice (some ⟨g, 0, none⟩) q cap] w fun e' w' => ∃ (q' : Nat) (ss' : List ByteArray), e' = .returned (.slice (some ⟨g, 0, none⟩) q' cap) ∧ q' ≤ q ∧ (∀ s, s ∈ ss' ↔ s ∈ ss) ∧ Hold M row w0 w' (L.set i (.own e 1 (.slice (some ⟨g, 0, none⟩) q' cap) q' (strsCells ss'))) := by
  have ho := K.get i hi
  have hl : ss.length = q := by have := ho.1; simpa [strsCells] using this
  have hcap := own_caps ho
  have hc := AnyG.slices_Compact_string Tryd.compStr g 0 cap (ss.map bytesOf) w (holds_strs ho) (by rw [List.length_map, hl]; exact hq) (by rw [List.length_map, hl]; exact hcap.1)
  rw [List.length_map, hl] at hc
  refine Calls.mono (show Calls Tryd.prog 44 _ w _ from hc) ?_
  rintro e' w' ⟨rfl, n, rfl⟩
  have hle : (Lib.compact (ss.map bytesOf)).length ≤ q := by
    have h1 : (Lib.compact (ss.map bytesOf)).length ≤ (ss.map bytesOf).length := by
      unfold Lib.compact Lib.compactUpTo
      rw [List.length_map]
      exact Nat.le_trans (List.length_filter_le _ _) (by simp)
    rwa [List.length_map, hl] at h1
  refine ⟨_, (Lib.compact (ss.map bytesOf)).map strOf, rfl, hle, fun s => ?_, ?_⟩
  · rw [List.mem_map]
    constructor
    · rintro ⟨z, hz, rfl⟩
      obtain ⟨x, hx, rfl⟩ := List.mem_map.1 ((compact_mem _ _).1 hz)
      rwa [strOf_bytesOf]
    · intro hs
      exact ⟨bytesOf s, (compact_mem _ _).2 (List.mem_map_of_mem hs), strOf_bytesOf s⟩
  · have K1 := K.sort1 encStr i hi (d' := (Lib.compact (ss.map bytesOf) ++ List.replicate (q - (Lib.compact (ss.map bytesOf)).length) []).toArray) (by simp; omega) n #[]
    have hi2 : (L.set i (.own e 1 (.slice (some ⟨g, 0, none⟩) q cap) q ((Lib.compact (ss.map bytesOf) ++ List.replicate (q - (Lib.compact (ss.map bytesOf)).length) []).toArray.toList.map encStr)))[i]? = some (.own e 1 (.slice (some ⟨g, 0, none⟩) q cap) q ((Lib.compact (ss.map bytesOf) ++ List.replicate (q - (Lib.compact (ss.map bytesOf)).length) []).toArray.toList.map encStr)) := List.getElem?_set_self (List.getElem?_eq_some_iff.1 hi).1
    have K2 := K1.cutRow i (n := (Lib.compact (ss.map bytesOf)).length) hi2 hle
    rw [List.set_set, List.map_append, Nat.mul_one, List.take_left' (by simp), enc_strs] at K2
    have e : sortWorld encStr w g 0 n (Lib.compact (ss.map bytesOf) ++ List.replicate (q - (Lib.compact (ss.map bytesOf)).length) []).toArray #[] = putRow encStr (Sort.ahead w n) g 0 (Lib.compact (ss.map bytesOf) ++ List.replicate (q - (Lib.compact (ss.map bytesOf)).length) []).toArray := grow_empty _
    rw [e] at K2
    exact K2
end Go.Proofs.YtkjnoekclfdjiaaDoor

namespace Go.Proofs.YtkjnoekclfdjiaaDoor
open Go.RowKit Go.Maps
set_option linter.unusedVariables false

/-- Keys of one type, said by plain data. -/
structure KeyFam (P : Program) (k : TypeId) (κ : Type) where
  val : κ → Value
  ok : κ → Prop
  key : ∀ x, ok x → ∃ kl, keyOf P k (val x) = some kl
  inj : ∀ x y, val x = val y → x = y
/-- The map's type: key, element, its laws. -/
structure SetT (P : Program) (t k e : TypeId) : Prop where
  ht : P.underlying t = some (.map k e)
  he : P.underlying e = some .bool
  hz : ∀ w : World, (zeroValue e).run P w = .ok (.bool false) w
  law : Keyed P k
/-- Block b is a map that says true at the keys of S, and at no other. -/
def MSet {P : Program} {k : TypeId} {κ : Type} (e : TypeId) (F : KeyFam P k κ) (b n : Nat) (S : κ → Prop) (w : World) : Prop :=
  ∃ D : DataW Unit, w.ownsMap P k (plainElem P e) b n D ∧ ∀ x, F.ok x → ∀ kl, keyOf P k (F.val x) = some kl → ∃ c : Bool, D.atKey kl (.lit (.bool false)) = .lit (.bool c) ∧ (c = true ↔ S x)
section
variable {P : Program} {t k e : TypeId} {κ : Type} {F : KeyFam P k κ} {b n : Nat} {S : κ → Prop} {w w' : World}
theorem MSet.stay (h : MSet e F b n S w) (hb : w'.heap[b]? = w.heap[b]?) : MSet e F b n S w' := by
  obtain ⟨D, ⟨es, clock, h1, h2⟩, h3⟩ := h
  exact ⟨D, ⟨es, clock, hb.trans h1, h2⟩, h3⟩
theorem MSet.made (e : TypeId) (F : KeyFam P k κ) (w : World) (h : w.heap[b]? = some (.map #[] 0)) : MSet e F b 0 (fun _ => False) w := by
  have h0 := World.ownsMap_made w P k (plainElem (H := Unit) P e)
  obtain ⟨es, clock, h1, h2⟩ := h0
  have h3 : (w.alloc (.map #[] 0)).heap[w.heap.size]? = some (.map #[] 0) := heap_alloc_new w _
  rw [h3] at h1
  injection h1 with h1
  injection h1 with h4 h5
  subst h4 h5
  refine ⟨.map [], ⟨#[], 0, h, h2⟩, fun x _ kl _ => ⟨false, rfl, by simp⟩⟩
theorem plainElem_bool_inv {H : Type} (he : P.underlying e = some .bool) {v : Value} {z : DataW H × List MemPlace} (h : plainElem P e v = some z) : ∃ c, v = .bool c ∧ z = (.lit (.bool c), []) := by
  unfold plainElem at h
  rw [he] at h
  cases v <;> simp at h
  subst h
  exact ⟨_, rfl, rfl⟩
/-- m[x] -/
theorem MSet.look (T : SetT P t k e) (h : MSet e F b n S w) {x : κ} (hx : F.ok x) : ∃ c : Bool, (Instr.lookup t (.map (some b)) (F.val x) false).run P w = .ok (.bool c) w ∧ (c = true ↔ S x) := by
  obtain ⟨D, h1, h2⟩ := h
  obtain ⟨kl, hk⟩ := F.key x hx
  obtain ⟨c, h3, h4⟩ := h2 x hx kl hk
  obtain ⟨v, ps, hrun, hv⟩ := h1.lookup T.law T.ht (T.hz w) (plainElem_bool T.he false) hk
  obtain ⟨c', rfl, h5⟩ := plainElem_bool_inv T.he hv
  rw [h3] at h5
  injection h5 with h5
  injection h5 with h5
  injection h5 with h5
  subst h5
  exact ⟨c, hrun, h4⟩
/-- m[x] = true -/
theorem MSet.put (T : SetT P t k e) (h : MSet e F b n S w) {x : κ} (hx : F.ok x) (hn : n < maxLen) : ∃ w', (Instr.mapUpdate t (.map (some b)) (F.val x) (.bool true)).run P w = .ok () w' ∧ MSet e F b (n + 1) (fun y => y = x ∨ S y) w' ∧ w.grownBy w' (some b) := by
  obtain ⟨D, h1, h2⟩ := h
  obtain ⟨kl, hk⟩ := F.key x hx
  obtain ⟨w', hrun, h3, h4⟩ := h1.update T.law T.ht hn hk (plainElem_bool T.he true)
  refine ⟨w', hrun, ⟨_, h3, fun y hy kl' hk' => ?_⟩, h4⟩
  by_cases hxy : y = x
  · subst hxy
    rw [hk] at hk'
    injection hk' with hk'
    subst hk'
    refine ⟨true, ?_, by simp⟩
    have hD : IsMap D := by
      obtain ⟨es, clock, _, _, _, rfl⟩ := h1
      exact ⟨_, rfl⟩
    rw [atKey_put_same hD (T.law.key hk)]
  · have hne : kl' ≠ kl := fun e => by
      subst e
      exact hxy (F.inj _ _ (T.law.inj hk' hk))
    obtain ⟨c, h5, h6⟩ := h2 y hy kl' hk'
    exact ⟨c, by rw [atKey_put_other hne]; exact h5, by rw [h6]; simp [hxy]⟩
end
section
variable {P : Program} {M : Nat → Prop} {row : Option Nat} {w0 w : World} {L : List Hp} {t k e : TypeId} {κ : Type} {F : KeyFam P k κ} {b n : Nat} {S : κ → Prop}
theorem Hold.mset (K : Hold M row w0 w L) (e : TypeId) (F : KeyFam P k κ) : Hold M row w0 (w.alloc (.map #[] 0)) (.ob w.heap.size (MSet e F w.heap.size 0 (fun _ => False)) :: L) :=
  K.allocOb _ _ fun w' hw' => MSet.made e F w' hw'
end
/-- a key of two texts -/
theorem keyOf_ss {P : Program} {k : TypeId} {f0 f1 : Field} (hu : P.underlying k = some (.struct #[f0, f1])) (hk : P.keyType k = true) (hc : P.cellsOf k = 2) (hs : 0 < P.types.size) (n0 : (f0.name != "_") = true) (n1 : (f1.name != "_") = true)
    (o0 : f0.offset = 0) (o1 : f1.offset = 1) (u0 : P.underlying f0.type = some .string) (u1 : P.underlying f1.type = some .string) (c0 : P.cellsOf f0.type = 1) (c1 : P.cellsOf f1.type = 1)
    {r s : ByteArray} (hr : r.size ≤ maxLen) (hl : s.size ≤ maxLen) : ∃ kl, keyOf P k (.agg #[.string r, .string s]) = some kl := by
  obtain ⟨m, hm⟩ : ∃ m, P.types.size = m + 1 := ⟨P.types.size - 1, by omega⟩
  simp [keyOf, hu, hk, Value.formed, hc, hm, Program.keyLits, Value.cells, n0, n1, o0, o1, u0, u1, c0, c1, hr, hl]
end Go.Proofs.YtkjnoekclfdjiaaDoor

namespace Go.Proofs.YtkjnoekclfdjiaaDoor
open Go.RowKit Go.Maps
set_option linter.unusedVariables false
set_option linter.unusedSimpArgs false

/-- A call that hands back an object of its own. -/
theorem Hold.callOb {M : Nat → Prop} {row : Option Nat} {w0 w w' : World} {L : List Hp} (K : Hold M row w0 w L) {b : Nat} {F : World → Prop} (hb : Below w.heap.size w w') (hg : w.heap.size ≤ b) (hl : b < w'.heap.size) (hF : ∀ w2 : World, w2.heap[b]? = w'.heap[b]? → F w2) : Hold M row w0 w' (.ob b F :: L) := by
  have h1 := K.call hb
  have ee : ∀ x, x < w.heap.size → Mut M (.ob b F :: L) x → Mut M L x := fun x hx hm => by
    rcases mut_cons.1 hm with hf | hm
    · injection hf with hf; omega
    · exact hm
  refine ⟨h1.grow, h1.low, fun k hk => ?_, fun k hk x hf => ?_, ⟨fun x hf k hk he => ?_, K.sep⟩⟩
  · rcases List.mem_cons.1 hk with rfl | hk
    · exact hF
    · exact Hp.sat_step (k := k) (K.sat k hk) hb.size (fun b hl _ => hb.block b hl) ee (fun b hf => hb.block b (K.fresh k hk b hf).2)
        (fun T hT b hlt => by
          have := K.fresh k hk T (by subst hT; rfl)
          exact hb.block b (by omega))
  · rcases List.mem_cons.1 hk with rfl | hk
    · injection hf with hf; subst hf
      exact ⟨.inl (Nat.le_trans K.grow.size hg), hl⟩
    · exact h1.fresh k hk x hf
  · injection hf with hf; subst hf
    have h2 := (K.fresh k hk _ he).2
    omega
/-- D holds true at the keys of S, and no other key -/
def SetD {P : Program} {k : TypeId} {κ : Type} (F : KeyFam P k κ) (S : κ → Prop) (D : DataW Unit) : Prop :=
  (∀ x, F.ok x → ∀ kl, keyOf P k (F.val x) = some kl → ∃ c : Bool, D.atKey kl (.lit (.bool false)) = .lit (.bool c) ∧ (c = true ↔ S x)) ∧ ∀ kl, Maps.has D kl = true → ∃ x, F.ok x ∧ keyOf P k (F.val x) = some kl ∧ S x
def TSet {P : Program} {k : TypeId} {κ : Type} (e : TypeId) (F : KeyFam P k κ) (b n : Nat) (S : κ → Prop) (w : World) : Prop :=
  ∃ D : DataW Unit, w.ownsMap P k (plainElem P e) b n D ∧ SetD F S D
section
variable {P : Program} {t k e : TypeId} {κ : Type} {F : KeyFam P k κ} {b n : Nat} {S : κ → Prop} {w w' : World}
theorem TSet.mset (h : TSet e F b n S w) : MSet e F b n S w := by
  obtain ⟨D, h1, h2, h3⟩ := h
  exact ⟨D, h1, h2⟩
theorem TSet.stay (h : TSet e F b n S w) (hb : w'.heap[b]? = w.heap[b]?) : TSet e F b n S w' := by
  obtain ⟨D, ⟨es, clock, h1, h2⟩, h3⟩ := h
  exact ⟨D, ⟨es, clock, hb.trans h1, h2⟩, h3⟩
theorem TSet.made (e : TypeId) (F : KeyFam P k κ) (w : World) (h : w.heap[b]? = some (.map #[] 0)) : TSet e F b 0 (fun _ => False) w := by
  have h0 := World.ownsMap_made w P k (plainElem (H := Unit) P e)
  obtain ⟨es, clock, h1, h2⟩ := h0
  have h3 : (w.alloc (.map #[] 0)).heap[w.heap.size]? = some (.map #[] 0) := heap_alloc_new w _
  rw [h3] at h1
  injection h1 with h1
  injection h1 with h4 h5
  subst h4 h5
  exact ⟨.map [], ⟨#[], 0, h, h2⟩, fun x _ kl _ => ⟨false, rfl, by simp⟩, fun kl h => by simp [Maps.has] at h⟩
theorem TSet.put (T : SetT P t k e) (h : TSet e F b n S w) {x : κ} (hx : F.ok x) (hn : n < maxLen) : ∃ w', (Instr.mapUpdate t (.map (some b)) (F.val x) (.bool true)).run P w = .ok () w' ∧ TSet e F b (n + 1) (fun y => y = x ∨ S y) w' ∧ w.grownBy w' (some b) := by
  obtain ⟨D, h1, h2, h7⟩ := h
  obtain ⟨kl, hk⟩ := F.key x hx
  obtain ⟨w', hrun, h3, h4⟩ := h1.update T.law T.ht hn hk (plainElem_bool T.he true)
  refine ⟨w', hrun, ⟨_, h3, fun y hy kl' hk' => ?_, fun kl' hh => ?_⟩, h4⟩
  · by_cases hxy : y = x
    · subst hxy
      rw [hk] at hk'
      injection hk' with hk'
      subst hk'
      refine ⟨true, ?_, by simp⟩
      have hD : IsMap D := by
        obtain ⟨es, clock, _, _, _, rfl⟩ := h1
        exact ⟨_, rfl⟩
      rw [atKey_put_same hD (T.law.key hk)]
    · have hne : kl' ≠ kl := fun e => by
        subst e
        exact hxy (F.inj _ _ (T.law.inj hk' hk))
      obtain ⟨c, h5, h6⟩ := h2 y hy kl' hk'
      exact ⟨c, by rw [atKey_put_other hne]; exact h5, by rw [h6]; simp [hxy]⟩
  · by_cases hkk : kl' = kl
    · subst hkk
      exact ⟨x, hx, hk, .inl rfl⟩
    · rw [has_put_other hkk] at hh
      obtain ⟨y, y1, y2, y3⟩ := h7 kl' hh
      exact ⟨y, y1, y2, .inr y3⟩
end
section
variable {P : Program} {M : Nat → Prop} {row : Option Nat} {w0 w : World} {L : List Hp} {t k e : TypeId} {κ : Type} {F : KeyFam P k κ} {b n : Nat} {S : κ → Prop}
theorem Hold.tset (K : Hold M row w0 w L) (e : TypeId) (F : KeyFam P k κ) : Hold M row w0 (w.alloc (.map #[] 0)) (.ob w.heap.size (TSet e F w.heap.size 0 (fun _ => False)) :: L) :=
  K.allocOb _ _ fun w' hw' => TSet.made e F w' hw'
/-- m[x] at the operation -/
theorem wpList_lookT (K : Hold M row w0 w L) (i : Nat) (hi : L[i]? = some (.ob b (TSet e F b n S))) (T : SetT P t k e) {ops : Array Oper} {rest : List Oper} {o : Oper} {a : Act} {Q : Exit → Act → World → Prop}
    (hg : o.guard = none) (m x : Operand) (hop : o.op = Op.lookup t m x false) (hm : a.eval m = .map (some b)) (y : κ) (hx : a.eval x = F.val y) (hy : F.ok y)
    (h : ∀ c : Bool, (c = true ↔ S y) → wpList P ops Q rest (a.put o.dst (.bool c)) w) : wpList P ops Q (o :: rest) a w := by
  refine wpList_plain hg fun K' hK' => ?_
  obtain ⟨c, hrun, hc⟩ := (K.ob_ i hi).mset.look T hy
  unfold Oper.wp
  simp [execOp, hop, hm, hx, hrun, Result.andThen]
  exact hK' _ _ (h c hc)
/-- m[x] at an operation behind a guard that lets it run -/
theorem wpList_lookTG (K : Hold M row w0 w L) (i : Nat) (hi : L[i]? = some (.ob b (TSet e F b n S))) (T : SetT P t k e) {ops : Array Oper} {rest : List Oper} {o : Oper} {a : Act} {Q : Exit → Act → World → Prop}
    (hg : Region.wanted o (yielded ops a.tmps) = true) (m x : Operand) (hop : o.op = Op.lookup t m x false) (hm : a.eval m = .map (some b)) (y : κ) (hx : a.eval x = F.val y) (hy : F.ok y)
    (h : ∀ c : Bool, (c = true ↔ S y) → wpList P ops Q rest (a.put o.dst (.bool c)) w) : wpList P ops Q (o :: rest) a w := by
  refine wpList_step fun K' hK' => ?_
  simp only [hg, if_true]
  obtain ⟨c, hrun, hc⟩ := (K.ob_ i hi).mset.look T hy
  unfold Oper.wp
  simp [execOp, hop, hm, hx, hrun, Result.andThen]
  exact hK' _ _ (h c hc)
/-- m[x] = true at the operation -/
theorem wpList_putT (K : Hold M row w0 w L) (i : Nat) (hi : L[i]? = some (.ob b (TSet e F b n S))) (T : SetT P t k e) {ops : Array Oper} {rest : List Oper} {o : Oper} {a : Act} {Q : Exit → Act → World → Prop}
    (hg : o.guard = none) (m x v : Operand) (hop : o.op = Op.mapUpdate t m x v) (hm : a.eval m = .map (some b)) (y : κ) (hx : a.eval x = F.val y) (hv : a.eval v = .bool true) (hy : F.ok y) (hn : n < maxLen)
    (h : ∀ w', Hold M row w0 w' (L.set i (.ob b (TSet e F b (n + 1) (fun z => z = y ∨ S z)))) → wpList P ops Q rest (a.put o.dst undef) w') : wpList P ops Q (o :: rest) a w := by
  refine wpList_plain hg fun K' hK' => ?_
  obtain ⟨w', hrun, h1, h2⟩ := (K.ob_ i hi).put T hy hn
  unfold Oper.wp
  simp [execOp, hop, hm, hx, hv, hrun, Result.andThen]
  exact hK' _ _ (h w' (K.turnOb i hi h2 fun w2 hw2 => h1.stay hw2))
/-- A loop under way over the set: the map's object stands still, the iterator turns; G: which keys have come. -/
def Rng (P : Program) (k e : TypeId) (O : Obj) (b r n : Nat) (D : DataW Unit) (left : Lit → Bool) (cnt : Nat) (w : World) : Prop :=
  ∀ w2 : World, w2.heap[b]? = some O → w2.heap[r]? = w.heap[r]? → w2.ranges P k (plainElem P e) b r n D left cnt
theorem ranges_ext {w w2 : World} {b r n cnt : Nat} {D : DataW Unit} {left : Lit → Bool} (h : w.ranges P k (plainElem P e) b r n D left cnt) (hb : w2.heap[b]? = w.heap[b]?) (hr : w2.heap[r]? = w.heap[r]?) : w2.ranges P k (plainElem P e) b r n D left cnt := by
  obtain ⟨es, clock, since, seen, c0, h1, h2, h3, h4, h5, rest⟩ := h
  exact ⟨es, clock, since, seen, c0, hb.trans h1, h2, h3, h4, hr.trans h5, rest⟩
/-- range m: the set stands still from here on -/
theorem wpList_rangeT (K : Hold M row w0 w L) (i : Nat) (hi : L[i]? = some (.ob b (TSet e F b n S))) (T : SetT P t k e) {ops : Array Oper} {rest : List Oper} {o : Oper} {a : Act} {Q : Exit → Act → World → Prop}
    (hg : o.guard = none) (m : Operand) (hop : o.op = Op.range t m) (hm : a.eval m = .map (some b))
    (h : ∀ (O : Obj) (D : DataW Unit) (w' : World), SetD F S D → Maps.size D ≤ n → Hold M row w0 w' (.ob w.heap.size (Rng P k e O b w.heap.size n D (Maps.has D) (Maps.size D)) :: L.set i (.ro fun w => w.heap[b]? = some O)) → wpList P ops Q rest (a.put o.dst (.pointer (some ⟨w.heap.size, 0, none⟩))) w') : wpList P ops Q (o :: rest) a w := by
  obtain ⟨D, h1, h2⟩ := K.ob_ i hi
  have hb := K.fresh _ (List.mem_of_getElem? hi) b rfl
  obtain ⟨es, clock, hO, hfit, hsz, hDe⟩ := h1
  have h1 : w.ownsMap P k (plainElem P e) b n D := ⟨es, clock, hO, hfit, hsz, hDe⟩
  refine wpList_range_own w hg m t hop k e T.law T.ht (plainElem P e) b n D hm h1 fun w' hr hgr hs => ?_
  have KS := K.seal i hi (fun T e => nomatch e) (S := fun w => w.heap[b]? = some (.map es clock)) (fun w2 _ hw => (hw b rfl).trans hO)
  have KB := KS.callOb (w' := w') (b := w.heap.size) (F := Rng P k e (.map es clock) b w.heap.size n D (Maps.has D) (Maps.size D)) ⟨hgr.os, hgr.tape, hgr.output, hgr.size, fun x hx => hgr.block x hx (by simp)⟩ (Nat.le_refl _) (by omega) (fun w2 hw2 w3 h3 h4 => ranges_ext hr (h3.trans ((hgr.block b hb.2 (by simp)).trans hO).symm) (h4.trans hw2))
  refine h (.map es clock) D w' h2 ?_ KB
  rw [hDe]
  simpa [Maps.size, length_sorted] using hsz
/-- the step of the loop -/
theorem wpList_nextT {O : Obj} {r cnt : Nat} {D : DataW Unit} {left : Lit → Bool} (K : Hold M row w0 w L) (i j : Nat) (hi : L[i]? = some (.ob r (Rng P k e O b r n D left cnt))) (hj : L[j]? = some (.ro fun w => w.heap[b]? = some O)) (T : SetT P t k e) (hS : SetD F S D) {ops : Array Oper} {rest : List Oper} {o : Oper} {a : Act} {Q : Exit → Act → World → Prop}
    (hl : ∀ kl, left kl = true → Maps.has D kl = true) (hg : o.guard = none) (it : Operand) (hop : o.op = Op.next it false) (hit : a.eval it = .pointer (some ⟨r, 0, none⟩))
    (hDone : cnt = 0 → (∀ kl, left kl = false) → wpList P ops Q rest (a.put o.dst (.tuple #[.bool false])) w)
    (hMore : ∀ (x : κ) (kl : Lit) (w' : World) (cnt' : Nat), F.ok x → S x → keyOf P k (F.val x) = some kl → left kl = true → cnt' < cnt → Hold M row w0 w' (L.set i (.ob r (Rng P k e O b r n D (fun z => left z && !z.sameKey kl) cnt'))) →
      (Instr.entry (.pointer (some ⟨r, 0, none⟩))).run P w' = .ok (.tuple #[F.val x, .bool true]) w' → wpList P ops Q rest (a.put o.dst (.tuple #[.bool true, F.val x, .bool true])) w') : wpList P ops Q (o :: rest) a w := by
  have hrg : w.ranges P k (plainElem P e) b r n D left cnt := K.ob_ i hi w (K.ro j hj).now rfl
  refine wpList_plain hg fun K' hK' => ?_
  unfold Oper.wp
  rcases hrg.next T.law o.type with ⟨h0, hlf, hrun⟩ | ⟨key, v, kl, y, w', cnt', hkey, hlk, hv, hat, hrun, hrg2, hlt, hgr, hsz, hen⟩
  · simp [execOp, hop, hit, hrun, Result.andThen]
    exact hK' _ _ (hDone h0 hlf)
  · obtain ⟨x, x1, x2, x3⟩ := hS.2 kl (hl kl hlk)
    obtain rfl : key = F.val x := T.law.inj hkey x2
    obtain ⟨c, rfl, rfl⟩ := plainElem_bool_inv T.he hv
    obtain ⟨c', h5, h6⟩ := hS.1 x x1 kl x2
    rw [hat] at h5
    injection h5 with h5
    injection h5 with h5
    subst h5
    obtain rfl : c = true := h6.2 x3
    simp [execOp, hop, hit, hrun, Result.andThen]
    refine hK' _ _ (hMore x kl w' cnt' x1 x3 x2 hlk hlt ?_ hen)
    have hbr : b ≠ r := fun e => hrg.ne e.symm
    have hbl : b < w.heap.size := hrg.owns.lt
    exact K.turnOb i hi hgr fun w2 hw2 w3 h3 h4 => ranges_ext hrg2 (h3.trans ((hgr.block b hbl (by simp [hbr])).trans (K.ro j hj).now).symm) (h4.trans hw2)
end
end Go.Proofs.YtkjnoekclfdjiaaDoor

namespace Go.Proofs.YtkjnoekclfdjiaaDoor
open Go.RowKit Go.Maps
set_option linter.unusedVariables false
set_option linter.unusedSimpArgs false

theorem Tryd.laidOutK : laidOutB Tryd.prog = true := by kernel_rfl
theorem Tryd.lkKeyed : Keyed Tryd.prog 41 := Keyed.of_law (deep_law_laid Tryd.laidOutK (m := 8) (by omega) (of_decide_eq_true (by kernel_rfl)) (by kernel_rfl) (by kernel_rfl))
def Lk.val (x : Lk) : Value := .agg #[.string x.a, .string x.b]
def Lk.ok (x : Lk) : Prop := x.a.size ≤ maxLen ∧ x.b.size ≤ maxLen
theorem keyOf_lk (x : Lk) (h : x.ok) : ∃ kl, keyOf Tryd.prog 41 x.val = some kl :=
  keyOf_ss Tryd.underlying41 (by kernel_rfl) (by kernel_rfl) (of_decide_eq_true (by kernel_rfl)) (by rfl) (by rfl) rfl rfl Tryd.underlying9 Tryd.underlying9 (by kernel_rfl) (by kernel_rfl) h.1 h.2
/-- links as keys -/
def lkFam : KeyFam Tryd.prog 41 Lk where
  val := Lk.val
  ok := Lk.ok
  key := keyOf_lk
  inj := fun x y h => by
    cases x; cases y
    simp [Lk.val] at h
    obtain ⟨rfl, rfl⟩ := h
    rfl
theorem Tryd.setL : SetT Tryd.prog 48 41 4 := ⟨Tryd.underlying48, Tryd.underlying4, fun w => by kernel_rfl, Tryd.lkKeyed⟩
/-- a set of links handed back -/
def LSetRet (w : World) (N : Nat) (S : Lk → Prop) (e : Ending) (w' : World) : Prop := ∃ (b n : Nat), e = .returned (.map (some b)) ∧ w.heap.size ≤ b ∧ b < w'.heap.size ∧ n ≤ N ∧ TSet 4 lkFam b n S w' ∧ Below w.heap.size w w'
theorem tset_iff {b n : Nat} {S S' : Lk → Prop} {w : World} (h : TSet 4 lkFam b n S w) (hs : ∀ z, S z ↔ S' z) : TSet 4 lkFam b n S' w := by
  have : S = S' := funext fun z => propext (hs z)
  rw [← this]; exact h
theorem mem_takeL {l : List Lk} {k : Nat} {x : Lk} (hx : l[k]? = some x) : (fun z => z = x ∨ z ∈ l.take k) = (fun z => z ∈ l.take (k + 1)) := by
  funext z
  rw [List.take_add_one, hx]
  simp [or_comm]
set_option maxHeartbeats 4000000 in
set_option maxRecDepth 100000 in
theorem oset_any (M : Nat → Prop) (w : World) (hM : ∀ b, M b → b < w.heap.size) (A : Option Addr) (n c : Nat) (l : List Lk) (hD : Ro w M (LksIn A n l)) (hn : n ≤ 1000000) (hok : ∀ x ∈ l, x.ok) :
    Calls Tryd.prog 27 #[.slice A n c] w fun e w' => LSetRet w n (fun z => z ∈ l) e w' := by
  have HL := hid hD.now.len
  have HOK := hid hok
  clear hok
  have K0 := (Hold.start M w hM).add (hD.less (by simp [Mut]))
  have KM := Hold.tset K0 4 lkFam
  rw [show (fun _ : Lk => False) = (fun z => z ∈ l.take 0) by funext z; simp] at KM
  have hmm := @run_makeMap Tryd.prog
  clear hD
  go_enter Tryd.func27, Tryd.ntmps27
  obtain ⟨gm, hgm⟩ : ∃ gm, gm = w.heap.size := ⟨_, rfl⟩
  go_wp2_with fail
  rw [← hgm] at KM ⊢
  have HGM := hid hgm
  clear hgm K0
  go_loopw [9] (fun iv wr => ∃ (j q : Nat), j ≤ n ∧ iv = .int .i64 j ∧ q ≤ j ∧ Hold M none w wr [.ob gm (TSet 4 lkFam gm q (fun z => z ∈ l.take j)), .ro (LksIn A n l)]) (fun iv _ => n - (intOf iv).toNat)
  case atStart => exact ⟨0, 0, by omega, rfl, by omega, KM⟩
  case round =>
    clear KM
    obtain ⟨j, q, hj, rfl, hq, H⟩ := hrel
    by_cases hlt : j < n
    · have hdd : decide ((j : Int) < (n : Int)) = true := by simp; omega
      obtain ⟨x, hx⟩ := get_of HL.out hlt
      obtain ⟨g, o, rfl, hb, c0, c1⟩ := (H.ro 1 rfl).now.at_ hx
      have hxok := HOK.out x (List.mem_of_getElem? hx)
      have HX := hid (mem_takeL hx)
      clear hx
      have K2 := H.alloc_cst #[.string x.a, .string x.b] 41
      have FA := K2.facts
      simp only [World.size_alloc, World.size_drew, factsL, cellsF, Nat.reduceAdd, List.toList_toArray, List.set_cons_zero, List.set_cons_succ, List.setIfInBounds_toArray, and_true, true_and] at FA
      go_wp2_with (at_mapUpdate; go_must (refine wpList_putT K2 1 rfl Tryd.setL rfl (.tmp 13) (.tmp 14) (.const (.bool true)) rfl rfl x rfl rfl hxok (by unfold maxLen; omega) ?_); intro w3 K3; rw [HX.out] at K3; simp only [List.set_cons_zero, List.set_cons_succ] at K3)
      go_roundw
      case rel => exact ⟨j + 1, q + 1, by omega, by go_num, by omega, K3.drop (List.sublist_cons_self _ _)⟩
      case measure => simp [intOf]; omega
    · obtain rfl : n = j := by omega
      have hd : decide ((n : Int) < (n : Int)) = false := by simp
      go_wp2_with fail
      go_ret
      have h1 := H.ob_ 0 rfl
      rw [List.take_of_length_le (by rw [HL.out]; exact Nat.le_refl _)] at h1
      have h2 := H.fresh _ (List.mem_cons_self ..) gm rfl
      exact ⟨gm, q, rfl, by rw [HGM.out]; exact Nat.le_refl _, h2.2, hq, h1, H.below⟩
end Go.Proofs.YtkjnoekclfdjiaaDoor

namespace Go.Proofs.YtkjnoekclfdjiaaDoor
open Go.RowKit
set_option linter.unusedVariables false
set_option linter.unusedSimpArgs false

theorem Tryd.elSt : ElemT Tryd.prog 32 9 1 16 (.string ⟨#[]⟩) := ⟨Tryd.underlying32, by kernel_rfl, rfl, by omega⟩
def namesL (l : List Lk) : List ByteArray := l.flatMap fun x => [x.a, x.b]
theorem namesL_succ {l : List Lk} {k : Nat} {x : Lk} (hx : l[k]? = some x) : strsCells (namesL (l.take k)) ++ [.string x.a, .string x.b] = strsCells (namesL (l.take (k + 1))) := by
  rw [List.take_add_one, hx, Option.toList_some]
  simp [namesL, strsCells]
theorem namesL_in (l : List Lk) {ns : List ByteArray} (h : ∀ s, s ∈ ns ↔ s ∈ namesL l) : NamesIn ns l := fun z hz => by
  have h1 : z.a ∈ namesL l ∧ z.b ∈ namesL l := by
    unfold namesL
    simp only [List.mem_flatMap]
    exact ⟨⟨z, hz, by simp⟩, ⟨z, hz, by simp⟩⟩
  exact ⟨(h _).2 h1.1, (h _).2 h1.2⟩
theorem namesL_ok {l : List Lk} (h : ∀ x ∈ l, x.ok) : ∀ s ∈ namesL l, s.size ≤ maxLen := fun s hs => by
  unfold namesL at hs
  obtain ⟨x, hx, hm⟩ := List.mem_flatMap.1 hs
  have := h x hx
  simp only [List.mem_cons, List.not_mem_nil, or_false] at hm
  rcases hm with rfl | rfl
  · exact this.1
  · exact this.2
/-- names handed back -/
def NamesRet (w : World) (M : Nat → Prop) (N : Nat) (l : List Lk) (e : Ending) (w' : World) : Prop := ∃ (A : Option Addr) (n c : Nat) (ns : List ByteArray), e = .returned (.slice A n c) ∧ n ≤ N ∧ (∀ s, s ∈ ns ↔ s ∈ namesL l) ∧ Ro w' M (StrsIn A n ns) ∧ Below w.heap.size w w'
set_option maxHeartbeats 4000000 in
set_option maxRecDepth 100000 in
theorem onodes_any (M : Nat → Prop) (w : World) (hM : ∀ b, M b → b < w.heap.size) (A : Option Addr) (n c : Nat) (l : List Lk) (hD : Ro w M (LksIn A n l)) (hn : n ≤ 1000000) :
    Calls Tryd.prog 35 #[.slice A n c] w fun e w' => NamesRet w M (2 * n) l e w' := by
  have HL := hid hD.now.len
  have K0 := ((Hold.start M w hM).add (hD.less (by simp [Mut]))).nil 9 1
  clear hD
  go_enter Tryd.func35, Tryd.ntmps35
  go_wp2_with fail
  go_loopw [3, 8] (fun ov iv wr => ∃ (k cap : Nat) (O : Option Addr), k ≤ n ∧ iv = .int .i64 k ∧ ov = .slice O (2 * k) cap ∧ Hold M none w wr [.own 9 1 (.slice O (2 * k) cap) (2 * k) (strsCells (namesL (l.take k))), .ro (LksIn A n l)]) (fun _ iv _ => n - (intOf iv).toNat)
  case atStart => exact ⟨0, 0, none, by omega, rfl, rfl, K0⟩
  case round =>
    clear K0
    obtain ⟨k, cap, O, hk, rfl, rfl, H⟩ := hrel
    by_cases hlt : k < n
    · have hdd : decide ((k : Int) < (n : Int)) = true := by simp; omega
      obtain ⟨x, hx⟩ := get_of HL.out hlt
      obtain ⟨g, o, rfl, hb, c0, c1⟩ := (H.ro 1 rfl).now.at_ hx
      have HX := hid (namesL_succ hx)
      clear hx
      have K1 := H.alloc_cst #[.string x.a, .string x.b] 41
      have K2 := K1.alloc_cst #[.string x.a, .string x.b] 9
      simp only [World.size_alloc] at K2
      have hr := hid (ro_block (M := Mut M _) (n := 2) (size := 1) (K2.get 0 rfl) rfl).now
      have FA := K2.facts
      simp only [World.size_alloc, World.size_drew, factsL, cellsF, Nat.reduceAdd, List.toList_toArray, List.set_cons_zero, List.set_cons_succ, List.setIfInBounds_toArray, and_true, true_and] at FA
      clear H K1
      go_wp2_with (at_builtin; go_must (refine wpList_appAllH K2 2 rfl Tryd.elSt hr.out rfl (.tmp 12) (.tmp 17) rfl rfl rfl (by intro u hu; simp at hu; rcases hu with rfl | rfl <;> rfl) (by omega) (by omega) ?_); intro O9 cap9 w9 hc9 hm9 KB; simp only [List.set_cons_zero, List.set_cons_succ] at KB; rw [HX.out] at KB)
      go_roundw
      case rel => exact ⟨k + 1, cap9, O9, by omega, by go_num, by first | rfl | trivial, KB.drop (List.Sublist.cons _ (List.sublist_cons_self _ _))⟩
      case measure => simp [intOf]; omega
    · obtain rfl : n = k := by omega
      have hdd : decide ((n : Int) < (n : Int)) = false := by simp
      have HLT : l.take n = l := List.take_of_length_le (by rw [HL.out]; exact Nat.le_refl _)
      rw [HLT] at H
      clear HLT
      rcases own_addr (H.get 0 rfl) with ⟨rfl, h0, rfl⟩ | ⟨g, rfl, hg⟩
      · obtain rfl : n = 0 := by omega
        have HE := hid (List.length_eq_zero_iff.1 HL.out)
        go_wp2_with fail
        refine (AnyM.slices_Sort_string_none Tryd.sortStr none 0 _).mono ?_
        rintro e w3 ⟨rfl, rfl⟩
        go_wp2_with fail
        refine (AnyG.slices_Compact_string_empty Tryd.compStr none 0 _).mono ?_
        rintro e w4 ⟨rfl, rfl⟩
        go_wp2_with fail
        go_ret
        exact ⟨none, 0, 0, [], rfl, by omega, fun s => by rw [HE.out]; simp [namesL], fun _ _ _ => Rd.none_, H.below⟩
      · go_wp2_with fail
        refine (sortstr_any H 0 rfl (by omega)).mono ?_
        rintro e w3 ⟨rfl, ss, hp, K3⟩
        have HP := hid hp
        clear hp H
        simp only [List.set_cons_zero] at K3
        go_wp2_with fail
        refine (compstr_any K3 0 rfl (by omega)).mono ?_
        rintro e w4 ⟨q, st, rfl, hq, hm, K4⟩
        have HM := hid hm
        clear hm K3
        simp only [List.set_cons_zero] at K4
        go_wp2_with fail
        go_ret
        have K5 := K4.sealRow 0 rfl
        exact ⟨_, q, cap, st, rfl, hq, fun s => (HM.out s).trans HP.out.mem_iff, K5.roOut 0 rfl, K5.below⟩
end Go.Proofs.YtkjnoekclfdjiaaDoor

namespace Go.Proofs.YtkjnoekclfdjiaaDoor
open Go.RowKit
set_option linter.unusedVariables false
set_option linter.unusedSimpArgs false

set_option maxHeartbeats 8000000 in
set_option maxRecDepth 100000 in
theorem oclosed_any (M : Nat → Prop) (w : World) (hM : ∀ b, M b → b < w.heap.size) (A : Option Addr) (n c : Nat) (l : List Lk) (hD : Ro w M (LksIn A n l)) (hn : n ≤ 100) (hok : ∀ x ∈ l, x.ok) :
    Calls Tryd.prog 20 #[.slice A n c] w fun e w' => LSetRet w 9000000 (fun z => Tr l z.a z.b) e w' := by
  have HOK := hid hok
  clear hok
  have K0 := (Hold.start M w hM).add (hD.less (by simp [Mut]))
  clear hD
  go_enter Tryd.func20, Tryd.ntmps20
  go_wp2_with fail
  refine (oset_any _ _ K0.mutLt A n c l (K0.ro 0 rfl) (by omega) HOK.out).mono ?_
  rintro e w1 ⟨gm, q0, rfl, hg1, hg2, hq0, hm, b1⟩
  have K1 := K0.callOb (F := TSet 4 lkFam gm q0 (fun z => z ∈ l)) b1 hg1 hg2 (fun w2 h2 => hm.stay h2)
  clear K0 b1 hg2 hm
  have HG := hid hg1
  clear hg1
  go_wp2_with fail
  refine (onodes_any _ _ K1.mutLt A n c l (K1.ro 1 rfl) (by omega)).mono ?_
  rintro e w2 ⟨B, m, d, ns, rfl, hm, hns, hr, b2⟩
  have K2 := (K1.call b2).add hr
  have HL := hid hr.now.len
  have HNS := hid hns
  clear K1 b2 hr hns
  have HNO : Hid (∀ s ∈ ns, s.size ≤ maxLen) := hid fun s hs => namesL_ok HOK.out s ((HNS.out s).1 hs)
  have HNI := hid (namesL_in l HNS.out)
  go_wp2_with fail
  go_loopw [17] (fun iv wr => ∃ (k q : Nat) (S : Lk → Prop), k ≤ m ∧ iv = .int .i64 k ∧ q ≤ 100 + k * 40000 ∧ Hid (Ph l (ns.take k).reverse S) ∧ Hold M none w wr [.ro (StrsIn B m ns), .ob gm (TSet 4 lkFam gm q S), .ro (LksIn A n l)]) (fun iv _ => m - (intOf iv).toNat)
  case atStart => exact ⟨0, q0, _, by omega, rfl, by omega, hid (Ph.start l), K2⟩
  case round =>
    clear K2
    obtain ⟨k, q, S, hk, rfl, hq, HP, H⟩ := hrel
    by_cases hlt : k < m
    · have hdd : decide ((k : Int) < (m : Int)) = true := by simp; omega
      obtain ⟨t, ht⟩ := get_of HL.out hlt
      obtain ⟨g, o, rfl, hb, c0⟩ := (H.ro 0 rfl).now.at_ ht
      have HT := hid ht
      have hto := HNO.out t (List.mem_of_getElem? ht)
      clear ht
      go_wp2_with fail
      clear c0 hdd
      go_loopw [23] (fun iv wr => ∃ (i q : Nat) (S : Lk → Prop), i ≤ m ∧ iv = .int .i64 i ∧ q ≤ 100 + k * 40000 + i * 200 ∧ Hid (Md l (ns.take k).reverse ns t (ns.take i) S) ∧ Hold M none w wr [.ro (StrsIn (some ⟨g, o, none⟩) m ns), .ob gm (TSet 4 lkFam gm q S), .ro (LksIn A n l)]) (fun iv _ => m - (intOf iv).toNat)
      case atStart => exact ⟨0, q, S, by omega, rfl, by omega, hid (Md.start HP.out), H⟩
      case round =>
        clear H HP hq hb
        clear S q
        obtain ⟨i, q, S, hi, rfl, hq, HP, H⟩ := hrel
        by_cases hlt2 : i < m
        · have hdd : decide ((i : Int) < (m : Int)) = true := by simp; omega
          obtain ⟨a, ha⟩ := get_of HL.out hlt2
          obtain ⟨g', o', e', hb, c0⟩ := (H.ro 0 rfl).now.at_ ha
          obtain ⟨rfl, rfl⟩ : g = g' ∧ o = o' := by injection e' with e'; injection e' with a1 a2; exact ⟨a1, a2⟩
          have HA := hid ha
          have hao := HNO.out a (List.mem_of_getElem? ha)
          clear ha e'
          have hky : lkFam.ok (⟨a, t⟩ : Lk) := ⟨hao, hto⟩
          by_cases hs : S ⟨a, t⟩
          · have HS := hid hs
            clear hs
            go_wp2_with (at_lookup; go_must (refine wpList_lookT H 1 rfl Tryd.setL rfl (.tmp 27) (.tmp 30) rfl rfl (⟨a, t⟩ : Lk) rfl hky ?_); intro cb hcb; obtain rfl : cb = true := hcb.2 HS.out; clear hcb)
            clear c0 hdd hky
            go_loopw [35] (fun iv wr => ∃ (j q : Nat) (S : Lk → Prop), j ≤ m ∧ iv = .int .i64 j ∧ q ≤ 100 + k * 40000 + i * 200 + j ∧ Hid (Inr l (ns.take k).reverse ns t (ns.take i) a (ns.take j) S) ∧ Hold M none w wr [.ro (StrsIn (some ⟨g, o, none⟩) m ns), .ob gm (TSet 4 lkFam gm q S), .ro (LksIn A n l)]) (fun iv _ => m - (intOf iv).toNat)
            case atStart => exact ⟨0, q, S, by omega, rfl, by omega, hid (Inr.start HP.out HS.out), H⟩
            case round =>
              clear H HP hq hb HS
              clear S q
              obtain ⟨j, q, S, hj, rfl, hq, HP, H⟩ := hrel
              by_cases hlt3 : j < m
              · have hdd : decide ((j : Int) < (m : Int)) = true := by simp; omega
                obtain ⟨b, hbb⟩ := get_of HL.out hlt3
                obtain ⟨g', o', e', hb, c0⟩ := (H.ro 0 rfl).now.at_ hbb
                obtain ⟨rfl, rfl⟩ : g = g' ∧ o = o' := by injection e' with e'; injection e' with a1 a2; exact ⟨a1, a2⟩
                have HB := hid hbb
                have hbo := HNO.out b (List.mem_of_getElem? hbb)
                clear hbb e'
                have hky : lkFam.ok (⟨t, b⟩ : Lk) := ⟨hto, hbo⟩
                have hky2 : lkFam.ok (⟨a, b⟩ : Lk) := ⟨hao, hbo⟩
                by_cases hs : S ⟨t, b⟩
                · have HS := hid hs
                  clear hs
                  go_wp2_with (first
                    | (at_lookup; go_must (refine wpList_lookT H 1 rfl Tryd.setL rfl (.tmp 39) (.tmp 42) rfl rfl (⟨t, b⟩ : Lk) rfl hky ?_); intro cb hcb; obtain rfl : cb = true := hcb.2 HS.out; clear hcb)
                    | (at_mapUpdate; go_must (refine wpList_putT H 1 rfl Tryd.setL rfl (.tmp 44) (.tmp 47) (.const (.bool true)) rfl rfl (⟨a, b⟩ : Lk) rfl rfl hky2 (by unfold maxLen; omega) ?_); intro w5 K5; simp only [List.set_cons_zero, List.set_cons_succ] at K5))
                  go_roundw
                  case rel => exact ⟨j + 1, q + 1, _, by omega, by go_num, by omega, hid (Inr.put HP.out HB.out HS.out), K5⟩
                  case measure => simp [intOf]; omega
                · have HS := hid hs
                  clear hs
                  go_wp2_with (at_lookup; go_must (refine wpList_lookT H 1 rfl Tryd.setL rfl (.tmp 39) (.tmp 42) rfl rfl (⟨t, b⟩ : Lk) rfl hky ?_); intro cb hcb; obtain rfl : cb = false := (by cases cb; rfl; exact absurd (hcb.1 rfl) HS.out); clear hcb)
                  go_roundw
                  case rel => exact ⟨j + 1, q, S, by omega, by go_num, by omega, hid (Inr.miss HP.out HB.out HS.out), H⟩
                  case measure => simp [intOf]; omega
              · obtain rfl : m = j := by omega
                have hdd : decide ((m : Int) < (m : Int)) = false := by simp
                have HT2 : ns.take m = ns := List.take_of_length_le (by rw [HL.out]; exact Nat.le_refl _)
                rw [HT2] at HP
                go_wp2_with fail
                go_roundw
                case rel => exact ⟨i + 1, q, S, by omega, by go_num, by omega, hid (Inr.stop HP.out HA.out), H⟩
                case measure => simp [intOf]; omega
          · have HS := hid hs
            clear hs
            go_wp2_with (at_lookup; go_must (refine wpList_lookT H 1 rfl Tryd.setL rfl (.tmp 27) (.tmp 30) rfl rfl (⟨a, t⟩ : Lk) rfl hky ?_); intro cb hcb; obtain rfl : cb = false := (by cases cb; rfl; exact absurd (hcb.1 rfl) HS.out); clear hcb)
            go_roundw
            case rel => exact ⟨i + 1, q, S, by omega, by go_num, by omega, hid (Md.miss HP.out HA.out HS.out), H⟩
            case measure => simp [intOf]; omega
        · obtain rfl : m = i := by omega
          have hdd : decide ((m : Int) < (m : Int)) = false := by simp
          have HT2 : ns.take m = ns := List.take_of_length_le (by rw [HL.out]; exact Nat.le_refl _)
          rw [HT2] at HP
          go_wp2_with fail
          go_roundw
          case rel => exact ⟨k + 1, q, S, by omega, by go_num, by omega, hid (by rw [take_rev HT.out]; exact Md.stop HNI.out HP.out), H⟩
          case measure => simp [intOf]; omega
    · obtain rfl : m = k := by omega
      have hdd : decide ((m : Int) < (m : Int)) = false := by simp
      have HT2 : ns.take m = ns := List.take_of_length_le (by rw [HL.out]; exact Nat.le_refl _)
      rw [HT2] at HP
      go_wp2_with fail
      go_ret
      have h1 := H.ob_ 1 rfl
      have h2 := H.fresh _ (List.mem_of_getElem? (i := 1) rfl) gm rfl
      exact ⟨gm, q, rfl, h2.1.resolve_right (fun h => nomatch h.1), h2.2, by omega, tset_iff h1 (Ph.done HNI.out (fun x hx => by simpa using hx) HP.out), H.below⟩
end Go.Proofs.YtkjnoekclfdjiaaDoor

namespace Go.Proofs.YtkjnoekclfdjiaaDoor
open Go.RowKit
set_option linter.unusedVariables false

def cmpS (a b : ByteArray) : Int := if Op.bytesLess a.toList b.toList then -1 else if a.toList == b.toList then 0 else 1

theorem cmp_string (a b : ByteArray) (w : World) :
    Calls Tryd.prog 39 #[.string a, .string b] w fun e w' => e = .returned (.int .i64 (cmpS a b)) ∧ w = w' := by
  cases h1 : Op.bytesLess a.toList b.toList
  · cases h2 : (a.toList == b.toList)
    · go_enter Tryd.func39, Tryd.ntmps39
      go_wp2
      go_ret
      exact ⟨by simp [cmpS, h1, h2], rfl⟩
    · go_enter Tryd.func39, Tryd.ntmps39
      go_wp2
      go_ret
      exact ⟨by simp [cmpS, h1, h2], rfl⟩
  · go_enter Tryd.func39, Tryd.ntmps39
    go_wp2
    go_ret
    exact ⟨by simp [cmpS, h1], rfl⟩

/-- The first number that is not 0, or 0. -/
def firstNZ : List Int → Int
  | [] => 0
  | x :: r => if x = 0 then firstNZ r else x

theorem firstNZ_skip (l : List Int) (k : Nat) (h : ∀ j, j < k → l.getD j 0 = 0) : firstNZ l = firstNZ (l.drop k) := by
  induction k generalizing l with
  | zero => simp
  | succ k ih =>
    cases l with
    | nil => simp
    | cons x r =>
      have h0 : x = 0 := by simpa using h 0 (by omega)
      simp only [firstNZ, h0, if_true, List.drop_succ_cons]
      exact ih r (fun j hj => by simpa using h (j + 1) (by omega))

set_option maxHeartbeats 1000000 in
theorem or_int (A : Option Addr) (n c : Nat) (zs : List Int) (w : World) (B : Nat) (hr : Rd w B 1 A n (zs.map (Value.int .i64))) (hn : n ≤ 9223372036854775807) :
    Calls Tryd.prog 38 #[.slice A n c] w fun e w' => e = .returned (.int .i64 (firstNZ zs)) ∧ w = w' := by
  have hl : zs.length = n := by simpa using hr.1
  have HL := hid hl; clear hl
  go_enter Tryd.func38, Tryd.ntmps38
  go_wp2_with fail
  go_loop [8] (fun i => ∃ k : Nat, k ≤ n ∧ i = .int .i64 k ∧ ∀ j, j < k → zs.getD j 0 = 0) (fun i => n - (intOf i).toNat)
  case atStart => exact ⟨0, by omega, rfl, fun j hj => absurd hj (by omega)⟩
  case round =>
    obtain ⟨k, hk, rfl, hz⟩ := hrel
    have HZ := hid hz; clear hz
    by_cases hlt : k < n
    · obtain ⟨b, o, rfl, hb, hc⟩ := hr.at1 hlt
      rw [ints_get _ _ _ (by rw [HL.out]; omega)] at hc
      obtain ⟨x, hx⟩ : ∃ x, x = zs.getD k 0 := ⟨_, rfl⟩
      rw [← hx] at hc
      have HX := hid hx; clear hx
      by_cases h0 : x = 0
      · have k0 : (x != 0) = false := by simpa using h0
        have H0 := hid h0; clear h0
        go_wp2_with fail
        go_round
        case rel =>
          refine ⟨k + 1, by omega, by go_num, fun j hj => ?_⟩
          by_cases e : j = k
          · subst e; rw [← HX.out]; exact H0.out
          · exact HZ.out j (by omega)
        case measure => simp [intOf]; omega
      · have k0 : (x != 0) = true := by simpa using h0
        have HF : Hid (firstNZ zs = x) := by
          unfold Hid
          rw [firstNZ_skip zs k HZ.out, List.drop_eq_getElem_cons (by rw [HL.out]; omega)]
          have : zs[k]'(by rw [HL.out]; omega) = x := by rw [HX.out]; simp [List.getD, show k < zs.length by rw [HL.out]; omega]
          rw [this, firstNZ, if_neg h0]
        clear h0
        go_wp2_with fail
        go_ret
        exact ⟨by rw [HF.out]; rfl, rfl⟩
    · obtain rfl : k = n := by omega
      have HF : Hid (firstNZ zs = 0) := by
        unfold Hid
        rw [firstNZ_skip zs k HZ.out, List.drop_of_length_le (by rw [HL.out]; omega)]; rfl
      go_wp2
      go_ret
      exact ⟨by rw [HF.out]; rfl, rfl⟩

end Go.Proofs.YtkjnoekclfdjiaaDoor

namespace Go.Proofs.YtkjnoekclfdjiaaDoor
open Go.RowKit Go.Sort
set_option linter.unusedVariables false
set_option linter.unusedSimpArgs false

end Go.Proofs.YtkjnoekclfdjiaaDoor

namespace Go.Proofs.YtkjnoekclfdjiaaDoor
open Go.RowKit
set_option linter.unusedVariables false
set_option linter.unusedSimpArgs false

theorem less_asymm : ∀ x y : List UInt8, Op.bytesLess x y = true → Op.bytesLess y x = false ∧ x ≠ y
  | _, [], h => by simp [Op.bytesLess] at h
  | [], b :: y, _ => ⟨by simp [Op.bytesLess], by simp⟩
  | a :: x, b :: y, h => by
    simp only [Op.bytesLess, Bool.or_eq_true, decide_eq_true_eq, Bool.and_eq_true, beq_iff_eq] at h
    rcases h with h | ⟨rfl, h⟩
    · have h1 : ¬ (b < a) := by
        intro k
        have h' : a.toNat < b.toNat := h
        have k' : b.toNat < a.toNat := k
        omega
      have h2 : a ≠ b := by
        rintro rfl
        have h' : a.toNat < a.toNat := h
        omega
      refine ⟨?_, fun e => h2 (by injection e)⟩
      simp only [Op.bytesLess, Bool.or_eq_false_iff, decide_eq_false_iff_not, Bool.and_eq_false_imp, beq_iff_eq]
      exact ⟨h1, fun e => absurd e.symm h2⟩
    · obtain ⟨i1, i2⟩ := less_asymm x y h
      have h1 : ¬ (a < a) := by
        intro k
        have k' : a.toNat < a.toNat := k
        omega
      refine ⟨?_, fun e => i2 (by injection e)⟩
      simp only [Op.bytesLess, Bool.or_eq_false_iff, decide_eq_false_iff_not, Bool.and_eq_false_imp, beq_iff_eq]
      exact ⟨h1, fun _ => i1⟩
theorem less_tri : ∀ x y : List UInt8, Op.bytesLess x y = false → Op.bytesLess y x = false → x = y
  | [], [], _, _ => rfl
  | [], b :: y, h, _ => by simp [Op.bytesLess] at h
  | a :: x, [], _, h => by simp [Op.bytesLess] at h
  | a :: x, b :: y, h, k => by
    simp only [Op.bytesLess, Bool.or_eq_false_iff, decide_eq_false_iff_not, Bool.and_eq_false_imp, beq_iff_eq] at h k
    have hab : a = b := by
      have h' : ¬ a.toNat < b.toNat := h.1
      have k' : ¬ b.toNat < a.toNat := k.1
      exact UInt8.toNat_inj.1 (by omega)
    subst hab
    rw [less_tri x y (h.2 rfl) (k.2 rfl)]

end Go.Proofs.YtkjnoekclfdjiaaDoor

namespace Go.Proofs.YtkjnoekclfdjiaaDoor
open Go.RowKit
set_option linter.unusedVariables false
set_option linter.unusedSimpArgs false

theorem less_trans_ : ∀ x y z : List UInt8, Op.bytesLess x y = true → Op.bytesLess y z = true → Op.bytesLess x z = true
  | [], [], _, h, _ => by simp [Op.bytesLess] at h
  | [], _ :: _, [], _, h => by simp [Op.bytesLess] at h
  | [], _ :: _, _ :: _, _, _ => by simp [Op.bytesLess]
  | _ :: _, [], _, h, _ => by simp [Op.bytesLess] at h
  | _ :: _, _ :: _, [], _, h => by simp [Op.bytesLess] at h
  | a :: x, b :: y, c :: z, h1, h2 => by
    simp only [Op.bytesLess, Bool.or_eq_true, Bool.and_eq_true, decide_eq_true_eq, beq_iff_eq] at h1 h2 ⊢
    rcases h1 with h1 | ⟨rfl, h1⟩ <;> rcases h2 with h2 | ⟨rfl, h2⟩
    · exact .inl (by rw [UInt8.lt_iff_toNat_lt] at *; omega)
    · exact .inl h1
    · exact .inl h2
    · exact .inr ⟨rfl, less_trans_ x y z h1 h2⟩
end Go.Proofs.YtkjnoekclfdjiaaDoor

namespace Go.Proofs.YtkjnoekclfdjiaaDoor
open Go.RowKit
set_option linter.unusedVariables false
set_option linter.unusedSimpArgs false

/-- a comparison that is a linear order -/
structure LinC {α : Type} (c : α → α → Int) : Prop where
  eq : ∀ x y, c x y = 0 ↔ x = y
  flip : ∀ x y, c x y < 0 ↔ 0 < c y x
  trans : ∀ x y z, c x y < 0 → c y z < 0 → c x z < 0
theorem linS : LinC cmpS where
  eq x y := by
    unfold cmpS
    cases h1 : Op.bytesLess x.toList y.toList
    · by_cases h2 : x = y
      · subst h2; simp
      · have h3 : (x.toList == y.toList) = false := by rw [beq_eq_false_iff_ne]; exact fun h => h2 (bytesEq h)
        simp [h3, h2]
    · have h2 := (less_asymm _ _ h1).2
      have : x ≠ y := fun e => h2 (by rw [e])
      simp [this]
  flip x y := by
    unfold cmpS
    cases h1 : Op.bytesLess x.toList y.toList
    · cases h2 : Op.bytesLess y.toList x.toList
      · have h3 := less_tri _ _ h1 h2
        simp [h3]
      · have h3 := (less_asymm _ _ h2).2
        have h4 : (x.toList == y.toList) = false := by rw [beq_eq_false_iff_ne]; exact fun h => h3 h.symm
        simp [h4]
    · have h2 := less_asymm _ _ h1
      have h4 : (y.toList == x.toList) = false := by rw [beq_eq_false_iff_ne]; exact fun h => h2.2 h.symm
      simp [h2.1, h4]
  trans x y z h k := by
    have lt : ∀ a b : ByteArray, cmpS a b < 0 ↔ Op.bytesLess a.toList b.toList = true := fun a b => by
      unfold cmpS
      cases h1 : Op.bytesLess a.toList b.toList
      · simp only [Bool.false_eq_true, if_false, iff_false]
        split <;> omega
      · simp
    rw [lt] at h k ⊢
    exact less_trans_ _ _ _ h k
end Go.Proofs.YtkjnoekclfdjiaaDoor

namespace Go.Proofs.YtkjnoekclfdjiaaDoor
open Go.RowKit Go.Sort
set_option linter.unusedVariables false
set_option linter.unusedSimpArgs false

def cmpL (x y : Lk) : Int := firstNZ [cmpS x.a y.a, cmpS x.b y.b]
theorem four {w : World} {g g' : Nat} {t : TypeId} {x y x' y' : Value} (h : Blk w g t #[x, y]) (h' : Blk w g' t #[x', y']) :
    w.cell? ⟨g, 0, none⟩ = some x ∧ w.cell? ⟨g, 1, none⟩ = some y ∧ w.cell? ⟨g', 0, none⟩ = some x' ∧ w.cell? ⟨g', 1, none⟩ = some y' := ⟨h.cell 0, h.cell 1, h'.cell 0, h'.cell 1⟩
theorem cmpS_lt (a b : ByteArray) : cmpS a b < 0 ↔ Op.bytesLess a.toList b.toList = true := by
  unfold cmpS
  cases h1 : Op.bytesLess a.toList b.toList
  · simp only [Bool.false_eq_true, if_false, iff_false]
    split <;> omega
  · simp
theorem cmpL_bef (x y : Lk) : cmpL x y < 0 ↔ befB x y = true := by
  unfold cmpL firstNZ befB
  by_cases h : cmpS x.a y.a = 0
  · rw [if_pos h]
    have e : x.a = y.a := (linS.eq _ _).1 h
    have h2 : Op.bytesLess x.a.toList y.a.toList = false := by
      cases hc : Op.bytesLess x.a.toList y.a.toList
      · rfl
      · have := (cmpS_lt x.a y.a).2 hc; omega
    have h3 : (x.a.toList == y.a.toList) = true := by rw [e]; simp
    rw [h2, h3, ← Bool.true_and (Op.bytesLess x.b.toList y.b.toList)] <;> simp only [Bool.false_or, Bool.true_and]
    unfold firstNZ firstNZ
    by_cases hb : cmpS x.b y.b = 0
    · rw [if_pos hb]
      have : Op.bytesLess x.b.toList y.b.toList = false := by
        cases hc : Op.bytesLess x.b.toList y.b.toList
        · rfl
        · have := (cmpS_lt x.b y.b).2 hc; omega
      simp [this]
    · rw [if_neg hb]; exact cmpS_lt x.b y.b
  · rw [if_neg h]
    have e : x.a ≠ y.a := fun e => h ((linS.eq _ _).2 e)
    have h3 : (x.a.toList == y.a.toList) = false := by
      rw [beq_eq_false_iff_ne]; exact fun k => e (ba_ext k)
    rw [h3, Bool.false_and, Bool.or_false]
    exact cmpS_lt x.a y.a
set_option maxHeartbeats 1000000 in
theorem ocompare_gr (x y : Lk) (w : World) :
    Calls Tryd.prog 22 #[.agg #[.string x.a, .string x.b], .agg #[.string y.a, .string y.b]] w fun e w' => e = .returned (.int .i64 (cmpL x y)) ∧ Gr w w' := by
  obtain ⟨p, hp⟩ : ∃ p, p = cmpS x.a y.a := ⟨_, rfl⟩
  obtain ⟨q, hq⟩ : ∃ q, q = cmpS x.b y.b := ⟨_, rfl⟩
  have c1 := fun w => cmp_string x.a y.a w
  have c2 := fun w => cmp_string x.b y.b w
  rw [← hp] at c1
  rw [← hq] at c2
  have HF : Hid (cmpL x y = firstNZ [p, q]) := by unfold Hid cmpL; rw [hp, hq]
  have C1 := hid c1; have C2 := hid c2
  clear c1 c2 hp hq
  have B0 := (Blk.new w 41 #[.string x.a, .string x.b]).alloc (.cells #[.string y.a, .string y.b] 41)
  have B1 : Blk ((w.alloc (.cells #[.string x.a, .string x.b] 41)).alloc (.cells #[.string y.a, .string y.b] 41)) (w.heap.size + 1) 41 #[.string y.a, .string y.b] := by
    have := Blk.new (w.alloc (.cells #[.string x.a, .string x.b] 41)) 41 #[.string y.a, .string y.b]
    simpa using this
  have RO : Rd (((w.alloc (.cells #[.string x.a, .string x.b] 41)).alloc (.cells #[.string y.a, .string y.b] 41)).alloc (.cells #[.int .i64 p, .int .i64 q] 3)) (w.heap.size + 1 + 1 + 1) 1 (some ⟨w.heap.size + 1 + 1, 0, none⟩) 2 ([p, q].map (Value.int .i64)) := by
    have := Rd.lit ((w.alloc (.cells #[.string x.a, .string x.b] 41)).alloc (.cells #[.string y.a, .string y.b] 41)) #[.int .i64 p, .int .i64 q] 3 (size := 1) (n := 2) (xs := [p, q].map (Value.int .i64)) rfl rfl
    simpa using this
  go_enter Tryd.func22, Tryd.ntmps22
  go_wp2_with fail
  go_region_held3 (fun w' => w'.cell? ⟨w.heap.size, 0, none⟩ = some (.string x.a) ∧ w'.cell? ⟨w.heap.size, 1, none⟩ = some (.string x.b) ∧ w'.cell? ⟨w.heap.size + 1, 0, none⟩ = some (.string y.a) ∧ w'.cell? ⟨w.heap.size + 1, 1, none⟩ = some (.string y.b))
    (first | exact four B0 B1 | exact four (B0.alloc _) (B1.alloc _))
    (first
      | (go_at_call 39; ((with_reducible refine (C1.out _).mono ?_); rintro e w3 ⟨rfl, rfl⟩))
      | (go_at_call 39; ((with_reducible refine (C2.out _).mono ?_); rintro e w3 ⟨rfl, rfl⟩))
      | (go_at_call 38; ((with_reducible refine (or_int _ 2 2 [p, q] _ _ (Rd.drew RO) (by omega)).mono ?_); rintro e w4 ⟨rfl, rfl⟩)))
  go_wp2_with fail
  go_ret
  exact ⟨by rw [HF.out]; rfl, (((Gr.alloc _ _).trans (Gr.alloc _ _)).trans (Gr.alloc _ _)).trans (Gr.drew _)⟩
end Go.Proofs.YtkjnoekclfdjiaaDoor

namespace Go.Proofs.YtkjnoekclfdjiaaDoor
open Go.RowKit
set_option linter.unusedVariables false
set_option linter.unusedSimpArgs false

set_option maxHeartbeats 8000000 in
set_option maxRecDepth 100000 in
theorem ovalid_any (M : Nat → Prop) (w : World) (hM : ∀ b, M b → b < w.heap.size) (A : Option Addr) (n c : Nat) (l : List Lk) (hD : Ro w M (LksIn A n l)) (hn : n ≤ 1000000) (hok : ∀ x ∈ l, x.ok) :
    Calls Tryd.prog 13 #[.slice A n c] w fun e w' => e = .returned (.bool (validLk l)) ∧ Below w.heap.size w w' := by
  have HL := hid hD.now.len
  have K0 := (Hold.start M w hM).add (hD.less (by simp [Mut]))
  have HOK := hid hok
  clear hok hD
  go_enter Tryd.func13, Tryd.ntmps13
  go_wp2_with fail
  refine (oset_any _ _ K0.mutLt A n c l (K0.ro 0 rfl) hn HOK.out).mono ?_
  rintro e w1 ⟨gm, q0, rfl, hg1, hg2, hq0, hm, b1⟩
  have KM := K0.callOb (F := TSet 4 lkFam gm q0 (fun z => z ∈ l)) b1 hg1 hg2 (fun w2 h2 => hm.stay h2)
  clear K0 b1 hg1 hg2 hm hq0
  go_wp2_with fail
  go_loopw [12] (fun i wr => ∃ (k : Nat), k ≤ n ∧ i = .int .i64 k ∧ Hid ((List.range k).all (okAt l) = true) ∧ Hold M none w wr [.ob gm (TSet 4 lkFam gm q0 (fun z => z ∈ l)), .ro (LksIn A n l)]) (fun i _ => n - (intOf i).toNat)
  case atStart => exact ⟨0, by omega, rfl, hid rfl, KM⟩
  case round =>
    obtain ⟨k, hk, rfl, HV, H⟩ := hrel
    clear KM
    obtain ⟨wo, rfl⟩ : ∃ wo : World, wo = wr := ⟨_, rfl⟩
    by_cases hlt : k < n
    · have hd : decide ((k : Int) < (n : Int)) = true := by simp; omega
      obtain ⟨x, hx⟩ := get_of HL.out hlt
      obtain ⟨g, o, rfl, hb, c0, c1⟩ := (H.ro 1 rfl).now.at_ hx
      have HX := hid (lkAt_of hx)
      have HXO := hid (HOK.out x (List.mem_of_getElem? hx))
      clear hx
      have K1 := H.alloc_cst #[.string x.a, .string x.b] 41
      have F1 := K1.facts
      simp only [World.size_alloc, World.size_drew, factsL, cellsF, Nat.reduceAdd, List.toList_toArray, and_true, true_and] at F1
      have HB0 := hid (And.intro c0 c1)
      cases hs : (x.a.toList == x.b.toList)
      · by_cases hk0 : k = 0
        · have hkd : decide (0 < k) = false := by simp; omega
          have HK0 := hid hk0
          have HSF := hid hs
          clear hk0
          go_wp2_with fail
          go_quiet (fail)
          go_wp2_with fail
          go_loopw [38] (fun j wq => ∃ p : Nat, p ≤ n ∧ j = .int .i64 p ∧ Hid ((l.take p).all (trB l x) = true) ∧ Hold M none w wq [.cst wo.heap.size 41 #[.string x.a, .string x.b], .ob gm (TSet 4 lkFam gm q0 (fun z => z ∈ l)), .ro (LksIn (some ⟨g, o, none⟩) n l)]) (fun j _ => n - (intOf j).toNat)
          case atStart => exact ⟨0, by omega, rfl, hid rfl, K1.drewN _⟩
          case round =>
            obtain ⟨p, hp, rfl, HP, H2⟩ := hrel
            by_cases hlt2 : p < n
            · have hd2 : decide ((p : Int) < (n : Int)) = true := by simp; omega
              obtain ⟨y, hy⟩ := get_of HL.out hlt2
              obtain ⟨g', o', ho', hb', e0, e1⟩ := (H2.ro 2 rfl).now.at_ hy
              obtain ⟨rfl, rfl⟩ : g = g' ∧ o = o' := by injection ho' with ho'; injection ho' with a1 a2; exact ⟨a1, a2⟩
              clear ho'
              have HY := hid hy
              have hky : lkFam.ok (⟨x.a, y.b⟩ : Lk) := ⟨HXO.out.1, (HOK.out y (List.mem_of_getElem? hy)).2⟩
              clear hy
              have K2 := H2.alloc_cst #[.string y.a, .string y.b] 41
              have F2 := H2.facts
              simp only [World.size_alloc, World.size_drew, factsL, cellsF, Nat.reduceAdd, List.toList_toArray, and_true, true_and] at F2
              cases h4 : (x.b.toList == y.a.toList)
              · have HT := hid (show trB l x y = true by simp only [trB, h4]; rfl)
                go_wp2_with fail
                go_roundw
                case rel => exact ⟨p + 1, by omega, by go_num, hid (take_all HP.out HY.out HT.out), K2.drop (List.sublist_cons_self _ _)⟩
                case measure => simp [intOf]; omega
              · cases hpr : precB l x.a y.b
                · have HT := hid (show trB l x y = false by simp only [trB, h4, hpr]; rfl)
                  have HPM := hid (show ¬ (⟨x.a, y.b⟩ : Lk) ∈ l from fun h => by rw [precB_iff.2 h] at hpr; cases hpr)
                  clear hpr
                  go_wp2_with (at_lookup; go_must (refine wpList_lookTG K2 2 rfl Tryd.setL rfl (.tmp 48) (.tmp 53) rfl rfl (⟨x.a, y.b⟩ : Lk) rfl hky ?_); intro cb hcb; obtain rfl : cb = false := (by cases cb; rfl; exact absurd (hcb.1 rfl) HPM.out); clear hcb)
                  go_ret
                  exact ⟨by rw [show validLk l = false from all_no (k := k) (by rw [HL.out]; exact hlt) (by unfold okAt; rw [HX.out, all_miss HY.out HT.out]; simp)] <;> rfl, K2.below⟩
                · have HT := hid (show trB l x y = true by simp only [trB, h4, hpr]; rfl)
                  have HPM := hid (precB_iff.1 hpr)
                  clear hpr
                  go_wp2_with (at_lookup; go_must (refine wpList_lookTG K2 2 rfl Tryd.setL rfl (.tmp 48) (.tmp 53) rfl rfl (⟨x.a, y.b⟩ : Lk) rfl hky ?_); intro cb hcb; obtain rfl : cb = true := hcb.2 HPM.out; clear hcb)
                  go_roundw
                  case rel => exact ⟨p + 1, by omega, by go_num, hid (take_all HP.out HY.out HT.out), K2.drop (List.sublist_cons_self _ _)⟩
                  case measure => simp [intOf]; omega
            · obtain rfl : n = p := by omega
              have HPA := HP.out
              rw [List.take_of_length_le (by rw [HL.out]; omega)] at HPA
              have HPB := hid HPA; clear HPA
              go_wp2_with fail
              go_roundw
              case rel => exact ⟨k + 1, by omega, by go_num, hid (all_succ HV.out (by unfold okAt; rw [HX.out, HPB.out, HSF.out]; simp [HK0.out])), H2.drop (List.sublist_cons_self _ _)⟩
              case measure => simp [intOf]; omega
        · obtain ⟨k, rfl⟩ : ∃ m, k = m + 1 := ⟨k - 1, by omega⟩
          have HSF := hid hs
          have hw : IntKind.i64.wrap (k : Int) = (k : Int) := IntWalk.i64_in _ (by omega)
          have i0 : (0 : Int) ≤ (k : Int) := by omega
          have i1 : (k : Int) < (n : Int) := by omega
          have hkd : decide ((0 : Int) < (k : Int) + 1) = true := by simp
          clear hk0
          obtain ⟨z, hz⟩ := get_of HL.out (show k < n by omega)
          obtain ⟨g', o', ho', hb', e0, e1⟩ := (K1.ro 2 rfl).now.at_ hz
          obtain ⟨rfl, rfl⟩ : g = g' ∧ o = o' := by injection ho' with ho'; injection ho' with a1 a2; exact ⟨a1, a2⟩
          clear ho'
          have HZ := hid (lkAt_of hz); clear hz
          cases hbf : befB z x
          · have HBF := hid hbf
            have HCV := hid (show ¬ cmpL z x < 0 from fun h => by rw [(cmpL_bef z x).1 h] at hbf; cases hbf)
            have hge : ∀ cv : Int, ¬ cv < 0 → decide (cv ≥ 0) = true := fun cv h => by simp; omega
            go_wp2_with fail
            generalize wo.alloc (.cells #[.string x.a, .string x.b] 41) = w1 at *
            go_still_tail 15, (by kernel_rfl)
            change wpList _ _ _ _ _ (World.drew _)
            go_wp2_with (go_at_call 22; refine (ocompare_gr z x _).mono ?_; rintro e w5 ⟨rfl, g5⟩; have K5 := K1.drew.call g5.below; clear g5; generalize cmpL z x = cv at HCV ⊢; have hcv := hge _ HCV.out)
            go_wp2_with fail
            go_ret
            exact ⟨by rw [show validLk l = false from all_no (k := (k + 1)) (by rw [HL.out]; exact hlt) (by unfold okAt; rw [HX.out]; simp only [HBF.out, lkAt_of, Nat.add_sub_cancel, HZ.out]; simp)] <;> rfl, by first | exact (K5).below | exact (K5).drew.below | exact ((K5).drewN _).below⟩
          · have HBF := hid hbf
            have HCV := hid ((cmpL_bef z x).2 hbf)
            have hge : ∀ cv : Int, cv < 0 → decide (cv ≥ 0) = false := fun cv h => by simp; omega
            go_wp2_with fail
            generalize wo.alloc (.cells #[.string x.a, .string x.b] 41) = w1 at *
            go_still_tail 15, (by kernel_rfl)
            change wpList _ _ _ _ _ (World.drew _)
            go_wp2_with (go_at_call 22; refine (ocompare_gr z x _).mono ?_; rintro e w5 ⟨rfl, g5⟩; have K5 := K1.drew.call g5.below; clear g5; generalize cmpL z x = cv at HCV ⊢; have hcv := hge _ HCV.out)
            go_loopw [38] (fun j wq => ∃ p : Nat, p ≤ n ∧ j = .int .i64 p ∧ Hid ((l.take p).all (trB l x) = true) ∧ Hold M none w wq [.cst wo.heap.size 41 #[.string x.a, .string x.b], .ob gm (TSet 4 lkFam gm q0 (fun z => z ∈ l)), .ro (LksIn (some ⟨g, o, none⟩) n l)]) (fun j _ => n - (intOf j).toNat)
            case atStart => exact ⟨0, by omega, rfl, hid rfl, K5⟩
            case round =>
              obtain ⟨p, hp, rfl, HP, H2⟩ := hrel
              by_cases hlt2 : p < n
              · have hd2 : decide ((p : Int) < (n : Int)) = true := by simp; omega
                obtain ⟨y, hy⟩ := get_of HL.out hlt2
                obtain ⟨g', o', ho', hb', e0, e1⟩ := (H2.ro 2 rfl).now.at_ hy
                obtain ⟨rfl, rfl⟩ : g = g' ∧ o = o' := by injection ho' with ho'; injection ho' with a1 a2; exact ⟨a1, a2⟩
                clear ho'
                have HY := hid hy
                have hky : lkFam.ok (⟨x.a, y.b⟩ : Lk) := ⟨HXO.out.1, (HOK.out y (List.mem_of_getElem? hy)).2⟩
                clear hy
                have K2 := H2.alloc_cst #[.string y.a, .string y.b] 41
                have F2 := H2.facts
                simp only [World.size_alloc, World.size_drew, factsL, cellsF, Nat.reduceAdd, List.toList_toArray, and_true, true_and] at F2
                cases h4 : (x.b.toList == y.a.toList)
                · have HT := hid (show trB l x y = true by simp only [trB, h4]; rfl)
                  go_wp2_with fail
                  go_roundw
                  case rel => exact ⟨p + 1, by omega, by go_num, hid (take_all HP.out HY.out HT.out), K2.drop (List.sublist_cons_self _ _)⟩
                  case measure => simp [intOf]; omega
                · cases hpr : precB l x.a y.b
                  · have HT := hid (show trB l x y = false by simp only [trB, h4, hpr]; rfl)
                    have HPM := hid (show ¬ (⟨x.a, y.b⟩ : Lk) ∈ l from fun h => by rw [precB_iff.2 h] at hpr; cases hpr)
                    clear hpr
                    go_wp2_with (at_lookup; go_must (refine wpList_lookTG K2 2 rfl Tryd.setL rfl (.tmp 48) (.tmp 53) rfl rfl (⟨x.a, y.b⟩ : Lk) rfl hky ?_); intro cb hcb; obtain rfl : cb = false := (by cases cb; rfl; exact absurd (hcb.1 rfl) HPM.out); clear hcb)
                    go_ret
                    exact ⟨by rw [show validLk l = false from all_no (k := (k + 1)) (by rw [HL.out]; exact hlt) (by unfold okAt; rw [HX.out, all_miss HY.out HT.out]; simp)] <;> rfl, K2.below⟩
                  · have HT := hid (show trB l x y = true by simp only [trB, h4, hpr]; rfl)
                    have HPM := hid (precB_iff.1 hpr)
                    clear hpr
                    go_wp2_with (at_lookup; go_must (refine wpList_lookTG K2 2 rfl Tryd.setL rfl (.tmp 48) (.tmp 53) rfl rfl (⟨x.a, y.b⟩ : Lk) rfl hky ?_); intro cb hcb; obtain rfl : cb = true := hcb.2 HPM.out; clear hcb)
                    go_roundw
                    case rel => exact ⟨p + 1, by omega, by go_num, hid (take_all HP.out HY.out HT.out), K2.drop (List.sublist_cons_self _ _)⟩
                    case measure => simp [intOf]; omega
              · obtain rfl : n = p := by omega
                have HPA := HP.out
                rw [List.take_of_length_le (by rw [HL.out]; omega)] at HPA
                have HPB := hid HPA; clear HPA
                go_wp2_with fail
                go_roundw
                case rel => exact ⟨(k + 1) + 1, by omega, by go_num, hid (all_succ HV.out (by unfold okAt; rw [HX.out, HPB.out, HSF.out]; simp [HZ.out, HBF.out])), H2.drop (List.sublist_cons_self _ _)⟩
                case measure => simp [intOf]; omega
      · have HS := hid hs
        go_wp2_with fail
        go_quiet (fail)
        go_wp2_with fail
        go_ret
        exact ⟨by rw [show validLk l = false from all_no (k := k) (by rw [HL.out]; exact hlt) (by unfold okAt; rw [HX.out]; simp only [HS.out]; simp)] <;> rfl, by first | exact (K1).below | exact (K1).drew.below | exact ((K1).drewN _).below⟩
    · obtain rfl : k = n := by omega
      go_wp2_with fail
      go_ret
      exact ⟨by rw [show validLk l = true from by unfold validLk; rw [HL.out]; exact HV.out] <;> rfl, H.below⟩
end Go.Proofs.YtkjnoekclfdjiaaDoor

namespace Go.Proofs.YtkjnoekclfdjiaaDoor
open Go.RowKit Go.Sort
set_option linter.unusedVariables false
set_option linter.unusedSimpArgs false

instance lkInh : Inhabited Lk := ⟨⟨⟨#[]⟩, ⟨#[]⟩⟩⟩
theorem linL : LinC cmpL where
  eq x y := by
    unfold cmpL firstNZ firstNZ firstNZ
    constructor
    · intro h
      split at h
      · rename_i h1
        split at h
        · rename_i h2
          exact lk_ext ((linS.eq _ _).1 h1) ((linS.eq _ _).1 h2)
        · rename_i h2; exact absurd h h2
      · rename_i h1; exact absurd h h1
    · rintro rfl
      rw [if_pos ((linS.eq _ _).2 rfl), if_pos ((linS.eq _ _).2 rfl)]
  flip x y := by
    unfold cmpL firstNZ firstNZ firstNZ
    have a1 := linS.flip x.a y.a
    have a2 := linS.flip y.a x.a
    have b1 := linS.flip x.b y.b
    have b2 := linS.flip y.b x.b
    repeat' split
    all_goals omega
  trans x y z h k := by
    rw [cmpL_bef] at *
    exact bef_trans h k
theorem swoL : SWO (ltOf cmpL) where
  irrefl x := by
    unfold ltOf
    rw [decide_eq_false_iff_not, (linL.eq x x).2 rfl]; omega
  trans x y z h1 h2 := by
    unfold ltOf at *
    rw [decide_eq_true_iff] at *
    exact linL.trans x y z h1 h2
  ntrans x y z h1 h2 := by
    unfold ltOf at *
    rw [decide_eq_false_iff_not] at *
    intro h
    rcases Int.lt_trichotomy (cmpL x y) 0 with e | e | e
    · exact h1 e
    · rw [(linL.eq x y).1 e] at h; exact h2 h
    · have h3 := (linL.flip y x).2 e
      exact h2 (linL.trans y x z h3 h)
theorem sortlk_any {M : Nat → Prop} {row : Option Nat} {w0 w : World} {L : List Hp} (K : Hold M row w0 w L) (i : Nat) {e : TypeId} {g q cap : Nat} {lo : List Lk} (hi : L[i]? = some (.own e 2 (.slice (some ⟨g, 0, none⟩) q cap) q (lkCells lo))) (hq : q < 4611686018427387904) :
    Calls Tryd.prog 21 #[.slice (some ⟨g, 0, none⟩) q cap, .func (.func 22) #[] #[]] w fun e' w' => e' = .returned (.tuple #[]) ∧ ∃ lo' : List Lk, lo'.Perm lo ∧ lo'.Pairwise (fun a b => ¬ cmpL b a < 0) ∧ Hold M row w0 w' (L.set i (.own e 2 (.slice (some ⟨g, 0, none⟩) q cap) q (lkCells lo'))) := by
  have ho : w.ownsRow w0.heap.size e 2 (.slice (some ⟨g, 0, none⟩) q cap) q (lkCells lo) := K.get i hi
  have hg : g < w.heap.size := (K.fresh _ (List.mem_of_getElem? hi) g rfl).2
  have hl : lo.length = q := by have := ho.1; rw [lkCells_len] at this; omega
  have hcmp : CmpLays Tryd.prog 22 #[] Lk.cells 2 cmpL g 0 lo.toArray.size w := fun m os dk hs x y => (ocompare_gr x y _).mono fun e' w' h => h
  have hcon := AnyQ.slices_SortFunc Tryd.sortLk 2 Tryd.isAgg41 Tryd.sizeOf41 Lk.cells (fun _ => rfl) (fun x v hv => by simp [Lk.cells] at hv; rcases hv with rfl | rfl <;> rfl) cmpL swoL 22 #[] g 0 cap lo.toArray w (enters_of Tryd.func22 (by kernel_rfl) rfl) hcmp (holdsK_own Lk.cells 2 (fun _ => rfl) (d := lo.toArray) (by simpa using hl) ho) hg (by simpa [hl] using hq)
  rw [show lo.toArray.size = q by simpa using hl] at hcon
  change Calls Tryd.prog 21 _ _ _ at hcon
  refine hcon.mono ?_
  rintro e' w' ⟨rfl, d', n, os, ⟨p1, p2, p3⟩, hs, rfl⟩
  have p1 : d'.size = q := by simpa [hl] using p1
  have hall : d'.extract 0 q = d' := by rw [← p1]; simp
  have hall2 : lo.toArray.extract 0 q = lo.toArray := by rw [← hl]; simp
  rw [hall, hall2] at p3
  refine ⟨rfl, d'.toList, by simpa using p3, ?_, ?_⟩
  · rw [List.pairwise_iff_getElem]
    intro a b ha hb hab
    have h1 := hs a b (Nat.zero_le _) hab (by simpa [p1] using hb)
    unfold ltOf at h1
    rw [decide_eq_false_iff_not] at h1
    rw [getElem!_pos d' a (by simpa using ha), getElem!_pos d' b (by simpa using hb)] at h1
    simpa using h1
  · exact K.sortK Lk.cells 2 (fun _ => rfl) i hi p1 n os
end Go.Proofs.YtkjnoekclfdjiaaDoor

namespace Go.Proofs.YtkjnoekclfdjiaaDoor
open Go.RowKit Go.Maps
set_option linter.unusedVariables false
set_option linter.unusedSimpArgs false

def OwnLks (w : World) (l : List Lk) (e : Ending) (w' : World) : Prop :=
  ∃ (A : Option Addr) (n c : Nat), e = .returned (.slice A n c) ∧ n = l.length ∧ w'.ownsRow w.heap.size 41 2 (.slice A n c) n (lkCells l) ∧ Below w.heap.size w w'
set_option maxHeartbeats 4000000 in
set_option maxRecDepth 100000 in
theorem cloneLks_any (w : World) (A : Option Addr) (n c : Nat) (l : List Lk) (hD : LksIn A n l w) (hn : n ≤ 1000000) :
    Calls Tryd.prog 17 #[.slice A n c] w fun e w' => OwnLks w l e w' := by
  have hl := hid hD.len
  have hq : ∀ (w : World) (a : Option Addr) (n c : Nat), (binOp .eql 25 (.slice a n c) (.slice none 0 0)).run Tryd.prog w = .ok (.bool a.isNone) w := fun w a n c => Go.Lib.run_eql_slice_nil w _ _ a n c 0 0 Tryd.underlying25
  rcases A with _ | a
  · have h0 : n = 0 := by
      rcases Nat.eq_zero_or_pos n with h | h
      · exact h
      · obtain ⟨_, _, e, _⟩ := (show Rd w w.heap.size 2 none n (lkCells l) from hD).2 h; cases e
    subst h0
    obtain rfl : l = [] := List.length_eq_zero_iff.1 hl.out
    go_enter Tryd.func17, Tryd.ntmps17
    go_wp2_with fail
    go_ret
    exact ⟨none, 0, 0, rfl, rfl, World.ownsRow_nil _ _ _ _, Below.refl _ _⟩
  · have K0 := (Hold.start None_ w (fun b hb => hb.elim)).add (show Ro w _ (LksIn (some a) n l) from Rd.ro hD (Nat.le_refl _) (by simp [Mut, None_]))
    have K1 := K0.alloc_own #[] 41 2 0 (by unfold maxLen; omega) rfl
    have hr := hid (show LksIn (some a) n l _ from (K1.ro 1 rfl).now)
    have h1 := hid (one_lks l)
    go_enter Tryd.func17, Tryd.ntmps17
    go_wp2_with (at_builtin; go_must (refine wpList_appAllH K1 0 rfl Tryd.elLink hr.out rfl (.tmp 5) (.tmp 6) rfl rfl rfl h1.out (by omega) (by omega) ?_); intro C' cap' w2 hc1 hm1 K2)
    go_ret
    have hb := K2.below
    have ho := K2.get 0 rfl
    simp only [Nat.zero_add, List.nil_append] at ho
    exact ⟨C', n, cap', by first | rfl | simp, hl.out.symm, ho, hb⟩
/-- the keys that have come -/
structure Seen (S : Lk → Prop) (D : DataW Unit) (left : Lit → Bool) (lo : List Lk) : Prop where
  has : ∀ kl, left kl = true → Maps.has D kl = true
  ok : ∀ z ∈ lo, z.ok ∧ S z ∧ z.a ≠ z.b
  nd : lo.Nodup
  mem : ∀ z, z.ok → ∀ kl, keyOf Tryd.prog 41 z.val = some kl → (z ∈ lo ↔ Maps.has D kl = true ∧ left kl = false)
theorem Seen.start {S : Lk → Prop} {D : DataW Unit} : Seen S D (Maps.has D) [] := ⟨fun _ h => h, fun _ h => (nomatch h), List.nodup_nil, fun z _ kl _ => by simp⟩
theorem Seen.step {S : Lk → Prop} {D : DataW Unit} {left : Lit → Bool} {lo : List Lk} (h : Seen S D left lo) {x : Lk} (hx : x.ok) (hs : S x) (hn : x.a ≠ x.b) {kl : Lit} (hk : keyOf Tryd.prog 41 x.val = some kl) (hl : left kl = true) : Seen S D (fun z => left z && !z.sameKey kl) (lo ++ [x]) := by
  have hnot : x ∉ lo := fun hm => by have := ((h.mem x hx kl hk).1 hm).2; rw [hl] at this; cases this
  refine ⟨fun k hk' => h.has k ?_, fun z hz => ?_, ?_, fun z hz k hk' => ?_⟩
  · rw [Bool.and_eq_true] at hk'; exact hk'.1
  · rcases List.mem_append.1 hz with hz | hz
    · exact h.ok z hz
    · simp at hz; subst hz; exact ⟨hx, hs, hn⟩
  · rw [List.nodup_append]
    exact ⟨h.nd, by simp, fun a ha b hb => by simp at hb; subst hb; rintro rfl; exact hnot ha⟩
  · rw [List.mem_append, h.mem z hz k hk']
    by_cases e : z = x
    · subst e
      rw [hk] at hk'; injection hk' with hk'; subst hk'
      have : Lit.sameKey kl kl = true := WideAt.sameKey_self (Tryd.lkKeyed.key hk)
      simp [h.has kl hl, this]
    · have hne : (Lit.sameKey k kl) = false := by
        cases hsk : Lit.sameKey k kl
        · rfl
        · have e2 := WideAt.sameKey_eq hsk
          subst e2
          exact absurd (lkFam.inj _ _ (Tryd.lkKeyed.inj hk' hk)) e
      simp [hne, e]
theorem Seen.done {S : Lk → Prop} {D : DataW Unit} {left : Lit → Bool} {lo : List Lk} (h : Seen S D left lo) (hS : SetD lkFam S D) (h0 : ∀ kl, left kl = false) {z : Lk} (hz : z.ok) : z ∈ lo ↔ S z := by
  obtain ⟨kl, hk⟩ := keyOf_lk z hz
  rw [h.mem z hz kl hk]
  simp only [h0, and_true]
  obtain ⟨c, h1, h2⟩ := hS.1 z hz kl hk
  constructor
  · intro hh
    obtain ⟨y, y1, y2, y3⟩ := hS.2 kl hh
    obtain rfl := lkFam.inj _ _ (Tryd.lkKeyed.inj hk y2)
    exact y3
  · intro hs
    cases hh : Maps.has D kl
    · rw [atKey_of_not_has hh] at h1
      injection h1 with h1
      injection h1 with h1
      subst h1
      cases h2.2 hs
    · rfl
theorem allO_ok {l : List Lk} {nm : ByteArray} {ps fs : List ByteArray} (hl : ∀ x ∈ l, x.ok) (hn : nm.size ≤ maxLen) (hp : ∀ s ∈ ps, s.size ≤ maxLen) (hf : ∀ s ∈ fs, s.size ≤ maxLen) : ∀ x ∈ allO l nm ps fs, x.ok := fun x hx => by
  unfold allO at hx
  rcases List.mem_append.1 hx with hx | hx
  · rcases List.mem_append.1 hx with hx | hx
    · exact hl x hx
    · obtain ⟨s, hs, rfl⟩ := List.mem_map.1 hx; exact ⟨hn, hp s hs⟩
  · obtain ⟨s, hs, rfl⟩ := List.mem_map.1 hx; exact ⟨hf s hs, hn⟩
theorem tr_ok {l : List Lk} (h : ∀ x ∈ l, x.ok) {a b : ByteArray} (k : Tr l a b) : (⟨a, b⟩ : Lk).ok := by
  induction k with
  | one hm => exact h _ hm
  | step _ _ h1 h2 => exact ⟨h1.1, h2.2⟩
theorem map_snoc_lk {f : ByteArray → Lk} {l : List Lk} {ss : List ByteArray} {k : Nat} {s : ByteArray} (h : ss[k]? = some s) : lkCells (l ++ (ss.take k).map f) ++ [.string (f s).a, .string (f s).b] = lkCells (l ++ (ss.take (k + 1)).map f) := by
  rw [List.take_add_one, h, Option.toList_some]
  simp [lkCells, Lk.cells]
theorem nodup_sorted {lo : List Lk} (hn : lo.Nodup) (hs : lo.Pairwise (fun a b => ¬ cmpL b a < 0)) : LkSorted lo := by
  refine (List.pairwise_and_iff.2 ⟨hs, hn⟩).imp fun {a b} h => ?_
  rcases bef_tri a b with e | e | e
  · exact absurd e h.2
  · exact e
  · exact absurd ((cmpL_bef b a).2 e) h.1
set_option maxHeartbeats 16000000 in
set_option maxRecDepth 100000 in
theorem oadd_any (M : Nat → Prop) (w : World) (hM : ∀ b, M b → b < w.heap.size) (A : Option Addr) (n c : Nat) (l : List Lk) (nm : ByteArray) (A1 : Option Addr) (n1 c1 : Nat) (ps : List ByteArray) (A2 : Option Addr) (n2 c2 : Nat) (fs : List ByteArray)
    (hD : Ro w M (LksIn A n l)) (hP : Ro w M (StrsIn A1 n1 ps)) (hF : Ro w M (StrsIn A2 n2 fs)) (hn : n ≤ 40) (hn1 : n1 ≤ 20) (hn2 : n2 ≤ 20) (ol : ∀ x ∈ l, x.ok) (onm : nm.size ≤ maxLen) (op : ∀ s ∈ ps, s.size ≤ maxLen) (of : ∀ s ∈ fs, s.size ≤ maxLen) :
    Calls Tryd.prog 8 #[.slice A n c, .string nm, .slice A1 n1 c1, .slice A2 n2 c2] w fun e w' => OAddRet w M l nm ps fs e w' := by
  have HL := hid hD.now.len
  have HP := hid hP.now.len
  have HF := hid hF.now.len
  have HO := hid (allO_ok (nm := nm) (ps := ps) (fs := fs) ol onm op of)
  have HOL := hid ol
  clear onm op of ol
  have K0 := ((((Hold.start M w hM).add (hF.less (by simp [Mut]))).add (hP.less (by simp [Mut, Hp.foot]))).add (hD.less (by simp [Mut, Hp.foot])))
  clear hD hP hF
  go_enter Tryd.func8, Tryd.ntmps8
  go_wp2_with fail
  refine (ovalid_any (Mut M _) _ K0.mutLt A n c l (K0.ro 0 rfl) (by omega) HOL.out).mono ?_
  rintro e w1 ⟨rfl, b1⟩
  have K1 := K0.call b1
  clear K0 b1
  cases hv : validLk l
  · have HV := hid hv; clear hv
    go_wp2_with fail
    go_ret2
    exact ⟨K1.below, .inl ⟨HV.out, rfl⟩⟩
  have HV := hid hv; clear hv
  go_wp2_with fail
  refine (cloneLks_any _ A n c l (K1.ro 0 rfl).now (by omega)).mono ?_
  rintro e w2 ⟨O, q, cap, rfl, hq, ho, b2⟩
  have K2 := K1.callOwn b2 ho
  have hqn : q = n := hq.trans HL.out
  clear hq
  subst hqn
  clear K1 b2 ho
  go_wp2_with fail
  go_loopw [10, 24] (fun ov iv wr => ∃ (k cap : Nat) (O : Option Addr), k ≤ n1 ∧ iv = .int .i64 k ∧ ov = .slice O (q + k) cap ∧ Hold M none w wr [.own 41 2 (.slice O (q + k) cap) (q + k) (lkCells (l ++ (ps.take k).map fun s => ⟨nm, s⟩)), .ro (LksIn A q l), .ro (StrsIn A1 n1 ps), .ro (StrsIn A2 n2 fs)]) (fun _ iv _ => n1 - (intOf iv).toNat)
  case atStart => exact ⟨0, cap, O, by omega, rfl, rfl, by simpa using K2⟩
  case round =>
    clear K2
    obtain ⟨k, cap, O, hk, rfl, rfl, H⟩ := hrel
    by_cases hlt : k < n1
    · have hdd : decide ((k : Int) < (n1 : Int)) = true := by simp; omega
      obtain ⟨s, hs⟩ := get_of HP.out hlt
      obtain ⟨g, o, rfl, hb, c0⟩ := (H.ro 2 rfl).now.at_ hs
      have HX := hid (map_snoc_lk (f := fun s => (⟨nm, s⟩ : Lk)) (l := l) hs)
      clear hs
      go_wp2_with (at_builtin; go_must (refine wpList_appH H 0 rfl Tryd.elLink #[.string nm, .string s] rfl (.tmp 28) (.tmp 32) rfl rfl _ (by first | rfl | simp) rfl rfl (by intro u hu; simp at hu; rcases hu with rfl | rfl <;> rfl) (by omega) (by omega) ?_); intro g9 cap9 w9 hc9 hm9 KB; rw [HX.out] at KB; simp only [List.set_cons_zero] at KB)
      go_roundw
      case rel => exact ⟨k + 1, cap9, _, by omega, by go_num, by first | rfl | go_num, KB⟩
      case measure => simp [intOf]; omega
    · obtain rfl : n1 = k := by omega
      have hdd : decide ((n1 : Int) < (n1 : Int)) = false := by simp
      have HT : ps.take n1 = ps := List.take_of_length_le (by rw [HP.out]; exact Nat.le_refl _)
      rw [HT] at H
      clear HT
      go_wp2_with fail
      clear hdd
      go_loopw [10, 37] (fun ov iv wr => ∃ (k cap : Nat) (O : Option Addr), k ≤ n2 ∧ iv = .int .i64 k ∧ ov = .slice O (q + n1 + k) cap ∧ Hold M none w wr [.own 41 2 (.slice O (q + n1 + k) cap) (q + n1 + k) (lkCells ((l ++ ps.map fun s => ⟨nm, s⟩) ++ (fs.take k).map fun s => ⟨s, nm⟩)), .ro (LksIn A q l), .ro (StrsIn A1 n1 ps), .ro (StrsIn A2 n2 fs)]) (fun _ iv _ => n2 - (intOf iv).toNat)
      case atStart => exact ⟨0, cap, O, by omega, rfl, rfl, by simpa using H⟩
      case round =>
        clear H
        obtain ⟨k, cap, O, hk2, rfl, rfl, H⟩ := hrel
        by_cases hlt2 : k < n2
        · have hdd : decide ((k : Int) < (n2 : Int)) = true := by simp; omega
          obtain ⟨s, hs⟩ := get_of HF.out hlt2
          obtain ⟨g, o, rfl, hb, c0⟩ := (H.ro 3 rfl).now.at_ hs
          have HX := hid (map_snoc_lk (f := fun s => (⟨s, nm⟩ : Lk)) (l := l ++ ps.map fun s => ⟨nm, s⟩) hs)
          clear hs
          go_wp2_with (at_builtin; go_must (refine wpList_appH H 0 rfl Tryd.elLink #[.string s, .string nm] rfl (.tmp 41) (.tmp 45) rfl rfl _ (by first | rfl | simp) rfl rfl (by intro u hu; simp at hu; rcases hu with rfl | rfl <;> rfl) (by omega) (by omega) ?_); intro g9 cap9 w9 hc9 hm9 KB; rw [HX.out] at KB; simp only [List.set_cons_zero] at KB)
          go_roundw
          case rel => exact ⟨k + 1, cap9, _, by omega, by go_num, by first | rfl | go_num, KB⟩
          case measure => simp [intOf]; omega
        · obtain rfl : n2 = k := by omega
          have hdd : decide ((n2 : Int) < (n2 : Int)) = false := by simp
          have HT : fs.take n2 = fs := List.take_of_length_le (by rw [HF.out]; exact Nat.le_refl _)
          rw [HT] at H
          clear HT
          have KS := H.sealRow 0 rfl
          simp only [List.set_cons_zero] at KS
          have KS : Hold M none w wr [.ro (LksIn O (q + n1 + n2) (allO l nm ps fs)), .ro (LksIn A q l), .ro (StrsIn A1 n1 ps), .ro (StrsIn A2 n2 fs)] := KS
          clear H
          go_wp2_with fail
          refine (oclosed_any (Mut M _) _ KS.mutLt O (q + n1 + n2) cap (allO l nm ps fs) (KS.ro 0 rfl) (by omega) HO.out).mono ?_
          rintro e w3 ⟨gm, qm, rfl, hg1, hg2, hqm, hm, b3⟩
          have K3 := ((KS.callOb (F := TSet 4 lkFam gm qm (fun z => Tr (allO l nm ps fs) z.a z.b)) b3 hg1 hg2 (fun w2 h2 => hm.stay h2)).nil 41 2)
          clear KS b3 hg1 hg2 hm hdd
          go_wp2_with (at_range; go_must (refine wpList_rangeT K3 1 rfl Tryd.setL rfl (.tmp 49) rfl rfl ?_); intro Ob D w4 hSD hDn K4)
          go_frame
          have HSD := hid hSD
          obtain ⟨gr, hgr⟩ : ∃ gr, gr = w3.heap.size := ⟨_, rfl⟩
          rw [← hgr] at K4 ⊢
          have HGR := hid hgr
          clear hgr
          simp only [List.set_cons_zero, List.set_cons_succ] at K4
          clear K3 hSD
          go_loopw [15] (fun ov wx => ∃ (left : Lit → Bool) (cnt k cap : Nat) (O : Option Addr) (lo : List Lk), ov = .slice O k cap ∧ k + cnt ≤ 9000000 ∧ Hid (Seen (fun z => Tr (allO l nm ps fs) z.a z.b) D left lo) ∧ Hold M none w wx [.ob gr (Rng Tryd.prog 41 4 Ob gm gr qm D left cnt), .own 41 2 (.slice O k cap) k (lkCells lo), .ro (fun w => w.heap[gm]? = some Ob), .ro (LksIn A q l), .ro (StrsIn A1 n1 ps), .ro (StrsIn A2 n2 fs)]) (fun _ wx => wx.rangeLeft gm gr)
          case atStart => exact ⟨_, Maps.size D, 0, 0, none, [], rfl, by omega, hid Seen.start, K4.drop (List.Sublist.cons_cons _ (List.Sublist.cons_cons _ (List.Sublist.cons_cons _ (List.sublist_cons_self _ _))))⟩
          case round =>
            clear K4
            obtain ⟨left, cnt, k, cap, O, lo, rfl, hkc, HSN, H⟩ := hrel
            have hlo : lo.length = k := by have := (H.get 1 rfl).1; rw [lkCells_len] at this; omega
            have HLO := hid hlo
            have hme : wr.rangeLeft gm gr = cnt := (H.ob_ 0 rfl wr (H.ro 2 rfl).now rfl).left_eq
            have HME := hid hme
            clear hlo hme
            go_wp2_with (at_next; go_must (refine wpList_nextT H 0 2 rfl rfl Tryd.setL HSD.out HSN.out.has rfl (.tmp 50) rfl rfl ?_ ?_))
            · intro hc0 hl0
              have HL0 := hid hl0
              clear hl0
              rcases own_addr (H.get 1 rfl) with ⟨rfl, h0, rfl⟩ | ⟨g, rfl, hg⟩
              · subst h0
                have HNL := hid (List.length_eq_zero_iff.1 HLO.out)
                go_wp2_with fail
                refine (AnyF.slices_SortFunc_none Tryd.sortLk none 0 _ _).mono ?_
                rintro e w5 ⟨rfl, rfl⟩
                go_wp2_with fail
                go_ret2
                refine ⟨H.below, .inr ⟨HV.out, .inr ⟨[], ⟨List.Pairwise.nil, fun a b => ⟨fun h => (nomatch h), fun h => ?_⟩⟩, rfl, none, 0, 0, rfl, rfl, by omega, by omega, fun _ _ _ => Rd.none_⟩⟩⟩
                have := (HSN.out.done HSD.out HL0.out (z := ⟨a, b⟩) (tr_ok HO.out h)).2 h
                rw [HNL.out] at this
                exact nomatch this
              · go_wp2_with fail
                refine (sortlk_any H 1 rfl (by omega)).mono ?_
                rintro e w5 ⟨rfl, lo', hp, hs, K5⟩
                simp only [List.set_cons_zero, List.set_cons_succ] at K5
                have HQ := hid (And.intro hp hs)
                clear hp hs H
                have hcap := own_caps (K5.get 1 rfl)
                have K6 := K5.sealRow 1 rfl
                simp only [List.set_cons_zero, List.set_cons_succ] at K6
                go_wp2_with fail
                go_ret2
                have hcl : ClosOf (allO l nm ps fs) lo' := ⟨nodup_sorted (HQ.out.1.nodup_iff.2 HSN.out.nd) (HQ.out.2.imp fun h => by omega), fun a b => by
                  rw [HQ.out.1.mem_iff]
                  constructor
                  · intro h; exact (HSN.out.ok _ h).2.1
                  · intro h; exact (HSN.out.done HSD.out HL0.out (z := ⟨a, b⟩) (tr_ok HO.out h)).2 h⟩
                exact ⟨K6.below, .inr ⟨HV.out, .inr ⟨lo', hcl, (clos_valid hcl).2 fun z hz => (HSN.out.ok z (HQ.out.1.mem_iff.1 hz)).2.2, _, k, cap, rfl, by rw [HQ.out.1.length_eq, HLO.out], hcap.1, hcap.2.1, K6.roOut 1 rfl⟩⟩⟩
            · intro x kl w5 cnt' hxo hxs hxk hxl hct K5 hen
              (try simp only [List.set_cons_zero] at K5)
              have HXS := hid (show Tr (allO l nm ps fs) x.a x.b from hxs)
              have HXK := hid hxk
              have HXL := hid hxl
              have HXO := hid (show x.ok from hxo)
              clear hxs hxk hxl hxo H
              have hval : lkFam.val x = .agg #[.string x.a, .string x.b] := rfl
              rw [hval] at hen ⊢
              clear hval
              have K6 := K5.alloc_cst #[.string x.a, .string x.b] 41
              have FA := K6.facts
              simp only [World.size_alloc, World.size_drew, factsL, cellsF, Nat.reduceAdd, List.toList_toArray, List.set_cons_zero, List.set_cons_succ, List.setIfInBounds_toArray, and_true, true_and] at FA
              cases hab : (x.a.toList == x.b.toList)
              · have HN := hid (show x.a ≠ x.b from fun e => by rw [e] at hab; simp at hab)
                go_wp2_with (at_builtin; go_must (refine wpList_appH K6 2 rfl Tryd.elLink #[.string x.a, .string x.b] rfl (.tmp 60) (.tmp 62) rfl rfl _ (by first | rfl | simp) rfl rfl (by intro u hu; simp at hu; rcases hu with rfl | rfl <;> rfl) (by omega) (by omega) ?_); intro g9 cap9 w9 hc9 hm9 KB; simp only [List.set_cons_zero, List.set_cons_succ] at KB)
                have e9 : lkCells lo ++ (#[Value.string x.a, .string x.b]).toList = lkCells (lo ++ [x]) := by simp [lkCells, Lk.cells]
                rw [e9] at KB
                have KC := KB.drop (List.sublist_cons_self _ _)
                have hme2 : w9.rangeLeft gm gr = cnt' := (KC.ob_ 0 rfl w9 (KC.ro 2 rfl).now rfl).left_eq
                go_roundw
                case rel => exact ⟨_, cnt', k + 1, cap9, _, lo ++ [x], rfl, by omega, hid (Seen.step HSN.out HXO.out HXS.out HN.out HXK.out HXL.out), KC⟩
                case measure => rw [hme2, HME.out]; exact hct
              · have HN := hid (ba_beq.1 hab)
                go_wp2_with fail
                go_ret2
                exact ⟨K6.below, .inr ⟨HV.out, .inl ⟨⟨x.a, by have h := HXS.out; rw [← HN.out] at h; exact h⟩, rfl⟩⟩⟩
end Go.Proofs.YtkjnoekclfdjiaaDoor

namespace Go.Proofs.YtkjnoekclfdjiaaDoor
open Go.RowKit
set_option linter.unusedVariables false
set_option linter.unusedSimpArgs false

def setL : List Value → Nat → List Value → List Value
  | xs, _, [] => xs
  | xs, o, v :: r => setL (xs.set o v) (o + 1) r
theorem setL_take : ∀ (vs xs : List Value) (o q : Nat), q ≤ o → (setL xs o vs).take q = xs.take q
  | [], _, _, _, _ => rfl
  | v :: r, xs, o, q, h => by
    rw [setL, setL_take r _ _ _ (by omega)]
    apply List.ext_getElem?
    intro j
    rw [List.getElem?_take, List.getElem?_take]
    split
    · rw [List.getElem?_set_ne (by omega)]
    · rfl
section
variable {M : Nat → Prop} {row : Option Nat} {w0 w : World} {L : List Hp}
theorem Hold.setCells {i : Nat} {e : TypeId} {size n cap g : Nat} : ∀ (vs xs : List Value) (o : Nat) (w : World) (L : List Hp) (h : Hold M row w0 w L) (hi : L[i]? = some (.own e size (.slice (some ⟨g, 0, none⟩) n cap) n xs)),
    Hold M row w0 (w.setCells g o vs) (L.set i (.own e size (.slice (some ⟨g, 0, none⟩) n cap) n (setL xs o vs)))
  | [], xs, o, w, L, h, hi => by
    have e1 : L.set i (.own e size (.slice (some ⟨g, 0, none⟩) n cap) n xs) = L := by
      apply List.ext_getElem?
      intro j
      rw [List.getElem?_set]
      split
      · subst i; split
        · exact hi.symm
        · rw [List.getElem?_eq_none (by omega)]
      · rfl
    rw [setL, World.setCells, e1]; exact h
  | v :: r, xs, o, w, L, h, hi => by
    have h1 := h.put_ i hi o v
    have hl : i < L.length := (List.getElem?_eq_some_iff.1 hi).1
    have h2 := Hold.setCells r (xs.set o v) (o + 1) _ _ h1 (by rw [List.getElem?_set_self hl])
    rw [List.set_set] at h2
    rw [setL, World.setCells]; exact h2
end
theorem run_clear_lk (w : World) (ty : TypeId) (b o n c : Nat) (hn : 0 < n)
    (hc : ∀ j, j < n * 2 → (w.cell? ⟨b, o + j, none⟩).isSome = true) (hf : ∀ j, j < n * 2 → w.frozen? ⟨b, o + j, none⟩ = false) :
    (Builtin.clear_ #[25] ty #[.slice (some ⟨b, o, none⟩) n c]).run Tryd.prog w = .ok (.tuple #[]) (w.setCells b o (List.replicate (n * 2) (.string ⟨#[]⟩))) := by
  have hv : ∀ w, (zeroValue 41).run Tryd.prog w = .ok (.agg #[.string ⟨#[]⟩, .string ⟨#[]⟩]) w := fun w => by kernel_rfl
  have hzc : (Builtin.zeroCells (Value.agg #[.string ⟨#[]⟩, .string ⟨#[]⟩]).cells n).toList = List.replicate (n * 2) (.string ⟨#[]⟩) := by
    apply List.ext_getElem
    · simp [Builtin.zeroCells, Value.cells]
    · intro i h1 h2
      simp [Builtin.zeroCells, Value.cells]
      rcases (show i % 2 = 0 ∨ i % 2 = 1 by omega) with h | h <;> simp [h]
  have hst := run_storeCells_cells (P := Tryd.prog) b o (List.replicate (n * 2) (.string ⟨#[]⟩)) 0 w (by simpa using hc) (by simpa using hf) (by intro v hv'; rw [List.eq_of_mem_replicate hv']; rfl)
  simp only [Nat.add_zero] at hst
  obtain ⟨m, rfl⟩ : ∃ m, n = m + 1 := ⟨n - 1, by omega⟩
  simp [Builtin.clear_, run_underlying Tryd.underlying25, hv, hzc, hst]
/-- does a link concern a name? -/
def touL (s : ByteArray) (x : Lk) : Bool := x.a.toList == s.toList || x.b.toList == s.toList
def remL (l : List Lk) (s : ByteArray) : List Lk := l.filter fun x => !touL s x
theorem rem_snoc {l : List Lk} {s : ByteArray} {k : Nat} {x : Lk} (hx : l[k]? = some x) : remL (l.take (k + 1)) s = remL (l.take k) s ++ (if touL s x then [] else [x]) := by
  unfold remL
  rw [List.take_add_one, hx, Option.toList_some, List.filter_append]
  cases h : touL s x <;> simp [h]
set_option maxHeartbeats 4000000 in
/-- the closure of Remove -/
theorem orclos_any (M : Nat → Prop) (w : World) (hM : ∀ b, M b → b < w.heap.size) (x : Lk) (bx : Nat) (s : ByteArray) (hB : Ro w M (fun w => w.heap[bx]? = some (.cells #[.string s] 9 (0, 0)))) :
    Calls Tryd.prog 26 #[.agg #[.string x.a, .string x.b], .pointer (some ⟨bx, 0, none⟩)] w fun e w' => e = .returned (.bool (touL s x)) ∧ Below w.heap.size w w' := by
  have K0 := ((Hold.start M w hM).add (hB.less (by simp [Mut]))).alloc_cst #[.string x.a, .string x.b] 41
  have F0 := K0.facts
  simp only [World.size_alloc, World.size_drew, factsL, cellsF, Nat.reduceAdd, List.toList_toArray, and_true, true_and] at F0
  have hblk : Blk _ bx 9 #[.string s] := (K0.ro 1 rfl).now
  have c0 := cell_of_row _ bx 0 _ _ _ hblk
  have c1 := Blk.lt hblk
  clear hblk
  go_enter Tryd.func26, Tryd.ntmps26
  cases h1 : (x.a.toList == s.toList)
  · have HE := hid (show touL s x = (x.b.toList == s.toList) by unfold touL; rw [h1]; rfl)
    go_wp2_with fail
    go_ret
    exact ⟨by rw [HE.out] <;> rfl, K0.below⟩
  · have HE := hid (show touL s x = true by unfold touL; rw [h1]; rfl)
    go_wp2_with fail
    go_ret
    exact ⟨by rw [HE.out] <;> rfl, K0.below⟩
abbrev clV (bx : Nat) : Value := .func (.func 26) #[] #[.pointer (some ⟨bx, 0, none⟩)]
set_option maxHeartbeats 4000000 in
set_option maxRecDepth 100000 in
theorem indexLks_any (w : World) (A : Option Addr) (n c : Nat) (l : List Lk) (bx : Nat) (s : ByteArray) (hD : Ro w None_ (LksIn A n l)) (hB : Ro w None_ (fun w => w.heap[bx]? = some (.cells #[.string s] 9 (0, 0)))) (hn : n ≤ 1000000) :
    Calls Tryd.prog 41 #[.slice A n c, clV bx] w fun e w' => (∃ i : Int, e = .returned (.int .i64 i) ∧ ((i = -1 ∧ remL l s = l) ∨ ∃ (k : Nat) (x : Lk), i = k ∧ l[k]? = some x ∧ touL s x = true ∧ remL (l.take k) s = l.take k)) ∧ Below w.heap.size w w' := by
  have HL := hid hD.now.len
  have K0 := ((Hold.start None_ w (fun b hb => hb.elim)).add (hB.less (by simp [Mut]))).add (hD.less (by simp [Mut, Hp.foot]))
  go_enter Tryd.func41, Tryd.ntmps41
  go_wp2_with fail
  go_loopw [8] (fun i wr => ∃ (k : Nat), k ≤ n ∧ i = .int .i64 k ∧ Hid (remL (l.take k) s = l.take k) ∧ Hold None_ none w wr [.ro (LksIn A n l), .ro (fun w => w.heap[bx]? = some (.cells #[.string s] 9 (0, 0)))]) (fun i _ => n - (intOf i).toNat)
  case atStart => exact ⟨0, by omega, rfl, hid rfl, K0⟩
  case round =>
    clear K0
    obtain ⟨k, hk, rfl, HW, H⟩ := hrel
    by_cases hlt : k < n
    · have hd : decide ((k : Int) < (n : Int)) = true := by simp; omega
      have i0 : (0 : Int) ≤ (k : Int) := by omega
      have i1 : (k : Int) < (n : Int) := by omega
      obtain ⟨x, hx⟩ := get_of HL.out hlt
      obtain ⟨g, o, rfl, hb, c0, c1⟩ := (H.ro 0 rfl).now.at_ hx
      have HX := hid hx; clear hx
      go_wp2_with fail
      refine (orclos_any _ wr H.mutLt x bx s (H.ro 1 rfl)).mono ?_
      rintro e w5 ⟨rfl, b5⟩
      have K5 := H.call b5
      clear b5 H
      cases ht : touL s x
      · have HT := hid ht; clear ht
        go_wp2_with fail
        go_roundw
        case rel => exact ⟨k + 1, by omega, by go_num, hid (by rw [rem_snoc HX.out, HT.out, HW.out, List.take_add_one, HX.out]; rfl), K5⟩
        case measure => simp [intOf]; omega
      · have HT := hid ht; clear ht
        go_wp2_with fail
        go_ret
        exact ⟨⟨k, by first | rfl | simp, .inr ⟨k, x, rfl, HX.out, HT.out, HW.out⟩⟩, K5.below⟩
    · obtain rfl : n = k := by omega
      have hd : decide ((n : Int) < (n : Int)) = false := by simp
      go_wp2_with fail
      go_ret
      refine ⟨⟨-1, by first | rfl | simp, .inl ⟨rfl, ?_⟩⟩, H.below⟩
      have := HW.out
      rwa [List.take_of_length_le (show l.length ≤ n by rw [HL.out]; exact Nat.le_refl _)] at this
theorem lkCells_set (l : List Lk) (q : Nat) (x : Lk) : lkCells (l.set q x) = ((lkCells l).set (q * 2) (.string x.a)).set (q * 2 + 1) (.string x.b) := by
  induction l generalizing q with
  | nil => simp [lkCells]
  | cons y l ih =>
    cases q with
    | zero => simp [lkCells, Lk.cells]
    | succ q =>
      have := ih q
      simp only [lkCells, List.set_cons_succ, List.flatMap_cons, Lk.cells] at this ⊢
      rw [this, show (q + 1) * 2 = q * 2 + 1 + 1 by omega]
      simp
abbrev DL (g n c : Nat) (cur : List Lk) (bx : Nat) (s : ByteArray) (F : List Hp) : List Hp :=
  .own 41 2 (.slice (some ⟨g, 0, none⟩) n c) n (lkCells cur) :: .ro (fun w => w.heap[bx]? = some (.cells #[.string s] 9 (0, 0))) :: F
set_option maxHeartbeats 4000000 in
set_option maxRecDepth 100000 in
theorem deleteLks_any (M : Nat → Prop) (w0 w : World) (g n c : Nat) (l : List Lk) (bx : Nat) (s : ByteArray) (F : List Hp) (K : Hold M none w0 w (DL g n c l bx s F)) (hn : n ≤ 1000000) :
    Calls Tryd.prog 25 #[.slice (some ⟨g, 0, none⟩) n c, clV bx] w fun e w' => ∃ q, e = .returned (.slice (some ⟨g, 0, none⟩) q c) ∧ q = (remL l s).length ∧ Hold M none w0 w' (.own 41 2 (.slice (some ⟨g, 0, none⟩) q c) q (lkCells (remL l s)) :: .ro (fun w => w.heap[bx]? = some (.cells #[.string s] 9 (0, 0))) :: F) := by
  have HL := hid (show l.length = n by have := (K.get 0 rfl).1; rw [lkCells_len] at this; omega)
  have hcn := own_caps (K.get 0 rfl)
  have r0 : Ro w None_ (LksIn (some ⟨g, 0, none⟩) n l) := (Rd.of_own (K.get 0 rfl)).ro (Nat.le_refl _) (fun _ _ h => h)
  go_enter Tryd.func25, Tryd.ntmps25
  go_wp2_with fail
  refine (indexLks_any w _ n c l bx s r0 ((K.ro 1 rfl).less (fun _ h => h.elim)) hn).mono ?_
  rintro e w2 ⟨⟨i, rfl, hi⟩, b2⟩
  have K2 := K.call b2
  clear r0 b2 K
  rcases hi with ⟨rfl, hw⟩ | ⟨k, x, rfl, hx, ht, hw⟩
  · have HW := hid hw; clear hw
    go_wp2_with fail
    go_ret
    exact ⟨n, by first | rfl | simp, by rw [HW.out, HL.out], by rw [HW.out]; exact K2⟩
  · have hkn : k < n := by have := (List.getElem?_eq_some_iff.1 hx).1; have := HL.out; omega
    have he : ((k : Int) == (-1 : Int)) = false := by rw [beq_eq_false_iff_ne]; omega
    have HS := hid (show remL (l.take (k + 1)) s = l.take k by rw [rem_snoc hx, ht, hw]; simp)
    clear hx ht hw
    go_wp2_with fail
    go_loopw [5, 6] (fun iv jv wr => ∃ (q j : Nat) (cur : List Lk), q < j ∧ j ≤ n ∧ iv = .int .i64 q ∧ jv = .int .i64 j ∧ Hid (cur.length = n ∧ cur.take q = remL (l.take j) s ∧ cur.drop j = l.drop j) ∧ Hold M none w0 wr (DL g n c cur bx s F)) (fun _ jv _ => n - (intOf jv).toNat)
    case atStart => exact ⟨k, k + 1, l, by omega, by omega, rfl, by go_num, hid ⟨HL.out, HS.out.symm, rfl⟩, K2⟩
    case round =>
      clear K2
      obtain ⟨q, j, cur, hqj, hj, rfl, rfl, HC, H⟩ := hrel
      by_cases hlt : j < n
      · have hd : decide ((j : Int) < (n : Int)) = true := by simp; omega
        have hjl : j < l.length := by rw [HL.out]; exact hlt
        obtain ⟨x, hx⟩ := get_of HL.out hlt
        have hcx : cur[j]? = some x := by
          have h1 : (cur.drop j)[0]? = (l.drop j)[0]? := by rw [HC.out.2.2]
          simpa [hx] using h1
        have HX := hid hx; clear hx
        have c0 : wr.cell? ⟨g, j * 2, none⟩ = some (.string x.a) := ((H.get 0 rfl).cellAt (j * 2) (by omega)).trans (flat_get Lk.cells 2 (fun _ => rfl) cur j 0 x (by omega) hcx)
        have c1 : wr.cell? ⟨g, j * 2 + 1, none⟩ = some (.string x.b) := ((H.get 0 rfl).cellAt (j * 2 + 1) (by omega)).trans (flat_get Lk.cells 2 (fun _ => rfl) cur j 1 x (by omega) hcx)
        clear hcx
        have i0 : (0 : Int) ≤ (j : Int) := by omega
        have i1 : (j : Int) < (n : Int) := by omega
        have i2 : (0 : Int) ≤ (q : Int) := by omega
        have i3 : (q : Int) < (n : Int) := by omega
        have K1 := H.alloc_cst #[.string x.a, .string x.b] 41
        go_wp2_with fail
        refine (orclos_any _ _ K1.mutLt x bx s (K1.ro 2 rfl)).mono ?_
        rintro e w5 ⟨rfl, b5⟩
        have K5 := K1.call b5
        have hgl : g < wr.heap.size := (H.fresh _ (List.mem_cons_self ..) g rfl).2
        obtain ⟨gb, hgb⟩ : ∃ gb, gb = wr.heap.size := ⟨_, rfl⟩
        rw [← hgb] at K5 ⊢
        have hgg : ¬ gb = g := by omega
        have HGB := hid hgb
        clear b5 K1 hgb
        cases ht : touL s x
        · have HT := hid ht; clear ht
          have F5 := K5.facts
          simp only [World.size_alloc, World.size_drew, factsL, cellsF, Nat.reduceAdd, List.toList_toArray, and_true, true_and] at F5
          obtain ⟨y0, hy0⟩ : ∃ y, w5.cell? ⟨g, q * 2, none⟩ = some y := ⟨_, ((K5.get 1 rfl).cellAt (q * 2) (by omega)).trans (List.getElem?_eq_getElem (by rw [lkCells_len, HC.out.1]; omega))⟩
          obtain ⟨y1, hy1⟩ : ∃ y, w5.cell? ⟨g, q * 2 + 1, none⟩ = some y := ⟨_, ((K5.get 1 rfl).cellAt (q * 2 + 1) (by omega)).trans (List.getElem?_eq_getElem (by rw [lkCells_len, HC.out.1]; omega))⟩
          have hf0 := (K5.get 1 rfl).frozenAt (q * 2)
          have hf1 := (K5.get 1 rfl).frozenAt (q * 2 + 1)
          have K6 := (K5.put_ 1 rfl (q * 2) (.string x.a)).put_ 1 rfl (q * 2 + 1) (.string x.b)
          simp only [List.set_cons_zero, List.set_cons_succ] at K6
          rw [← lkCells_set] at K6
          have hgg2 : ¬ g = gb := fun e => hgg e.symm
          go_wp2_with fail
          have hqc : q < cur.length := by rw [HC.out.1]; omega
          refine ⟨⟨q + 1, j + 1, cur.set q x, by omega, by omega, by go_num, by go_num, hid ⟨by simpa using HC.out.1, ?_, ?_⟩, K6.drop (List.sublist_cons_self _ _)⟩, by simp [intOf]; omega⟩
          · rw [rem_snoc HX.out, HT.out, ← HC.out.2.1, List.take_succ_eq_append_getElem (by simpa using hqc), List.getElem_set_self, List.take_set_of_le (Nat.le_refl _)]
            rfl
          · rw [List.drop_set_of_lt (by omega)]
            have := congrArg List.tail HC.out.2.2
            simpa [List.tail_drop] using this
        · have HT := hid ht; clear ht
          go_wp2_with fail
          go_roundw
          case rel => exact ⟨q, j + 1, cur, by omega, by omega, rfl, by go_num, hid ⟨HC.out.1, by rw [HC.out.2.1, rem_snoc HX.out, HT.out]; simp, by have := congrArg List.tail HC.out.2.2; simpa [List.tail_drop] using this⟩, K5.drop (List.sublist_cons_self _ _)⟩
          case measure => simp [intOf]; omega
      · obtain rfl : n = j := by omega
        have hd : decide ((n : Int) < (n : Int)) = false := by simp
        have i2 : (0 : Int) ≤ (q : Int) := by omega
        have i3 : (q : Int) ≤ (n : Int) := by omega
        have i4 : (q : Int) ≤ (c : Int) := by omega
        have hne : ¬ c = q := by omega
        have hcl : ∀ j, j < (n - q) * 2 → (wr.cell? ⟨g, q * 2 + j, none⟩).isSome = true := fun j hj => by
          rw [(H.get 0 rfl).cellAt (q * 2 + j) (by omega), List.getElem?_eq_getElem (by rw [lkCells_len, HC.out.1]; omega)]; rfl
        have hfl : ∀ j, j < (n - q) * 2 → wr.frozen? ⟨g, q * 2 + j, none⟩ = false := fun j hj => (H.get 0 rfl).frozenAt (q * 2 + j)
        have HRC := hid fun ty => run_clear_lk wr ty g (q * 2) (n - q) (c - q) (by omega) hcl hfl
        clear hcl hfl
        have K6 := (Hold.setCells (List.replicate ((n - q) * 2) (.string ⟨#[]⟩)) _ (q * 2) _ _ H (i := 0) rfl).cutRow 0 (n := q) rfl (by omega)
        simp only [List.set_cons_zero, List.set_cons_succ] at K6
        rw [setL_take _ _ _ _ (Nat.le_refl _)] at K6
        have e1 : (lkCells cur).take (q * 2) = lkCells (remL l s) := by
          have h1 := HC.out.2.1
          rw [List.take_of_length_le (show l.length ≤ n by rw [HL.out]; exact Nat.le_refl _)] at h1
          rw [← h1]
          have h2 : lkCells cur = lkCells (cur.take q) ++ lkCells (cur.drop q) := by
            unfold lkCells; rw [← List.flatMap_append, List.take_append_drop]
          rw [h2, List.take_append_of_le_length (by rw [lkCells_len, List.length_take, HC.out.1]; omega), List.take_of_length_le (by rw [lkCells_len, List.length_take, HC.out.1]; omega)]
        rw [e1] at K6
        clear e1
        have hq2 := hid (show q = (remL l s).length by
          have h1 := HC.out.2.1
          rw [List.take_of_length_le (show l.length ≤ n by rw [HL.out]; exact Nat.le_refl _)] at h1
          rw [← h1, List.length_take, HC.out.1]; omega)
        have hrc := HRC.out 0
        go_wp2_with fail
        go_ret
        exact ⟨q, by first | rfl | simp, hq2.out, K6⟩
set_option maxHeartbeats 4000000 in
set_option maxRecDepth 100000 in
theorem deleteLkNil_any (w : World) (bx : Nat) (s : ByteArray) (hB : Ro w None_ (fun w => w.heap[bx]? = some (.cells #[.string s] 9 (0, 0)))) :
    Calls Tryd.prog 25 #[.slice none 0 0, clV bx] w fun e w' => e = .returned (.slice none 0 0) ∧ Below w.heap.size w w' := by
  go_enter Tryd.func25, Tryd.ntmps25
  go_wp2_with fail
  refine (indexLks_any w none 0 0 [] bx s ro_nil hB (by omega)).mono ?_
  rintro e w2 ⟨⟨i, rfl, hi⟩, b2⟩
  rcases hi with ⟨rfl, hw⟩ | ⟨k, x, rfl, hx, ht, hw⟩
  · go_wp2_with fail
    go_ret
    exact ⟨by first | rfl | simp, b2⟩
  · simp at hx
set_option maxHeartbeats 4000000 in
set_option maxRecDepth 100000 in
theorem oremove_any (M : Nat → Prop) (w : World) (hM : ∀ b, M b → b < w.heap.size) (A : Option Addr) (n c : Nat) (l : List Lk) (s : ByteArray) (hD : Ro w M (LksIn A n l)) (hn : n ≤ 1000000) :
    Calls Tryd.prog 12 #[.slice A n c, .string s] w fun e w' => LksRet w M (remL l s) e w' := by
  have HL := hid hD.now.len
  have K0 := ((Hold.start M w hM).add (hD.less (by simp [Mut]))).alloc_cst #[.string s] 9
  have K1 := K0.add (K0.get 0 rfl)
  obtain ⟨bx, hbx⟩ : ∃ bx, bx = w.heap.size := ⟨_, rfl⟩
  rw [← hbx] at K1
  have HBX := hid hbx
  go_enter Tryd.func12, Tryd.ntmps12
  go_wp2_with fail
  rw [← hbx]
  clear hbx K0
  refine (cloneLks_any _ A n c l (K1.ro 2 rfl).now hn).mono ?_
  rintro e w2 ⟨A2, n2, c2, rfl, hn2, ho2, b2⟩
  have K2 := K1.callOwn b2 ho2
  have HN2 := hid hn2
  clear ho2 b2 K1 hn2
  go_wp2_with fail
  have K3 := K2.drop (List.Sublist.cons_cons _ (List.Sublist.cons_cons _ (List.nil_sublist _)))
  clear K2
  have hcl := own_caps (K3.get 0 rfl)
  rcases own_addr (K3.get 0 rfl) with ⟨rfl, h0, h1⟩ | ⟨g, rfl, _⟩
  · subst h0 h1
    obtain rfl : l = [] := List.length_eq_zero_iff.1 (by rw [← HN2.out])
    refine (deleteLkNil_any w2 bx s ((K3.ro 1 rfl).less (fun _ h => h.elim))).mono ?_
    rintro e w3 ⟨rfl, b3⟩
    have K4 := K3.call b3
    go_wp2_with fail
    go_ret
    exact ⟨none, 0, 0, by first | rfl | simp, rfl, by omega, by omega, ro_nil, K4.below⟩
  · refine (deleteLks_any M w w2 g n2 c2 l bx s [] K3 (by have h1 := HN2.out; have h2 := HL.out; omega)).mono ?_
    rintro e w3 ⟨q, rfl, hq, K4⟩
    have HQ := hid hq; clear hq
    have hc4 := own_caps (K4.get 0 rfl)
    have KS := K4.sealRow 0 rfl
    go_wp2_with fail
    go_ret
    exact ⟨_, q, c2, by first | rfl | simp, HQ.out, hc4.1, hc4.2.1, KS.roOut 0 rfl, KS.below⟩
end Go.Proofs.YtkjnoekclfdjiaaDoor

namespace Go.Proofs.YtkjnoekclfdjiaaDoor
open Go.RowKit
set_option linter.unusedVariables false

/-- A call that gives a value, and turns nothing that was there. -/
def Gives (f : FuncId) (args : Array Value) (v : Value) : Prop :=
  ∀ w : World, Calls Tryd.prog f args w fun e w' => e = .returned v ∧ Below w.heap.size w w'

end Go.Proofs.YtkjnoekclfdjiaaDoor

namespace Go.Proofs.YtkjnoekclfdjiaaDoor
open Go.RowKit
set_option linter.unusedVariables false
set_option linter.unusedSimpArgs false

def oA : ByteArray := ⟨#[97]⟩
def oB : ByteArray := ⟨#[98]⟩
def oC : ByteArray := ⟨#[99]⟩
def r18 : List Lk := [⟨oA, oB⟩, ⟨oA, oC⟩, ⟨oB, oC⟩]
theorem clos_check {l r : List Lk} (hs : LkSorted r) (h1 : ∀ z ∈ l, z ∈ r) (h2 : ∀ z ∈ r, Tr l z.a z.b) (h3 : ∀ x ∈ r, ∀ y ∈ r, x.b = y.a → (⟨x.a, y.b⟩ : Lk) ∈ r) : ClosOf l r := by
  refine ⟨hs, fun a b => ⟨fun h => h2 _ h, fun h => ?_⟩⟩
  induction h with
  | one h => exact h1 _ h
  | step _ _ i1 i2 => exact h3 _ i1 _ i2 rfl
theorem k18_clos : ClosOf (allO [] oB [oC] [oA]) r18 := by
  refine clos_check ?_ ?_ ?_ ?_
  · unfold LkSorted; decide +kernel
  · intro z hz
    simp [allO] at hz
    rcases hz with rfl | rfl <;> simp [r18]
  · have a1 : Tr (allO [] oB [oC] [oA]) oA oB := .one (by simp [allO])
    have a2 : Tr (allO [] oB [oC] [oA]) oB oC := .one (by simp [allO])
    intro z hz
    simp [r18] at hz
    rcases hz with rfl | rfl | rfl
    · exact a1
    · exact .step a1 a2
    · exact a2
  · intro x hx y hy e
    simp [r18] at hx hy
    rcases hx with rfl | rfl | rfl <;> rcases hy with rfl | rfl | rfl <;> first | exact absurd e (by decide) | simp [r18]
theorem k18_loop : Tr (allO r18 oC [oA] []) oA oA := .step (.one (show (⟨oA, oC⟩ : Lk) ∈ _ by simp [allO, r18])) (.one (by simp [allO]))
theorem k18_valid : validLk r18 = true := by decide +kernel
theorem k18_nil : validLk [] = true := by decide
theorem k18_rem : precB (remL r18 oB) oA oC = true := by decide +kernel
theorem k18_ok : ∀ x ∈ r18, x.ok := by
  intro x hx
  unfold Lk.ok maxLen
  simp [r18] at hx
  rcases hx with rfl | rfl | rfl <;> exact ⟨by decide, by decide⟩
theorem k18_self {s : ByteArray} (h : Tr (allO [] oB [oC] [oA]) s s) : False := by
  have := (clos_valid k18_clos).1 k18_valid ⟨s, s⟩ ((k18_clos.2 s s).2 h)
  exact this rfl
set_option maxHeartbeats 8000000 in
set_option maxRecDepth 100000 in
theorem known18 : Gives 14 #[] (.bool true) := by
  intro w
  obtain ⟨a, ha⟩ : ∃ a, a = oA := ⟨_, rfl⟩
  obtain ⟨b, hb⟩ : ∃ b, b = oB := ⟨_, rfl⟩
  obtain ⟨c, hc⟩ : ∃ c, c = oC := ⟨_, rfl⟩
  have HA := hid ha
  have HB := hid hb
  have HC := hid hc
  have HSZ := hid (show a.size ≤ maxLen ∧ b.size ≤ maxLen ∧ c.size ≤ maxLen by
    rw [ha, hb, hc]; unfold maxLen; exact ⟨by decide, by decide, by decide⟩)
  have e1 : (⟨#[97]⟩ : ByteArray) = a := ha.symm
  have e2 : (⟨#[98]⟩ : ByteArray) = b := hb.symm
  have e3 : (⟨#[99]⟩ : ByteArray) = c := hc.symm
  clear ha hb hc
  have K0 := ((Hold.begin_ w).alloc_cst #[.string c] 9).alloc_cst #[.string a] 9
  simp only [World.size_alloc] at K0
  go_enter Tryd.func14, Tryd.ntmps14
  go_wp2_with fail
  (try simp only [e1, e2, e3])
  refine (oadd_any _ _ K0.mutLt none 0 0 [] b (some ⟨w.heap.size, 0, none⟩) 1 1 [c] (some ⟨w.heap.size + 1, 0, none⟩) 1 1 [a] ro_nil (ro_block (K0.get 1 rfl) rfl) (ro_block (K0.get 0 rfl) rfl) (by omega) (by omega) (by omega) (fun x hx => nomatch hx) HSZ.out.2.1 (fun s hs => by simp at hs; rw [hs]; exact HSZ.out.2.2) (fun s hs => by simp at hs; rw [hs]; exact HSZ.out.1)).mono ?_
  rintro e w1 ⟨b1, h⟩
  have K1 := K0.call b1
  clear K0 b1
  rcases h with ⟨h, -⟩ | ⟨-, ⟨⟨s, h⟩, -⟩ | ⟨r, hcl, hv, A, n, d, rfl, hn, hnc, hcc, hr⟩⟩
  · rw [k18_nil] at h; cases h
  · rw [HA.out, HB.out, HC.out] at h; exact absurd h k18_self
  have hr18 : r = r18 := by
    rw [HA.out, HB.out, HC.out] at hcl
    exact clos_same (fun z => Iff.rfl) hcl k18_clos
  rw [hr18] at hr hn
  have hn3 : n = 3 := hn
  clear hcl hv hr18 hn
  subst hn3
  have K2 := (K1.add hr).alloc_cst #[.string a] 9
  clear K1 hr
  go_wp2_with fail
  (try rw [e1])
  (try rw [e3])
  refine (oadd_any _ _ K2.mutLt A 3 d r18 c (some ⟨w1.heap.size, 0, none⟩) 1 1 [a] none 0 0 [] (K2.ro 1 rfl) (ro_block (K2.get 0 rfl) rfl) ro_nil (by omega) (by omega) (by omega) k18_ok HSZ.out.2.2 (fun s hs => by simp at hs; rw [hs]; exact HSZ.out.1) (fun s hs => nomatch hs)).mono ?_
  rintro e w2 ⟨b2, h⟩
  have K3 := K2.call b2
  clear K2 b2
  rcases h with ⟨h, -⟩ | ⟨-, ⟨-, rfl⟩ | ⟨r, hcl, hv, -⟩⟩
  · rw [k18_valid] at h; cases h
  rotate_left
  · rw [HA.out, HC.out] at hcl
    rw [clos_self hcl k18_loop] at hv; cases hv
  go_wp2_with fail
  (try rw [e2])
  refine (oremove_any _ _ K3.mutLt A 3 d r18 b (K3.ro 1 rfl) (by omega)).mono ?_
  rintro e w3 ⟨A5, n5, c5, rfl, h5, h51, h52, r5, b3⟩
  have hlt : n5 ≤ 3 := by
    have : (remL r18 b).length ≤ r18.length := List.length_filter_le _ _
    have h3 : r18.length = 3 := rfl
    omega
  have K4 := (K3.call b3).add r5
  clear K3 b3 h5 r5
  go_wp2_with fail
  (try rw [e1])
  (try rw [e3])
  refine (prec_any _ _ K4.mutLt A5 n5 c5 (remL r18 b) a c (K4.ro 0 rfl) (by omega)).mono ?_
  rintro e w4 ⟨rfl, b4⟩
  have K5 := K4.call b4
  have HP := hid (show precB (remL r18 b) a c = true by rw [HA.out, HB.out, HC.out]; exact k18_rem)
  rw [HP.out]
  go_wp2_with fail
  go_ret
  exact ⟨rfl, K5.below⟩
end Go.Proofs.YtkjnoekclfdjiaaDoor

namespace Go.Proofs.YtkjnoekclfdjiaaDoor
open Go.RowKit
set_option linter.unusedVariables false
set_option linter.unusedSimpArgs false

end Go.Proofs.YtkjnoekclfdjiaaDoor

namespace Go.Proofs.YtkjnoekclfdjiaaDoor
open Go.RowKit
set_option linter.unusedVariables false
set_option linter.unusedSimpArgs false

instance lkDec : DecidableEq Lk := fun x y => if h : x.a = y.a ∧ x.b = y.b then isTrue (lk_ext h.1 h.2) else isFalse fun e => h ⟨by rw [e], by rw [e]⟩
/-- What Add answers, as data: its code, its links. -/
def OKind (l : List Lk) (nm : ByteArray) (ps fs : List ByteArray) (ec : Int) (r : List Lk) : Prop :=
  (ec = 17 ∧ validLk l = false ∧ r = []) ∨ (validLk l = true ∧ ((ec = 13 ∧ (∃ s, Tr (allO l nm ps fs) s s) ∧ r = []) ∨ (ec = 0 ∧ ClosOf (allO l nm ps fs) r ∧ validLk r = true)))
theorem okind_valid {l : List Lk} {nm : ByteArray} {ps fs : List ByteArray} {ec : Int} {r : List Lk} (h : OKind l nm ps fs ec r) (h0 : ec = 0) : validLk r = true ∧ ClosOf (allO l nm ps fs) r := by
  rcases h with ⟨h1, _⟩ | ⟨_, ⟨h1, _⟩ | ⟨h1, h2, h3⟩⟩
  · omega
  · omega
  · exact ⟨h3, h2⟩
def KindRet (w : World) (M : Nat → Prop) (l : List Lk) (nm : ByteArray) (ps fs : List ByteArray) (e : Ending) (w' : World) : Prop :=
  ∃ (ec : Int) (r : List Lk) (A : Option Addr) (n c : Nat), e = .returned (.tuple #[.slice A n c, .int .i64 ec]) ∧ OKind l nm ps fs ec r ∧ n ≤ c ∧ c ≤ 9223372036854775807 ∧ Ro w' M (LksIn A n r) ∧ Below w.heap.size w w'
theorem oadd_kind {w : World} {M : Nat → Prop} {l : List Lk} {nm : ByteArray} {ps fs : List ByteArray} {e : Ending} {w' : World} (h : OAddRet w M l nm ps fs e w') : KindRet w M l nm ps fs e w' := by
  obtain ⟨b, ⟨hv, rfl⟩ | ⟨hv, ⟨hs, rfl⟩ | ⟨r, hc, hr, A, n, c, rfl, hn, hnc, hcm, ro⟩⟩⟩ := h
  · exact ⟨17, [], none, 0, 0, rfl, .inl ⟨rfl, hv, rfl⟩, by omega, by omega, ro_nil, b⟩
  · exact ⟨13, [], none, 0, 0, rfl, .inr ⟨hv, .inl ⟨rfl, hs, rfl⟩⟩, by omega, by omega, ro_nil, b⟩
  · exact ⟨0, r, A, n, c, rfl, .inr ⟨hv, .inr ⟨rfl, hc, hr⟩⟩, hnc, hcm, ro, b⟩
end Go.Proofs.YtkjnoekclfdjiaaDoor

namespace Go.Proofs.YtkjnoekclfdjiaaDoor
open Go.RowKit
set_option linter.unusedVariables false
set_option linter.unusedSimpArgs false

structure Strict (l : List Lk) : Prop where
  self : ∀ z ∈ l, z.a ≠ z.b
  tr : ∀ x ∈ l, ∀ y ∈ l, x.b = y.a → (⟨x.a, y.b⟩ : Lk) ∈ l
  srt : LkSorted l
theorem strict_of {l : List Lk} (h : validLk l = true) : Strict l := by
  refine ⟨fun z hz e => ?_, fun x hx y hy e => ?_, valid_sorted h⟩
  · obtain ⟨i, hi, rfl⟩ := List.getElem_of_mem hz
    have := valid_at h hi
    unfold okAt at this
    rw [lkAt_of (List.getElem?_eq_getElem hi), e] at this
    simp at this
  · obtain ⟨i, hi, rfl⟩ := List.getElem_of_mem hx
    have := valid_at h hi
    unfold okAt at this
    rw [lkAt_of (List.getElem?_eq_getElem hi)] at this
    simp only [Bool.and_eq_true, List.all_eq_true] at this
    have h2 := this.2 y hy
    unfold trB at h2
    rw [e] at h2
    have h3 : precB l l[i].a y.b = true := by simpa using h2
    exact precB_iff.1 h3
end Go.Proofs.YtkjnoekclfdjiaaDoor

namespace Go.Proofs.YtkjnoekclfdjiaaDoor
open Go.RowKit
set_option linter.unusedVariables false
set_option linter.unusedSimpArgs false

theorem names5_ok {l : List Lk} (h : NamesIn lets5 l) : ∀ x ∈ l, x.ok := fun x hx => ⟨lets5_small _ (h x hx).1, lets5_small _ (h x hx).2⟩
end Go.Proofs.YtkjnoekclfdjiaaDoor

namespace Go.Proofs.YtkjnoekclfdjiaaDoor
open Go.RowKit
set_option linter.unusedVariables false
set_option linter.unusedSimpArgs false

end Go.Proofs.YtkjnoekclfdjiaaDoor

namespace Go.Proofs.YtkjnoekclfdjiaaDoor
instance baMem (x : ByteArray) (l : List ByteArray) : Decidable (x ∈ l) :=
  decidable_of_iff (l.any (fun y => decide (y = x)) = true) (by simp [List.any_eq_true])
end Go.Proofs.YtkjnoekclfdjiaaDoor

namespace Go.Proofs.YtkjnoekclfdjiaaDoor
open Go.RowKit
set_option linter.unusedVariables false
set_option linter.unusedSimpArgs false

def abvL (l : List Lk) (nm : ByteArray) (fs : List ByteArray) : List ByteArray := (fs ++ [nm]) ++ (l.filter fun x => decide (x.b ∈ fs) || decide (x.b = nm)).map Lk.a
def belL (l : List Lk) (nm : ByteArray) (ps : List ByteArray) : List ByteArray := (ps ++ [nm]) ++ (l.filter fun x => decide (x.a ∈ ps) || decide (x.a = nm)).map Lk.b
theorem abv_mem {l : List Lk} {nm : ByteArray} {fs : List ByteArray} {a : ByteArray} : a ∈ abvL l nm fs ↔ a ∈ fs ∨ a = nm ∨ ∃ t, (⟨a, t⟩ : Lk) ∈ l ∧ (t ∈ fs ∨ t = nm) := by
  unfold abvL
  simp only [List.mem_append, List.mem_singleton, List.mem_map, List.mem_filter, Bool.or_eq_true, decide_eq_true_eq, or_assoc]
  constructor
  · rintro (h | h | ⟨x, ⟨h1, h2⟩, rfl⟩)
    · exact .inl h
    · exact .inr (.inl h)
    · exact .inr (.inr ⟨x.b, h1, h2⟩)
  · rintro (h | h | ⟨t, h1, h2⟩)
    · exact .inl h
    · exact .inr (.inl h)
    · exact .inr (.inr ⟨⟨a, t⟩, ⟨h1, h2⟩, rfl⟩)
theorem bel_mem {l : List Lk} {nm : ByteArray} {ps : List ByteArray} {b : ByteArray} : b ∈ belL l nm ps ↔ b ∈ ps ∨ b = nm ∨ ∃ t, (⟨t, b⟩ : Lk) ∈ l ∧ (t ∈ ps ∨ t = nm) := by
  unfold belL
  simp only [List.mem_append, List.mem_singleton, List.mem_map, List.mem_filter, Bool.or_eq_true, decide_eq_true_eq, or_assoc]
  constructor
  · rintro (h | h | ⟨x, ⟨h1, h2⟩, rfl⟩)
    · exact .inl h
    · exact .inr (.inl h)
    · exact .inr (.inr ⟨x.a, h1, h2⟩)
  · rintro (h | h | ⟨t, h1, h2⟩)
    · exact .inl h
    · exact .inr (.inl h)
    · exact .inr (.inr ⟨⟨t, b⟩, ⟨h1, h2⟩, rfl⟩)
section
variable {l : List Lk} (hs : Strict l) {nm : ByteArray} {ps fs : List ByteArray}
include hs
theorem abv_up {a b : ByteArray} (h : (⟨a, b⟩ : Lk) ∈ l) (k : b ∈ abvL l nm fs) : a ∈ abvL l nm fs := by
  rw [abv_mem] at k ⊢
  rcases k with k | k | ⟨t, k1, k2⟩
  · exact .inr (.inr ⟨b, h, .inl k⟩)
  · exact .inr (.inr ⟨b, h, .inr k⟩)
  · exact .inr (.inr ⟨t, hs.tr _ h _ k1 rfl, k2⟩)
theorem bel_down {b c : ByteArray} (h : (⟨b, c⟩ : Lk) ∈ l) (k : b ∈ belL l nm ps) : c ∈ belL l nm ps := by
  rw [bel_mem] at k ⊢
  rcases k with k | k | ⟨t, k1, k2⟩
  · exact .inr (.inr ⟨b, h, .inl k⟩)
  · exact .inr (.inr ⟨b, h, .inr k⟩)
  · exact .inr (.inr ⟨t, hs.tr _ k1 _ h rfl, k2⟩)
theorem least_ok {a b : ByteArray} (h : Tr (allO l nm ps fs) a b) : (⟨a, b⟩ : Lk) ∈ l ∨ (a ∈ abvL l nm fs ∧ b ∈ belL l nm ps) := by
  induction h with
  | @one a b h =>
    unfold allO at h
    simp only [List.mem_append, List.mem_map, Lk.mk.injEq] at h
    rcases h with (h | ⟨s, h, rfl, rfl⟩) | ⟨s, h, rfl, rfl⟩
    · exact .inl h
    · exact .inr ⟨abv_mem.2 (.inr (.inl rfl)), bel_mem.2 (.inl h)⟩
    · exact .inr ⟨abv_mem.2 (.inl h), bel_mem.2 (.inr (.inl rfl))⟩
  | step h1 h2 i1 i2 =>
    rcases i1 with i1 | ⟨i1, j1⟩ <;> rcases i2 with i2 | ⟨i2, j2⟩
    · exact .inl (hs.tr _ i1 _ i2 rfl)
    · exact .inr ⟨abv_up hs i1 i2, j2⟩
    · exact .inr ⟨i1, bel_down hs i2 j1⟩
    · exact .inr ⟨i1, j2⟩
/-- some name above and some name below meet -/
def Meet (l : List Lk) (nm : ByteArray) (ps fs : List ByteArray) : Prop := nm ∈ ps ∨ nm ∈ fs ∨ ∃ x ∈ abvL l nm fs, ∃ y ∈ belL l nm ps, (x = y ∨ (⟨y, x⟩ : Lk) ∈ l) ∧ (x ≠ nm ∨ y ≠ nm)
theorem least_far (hm : ¬ Meet l nm ps fs) {a b : ByteArray} (h : Tr (allO l nm ps fs) a b) : (⟨a, b⟩ : Lk) ∈ l ∨ (a ∈ abvL l nm fs ∧ b ∈ belL l nm ps ∧ ¬ (a = nm ∧ b = nm)) := by
  have m1 : nm ∉ ps := fun h => hm (.inl h)
  have m2 : nm ∉ fs := fun h => hm (.inr (.inl h))
  have m3 : ∀ x ∈ abvL l nm fs, ∀ y ∈ belL l nm ps, (x = y ∨ (⟨y, x⟩ : Lk) ∈ l) → x = nm ∧ y = nm := fun x hx y hy hxy => by
    apply Classical.byContradiction
    intro hn
    exact hm (.inr (.inr ⟨x, hx, y, hy, hxy, by
      by_cases hx1 : x = nm
      · right; intro hy1; exact hn ⟨hx1, hy1⟩
      · exact .inl hx1⟩))
  have na : nm ∈ abvL l nm fs := abv_mem.2 (.inr (.inl rfl))
  have nb : nm ∈ belL l nm ps := bel_mem.2 (.inr (.inl rfl))
  induction h with
  | @one a b h =>
    unfold allO at h
    simp only [List.mem_append, List.mem_map, Lk.mk.injEq] at h
    rcases h with (h | ⟨s, h, rfl, rfl⟩) | ⟨s, h, rfl, rfl⟩
    · exact .inl h
    · exact .inr ⟨na, bel_mem.2 (.inl h), fun e => m1 (e.2 ▸ h)⟩
    · exact .inr ⟨abv_mem.2 (.inl h), nb, fun e => m2 (e.1 ▸ h)⟩
  | @step a b c h1 h2 i1 i2 =>
    rcases i1 with i1 | ⟨i1, j1, k1⟩ <;> rcases i2 with i2 | ⟨i2, j2, k2⟩
    · exact .inl (hs.tr _ i1 _ i2 rfl)
    · refine .inr ⟨abv_up hs i1 i2, j2, fun e => ?_⟩
      obtain ⟨rfl, rfl⟩ := e
      have := m3 b i2 _ nb (.inr i1)
      exact hs.self _ i1 this.1.symm
    · refine .inr ⟨i1, bel_down hs i2 j1, fun e => ?_⟩
      obtain ⟨rfl, rfl⟩ := e
      have := m3 _ na b j1 (.inr i2)
      exact hs.self _ i2 this.2
    · refine .inr ⟨i1, j2, fun e => ?_⟩
      have h3 := m3 b i2 b j1 (.inl rfl)
      exact k1 ⟨e.1, h3.1⟩
theorem least_meet {s : ByteArray} (h : Tr (allO l nm ps fs) s s) : Meet l nm ps fs := by
  apply Classical.byContradiction
  intro hm
  rcases least_far hs hm h with h1 | ⟨h1, h2, h3⟩
  · exact hs.self _ h1 rfl
  · apply h3
    have m3 : s = nm := by
      apply Classical.byContradiction
      intro hn
      exact hm (.inr (.inr ⟨s, h1, s, h2, .inl rfl, .inl hn⟩))
    exact ⟨m3, m3⟩
end
theorem abv_take {l : List Lk} {nm : ByteArray} {fs : List ByteArray} {k : Nat} {x : Lk} (hx : l[k]? = some x) : abvL (l.take (k + 1)) nm fs = abvL (l.take k) nm fs ++ (if x.b ∈ fs ∨ x.b = nm then [x.a] else []) := by
  unfold abvL
  rw [List.take_add_one, hx, Option.toList_some, List.filter_append, List.map_append, List.append_assoc]
  by_cases h : x.b ∈ fs ∨ x.b = nm
  · rw [if_pos h, List.filter_cons, if_pos (by simpa using h)]; simp
  · rw [if_neg h, List.filter_cons, if_neg (by simpa using h)]; simp
theorem bel_take {l : List Lk} {nm : ByteArray} {ps : List ByteArray} {k : Nat} {x : Lk} (hx : l[k]? = some x) : belL (l.take (k + 1)) nm ps = belL (l.take k) nm ps ++ (if x.a ∈ ps ∨ x.a = nm then [x.b] else []) := by
  unfold belL
  rw [List.take_add_one, hx, Option.toList_some, List.filter_append, List.map_append, List.append_assoc]
  by_cases h : x.a ∈ ps ∨ x.a = nm
  · rw [if_pos h, List.filter_cons, if_pos (by simpa using h)]; simp
  · rw [if_neg h, List.filter_cons, if_neg (by simpa using h)]; simp
end Go.Proofs.YtkjnoekclfdjiaaDoor

namespace Go.Proofs.YtkjnoekclfdjiaaDoor
open Go.RowKit
set_option linter.unusedVariables false
set_option linter.unusedSimpArgs false

def OwnStrs (w : World) (l : List ByteArray) (e : Ending) (w' : World) : Prop :=
  ∃ (A : Option Addr) (n c : Nat), e = .returned (.slice A n c) ∧ n = l.length ∧ w'.ownsRow w.heap.size 9 1 (.slice A n c) n (strsCells l) ∧ Below w.heap.size w w'
theorem one_strs (l : List ByteArray) : ∀ u ∈ strsCells l, u.oneCell' = true := fun u hu => by
  obtain ⟨x, _, rfl⟩ := List.mem_map.1 hu
  rfl
set_option maxHeartbeats 4000000 in
set_option maxRecDepth 100000 in
theorem cloneStrs_any (w : World) (A : Option Addr) (n c : Nat) (l : List ByteArray) (hD : StrsIn A n l w) (hn : n ≤ 1000000) :
    Calls Tryd.prog 15 #[.slice A n c] w fun e w' => OwnStrs w l e w' := by
  have hl := hid hD.len
  have hq : ∀ (w : World) (a : Option Addr) (n c : Nat), (binOp .eql 32 (.slice a n c) (.slice none 0 0)).run Tryd.prog w = .ok (.bool a.isNone) w := fun w a n c => Go.Lib.run_eql_slice_nil w _ _ a n c 0 0 Tryd.underlying32
  rcases A with _ | a
  · have h0 : n = 0 := by
      rcases Nat.eq_zero_or_pos n with h | h
      · exact h
      · obtain ⟨_, _, e, _⟩ := (show Rd w w.heap.size 1 none n (strsCells l) from hD).2 h; cases e
    subst h0
    obtain rfl : l = [] := List.length_eq_zero_iff.1 hl.out
    go_enter Tryd.func15, Tryd.ntmps15
    go_wp2_with fail
    go_ret
    exact ⟨none, 0, 0, rfl, rfl, World.ownsRow_nil _ _ _ _, Below.refl _ _⟩
  · have K0 := (Hold.start None_ w (fun b hb => hb.elim)).add (show Ro w _ (StrsIn (some a) n l) from Rd.ro hD (Nat.le_refl _) (by simp [Mut, None_]))
    have K1 := K0.alloc_own #[] 9 1 0 (by unfold maxLen; omega) rfl
    have hr := hid (show StrsIn (some a) n l _ from (K1.ro 1 rfl).now)
    have h1 := hid (one_strs l)
    go_enter Tryd.func15, Tryd.ntmps15
    go_wp2_with (at_builtin; go_must (refine wpList_appAllH K1 0 rfl Tryd.elSt hr.out rfl (.tmp 5) (.tmp 6) rfl rfl rfl h1.out (by omega) (by omega) ?_); intro C' cap' w2 hc1 hm1 K2)
    go_ret
    have hb := K2.below
    have ho := K2.get 0 rfl
    simp only [Nat.zero_add, List.nil_append] at ho
    exact ⟨C', n, cap', by first | rfl | simp, hl.out.symm, ho, hb⟩
def contS (xs : List ByteArray) (x : ByteArray) : Bool := decide (x ∈ xs)
theorem contS_hit {xs : List ByteArray} {k : Nat} {x y : ByteArray} (h : xs[k]? = some y) (e : y = x) : contS xs x = true := by
  unfold contS; rw [decide_eq_true_iff, ← e]; exact List.mem_of_getElem? h
theorem contS_step {xs : List ByteArray} {k : Nat} {x y : ByteArray} (h : xs[k]? = some y) (e : y ≠ x) (hc : contS (xs.take k) x = false) : contS (xs.take (k + 1)) x = false := by
  unfold contS at *
  rw [decide_eq_false_iff_not] at *
  rw [List.take_add_one, h, List.mem_append]
  rintro (h1 | h1)
  · exact hc h1
  · simp at h1; exact e h1.symm
set_option maxHeartbeats 4000000 in
theorem sindex_any (w : World) (A : Option Addr) (n c : Nat) (xs : List ByteArray) (x : ByteArray) (hD : StrsIn A n xs w) (hn : n ≤ 9223372036854775807) :
    Calls Tryd.prog 28 #[.slice A n c, .string x] w fun e w' => (∃ r : Int, e = .returned (.int .i64 r) ∧ decide (r ≥ 0) = contS xs x) ∧ w = w' := by
  have HL := hid hD.len
  go_enter Tryd.func28, Tryd.ntmps28
  go_wp2_with fail
  go_loopw [8] (fun iv wr => ∃ (k : Nat), k ≤ n ∧ iv = .int .i64 k ∧ wr = w ∧ Hid (contS (xs.take k) x = false)) (fun iv _ => n - (intOf iv).toNat)
  case atStart => exact ⟨0, by omega, rfl, rfl, hid (by simp [contS])⟩
  case round =>
    obtain ⟨k, hk, rfl, rfl, HC⟩ := hrel
    by_cases hlt : k < n
    · have hd : decide ((k : Int) < (n : Int)) = true := by simp; omega
      have i0 : (0 : Int) ≤ (k : Int) := by omega
      have i1 : (k : Int) < (n : Int) := by omega
      obtain ⟨y, hy⟩ := get_of HL.out hlt
      obtain ⟨b, o, rfl, _, ck⟩ := hD.at_ hy
      have HX := hid hy
      clear hy
      cases e1 : (x.toList == y.toList)
      · have e2 : (y.toList == x.toList) = false := by rw [beq_eq_false_iff_ne] at *; exact fun h => e1 h.symm
        have HN := hid (contS_step HX.out (fun e => by rw [e] at e1; simp at e1) HC.out)
        go_wp2_with fail
        go_roundw
        case rel => exact ⟨k + 1, by omega, by go_num, by first | rfl | trivial, HN⟩
        case measure => simp [intOf]; omega
      · have e2 : (y.toList == x.toList) = true := by rw [beq_iff_eq] at *; exact e1.symm
        have HN := hid (contS_hit HX.out (ba_beq.1 e2))
        go_wp2_with fail
        go_ret
        exact ⟨⟨k, rfl, by rw [HN.out]; simp⟩, rfl⟩
    · obtain rfl : n = k := by omega
      have hd : decide ((n : Int) < (n : Int)) = false := by simp
      have HN := hid (show contS xs x = false by have h := HC.out; rwa [List.take_of_length_le (by rw [HL.out]; exact Nat.le_refl _)] at h)
      go_wp2_with fail
      go_ret
      exact ⟨⟨-1, rfl, by rw [HN.out]; rfl⟩, rfl⟩
theorem scont_any (w : World) (A : Option Addr) (n c : Nat) (xs : List ByteArray) (x : ByteArray) (hD : StrsIn A n xs w) (hn : n ≤ 9223372036854775807) :
    Calls Tryd.prog 16 #[.slice A n c, .string x] w fun e w' => e = .returned (.bool (contS xs x)) ∧ w = w' := by
  go_enter Tryd.func16, Tryd.ntmps16
  go_wp2_with fail
  refine (sindex_any w A n c xs x hD hn).mono ?_
  rintro e w1 ⟨⟨r, rfl, hr⟩, rfl⟩
  go_wp2_with fail
  go_ret
  exact ⟨by first | rw [hr] <;> rfl | simp [← hr], rfl⟩
end Go.Proofs.YtkjnoekclfdjiaaDoor

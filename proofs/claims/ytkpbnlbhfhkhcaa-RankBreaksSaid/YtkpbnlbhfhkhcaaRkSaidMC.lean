/- RkKnown: law28.known. -/
import Derived.Test.YtkpbnlbhfhkhcaaRkSaidMB
import Derived.Laws.BytesArg
import Derived.Test.YtkpbnlbhfhkhcaaRkSaidMA
import Derived.StillTailTactics
import Derived.IntWalk
import Derived.Shelf.SlGeneric
import Derived.Shelf.SlSortCmp.NoneTotal
import Derived.Ground.SlsfProg
import Derived.Test.YtkpbnlbhfhkhcaaProg
import Derived.Laws.CopyOwn
import Derived.Shelf.Small.Strs
import Derived.Ground.NamesProg
import Derived.OrdersHeld
import Derived.Orders
import Derived.Deep.RegionHeld3
import Derived.Deep.DeepCutAuto
import Derived.ArgAppend
namespace Go.Proofs.Ytkpbnlbhfhkhcaa
open Go.RowKit
set_option linter.unusedVariables false
set_option linter.unusedSimpArgs false

/-- Some value, drawn, its numbers Go's. -/
def DrawnO2 (w : World) (T : Nat) (e : Ending) (w' : World) : Prop :=
  ∃ (k i : Int) (s : ByteArray), e = .returned (.agg #[.int .i64 k, .int .i64 i, .string s]) ∧ (s.size ≤ 100 ∧ I64 k ∧ I64 i) ∧ Tp w' T ∧ w.grownBy w' (some T)
/-- The state of Odd's walk: the value's box V, the result's box R. -/
structure OddSt (w : World) (T V R : Nat) (wr : World) (k i : Int) (s : ByteArray) : Prop where
  bv : Blk wr V 35 #[.int .i64 k, .int .i64 i, .string s]
  br : Blk wr R 35 #[.int .i64 0, .int .i64 0, .string ⟨#[]⟩]
  tp : Tp wr T
  gr : w.grownBy wr (some T)
  hi : I64 i
  hs : s.size ≤ 100

theorem OddSt.drew {w : World} {T V R : Nat} {wr : World} {k i : Int} {s : ByteArray} (h : OddSt w T V R wr k i s) : OddSt w T V R wr.drew k i s := ⟨h.bv, h.br, h.tp, only_drew h.gr, h.hi, h.hs⟩
theorem DrawnO2.alloc {w w' : World} {T : Nat} {e : Ending} (h : DrawnO2 w T e w') (o : Obj) : DrawnO2 w T e (w'.alloc o) := by
  obtain ⟨k, i, s, h1, h2, h3, h4⟩ := h
  exact ⟨k, i, s, h1, h2, h3.alloc o, only_alloc h4 o⟩
end Go.Proofs.Ytkpbnlbhfhkhcaa

namespace Go.Proofs.Ytkpbnlbhfhkhcaa
open Go.RowKit
set_option linter.unusedVariables false
set_option linter.unusedSimpArgs false

end Go.Proofs.Ytkpbnlbhfhkhcaa

namespace Go.Proofs.Ytkpbnlbhfhkhcaa
open Go.RowKit
set_option linter.unusedVariables false
set_option linter.unusedSimpArgs false

/-- what is known of a schema of the three -/
structure SchOk (nm : ByteArray) (cs : List Col) : Prop where
  val : schemaB nm cs = true
  col : ∀ x ∈ cs, ColOk x
  key : KeyOne cs
  len : 1 ≤ cs.length ∧ cs.length ≤ 4
  nm : nm.size ≤ maxLen
  cs : ∀ x ∈ cs, x.name.size ≤ maxLen
end Go.Proofs.Ytkpbnlbhfhkhcaa

namespace Go.Proofs.Ytkpbnlbhfhkhcaa
open Go.RowKit
set_option linter.unusedVariables false
set_option linter.unusedSimpArgs false

end Go.Proofs.Ytkpbnlbhfhkhcaa

namespace Go.Proofs.Ytkpbnlbhfhkhcaa
open Go.RowKit
set_option linter.unusedVariables false
set_option linter.unusedSimpArgs false

/-- the new rows -/
def insR (nx : Int) (ins : List (List Vl)) : List Row := ins.zipIdx.map fun p => (nx + (p.2 : Int), p.1)
theorem PrsIn.tail {w : World} {b o k : Nat} {u : Pr} {us : List Pr} (h : PrsIn (some ⟨b, o, none⟩) (k + 1) (u :: us) w) : PrsIn (some ⟨b, o + 3, none⟩) k us w := by
  refine ⟨?_, fun r hr => h.2 r (List.mem_cons_of_mem _ hr)⟩
  have h1 : Rd w w.heap.size 3 (some ⟨b, o, none⟩) (k + 1) (prCells (u :: us)) := h.1
  have hl := h1.1
  refine ⟨by simp [prCells, Pr.cells] at hl ⊢; omega, fun hk => ?_⟩
  obtain ⟨b', o', e, hb, hc⟩ := h1.2 (by omega)
  obtain ⟨rfl, rfl⟩ : b = b' ∧ o = o' := by injection e with e; injection e with a1 a2; exact ⟨a1, a2⟩
  refine ⟨b, o + 3, rfl, hb, fun j v hv => ?_⟩
  have := hc (3 + j) v (by
    show (prCells (u :: us))[3 + j]? = some v
    unfold prCells
    rw [List.flatMap_cons, List.getElem?_append_right (by simp [Pr.cells])]
    simpa [Pr.cells, prCells] using hv)
  rwa [show o + (3 + j) = o + 3 + j by omega] at this
theorem PrsIn.zero {w : World} (A : Option Addr) : PrsIn A 0 [] w := ⟨⟨by simp [prCells], fun h => absurd h (by omega)⟩, fun r hr => nomatch hr⟩
end Go.Proofs.Ytkpbnlbhfhkhcaa

namespace Go.Proofs.Ytkpbnlbhfhkhcaa
open Go.RowKit
set_option linter.unusedVariables false
set_option linter.unusedSimpArgs false

/-- the values that the updates ask for -/
def wantR (us : List Upd) (id : Int) (v : List Vl) : List Vl := us.foldl (fun acc p => if p.1 = id then p.2.2 else acc) v
def keepR (dels : List Int) (us : List Upd) (rs : List Row) : List Row := (rs.filter fun r => !dels.contains r.1).map fun r => (r.1, wantR us r.1 r.2)
theorem okR_asc {cs : List Col} {nx : Int} : ∀ {lst : Int} {rs : List Row}, okR cs nx lst rs = true → (rs.map (·.1)).Pairwise (· < ·) ∧ ∀ r ∈ rs, lst < r.1 ∧ r.1 < nx
  | _, [], _ => ⟨List.Pairwise.nil, fun _ h => nomatch h⟩
  | lst, r :: rs, h => by
    rw [okR] at h
    simp only [Bool.and_eq_true, decide_eq_true_eq] at h
    obtain ⟨h1, h2⟩ := okR_asc h.2
    refine ⟨?_, fun x hx => ?_⟩
    · rw [List.map_cons, List.pairwise_cons]
      refine ⟨fun a ha => ?_, h1⟩
      obtain ⟨x, hx, rfl⟩ := List.mem_map.1 ha
      exact (h2 x hx).1
    · rcases List.mem_cons.1 hx with rfl | hx
      · exact ⟨h.1.1.1, h.1.1.2⟩
      · exact ⟨Int.lt_trans h.1.1.1 (h2 x hx).1, (h2 x hx).2⟩
/-- What is known of a change that succeeds. -/
structure ApOk (nm : ByteArray) (cs : List Col) (nx : Int) (rs : List Row) (ins : List (List Vl)) (dels : List Int) (us : List Upd) (T : Tb) : Prop where
  tab : tabB nm cs nx rs = true
  tb : T = ⟨nm, cs, nx + ins.length, keepR dels us rs ++ insR nx ins⟩
  asc : (rs.map (·.1)).Pairwise (· < ·)
  low : ∀ r ∈ rs, 0 < r.1 ∧ r.1 < nx
  dasc : dels.Pairwise (· < ·)
  din : ∀ id ∈ dels, id ∈ rs.map (·.1)
  uasc : (us.map (·.1)).Pairwise (· < ·)
  uin : ∀ u ∈ us, u.1 ∈ rs.map (·.1) ∧ dels.contains u.1 = false
  dup : dupB cs (keepR dels us rs ++ insR nx ins) = false
  fits : (∀ u ∈ us, fitsT cs u.2.2 = 0) ∧ ∀ v ∈ ins, fitsT cs v = 0
  lim : (rs.length : Int) - dels.length + ins.length ≤ 100
  nlim : (ins.length : Int) ≤ 2147483648 - nx
theorem tabB_ok {nm : ByteArray} {cs : List Col} {nx : Int} {rs : List Row} (h : tabB nm cs nx rs = true) : schemaB nm cs = true ∧ rs.length ≤ 100 ∧ 1 ≤ nx ∧ nx ≤ 2147483648 ∧ okR cs nx 0 rs = true ∧ dupB cs rs = false := by
  unfold tabB at h
  simp only [Bool.and_eq_true, decide_eq_true_eq, Bool.not_eq_true'] at h
  obtain ⟨⟨⟨⟨⟨h1, h2⟩, h3⟩, h4⟩, h5⟩, h6⟩ := h
  exact ⟨h1, h2, h3, h4, h5, h6⟩
theorem find_uniq {l : List Row} (h : (l.map (·.1)).Pairwise (· < ·)) {r : Row} (hr : r ∈ l) : l.find? (fun x => x.1 == r.1) = some r := by
  induction l with
  | nil => cases hr
  | cons x l ih =>
    obtain ⟨h1, h2⟩ := List.pairwise_cons.1 h
    rcases List.mem_cons.1 hr with rfl | hr
    · simp
    · have : x.1 < r.1 := h1 r.1 (List.mem_map_of_mem (f := fun x : Row => x.1) hr)
      rw [List.find?_cons, show (x.1 == r.1) = false by rw [beq_eq_false_iff_ne]; omega]
      exact ih h2 hr
theorem getR_none {l : List Row} {id : Int} (h : ∀ r ∈ l, r.1 ≠ id) : getR l id = none := by
  unfold getR
  rw [List.find?_eq_none.2 fun x hx => by simpa using h x hx]; rfl
theorem getR_app (a b : List Row) (id : Int) : getR (a ++ b) id = (getR a id).or (getR b id) := by
  unfold getR
  rw [List.find?_append]
  cases a.find? (fun r => r.1 == id) <;> simp
theorem insR_at : ∀ (ins : List (List Vl)) (nx : Int) (i : Nat), getR (insR nx ins) (nx + (i : Int)) = ins[i]? := by
  intro ins nx i
  have key : ∀ (l : List (List Vl)) (k : Nat) (i : Nat), k ≤ i → getR ((l.zipIdx k).map fun p => (nx + (p.2 : Int), p.1)) (nx + (i : Int)) = l[i - k]? := by
    intro l
    induction l with
    | nil => intro k i _; simp [getR]
    | cons v l ih =>
      intro k i hki
      rw [List.zipIdx_cons, List.map_cons]
      by_cases h : k = i
      · subst h
        simp [getR]
      · have h2 := ih (k + 1) i (by omega)
        have e : i - k = (i - (k + 1)) + 1 := by omega
        rw [e, List.getElem?_cons_succ, ← h2]
        unfold getR
        rw [List.find?_cons, show ((nx + (k : Int), v).1 == nx + (i : Int)) = false by rw [beq_eq_false_iff_ne]; show nx + (k : Int) ≠ _; omega]
  have := key ins 0 i (by omega)
  simpa [insR] using this
theorem insR_ge {ins : List (List Vl)} {nx : Int} : ∀ r ∈ insR nx ins, nx ≤ r.1 := fun r hr => by
  unfold insR at hr
  obtain ⟨p, _, rfl⟩ := List.mem_map.1 hr
  show nx ≤ nx + (p.2 : Int)
  omega
section
variable {nm : ByteArray} {cs : List Col} {nx : Int} {rs : List Row} {ins : List (List Vl)} {dels : List Int} {us : List Upd} {T : Tb}
theorem ApOk.asc2 (h : ApOk nm cs nx rs ins dels us T) : ((keepR dels us rs).map (·.1)).Pairwise (· < ·) := by
  have e : (keepR dels us rs).map (·.1) = (rs.filter fun r => !dels.contains r.1).map (·.1) := by simp [keepR]
  rw [e]
  exact List.Pairwise.sublist (List.Sublist.map _ List.filter_sublist) h.asc
/-- a row of before -/
theorem ApOk.old (h : ApOk nm cs nx rs ins dels us T) {r : Row} (hr : r ∈ rs) : getR T.rs r.1 = if dels.contains r.1 then none else some (wantR us r.1 r.2) := by
  rw [h.tb]
  show getR (keepR dels us rs ++ insR nx ins) r.1 = _
  rw [getR_app, getR_none (l := insR nx ins) fun x hx => by have := insR_ge x hx; have := (h.low r hr).2; omega, Option.or_none]
  cases hd : dels.contains r.1
  · have hm : (r.1, wantR us r.1 r.2) ∈ keepR dels us rs := List.mem_map.2 ⟨r, List.mem_filter.2 ⟨hr, by simp only [hd]; rfl⟩, rfl⟩
    have := find_uniq h.asc2 hm
    unfold getR
    rw [this]; simp
  · rw [getR_none fun x hx => ?_]
    · simp
    · obtain ⟨y, hy, rfl⟩ := List.mem_map.1 hx
      have := (List.mem_filter.1 hy).2
      intro e
      have e : y.1 = r.1 := e
      rw [e, hd] at this
      cases this
/-- a new row -/
theorem ApOk.new (h : ApOk nm cs nx rs ins dels us T) (i : Nat) : getR T.rs (nx + (i : Int)) = ins[i]? := by
  rw [h.tb]
  show getR (keepR dels us rs ++ insR nx ins) _ = _
  rw [getR_app, getR_none (l := keepR dels us rs) fun x hx => ?_, Option.none_or, insR_at]
  obtain ⟨y, hy, rfl⟩ := List.mem_map.1 hx
  have := (h.low y (List.mem_filter.1 hy).1).2
  show y.1 ≠ _
  omega
theorem ApOk.len (h : ApOk nm cs nx rs ins dels us T) : (T.rs.length : Int) = rs.length - dels.length + ins.length := by
  rw [h.tb]
  show ((keepR dels us rs ++ insR nx ins).length : Int) = _
  have h1 : (insR nx ins).length = ins.length := by simp [insR]
  have h2 : (keepR dels us rs).length = (rs.filter fun r => !dels.contains r.1).length := by simp [keepR]
  have hnd : (rs.map (·.1)).Nodup := h.asc.imp fun h => by omega
  have hdn : dels.Nodup := h.dasc.imp fun h => by omega
  have hp : ((rs.map (·.1)).filter fun id => dels.contains id).Perm dels := (List.perm_ext_iff_of_nodup (hnd.sublist List.filter_sublist) hdn).2 fun a => by
    simp only [List.mem_filter, List.contains_iff_mem]
    exact ⟨fun k => k.2, fun k => ⟨h.din a k, k⟩⟩
  have h3 : (rs.filter fun r => dels.contains r.1).length = dels.length := by
    rw [← hp.length_eq, List.filter_map, List.length_map]; rfl
  have h4 : (rs.filter fun r => dels.contains r.1).length + (rs.filter fun r => !dels.contains r.1).length = rs.length := by
    have : ∀ l : List Row, (l.filter fun r => dels.contains r.1).length + (l.filter fun r => !dels.contains r.1).length = l.length := by
      intro l
      induction l with
      | nil => rfl
      | cons x l ih => cases hx : dels.contains x.1 <;> simp only [List.filter_cons, hx, if_true, if_false, Bool.not_true, Bool.not_false, List.length_cons, Bool.false_eq_true] <;> omega
    exact this rs
  rw [List.length_append, h1, h2]
  omega
end
end Go.Proofs.Ytkpbnlbhfhkhcaa

namespace Go.Proofs.Ytkpbnlbhfhkhcaa
open Go.RowKit
set_option linter.unusedVariables false
set_option linter.unusedSimpArgs false

end Go.Proofs.Ytkpbnlbhfhkhcaa

namespace Go.Proofs.Ytkpbnlbhfhkhcaa
open Go.RowKit
set_option linter.unusedVariables false
set_option linter.unusedSimpArgs false

/-- a valid table of a schema of the three -/
structure VTab (t : Tb) : Prop where
  sch : SchOk t.nm t.cs
  val : tabB t.nm t.cs t.nx t.rs = true
theorem VTab.fit {t : Tb} (h : VTab t) {l : List Rw} (hl : l.map Rw.row = t.rs) : ∀ r ∈ l, r.vs.length = t.cs.length := fun r hr => by
  obtain ⟨_, _, _, _, hok, _⟩ := tabB_ok h.val
  exact fitsT_len (okR_fits hok r.row (by rw [← hl]; exact List.mem_map_of_mem hr))
theorem VTab.rows {t : Tb} (h : VTab t) : t.rs.length ≤ 100 := (tabB_ok h.val).2.1
theorem VTab.len {t : Tb} (h : VTab t) : ∀ r ∈ t.rs, r.2.length ≤ 4 := fun r hr => by
  obtain ⟨_, _, _, _, hok, _⟩ := tabB_ok h.val
  have h1 := fitsT_len (okR_fits hok r hr)
  have h2 := h.sch.len
  omega
end Go.Proofs.Ytkpbnlbhfhkhcaa

namespace Go.Proofs.Ytkpbnlbhfhkhcaa
open Go.RowKit
set_option linter.unusedVariables false
set_option linter.unusedSimpArgs false

structure Te where
  nm : ByteArray
  A : Option Addr
  n : Nat
  c : Nat
  cs : List Col
  nx : Int
  B : Option Addr
  m : Nat
  d : Nat
  l : List Rw
def Te.cells (x : Te) : List Value := [.string x.nm, .slice x.A x.n x.c, .int .i64 x.nx, .slice x.B x.m x.d]
def Te.val (x : Te) : Value := .agg #[.string x.nm, .slice x.A x.n x.c, .int .i64 x.nx, .slice x.B x.m x.d]
def Te.tb (x : Te) : Tb := ⟨x.nm, x.cs, x.nx, x.l.map Rw.row⟩
def TeIn (x : Te) (w : World) : Prop := ColsIn x.A x.n x.cs w ∧ RwsIn x.B x.m x.l w
structure Te.ok (x : Te) : Prop where
  nc : x.n ≤ x.c
  c : x.c ≤ 9223372036854775807
  md : x.m ≤ x.d
  d : x.d ≤ 9223372036854775807
  l : ∀ r ∈ x.l, r.ok
/-- a table within the limits that the contracts ask -/
structure TbM (t : Tb) : Prop where
  nm : t.nm.size ≤ maxLen
  cs : ∀ x ∈ t.cs, x.name.size ≤ maxLen
  rs : t.rs.length ≤ 4398046511104
  row : ∀ r ∈ t.rs, r.2.length ≤ 4398046511104
def teCells (l : List Te) : List Value := l.flatMap Te.cells
theorem teCells_len (l : List Te) : (teCells l).length = l.length * 4 := flat_len _ 4 (fun _ => rfl) l
def TesIn (A : Option Addr) (n : Nat) (l : List Te) (w : World) : Prop := SlR 4 A n (teCells l) w ∧ ∀ x ∈ l, TeIn x w
theorem TesIn.len {w : World} {A : Option Addr} {n : Nat} {l : List Te} (h : TesIn A n l w) : l.length = n := by
  have := (show Rd w w.heap.size 4 A n (teCells l) from h.1).1
  rw [teCells_len] at this
  omega
theorem TesIn.at_ {w : World} {A : Option Addr} {n : Nat} {l : List Te} (h : TesIn A n l w) {k : Nat} {x : Te} (hx : l[k]? = some x) :
    ∃ b o, A = some ⟨b, o, none⟩ ∧ b < w.heap.size ∧ w.cell? ⟨b, o + k * 4, none⟩ = some (.string x.nm) ∧ w.cell? ⟨b, o + k * 4 + 1, none⟩ = some (.slice x.A x.n x.c) ∧ w.cell? ⟨b, o + k * 4 + 2, none⟩ = some (.int .i64 x.nx) ∧ w.cell? ⟨b, o + k * 4 + 3, none⟩ = some (.slice x.B x.m x.d) ∧ TeIn x w := by
  have hk : k < n := by rw [← h.len]; exact (List.getElem?_eq_some_iff.1 hx).1
  obtain ⟨b, o, e, hb, hc⟩ := (show Rd w w.heap.size 4 A n (teCells l) from h.1).2 (by omega)
  exact ⟨b, o, e, hb, hc _ _ (flat_get Te.cells 4 (fun _ => rfl) l k 0 x (by omega) hx), hc _ _ (flat_get Te.cells 4 (fun _ => rfl) l k 1 x (by omega) hx), hc _ _ (flat_get Te.cells 4 (fun _ => rfl) l k 2 x (by omega) hx), hc _ _ (flat_get Te.cells 4 (fun _ => rfl) l k 3 x (by omega) hx), h.2 x (List.mem_of_getElem? hx)⟩
end Go.Proofs.Ytkpbnlbhfhkhcaa

namespace Go.Proofs.Ytkpbnlbhfhkhcaa
open Go.RowKit
set_option linter.unusedVariables false
set_option linter.unusedSimpArgs false

/-- A difference: the table's name, the rows that came, those that left, the updates. -/
structure Dl where
  nm : ByteArray
  ins : List Row
  del : List Row
  upd : List Upd
deriving DecidableEq
/-- the rows of l that rs does not have -/
def offR (rs l : List Row) : List Row := l.filter fun r => (getR rs r.1).isNone
/-- the rows of l that rs has with other values -/
def turnR (rs l : List Row) : List Upd := l.filterMap fun r => match getR rs r.1 with
  | some o => if o = r.2 then none else some (r.1, o, r.2)
  | none => none
theorem offR_hit {rs l : List Row} {j : Nat} {r : Row} (hr : l[j]? = some r) (h : getR rs r.1 = none) : offR rs (l.take (j + 1)) = offR rs (l.take j) ++ [r] := by
  unfold offR
  rw [List.take_add_one, hr, Option.toList_some, List.filter_append]
  simp [List.filter_cons, h]
theorem offR_miss {rs l : List Row} {j : Nat} {r : Row} {v : List Vl} (hr : l[j]? = some r) (h : getR rs r.1 = some v) : offR rs (l.take (j + 1)) = offR rs (l.take j) := by
  unfold offR
  rw [List.take_add_one, hr, Option.toList_some, List.filter_append]
  simp [List.filter_cons, h]
theorem turnR_none {rs l : List Row} {j : Nat} {r : Row} (hr : l[j]? = some r) (h : getR rs r.1 = none) : turnR rs (l.take (j + 1)) = turnR rs (l.take j) := by
  unfold turnR
  rw [List.take_add_one, hr, Option.toList_some, List.filterMap_append]
  simp [h]
theorem turnR_same {rs l : List Row} {j : Nat} {r : Row} (hr : l[j]? = some r) (h : getR rs r.1 = some r.2) : turnR rs (l.take (j + 1)) = turnR rs (l.take j) := by
  unfold turnR
  rw [List.take_add_one, hr, Option.toList_some, List.filterMap_append]
  simp [h]
theorem turnR_turn {rs l : List Row} {j : Nat} {r : Row} {o : List Vl} (hr : l[j]? = some r) (h : getR rs r.1 = some o) (hne : o ≠ r.2) : turnR rs (l.take (j + 1)) = turnR rs (l.take j) ++ [(r.1, o, r.2)] := by
  unfold turnR
  rw [List.take_add_one, hr, Option.toList_some, List.filterMap_append]
  simp [h, hne]
theorem getR_of_mem : ∀ {rs : List Row} {r : Row}, (rs.map (·.1)).Pairwise (· < ·) → r ∈ rs → getR rs r.1 = some r.2
  | x :: rs, r, ha, hr => by
    rw [List.map_cons, List.pairwise_cons] at ha
    rcases List.mem_cons.1 hr with rfl | hr
    · simp [getR]
    · have h1 := ha.1 r.1 (List.mem_map_of_mem hr)
      have h2 := getR_of_mem ha.2 hr
      unfold getR at h2 ⊢
      rw [List.find?_cons, show (x.1 == r.1) = false by rw [beq_eq_false_iff_ne]; omega]
      exact h2
/-- the merge's state: the rows of a ahead of p lie below all rows of b from j on, the others above all rows of b ahead of j -/
structure Mg (a b : List Row) (j p : Nat) : Prop where
  aasc : (a.map (·.1)).Pairwise (· < ·)
  basc : (b.map (·.1)).Pairwise (· < ·)
  low : ∀ x ∈ a.take p, ∀ y ∈ b.drop j, x.1 < y.1
  up : ∀ x ∈ a.drop p, ∀ y ∈ b.take j, y.1 < x.1
theorem asc_at {l : List Row} (h : (l.map (·.1)).Pairwise (· < ·)) {i j : Nat} {x y : Row} (hx : l[i]? = some x) (hy : l[j]? = some y) (hij : i < j) : x.1 < y.1 := by
  rw [List.pairwise_iff_getElem] at h
  obtain ⟨hi, rfl⟩ := List.getElem?_eq_some_iff.1 hx
  obtain ⟨hj, rfl⟩ := List.getElem?_eq_some_iff.1 hy
  have := h i j (by simpa using hi) (by simpa using hj) hij
  simpa using this
theorem mem_drop_at {α : Type} {l : List α} {k : Nat} {x : α} (h : x ∈ l.drop k) : ∃ i, k ≤ i ∧ l[i]? = some x := by
  obtain ⟨i, hi⟩ := List.getElem?_of_mem h
  rw [List.getElem?_drop] at hi
  exact ⟨k + i, by omega, hi⟩
theorem mem_take_at {α : Type} {l : List α} {k : Nat} {x : α} (h : x ∈ l.take k) : ∃ i, i < k ∧ l[i]? = some x := by
  obtain ⟨i, hi⟩ := List.getElem?_of_mem h
  rw [List.getElem?_take] at hi
  split at hi
  · exact ⟨i, by assumption, hi⟩
  · cases hi
theorem mem_of_drop_at {α : Type} {l : List α} {k i : Nat} {x : α} (hk : k ≤ i) (h : l[i]? = some x) : x ∈ l.drop k := List.mem_of_getElem? (i := i - k) (by rw [List.getElem?_drop, show k + (i - k) = i by omega]; exact h)
theorem mem_of_take_at {α : Type} {l : List α} {k i : Nat} {x : α} (hk : i < k) (h : l[i]? = some x) : x ∈ l.take k := List.mem_of_getElem? (i := i) (by rw [List.getElem?_take, if_pos hk]; exact h)
theorem Mg.zero {a b : List Row} (ha : (a.map (·.1)).Pairwise (· < ·)) (hb : (b.map (·.1)).Pairwise (· < ·)) : Mg a b 0 0 := ⟨ha, hb, fun x hx => by simp at hx, fun x _ y hy => by simp at hy⟩
/-- a row of a that b lacks -/
theorem Mg.left {a b : List Row} {j p : Nat} (h : Mg a b j p) {x r : Row} (hx : a[p]? = some x) (hr : b[j]? = some r) (hlt : x.1 < r.1) : Mg a b j (p + 1) ∧ getR b x.1 = none := by
  refine ⟨⟨h.aasc, h.basc, fun z hz y hy => ?_, fun z hz y hy => ?_⟩, getR_none fun y hy e => ?_⟩
  · obtain ⟨i, hi, hzi⟩ := mem_take_at hz
    rcases Nat.lt_or_ge i p with hip | hip
    · exact h.low z (mem_of_take_at hip hzi) y hy
    · obtain rfl : i = p := by omega
      rw [hx] at hzi; injection hzi with hzi; subst hzi
      obtain ⟨k, hk, hyk⟩ := mem_drop_at hy
      rcases Nat.eq_or_lt_of_le hk with e | e
      · subst e; rw [hr] at hyk; injection hyk with hyk; subst hyk; exact hlt
      · have := asc_at h.basc hr hyk e; omega
  · obtain ⟨i, hi, hzi⟩ := mem_drop_at hz
    exact h.up z (mem_of_drop_at (by omega) hzi) y hy
  · obtain ⟨k, hk⟩ := List.getElem?_of_mem hy
    rcases Nat.lt_or_ge k j with hkj | hkj
    · have := h.up x (mem_of_drop_at (Nat.le_refl _) hx) y (mem_of_take_at hkj hk); omega
    · rcases Nat.eq_or_lt_of_le hkj with e2 | e2
      · subst e2; rw [hr] at hk; injection hk with hk; subst hk; omega
      · have := asc_at h.basc hr hk e2; omega
/-- a row of both -/
theorem Mg.both {a b : List Row} {j p : Nat} (h : Mg a b j p) {x r : Row} (hx : a[p]? = some x) (hr : b[j]? = some r) (he : x.1 = r.1) : Mg a b (j + 1) (p + 1) ∧ getR b x.1 = some r.2 ∧ getR a r.1 = some x.2 := by
  refine ⟨⟨h.aasc, h.basc, fun z hz y hy => ?_, fun z hz y hy => ?_⟩, ?_, ?_⟩
  · obtain ⟨i, hi, hzi⟩ := mem_take_at hz
    obtain ⟨k, hk, hyk⟩ := mem_drop_at hy
    have h1 := asc_at h.basc hr hyk (by omega)
    rcases Nat.lt_or_ge i p with hip | hip
    · have := asc_at h.aasc hzi hx hip; omega
    · obtain rfl : i = p := by omega
      rw [hx] at hzi; injection hzi with hzi; subst hzi; omega
  · obtain ⟨i, hi, hzi⟩ := mem_drop_at hz
    obtain ⟨k, hk, hyk⟩ := mem_take_at hy
    have h1 := asc_at h.aasc hx hzi (by omega)
    rcases Nat.lt_or_ge k j with hkj | hkj
    · have := asc_at h.basc hyk hr hkj; omega
    · obtain rfl : k = j := by omega
      rw [hr] at hyk; injection hyk with hyk; subst hyk; omega
  · rw [he]; exact getR_of_mem h.basc (List.mem_of_getElem? hr)
  · rw [← he]; exact getR_of_mem h.aasc (List.mem_of_getElem? hx)
/-- a row of b that a lacks -/
theorem Mg.right {a b : List Row} {j p : Nat} (h : Mg a b j p) {r : Row} (hr : b[j]? = some r) (hp : ∀ x, a[p]? = some x → r.1 < x.1) : Mg a b (j + 1) p ∧ getR a r.1 = none := by
  have hup : ∀ i z, p ≤ i → a[i]? = some z → r.1 < z.1 := fun i z hi hz => by
    rcases Nat.eq_or_lt_of_le hi with e | e
    · subst e; exact hp z hz
    · have hl : p < a.length := by have := (List.getElem?_eq_some_iff.1 hz).1; omega
      have h1 := hp _ (List.getElem?_eq_getElem hl)
      have h2 := asc_at h.aasc (List.getElem?_eq_getElem hl) hz e
      omega
  refine ⟨⟨h.aasc, h.basc, fun z hz y hy => ?_, fun z hz y hy => ?_⟩, getR_none fun y hy e => ?_⟩
  · obtain ⟨k, hk, hyk⟩ := mem_drop_at hy
    exact h.low z hz y (mem_of_drop_at (by omega) hyk)
  · obtain ⟨i, hi, hzi⟩ := mem_drop_at hz
    obtain ⟨k, hk, hyk⟩ := mem_take_at hy
    have h1 := hup i z hi hzi
    rcases Nat.lt_or_ge k j with hkj | hkj
    · have := asc_at h.basc hyk hr hkj; omega
    · obtain rfl : k = j := by omega
      rw [hr] at hyk; injection hyk with hyk; subst hyk; omega
  · obtain ⟨i, hi⟩ := List.getElem?_of_mem hy
    rcases Nat.lt_or_ge i p with hip | hip
    · have := h.low y (mem_of_take_at hip hi) r (mem_of_drop_at (Nat.le_refl _) hr); omega
    · have := hup i y hip hi; omega
/-- what is left of a, b lacks -/
theorem Mg.last {a b : List Row} {j p : Nat} (h : Mg a b j p) (hj : b.length ≤ j) {i : Nat} {x : Row} (hi : p ≤ i) (hx : a[i]? = some x) : getR b x.1 = none := getR_none fun y hy e => by
  obtain ⟨k, hk⟩ := List.getElem?_of_mem hy
  have := (List.getElem?_eq_some_iff.1 hk).1
  have := h.up x (mem_of_drop_at hi hx) y (mem_of_take_at (by omega) hk)
  omega
/-- the state of the merge: j rows of b and p rows of a are done -/
structure BSt (a b : Tb) (j p : Nat) (li ld : List Rw) (lu : List Pr) : Prop where
  va : tabB a.nm a.cs a.nx a.rs = true
  vb : tabB b.nm b.cs b.nx b.rs = true
  eq : a.nm = b.nm ∧ a.cs = b.cs
  nx : a.nx ≤ b.nx
  mg : Mg a.rs b.rs j p
  ins : li.map Rw.row = offR a.rs (b.rs.take j)
  del : ld.map Rw.row = offR b.rs (a.rs.take p)
  upd : lu.map Pr.upd = turnR a.rs (b.rs.take j)
  new : ∀ r ∈ b.rs.take j, (getR a.rs r.1).isSome = true ∨ a.nx ≤ r.1
  ok1 : ∀ r ∈ li, r.ok
  ok2 : ∀ r ∈ ld, r.ok
  ok3 : ∀ p ∈ lu, p.ok
theorem tabB_asc {t : Tb} (h : tabB t.nm t.cs t.nx t.rs = true) : (t.rs.map (·.1)).Pairwise (· < ·) := (okR_asc (tabB_ok h).2.2.2.2.1).1
theorem BSt.zero {a b : Tb} (va : tabB a.nm a.cs a.nx a.rs = true) (vb : tabB b.nm b.cs b.nx b.rs = true) (eq : a.nm = b.nm ∧ a.cs = b.cs) (nx : a.nx ≤ b.nx) : BSt a b 0 0 [] [] [] :=
  ⟨va, vb, eq, nx, Mg.zero (tabB_asc va) (tabB_asc vb), rfl, rfl, rfl, fun r hr => by simp at hr, fun r hr => (nomatch hr), fun r hr => (nomatch hr), fun r hr => (nomatch hr)⟩
theorem okSnoc {α : Type} {P : α → Prop} {l : List α} {x : α} (h : ∀ r ∈ l, P r) (k : P x) : ∀ r ∈ l ++ [x], P r := fun r hr => by
  rcases List.mem_append.1 hr with hr | hr
  · exact h r hr
  · simp at hr; subst hr; exact k
theorem all_take {P : Row → Prop} {l : List Row} {j : Nat} {r : Row} (h : ∀ x ∈ l.take j, P x) (hr : l[j]? = some r) (k : P r) : ∀ x ∈ l.take (j + 1), P x := by
  rw [List.take_add_one, hr, Option.toList_some]
  exact okSnoc h k
section
variable {a b : Tb} {j p : Nat} {li ld : List Rw} {lu : List Pr}
theorem BSt.left (h : BSt a b j p li ld lu) {x r : Row} (hx : a.rs[p]? = some x) (hr : b.rs[j]? = some r) (hlt : x.1 < r.1) {y : Rw} (hy : y.row = x) (hk : y.ok) : BSt a b j (p + 1) li (ld ++ [y]) lu := by
  obtain ⟨h1, h2⟩ := h.mg.left hx hr hlt
  exact ⟨h.va, h.vb, h.eq, h.nx, h1, h.ins, by rw [List.map_append, h.del, offR_hit hx h2, ← hy]; rfl, h.upd, h.new, h.ok1, okSnoc h.ok2 hk, h.ok3⟩
theorem BSt.same (h : BSt a b j p li ld lu) {x r : Row} (hx : a.rs[p]? = some x) (hr : b.rs[j]? = some r) (he : x.1 = r.1) (hv : x.2 = r.2) : BSt a b (j + 1) (p + 1) li ld lu := by
  obtain ⟨h1, h2, h3⟩ := h.mg.both hx hr he
  exact ⟨h.va, h.vb, h.eq, h.nx, h1, by rw [h.ins, offR_miss hr h3], by rw [h.del, offR_miss hx h2], by rw [h.upd, turnR_same hr (by rw [h3, hv])], all_take h.new hr (.inl (by rw [h3]; rfl)), h.ok1, h.ok2, h.ok3⟩
theorem BSt.turn (h : BSt a b j p li ld lu) {x r : Row} (hx : a.rs[p]? = some x) (hr : b.rs[j]? = some r) (he : x.1 = r.1) (hv : x.2 ≠ r.2) {q : Pr} (hq : q.upd = (r.1, x.2, r.2)) (hk : q.ok) : BSt a b (j + 1) (p + 1) li ld (lu ++ [q]) := by
  obtain ⟨h1, h2, h3⟩ := h.mg.both hx hr he
  exact ⟨h.va, h.vb, h.eq, h.nx, h1, by rw [h.ins, offR_miss hr h3], by rw [h.del, offR_miss hx h2], by rw [List.map_append, h.upd, turnR_turn hr h3 hv, ← hq]; rfl, all_take h.new hr (.inl (by rw [h3]; rfl)), h.ok1, h.ok2, okSnoc h.ok3 hk⟩
theorem BSt.right (h : BSt a b j p li ld lu) {r : Row} (hr : b.rs[j]? = some r) (hp : ∀ x, a.rs[p]? = some x → r.1 < x.1) (hn : a.nx ≤ r.1) {y : Rw} (hy : y.row = r) (hk : y.ok) : BSt a b (j + 1) p (li ++ [y]) ld lu := by
  obtain ⟨h1, h2⟩ := h.mg.right hr hp
  exact ⟨h.va, h.vb, h.eq, h.nx, h1, by rw [List.map_append, h.ins, offR_hit hr h2, ← hy]; rfl, h.del, by rw [h.upd, turnR_none hr h2], all_take h.new hr (.inr hn), okSnoc h.ok1 hk, h.ok2, h.ok3⟩
theorem BSt.tail (h : BSt a b j p li ld lu) (hj : b.rs.length ≤ j) {x : Row} (hx : a.rs[p]? = some x) {y : Rw} (hy : y.row = x) (hk : y.ok) : BSt a b j (p + 1) li (ld ++ [y]) lu := by
  have h2 := h.mg.last hj (Nat.le_refl _) hx
  refine ⟨h.va, h.vb, h.eq, h.nx, ⟨h.mg.aasc, h.mg.basc, fun z _ y hy => ?_, fun z hz y hy => ?_⟩, h.ins, by rw [List.map_append, h.del, offR_hit hx h2, ← hy]; rfl, h.upd, h.new, h.ok1, okSnoc h.ok2 hk, h.ok3⟩
  · rw [List.drop_of_length_le hj] at hy; cases hy
  · obtain ⟨i, hi, hzi⟩ := mem_drop_at hz
    exact h.mg.up z (mem_of_drop_at (by omega) hzi) y hy
end
/-- the state of the reference's loops: j rows of b, then p rows of a are done -/
structure RSt (a b : Tb) (j p : Nat) (li ld : List Rw) (lu : List Pr) : Prop where
  va : tabB a.nm a.cs a.nx a.rs = true
  vb : tabB b.nm b.cs b.nx b.rs = true
  eq : a.nm = b.nm ∧ a.cs = b.cs
  nx : a.nx ≤ b.nx
  ins : li.map Rw.row = offR a.rs (b.rs.take j)
  del : ld.map Rw.row = offR b.rs (a.rs.take p)
  upd : lu.map Pr.upd = turnR a.rs (b.rs.take j)
  new : ∀ r ∈ b.rs.take j, (getR a.rs r.1).isSome = true ∨ a.nx ≤ r.1
  ok1 : ∀ r ∈ li, r.ok
  ok2 : ∀ r ∈ ld, r.ok
  ok3 : ∀ p ∈ lu, p.ok
theorem RSt.zero {a b : Tb} (va : tabB a.nm a.cs a.nx a.rs = true) (vb : tabB b.nm b.cs b.nx b.rs = true) (eq : a.nm = b.nm ∧ a.cs = b.cs) (nx : a.nx ≤ b.nx) : RSt a b 0 0 [] [] [] :=
  ⟨va, vb, eq, nx, rfl, rfl, rfl, fun r hr => by simp at hr, fun r hr => (nomatch hr), fun r hr => (nomatch hr), fun r hr => (nomatch hr)⟩
section
variable {a b : Tb} {j p : Nat} {li ld : List Rw} {lu : List Pr}
theorem RSt.same (h : RSt a b j p li ld lu) {r : Row} {o : List Vl} (hr : b.rs[j]? = some r) (h2 : getR a.rs r.1 = some o) (ho : o = r.2) : RSt a b (j + 1) p li ld lu := by
  subst ho
  exact ⟨h.va, h.vb, h.eq, h.nx, by rw [h.ins, offR_miss hr h2], h.del, by rw [h.upd, turnR_same hr h2], all_take h.new hr (.inl (by rw [h2]; rfl)), h.ok1, h.ok2, h.ok3⟩
theorem RSt.turn (h : RSt a b j p li ld lu) {r : Row} {o : List Vl} (hr : b.rs[j]? = some r) (h2 : getR a.rs r.1 = some o) (ho : o ≠ r.2) {q : Pr} (hq : q.upd = (r.1, o, r.2)) (hk : q.ok) : RSt a b (j + 1) p li ld (lu ++ [q]) :=
  ⟨h.va, h.vb, h.eq, h.nx, by rw [h.ins, offR_miss hr h2], h.del, by rw [List.map_append, h.upd, turnR_turn hr h2 ho, ← hq]; rfl, all_take h.new hr (.inl (by rw [h2]; rfl)), h.ok1, h.ok2, okSnoc h.ok3 hk⟩
theorem RSt.left (h : RSt a b j p li ld lu) {x : Row} (hx : a.rs[p]? = some x) (h2 : getR b.rs x.1 = none) {y : Rw} (hy : y.row = x) (hk : y.ok) : RSt a b j (p + 1) li (ld ++ [y]) lu :=
  ⟨h.va, h.vb, h.eq, h.nx, h.ins, by rw [List.map_append, h.del, offR_hit hx h2, ← hy]; rfl, h.upd, h.new, h.ok1, okSnoc h.ok2 hk, h.ok3⟩
theorem RSt.keep (h : RSt a b j p li ld lu) {x : Row} {v : List Vl} (hx : a.rs[p]? = some x) (h2 : getR b.rs x.1 = some v) : RSt a b j (p + 1) li ld lu :=
  ⟨h.va, h.vb, h.eq, h.nx, h.ins, by rw [h.del, offR_miss hx h2], h.upd, h.new, h.ok1, h.ok2, h.ok3⟩
end
end Go.Proofs.Ytkpbnlbhfhkhcaa

namespace Go.Proofs
open Go.Shelf
end Go.Proofs

namespace Go.Proofs.Ytkpbnlbhfhkhcaa
open Go.RowKit
set_option linter.unusedVariables false
set_option linter.unusedSimpArgs false

/-- rows that stand whatever becomes of block g -/
abbrev RowsAt (w : World) (g : Nat) : Type := { s : Sl // Ro w (fun b => b = g) (VlsIn s.A s.n s.vs) ∧ s.n ≤ 9223372036854775807 }
instance rowsAtInh (w : World) (g : Nat) : Inhabited (RowsAt w g) := ⟨⟨⟨none, 0, 0, []⟩, fun _ _ _ => Rd.none_, Nat.zero_le _⟩⟩
end Go.Proofs.Ytkpbnlbhfhkhcaa

namespace Go.Proofs.Ytkpbnlbhfhkhcaa
open Go.RowKit
set_option linter.unusedVariables false
set_option linter.unusedSimpArgs false

end Go.Proofs.Ytkpbnlbhfhkhcaa

namespace Go.Proofs.Ytkpbnlbhfhkhcaa
open Go.RowKit
set_option linter.unusedVariables false
set_option linter.unusedSimpArgs false

end Go.Proofs.Ytkpbnlbhfhkhcaa

namespace Go.Proofs.Ytkpbnlbhfhkhcaa
open Go.RowKit
set_option linter.unusedVariables false
set_option linter.unusedSimpArgs false

section
variable {M : Nat → Prop} {row : Option Nat} {w0 w : World} {L : List Hp} {P : Program}
end
end Go.Proofs.Ytkpbnlbhfhkhcaa

namespace Go.Proofs.Ytkpbnlbhfhkhcaa
open Go.RowKit
set_option linter.unusedVariables false
set_option linter.unusedSimpArgs false

end Go.Proofs.Ytkpbnlbhfhkhcaa

namespace Go.Proofs.Ytkpbnlbhfhkhcaa
open Go.RowKit
set_option linter.unusedVariables false
set_option linter.unusedSimpArgs false

end Go.Proofs.Ytkpbnlbhfhkhcaa

namespace Go.Proofs.Ytkpbnlbhfhkhcaa
open Go.RowKit
set_option linter.unusedVariables false
set_option linter.unusedSimpArgs false

end Go.Proofs.Ytkpbnlbhfhkhcaa

namespace Go.Proofs.Ytkpbnlbhfhkhcaa
open Go.RowKit
set_option linter.unusedVariables false
set_option linter.unusedSimpArgs false

/-- a row without its number -/
def Rw.sl (r : Rw) : Sl := ⟨r.A, r.n, r.c, r.vs⟩
end Go.Proofs.Ytkpbnlbhfhkhcaa

namespace Go.Proofs.Ytkpbnlbhfhkhcaa
open Go.RowKit
set_option linter.unusedVariables false
set_option linter.unusedSimpArgs false

section
variable {P : Program} {M : Nat → Prop} {row : Option Nat} {w0 w : World} {L : List Hp} {ops : Array Oper} {Q : Exit → Act → World → Prop} {Kn : Act → World → Prop} {a : Act}
end
end Go.Proofs.Ytkpbnlbhfhkhcaa

namespace Go.Proofs.Ytkpbnlbhfhkhcaa
open Go.RowKit
set_option linter.unusedVariables false
set_option linter.unusedSimpArgs false

end Go.Proofs.Ytkpbnlbhfhkhcaa

namespace Go.Proofs.Ytkpbnlbhfhkhcaa
open Go.RowKit
set_option linter.unusedVariables false
set_option linter.unusedSimpArgs false

structure El where
  nm : ByteArray
  I : Option Addr
  ni : Nat
  ci : Nat
  D : Option Addr
  nd : Nat
  cd : Nat
  U : Option Addr
  nu : Nat
  cu : Nat
  li : List Rw
  ld : List Rw
  lu : List Pr
def El.cells (x : El) : List Value := [.string x.nm, .slice x.I x.ni x.ci, .slice x.D x.nd x.cd, .slice x.U x.nu x.cu]
def El.val (x : El) : Value := .agg #[.string x.nm, .slice x.I x.ni x.ci, .slice x.D x.nd x.cd, .slice x.U x.nu x.cu]
def ElIn (x : El) (w : World) : Prop := RwsIn x.I x.ni x.li w ∧ RwsIn x.D x.nd x.ld w ∧ PrsIn x.U x.nu x.lu w
structure El.good (x : El) (N K : Nat) : Prop where
  i : x.ni ≤ N
  d : x.nd ≤ N
  u : x.nu ≤ N
  ci : x.ni ≤ x.ci ∧ x.ci ≤ 9223372036854775807
  cd : x.nd ≤ x.cd ∧ x.cd ≤ 9223372036854775807
  cu : x.nu ≤ x.cu ∧ x.cu ≤ 9223372036854775807
  li : ∀ r ∈ x.li, r.ok ∧ r.n ≤ K
  ld : ∀ r ∈ x.ld, r.ok ∧ r.n ≤ K
  lu : ∀ p ∈ x.lu, p.ok ∧ p.on ≤ K ∧ p.nn ≤ K
theorem El.good.more {x : El} {N K N' K' : Nat} (h : x.good N K) (hi : x.ni ≤ N') (hd : x.nd ≤ N') (hu : x.nu ≤ N') (hK : K ≤ K') : x.good N' K' :=
  ⟨hi, hd, hu, h.ci, h.cd, h.cu, fun r hr => ⟨(h.li r hr).1, Nat.le_trans (h.li r hr).2 hK⟩, fun r hr => ⟨(h.ld r hr).1, Nat.le_trans (h.ld r hr).2 hK⟩, fun p hp => ⟨(h.lu p hp).1, Nat.le_trans (h.lu p hp).2.1 hK, Nat.le_trans (h.lu p hp).2.2 hK⟩⟩
end Go.Proofs.Ytkpbnlbhfhkhcaa

namespace Go.Proofs.Ytkpbnlbhfhkhcaa
open Go.RowKit
set_option linter.unusedVariables false
set_option linter.unusedSimpArgs false

end Go.Proofs.Ytkpbnlbhfhkhcaa

namespace Go.Proofs.Ytkpbnlbhfhkhcaa
open Go.RowKit
set_option linter.unusedVariables false
set_option linter.unusedSimpArgs false

/-- a difference whose rows are short -/
structure DlShort (d : Dl) : Prop where
  fi : d.ins.length ≤ 4398046511104
  fd : d.del.length ≤ 4398046511104
  fu : d.upd.length ≤ 4398046511104
  ri : ∀ r ∈ d.ins, r.2.length ≤ 4398046511104
  rd : ∀ r ∈ d.del, r.2.length ≤ 4398046511104
  ru : ∀ u ∈ d.upd, u.2.1.length ≤ 4398046511104 ∧ u.2.2.length ≤ 4398046511104

end Go.Proofs.Ytkpbnlbhfhkhcaa

namespace Go.Proofs.Ytkpbnlbhfhkhcaa
open Go.RowKit
set_option linter.unusedVariables false
set_option linter.unusedSimpArgs false

def elCells (l : List El) : List Value := l.flatMap El.cells
theorem elCells_len (l : List El) : (elCells l).length = l.length * 4 := flat_len _ 4 (fun _ => rfl) l
def ElsIn (A : Option Addr) (n : Nat) (l : List El) (w : World) : Prop := SlR 4 A n (elCells l) w ∧ ∀ x ∈ l, ElIn x w
theorem ElsIn.len {w : World} {A : Option Addr} {n : Nat} {l : List El} (h : ElsIn A n l w) : l.length = n := by
  have := (show Rd w w.heap.size 4 A n (elCells l) from h.1).1
  rw [elCells_len] at this
  omega
theorem ElsIn.at_ {w : World} {A : Option Addr} {n : Nat} {l : List El} (h : ElsIn A n l w) {k : Nat} {x : El} (hx : l[k]? = some x) :
    ∃ b o, A = some ⟨b, o, none⟩ ∧ b < w.heap.size ∧ w.cell? ⟨b, o + k * 4, none⟩ = some (.string x.nm) ∧ w.cell? ⟨b, o + k * 4 + 1, none⟩ = some (.slice x.I x.ni x.ci) ∧ w.cell? ⟨b, o + k * 4 + 2, none⟩ = some (.slice x.D x.nd x.cd) ∧ w.cell? ⟨b, o + k * 4 + 3, none⟩ = some (.slice x.U x.nu x.cu) ∧ ElIn x w := by
  have hk : k < n := by rw [← h.len]; exact (List.getElem?_eq_some_iff.1 hx).1
  obtain ⟨b, o, e, hb, hc⟩ := (show Rd w w.heap.size 4 A n (elCells l) from h.1).2 (by omega)
  exact ⟨b, o, e, hb, hc _ _ (flat_get El.cells 4 (fun _ => rfl) l k 0 x (by omega) hx), hc _ _ (flat_get El.cells 4 (fun _ => rfl) l k 1 x (by omega) hx), hc _ _ (flat_get El.cells 4 (fun _ => rfl) l k 2 x (by omega) hx), hc _ _ (flat_get El.cells 4 (fun _ => rfl) l k 3 x (by omega) hx), h.2 x (List.mem_of_getElem? hx)⟩
end Go.Proofs.Ytkpbnlbhfhkhcaa

namespace Go.Proofs.Ytkpbnlbhfhkhcaa
open Go.RowKit
set_option linter.unusedVariables false
set_option linter.unusedSimpArgs false
end Go.Proofs.Ytkpbnlbhfhkhcaa

namespace Go.Proofs.Ytkpbnlbhfhkhcaa
open Go Go.RowKit
set_option linter.unusedVariables false
set_option linter.unusedSectionVars false
set_option linter.unusedSimpArgs false

section
variable {P : Program} {ops : Array Oper} {C : World → Prop} {G : Option Tmp → Value → World → Prop} {R : World → World → Prop} {n N : Nat} {F : Act → Prop}

end
section
variable {P : Program} {M : Nat → Prop} {row : Option Nat} {w0 w1 : World} {L : List Hp} {sp : SpW} {F : Act → Prop} {S0 : Array Bool}
end
end Go.Proofs.Ytkpbnlbhfhkhcaa

namespace Go.Proofs.Ytkpbnlbhfhkhcaa
open Go.RowKit
set_option linter.unusedVariables false
set_option linter.unusedSimpArgs false

theorem te_at {l : List Te} {k : Nat} {x : Te} (h : l[k]? = some x) : (l.map Te.tb)[k]? = some x.tb := by rw [List.getElem?_map, h]; rfl
end Go.Proofs.Ytkpbnlbhfhkhcaa

namespace Go.Proofs.Ytkpbnlbhfhkhcaa
open Go.RowKit
set_option linter.unusedVariables false
set_option linter.unusedSimpArgs false

/-- the place of the first table with a name -/
def findS (l : List Tb) (s : ByteArray) : Int := findB (fun t => t.nm.toList == s.toList) l
end Go.Proofs.Ytkpbnlbhfhkhcaa

namespace Go.Proofs.Ytkpbnlbhfhkhcaa
open Go.RowKit
set_option linter.unusedVariables false
set_option linter.unusedSimpArgs false

def SrcRet (w : World) (M : Nat → Prop) (nm : ByteArray) (cs : List Col) (e : Ending) (w' : World) : Prop := ∃ (C : Option Addr) (q cap : Nat), e = .returned (.tuple #[.agg #[.string nm, .slice C q cap], .bool true]) ∧ q = cs.length ∧ Ro w' M (ColsIn C q cs) ∧ Below w.heap.size w w'
set_option maxHeartbeats 2000000 in
theorem src1_any (w : World) (x : Te) (b : Nat) (s : ByteArray) (t : TypeId) (hb : w.heap[b]? = some (.cells #[.string s] t (0, 0))) :
    Calls Try.prog 22 #[.agg #[.string x.nm, .slice x.A x.n x.c, .int .i64 x.nx, .slice x.B x.m x.d], .pointer (some ⟨b, 0, none⟩)] w fun e w' => e = .returned (.bool (x.nm.toList == s.toList)) ∧ Below w.heap.size w w' := by
  have hbl : b < w.heap.size := Blk.lt (t := t) (cs := #[.string s]) hb
  have K0 := ((Hold.begin_ w).addCst (g := b) (t := t) (cs := #[.string s]) (fun w2 h1 h2 => (h2 b hbl (by simp [Mut, None_])).trans hb)).alloc_cst #[.string x.nm, .slice x.A x.n x.c, .int .i64 x.nx, .slice x.B x.m x.d] 66
  have F0 := K0.facts
  simp only [World.size_alloc, World.size_drew, factsL, cellsF, Nat.reduceAdd, List.toList_toArray, List.set_cons_zero, List.set_cons_succ, List.setIfInBounds_toArray, and_true, true_and] at F0
  go_enter Try.func22, Try.ntmps22
  go_wp2_with fail
  go_ret
  exact ⟨rfl, K0.below⟩
set_option maxHeartbeats 2000000 in
set_option maxRecDepth 100000 in
theorem srcI_any (M : Nat → Prop) (w : World) (hM : ∀ b, M b → b < w.heap.size) (A : Option Addr) (n c : Nat) (l : List Te) (b : Nat) (s : ByteArray) (t : TypeId) (hB : Ro w M (fun w => w.heap[b]? = some (.cells #[.string s] t (0, 0)))) (hD : Ro w M (TesIn A n l)) (hn : n ≤ 4611686018427387904) :
    Calls Try.prog 21 #[.slice A n c, .func (.func 22) #[] #[.pointer (some ⟨b, 0, none⟩)]] w fun e w' => e = .returned (.int .i64 (findS (l.map Te.tb) s)) ∧ Below w.heap.size w w' := by
  have HL := hid hD.now.len
  have K0 := (((Hold.start M w hM).add (hB.less (by simp [Mut]))).add (hD.less (by simp [Mut, Hp.foot])))
  go_enter Try.func21, Try.ntmps21
  go_wp2_with fail
  go_loopw [8] (fun iv wr => ∃ (k : Nat), k ≤ n ∧ iv = .int .i64 k ∧ Hid (findS (l.map Te.tb) s = findFrom (fun t => t.nm.toList == s.toList) k ((l.map Te.tb).drop k)) ∧ Hold M none w wr [.ro (TesIn A n l), .ro (fun w => w.heap[b]? = some (.cells #[.string s] t (0, 0)))]) (fun iv _ => n - (intOf iv).toNat)
  case atStart => exact ⟨0, by omega, rfl, hid rfl, K0⟩
  case round =>
    clear K0
    obtain ⟨k, hk, rfl, HC, H⟩ := hrel
    by_cases hlt : k < n
    · have hd : decide ((k : Int) < (n : Int)) = true := by simp; omega
      have i0 : (0 : Int) ≤ (k : Int) := by omega
      have i1 : (k : Int) < (n : Int) := by omega
      obtain ⟨x, hx⟩ := get_of HL.out hlt
      obtain ⟨g, o, rfl, hb, c0, c1, c2, c3, -⟩ := (H.ro 0 rfl).now.at_ hx
      have HX := hid (te_at hx)
      clear hx
      go_wp2_with fail
      refine (src1_any wr x b s t (H.ro 1 rfl).now).mono ?_
      rintro e w1 ⟨rfl, b1⟩
      have K1 := H.call b1
      clear H b1
      cases hz : (x.nm.toList == s.toList)
      · have HN := hid (find_miss HC.out HX.out hz)
        clear hz
        go_wp2_with fail
        go_roundw
        case rel => exact ⟨k + 1, by omega, by go_num, HN, K1⟩
        case measure => simp [intOf]; omega
      · have HN := hid (show findS (l.map Te.tb) s = (k : Int) from find_hit HC.out HX.out hz)
        clear hz
        go_wp2_with fail
        go_ret
        exact ⟨by rw [HN.out] <;> rfl, K1.below⟩
    · obtain rfl : n = k := by omega
      have hd : decide ((n : Int) < (n : Int)) = false := by simp
      have HN := hid (show findS (l.map Te.tb) s = -1 from find_end HC.out (by rw [List.length_map, HL.out]; exact Nat.le_refl _))
      go_wp2_with fail
      go_ret
      exact ⟨by rw [HN.out] <;> rfl, H.below⟩
set_option maxHeartbeats 2000000 in
set_option maxRecDepth 100000 in
theorem source0_any (M : Nat → Prop) (w : World) (hM : ∀ b, M b → b < w.heap.size) (A : Option Addr) (n c : Nat) (l : List Te) (s : ByteArray) (hD : Ro w M (TesIn A n l)) (hn : n ≤ 4611686018427387904) (hf : findS (l.map Te.tb) s = -1) :
    Calls Try.prog 11 #[.slice A n c, .string s] w fun e w' => e = .returned (.tuple #[.agg #[.string ⟨#[]⟩, .slice none 0 0], .bool false]) ∧ Below w.heap.size w w' := by
  have K0 := (((Hold.start M w hM).add (hD.less (by simp [Mut]))).alloc_cst #[.string s] 9).alloc #[.string ⟨#[]⟩, .slice none 0 0] 53
  simp only [World.size_alloc] at K0
  have F0 := K0.facts
  simp only [World.size_alloc, World.size_drew, factsL, cellsF, Nat.reduceAdd, List.toList_toArray, List.set_cons_zero, List.set_cons_succ, List.setIfInBounds_toArray, and_true, true_and] at F0
  have hce := srcI_any _ _ K0.mutLt A n c l w.heap.size s 9 (K0.get 1 rfl) (K0.ro 2 rfl) hn
  rw [hf] at hce
  go_enter Try.func11, Try.ntmps11
  go_wp2_with fail
  refine hce.mono ?_
  rintro e w1 ⟨rfl, b1⟩
  have K1 := K0.call b1
  clear K0 F0 hce b1
  have F1 := K1.facts
  simp only [World.size_alloc, World.size_drew, factsL, cellsF, Nat.reduceAdd, List.toList_toArray, List.set_cons_zero, List.set_cons_succ, List.setIfInBounds_toArray, and_true, true_and] at F1
  have K2 := (K1.store 0 rfl 0 (.string ⟨#[]⟩)).store 0 rfl 1 (.slice none 0 0)
  simp only [List.set_cons_zero, List.set_cons_succ, List.setIfInBounds_toArray] at K2
  have F2 := K2.facts
  simp only [World.size_alloc, World.size_drew, factsL, cellsF, Nat.reduceAdd, List.toList_toArray, List.set_cons_zero, List.set_cons_succ, List.setIfInBounds_toArray, and_true, true_and] at F2
  have HB := hid K2.below
  clear K1 K2
  go_wp2_with fail
  exact bodyPost_ret (v := .tuple #[.agg #[.string ⟨#[]⟩, .slice none 0 0], .bool false]) (by simp [results, Try.results11, go_sem, F2]) rfl ⟨rfl, HB.out⟩
set_option maxHeartbeats 2000000 in
set_option maxRecDepth 100000 in
theorem source1_any (M : Nat → Prop) (w : World) (hM : ∀ b, M b → b < w.heap.size) (A : Option Addr) (n c : Nat) (l : List Te) (s : ByteArray) (hD : Ro w M (TesIn A n l)) (hn : n ≤ 4611686018427387904) (k : Nat) (x : Te) (hx : l[k]? = some x) (hf : findS (l.map Te.tb) s = (k : Int)) (hxn : x.n ≤ 4398046511104) :
    Calls Try.prog 11 #[.slice A n c, .string s] w fun e w' => SrcRet w M x.nm x.cs e w' := by
  have K0 := (((Hold.start M w hM).add (hD.less (by simp [Mut]))).alloc_cst #[.string s] 9).alloc #[.string ⟨#[]⟩, .slice none 0 0] 53
  simp only [World.size_alloc] at K0
  have F0 := K0.facts
  simp only [World.size_alloc, World.size_drew, factsL, cellsF, Nat.reduceAdd, List.toList_toArray, List.set_cons_zero, List.set_cons_succ, List.setIfInBounds_toArray, and_true, true_and] at F0
  have hce := srcI_any _ _ K0.mutLt A n c l w.heap.size s 9 (K0.get 1 rfl) (K0.ro 2 rfl) hn
  rw [hf] at hce
  have hkn : k < n := by rw [← hD.now.len]; exact (List.getElem?_eq_some_iff.1 hx).1
  have HX := hid hx
  clear hx hf
  go_enter Try.func11, Try.ntmps11
  go_wp2_with fail
  refine hce.mono ?_
  rintro e w1 ⟨rfl, b1⟩
  have KA := K0.call b1
  clear K0 F0 hce b1 hD
  obtain ⟨b, o, rfl, hb, c0, c1, -, -, -⟩ := (KA.ro 2 rfl).now.at_ HX.out
  have KB := (KA.add (S := ColsIn x.A x.n x.cs) ((KA.ro 2 rfl).imp fun w2 h2 => (h2.2 x (List.mem_of_getElem? HX.out)).1)).alloc #[.string x.nm, .slice x.A x.n x.c] 53
  have K1 := KB
  have F1 := K1.facts
  simp only [World.size_alloc, World.size_drew, factsL, cellsF, Nat.reduceAdd, List.toList_toArray, List.set_cons_zero, List.set_cons_succ, List.setIfInBounds_toArray, and_true, true_and] at F1
  clear KA K1
  obtain ⟨xnm, xA, xn, xc, xcs, xnx, xB, xm, xd, xl⟩ := x
  go_wp2_with fail
  refine (cloneCols_any _ _ KB.mutLt xA xn xc xcs (KB.ro 1 rfl) hxn).mono ?_
  rintro e w2 ⟨C, q, cap, rfl, hq, hqc, hcap, rC, b2⟩
  have K2 := (KB.call b2).add rC
  clear F1 KB b2 rC c0 c1
  have HQ := hid hq
  clear hq
  obtain ⟨g, hg⟩ : ∃ g, g = w1.heap.size := ⟨_, rfl⟩
  rw [← hg] at K2 ⊢
  have HG := hid hg
  clear hg
  have F2 := K2.facts
  simp only [World.size_alloc, World.size_drew, factsL, cellsF, Nat.reduceAdd, List.toList_toArray, List.set_cons_zero, List.set_cons_succ, List.setIfInBounds_toArray, and_true, true_and] at F2
  have K3 := K2.store 1 rfl 1 (.slice C q cap)
  simp only [List.set_cons_zero, List.set_cons_succ, List.setIfInBounds_toArray] at K3
  have F3 := K3.facts
  simp only [World.size_alloc, World.size_drew, factsL, cellsF, Nat.reduceAdd, List.toList_toArray, List.set_cons_zero, List.set_cons_succ, List.setIfInBounds_toArray, and_true, true_and] at F3
  have K4 := (K3.store 3 rfl 0 (.string xnm)).store 3 rfl 1 (.slice C q cap)
  simp only [List.set_cons_zero, List.set_cons_succ, List.setIfInBounds_toArray] at K4
  have F4 := K4.facts
  simp only [World.size_alloc, World.size_drew, factsL, cellsF, Nat.reduceAdd, List.toList_toArray, List.set_cons_zero, List.set_cons_succ, List.setIfInBounds_toArray, and_true, true_and] at F4
  have HR := hid ((K4.ro 0 rfl).less (fun b hb => .inl hb : ∀ b, M b → Mut M _ b))
  have HB := hid K4.below
  clear K2 K3 K4
  go_wp2_with fail
  refine bodyPost_ret (v := .tuple #[.agg #[.string xnm, .slice C q cap], .bool true]) ?_ rfl ?_
  · clear HR HB
    simp [results, Try.results11, go_sem, F4]
  · exact ⟨C, q, cap, rfl, HQ.out, HR.out, HB.out⟩
end Go.Proofs.Ytkpbnlbhfhkhcaa

namespace Go.Proofs.Ytkpbnlbhfhkhcaa
open Go.RowKit
set_option linter.unusedVariables false
set_option linter.unusedSimpArgs false

def tabsE (l : List Te) : List (ByteArray × List Col) := l.map fun x => (x.nm, x.cs)
def RksIn (A : Option Addr) (n : Nat) (l : List Rk) (w : World) : Prop := SlR 4 A n (l.flatMap Rk.cells) w ∧ ∀ x ∈ l, True
theorem RksIn.len {A : Option Addr} {n : Nat} {l : List Rk} {w : World} (h : RksIn A n l w) : l.length = n := SlP.In.len (s := ⟨A, n, 0, l⟩) (k := 4) (cel := Rk.cells) (P := fun _ _ => True) h (by omega) (fun _ => rfl)
theorem RksIn.at_ {w : World} {A : Option Addr} {n : Nat} {l : List Rk} (h : RksIn A n l w) {k : Nat} {x : Rk} (hx : l[k]? = some x) :
    ∃ b o, A = some ⟨b, o, none⟩ ∧ b < w.heap.size ∧ (∀ j u, j < 4 → x.cells[j]? = some u → w.cell? ⟨b, o + k * 4 + j, none⟩ = some u) ∧ True := SlP.In.at_ (s := ⟨A, n, 0, l⟩) (k := 4) (cel := Rk.cells) (P := fun _ _ => True) h (by omega) (fun _ => rfl) hx
theorem TgIn.ranks {d : Nat} {t : Tg} {w : World} (h : TgIn d t w) : RksIn t.rank.A t.rank.n t.rank.l w := h.2.2.2.1
theorem TgsIn.c11 {d n b o k : Nat} {l : List Tg} {w : World} (h : TgsIn d (some ⟨b, o, none⟩) n l w) {x : Tg} (hx : l[k]? = some x) : w.cell? ⟨b, o + k * 11, none⟩ = some (.string x.name) ∧ w.cell? ⟨b, o + k * 11 + 1, none⟩ = some (.string x.tab) ∧ w.cell? ⟨b, o + k * 11 + 2, none⟩ = some (.bool x.before) ∧ w.cell? ⟨b, o + k * 11 + 3, none⟩ = some (.int .i64 x.event) ∧ w.cell? ⟨b, o + k * 11 + 4, none⟩ = some (.slice x.cols.A x.cols.n x.cols.c) ∧ w.cell? ⟨b, o + k * 11 + 5, none⟩ = some (.bool x.each) ∧ w.cell? ⟨b, o + k * 11 + 6, none⟩ = some (.slice x.prec.A x.prec.n x.prec.c) ∧ w.cell? ⟨b, o + k * 11 + 7, none⟩ = some (.slice x.foll.A x.foll.n x.foll.c) ∧ w.cell? ⟨b, o + k * 11 + 8, none⟩ = some (.slice x.rank.A x.rank.n x.rank.c) ∧ w.cell? ⟨b, o + k * 11 + 9, none⟩ = some (.slice x.cond.A x.cond.n x.cond.c) ∧ w.cell? ⟨b, o + k * 11 + 10, none⟩ = some (.slice x.acts.A x.acts.n x.acts.c) := by
  obtain ⟨b2, o2, e, hb, hcl, -⟩ := h.at_ hx
  obtain ⟨rfl, rfl⟩ : b = b2 ∧ o = o2 := by injection e with e; injection e with e1 e2; exact ⟨e1, e2⟩
  exact ⟨hcl 0 _ (by omega) rfl, hcl 1 _ (by omega) rfl, hcl 2 _ (by omega) rfl, hcl 3 _ (by omega) rfl, hcl 4 _ (by omega) rfl, hcl 5 _ (by omega) rfl, hcl 6 _ (by omega) rfl, hcl 7 _ (by omega) rfl, hcl 8 _ (by omega) rfl, hcl 9 _ (by omega) rfl, hcl 10 _ (by omega) rfl⟩
theorem findB_none {α : Type} {p : α → Bool} {l : List α} (h : l.find? p = none) : findB p l = -1 := by
  have : ∀ k, findFrom p k l = -1 := by
    induction l with
    | nil => intro k; rfl
    | cons a l ih =>
      intro k
      rw [List.find?_cons] at h
      split at h
      · cases h
      · rename_i hp
        rw [findFrom]
        simp only [hp]
        exact ih h (k + 1)
  exact this 0
theorem findFrom_some {α : Type} {p : α → Bool} {x : α} : ∀ {l : List α} (k : Nat), l.find? p = some x → ∃ j : Nat, findFrom p k l = ((k + j : Nat) : Int) ∧ l[j]? = some x
  | [], _, h => nomatch h
  | a :: l, k, h => by
    rw [List.find?_cons] at h
    split at h
    · rename_i hp
      refine ⟨0, ?_, by simpa using h⟩
      rw [findFrom]
      simp [hp]
    · rename_i hp
      obtain ⟨j, h1, h2⟩ := findFrom_some (k + 1) h
      refine ⟨j + 1, ?_, by simpa using h2⟩
      rw [findFrom]
      simp only [hp]
      rw [show k + (j + 1) = k + 1 + j by omega]
      exact h1
theorem findB_some {α : Type} {p : α → Bool} {x : α} {l : List α} (h : l.find? p = some x) : ∃ j : Nat, findB p l = (j : Int) ∧ l[j]? = some x := by
  obtain ⟨j, h1, h2⟩ := findFrom_some 0 h
  exact ⟨j, by rw [findB, h1]; simp, h2⟩
theorem u64_diff {a b : Int} (h : a ≤ b) (ha : I64 a) (hb : I64 b) : IntKind.u64.wrap (IntKind.u64.wrap b - IntKind.u64.wrap a) = b - a := by
  obtain ⟨a1, a2⟩ := ha
  obtain ⟨b1, b2⟩ := hb
  have e : ∀ z : Int, IntKind.u64.wrap z = z % 18446744073709551616 := fun z => by simp [IntKind.wrap, IntKind.bits, IntKind.signed]
  rw [e, e, e]
  omega
theorem four11 {w : World} {g : Nat} {t : TypeId} {a b c d : Value} {P : Prop} (h : Blk w g t #[a, b, c, d]) (hp : P) : w.cell? ⟨g, 0, none⟩ = some a ∧ w.cell? ⟨g, 1, none⟩ = some b ∧ w.cell? ⟨g, 2, none⟩ = some c ∧ w.cell? ⟨g, 3, none⟩ = some d ∧ P := ⟨h.cell 0, h.cell 1, h.cell 2, h.cell 3, hp⟩
theorem src_find (tes : List Te) (s : ByteArray) : ((tabsE tes).find? (fun x => decide (x.1 = s)) = none ∧ findS (tes.map Te.tb) s = -1) ∨ ∃ (k : Nat) (x : Te), tes[k]? = some x ∧ (tabsE tes).find? (fun x => decide (x.1 = s)) = some (x.nm, x.cs) ∧ findS (tes.map Te.tb) s = (k : Int) := by
  have e1 : (tabsE tes).find? (fun x => decide (x.1 = s)) = (tes.find? (fun x => decide (x.nm = s))).map (fun x => (x.nm, x.cs)) := by unfold tabsE; rw [List.find?_map]; rfl
  have e2 : (tes.map Te.tb).find? (fun t => t.nm.toList == s.toList) = (tes.find? (fun x => decide (x.nm = s))).map Te.tb := by
    rw [List.find?_map]
    congr 1
    congr 1
    funext x
    exact ba_eqb x.nm s
  cases hf : tes.find? (fun x => decide (x.nm = s)) with
  | none =>
    left
    rw [hf] at e1 e2
    exact ⟨e1, findB_none e2⟩
  | some x =>
    right
    rw [hf] at e1 e2
    obtain ⟨j, h1, h2⟩ := findB_some e2
    rw [List.getElem?_map] at h2
    cases hj : tes[j]? with
    | none => rw [hj] at h2; cases h2
    | some y =>
      rw [hj] at h2
      have h3 : y.tb = x.tb := by simpa using h2
      have h4 : (y.nm, y.cs) = (x.nm, x.cs) := by
        have ha : y.tb.nm = x.tb.nm := by rw [h3]
        have hb : y.tb.cs = x.tb.cs := by rw [h3]
        exact Prod.ext ha hb
      exact ⟨j, y, hj, by rw [e1]; simp [h4], h1⟩
theorem col_find (cs : List Col) (c : ByteArray) : (colGood cs c = false ∧ findB (named c) cs = -1) ∨ ∃ (j : Nat) (x : Col), cs[j]? = some x ∧ findB (named c) cs = (j : Int) ∧ colGood cs c = (decide (x.ty = 1) && !x.key) := by
  have e : (fun x : Col => decide (x.name = c)) = named c := by funext x; exact (ba_eqb x.name c).symm
  unfold colGood
  rw [e]
  cases hf : cs.find? (named c) with
  | none => exact .inl ⟨rfl, findB_none hf⟩
  | some x =>
    obtain ⟨j, h1, h2⟩ := findB_some hf
    exact .inr ⟨j, x, h2, h1, rfl⟩
set_option maxRecDepth 100000 in
set_option maxHeartbeats 8000000 in
theorem cert1_any (M : Nat → Prop) (w : World) (hM : ∀ b, M b → b < w.heap.size) (A : Option Addr) (n c : Nat) (l : List Tg) (B : Option Addr) (m e : Nat) (tes : List Te) (k : Nat) (t : Tg) (r : Rk) (rs : List Rk) (d : Nat) (ht : Ro w M (TgsIn (d + 1) A n l)) (hD : Ro w M (TesIn B m tes)) (hn : n ≤ 4611686018427387904) (hm : m ≤ 4611686018427387904) (hok : ∀ t ∈ l, TgFit (d + 1) t) (hcol : ∀ x ∈ tes, x.n ≤ 4398046511104) (hk : l[k]? = some t) (hb : t.before = false) (hr : t.rank.l = r :: rs) (hI : I64 r.lo ∧ I64 r.hi) :
    Calls Try.prog 6 #[.slice A n c, .slice B m e, .int .i64 k] w fun e w' => e = .returned (.bool (rankOk (d + 1) l (tabsE tes) t r)) ∧ Below w.heap.size w w' := by
  have HRK := hid (show rankOk (d + 1) l (tabsE tes) t r = ((match (tabsE tes).find? (fun x => decide (x.1 = r.tab)) with | some x => colGood x.2 r.col | none => false) && (decide (r.lo ≤ r.hi) && decide (r.hi - r.lo ≤ 1048576)) && ownT (d + 1) t r && respB l r) from rfl)
  generalize rankOk (d + 1) l (tabsE tes) t r = RK at *
  have hfit := hok t (List.mem_of_getElem? hk)
  obtain ⟨tname, ttab, tbef, tev, ⟨cA, cn, cc, cl⟩, teach, ⟨pA, pn, pc, pl⟩, ⟨fA, fn, fc, fl⟩, ⟨kA, kn, kc, kl⟩, ⟨oA, on, oc, ol⟩, ⟨uA, un, uc, ul⟩⟩ := t
  obtain ⟨rtab, rcol, rlo, rhi⟩ := r
  simp only at hb hr hI HRK
  subst hb
  subst hr
  have hkn : k < n := by rw [← ht.now.len]; exact (List.getElem?_eq_some_iff.1 hk).1
  have hrn : rs.length + 1 = kn := by have := (ht.now.2 _ (List.mem_of_getElem? hk)).ranks.len; simpa using this
  have hkn0 : 0 < kn := by omega
  have hkn1 : ¬ ((kn : Int) = 0) := by omega
  have hkn2 : ((kn : Int) == 0) = false := by simpa using hkn1
  have hd0 : decide ((k : Int) < 0) = false := by simp
  have hd1 : decide (n ≤ k) = false := by simp; omega
  have hd2 : decide ((n : Int) ≤ (k : Int)) = false := by simp; omega
  have hTR : Ro w M (RksIn kA kn (⟨rtab, rcol, rlo, rhi⟩ :: rs)) := ht.imp fun w2 h2 => (h2.2 _ (List.mem_of_getElem? hk)).ranks
  have KS := ((Hold.start M w hM).add (hD.less (by simp [Mut]))).add (ht.less (by simp [Mut, Hp.foot]))
  obtain ⟨b, o, rfl, hb, hcl, -⟩ := ht.now.at_ hk
  have c2 := hcl 2 _ (by omega) rfl
  have c8 := hcl 8 _ (by omega) rfl
  simp only [SlP.v] at c8
  obtain ⟨b2, o2, rfl, hb2, hcr, -⟩ := hTR.now.at_ (k := 0) (x := ⟨rtab, rcol, rlo, rhi⟩) rfl
  have r0 := hcr 0 _ (by omega) rfl
  have r1 := hcr 1 _ (by omega) rfl
  have r2 := hcr 2 _ (by omega) rfl
  have r3 := hcr 3 _ (by omega) rfl
  simp only [Nat.zero_mul, Nat.add_zero] at r0 r1 r2 r3
  have HKL := hid hk
  have HOK := hid hok
  have HFIT := hid hfit
  clear hcl hcr hTR ht hk hrn hok hfit
  have K0 := KS.alloc_cst #[.string rtab, .string rcol, .int .i64 rlo, .int .i64 rhi] 48
  have F0 := K0.facts
  simp only [World.size_alloc, World.size_drew, factsL, cellsF, Nat.reduceAdd, List.toList_toArray, List.set_cons_zero, List.set_cons_succ, List.setIfInBounds_toArray, and_true, true_and] at F0
  rcases src_find tes rtab with ⟨hf, hs⟩ | ⟨q, x, hx, hf, hs⟩
  · have hRK : RK = false := by rw [HRK.out, hf]; rfl
    subst hRK
    clear HRK hf
    go_enter Try.func6, Try.ntmps6
    go_wp2_with fail
    refine (source0_any _ _ K0.mutLt B m e tes rtab (K0.ro 2 rfl) hm hs).mono ?_
    rintro e w1 ⟨rfl, b1⟩
    have K1 := (K0.call b1).alloc_cst #[.string ⟨#[]⟩, .slice none 0 0] 53
    clear K0 F0 b1 hs
    have F1 := K1.facts
    simp only [World.size_alloc, World.size_drew, factsL, cellsF, Nat.reduceAdd, List.toList_toArray, List.set_cons_zero, List.set_cons_succ, List.setIfInBounds_toArray, and_true, true_and] at F1
    go_wp2_with fail
    refine (find_any None_ _ (fun b hb => hb.elim) ⟨#[]⟩ none 0 0 [] rcol (fun _ _ _ => slr_nil 4 _) (by omega)).mono ?_
    rintro e w2 ⟨rfl, b2⟩
    have K2 := K1.call b2
    go_wp2_with fail
    go_ret
    exact ⟨by first | rfl | simp, K2.below⟩
  · have hxn := hcol x (List.mem_of_getElem? hx)
    have hRK := hid (show RK = (colGood x.cs rcol && (decide (rlo ≤ rhi) && decide (rhi - rlo ≤ 1048576)) && ownT (d + 1) ⟨tname, ttab, false, tev, ⟨cA, cn, cc, cl⟩, teach, ⟨pA, pn, pc, pl⟩, ⟨fA, fn, fc, fl⟩, ⟨some ⟨b2, o2, none⟩, kn, kc, ⟨rtab, rcol, rlo, rhi⟩ :: rs⟩, ⟨oA, on, oc, ol⟩, ⟨uA, un, uc, ul⟩⟩ ⟨rtab, rcol, rlo, rhi⟩ && respB l ⟨rtab, rcol, rlo, rhi⟩) by rw [HRK.out, hf])
    clear HRK hf
    go_enter Try.func6, Try.ntmps6
    go_wp2_with fail
    refine (source1_any _ _ K0.mutLt B m e tes rtab (K0.ro 2 rfl) hm q x hx hs hxn).mono ?_
    rintro e w1 ⟨C, q2, cap, rfl, hq2, rC, b1⟩
    have K1 := ((K0.call b1).add rC).alloc_cst #[.string x.nm, .slice C q2 cap] 53
    have HQ2 := hid hq2
    have hq3 : q2 ≤ 4398046511104 := by rw [hq2, (RdC.of_sl ((KS.ro 1 rfl).now.2 x (List.mem_of_getElem? hx)).1).len]; exact hxn
    clear K0 F0 b1 rC hs hq2 c2 c8 r0 r1 r2 r3 hb2 hb hx
    have F1 := K1.facts
    simp only [World.size_alloc, World.size_drew, factsL, cellsF, Nat.reduceAdd, List.toList_toArray, List.set_cons_zero, List.set_cons_succ, List.setIfInBounds_toArray, and_true, true_and] at F1
    have hfin := hid (show ∀ z : Bool, findB (named rcol) x.cs = findB (named rcol) x.cs from fun _ => rfl)
    clear hfin
    have hce := find_any _ _ K1.mutLt x.nm C q2 cap x.cs rcol (K1.ro 1 rfl) (by omega)
    go_wp2_with fail
    rcases col_find x.cs rcol with ⟨hg, hj⟩ | ⟨j, col, hcj, hj, hg⟩
    · have hRK2 : RK = false := by rw [hRK.out, hg]; simp
      subst hRK2
      rw [hj] at hce
      clear hRK hg hj
      refine hce.mono ?_
      rintro e w2 ⟨rfl, b2'⟩
      have K2 := K1.call b2'
      clear K1 F1 hce b2'
      have F2 := K2.facts
      simp only [World.size_alloc, World.size_drew, factsL, cellsF, Nat.reduceAdd, List.toList_toArray, List.set_cons_zero, List.set_cons_succ, List.setIfInBounds_toArray, and_true, true_and] at F2
      go_wp2_with fail
      go_ret
      exact ⟨by first | rfl | simp, K2.below⟩
    · rw [hj] at hce
      have hjq : j < q2 := by rw [HQ2.out]; exact (List.getElem?_eq_some_iff.1 hcj).1
      refine hce.mono ?_
      rintro e w2 ⟨rfl, b2'⟩
      have K2 := K1.call b2'
      clear K1 F1 hce b2' hj
      have F2 := K2.facts
      simp only [World.size_alloc, World.size_drew, factsL, cellsF, Nat.reduceAdd, List.toList_toArray, List.set_cons_zero, List.set_cons_succ, List.setIfInBounds_toArray, and_true, true_and] at F2
      obtain ⟨b4, o4, rfl, hb4, x0, x1, x2, x3⟩ := (RdC.of_sl (K2.ro 1 rfl).now).at_ hcj
      obtain ⟨cnm, cty, cnn, ckey⟩ := col
      simp only at hg x0 x1 x2 x3
      have hd3 : decide ((j : Int) < 0) = false := by simp
      by_cases h1 : cty = 1
      · subst h1
        cases ckey
        · by_cases h2 : rlo ≤ rhi
          · have h2b : decide (rhi < rlo) = false := by simp; omega
            have hu := u64_diff h2 hI.1 hI.2
            by_cases h3 : rhi - rlo ≤ 1048576
            · have hRK2 := hid (show RK = (ownT (d + 1) ⟨tname, ttab, false, tev, ⟨cA, cn, cc, cl⟩, teach, ⟨pA, pn, pc, pl⟩, ⟨fA, fn, fc, fl⟩, ⟨some ⟨b2, o2, none⟩, kn, kc, ⟨rtab, rcol, rlo, rhi⟩ :: rs⟩, ⟨oA, on, oc, ol⟩, ⟨uA, un, uc, ul⟩⟩ ⟨rtab, rcol, rlo, rhi⟩ && respB l ⟨rtab, rcol, rlo, rhi⟩) by rw [hRK.out, hg]; simp [h2, h3])
              clear hRK hg
              have hown := fun (M : Nat → Prop) (w : World) (hM : ∀ b, M b → b < w.heap.size) (ha : Ro w M (TgsIn (d + 1) (some ⟨b, o, none⟩) n l)) => own_any M w hM ⟨tname, ttab, false, tev, ⟨cA, cn, cc, cl⟩, teach, ⟨pA, pn, pc, pl⟩, ⟨fA, fn, fc, fl⟩, ⟨some ⟨b2, o2, none⟩, kn, kc, ⟨rtab, rcol, rlo, rhi⟩ :: rs⟩, ⟨oA, on, oc, ol⟩, ⟨uA, un, uc, ul⟩⟩ ⟨rtab, rcol, rlo, rhi⟩ d (ha.imp fun w2 h2 => (h2.2 _ (List.mem_of_getElem? HKL.out)).parts.2) (Nat.le_trans HFIT.out.n (by decide)) (fun a ha => ⟨Nat.le_trans (HFIT.out.a a ha).1 (by decide), (HFIT.out.a a ha).2⟩)
              have hresp := fun (M : Nat → Prop) (w : World) (hM : ∀ b, M b → b < w.heap.size) (ha : Ro w M (TgsIn (d + 1) (some ⟨b, o, none⟩) n l)) => respected_any M w hM (some ⟨b, o, none⟩) n c l ⟨rtab, rcol, rlo, rhi⟩ d ha hn HOK.out
              simp only [Tg.val, Rk.val] at hown hresp
              generalize respB l ⟨rtab, rcol, rlo, rhi⟩ = RB at *
              cases hO : ownT (d + 1) ⟨tname, ttab, false, tev, ⟨cA, cn, cc, cl⟩, teach, ⟨pA, pn, pc, pl⟩, ⟨fA, fn, fc, fl⟩, ⟨some ⟨b2, o2, none⟩, kn, kc, ⟨rtab, rcol, rlo, rhi⟩ :: rs⟩, ⟨oA, on, oc, ol⟩, ⟨uA, un, uc, ul⟩⟩ ⟨rtab, rcol, rlo, rhi⟩
              · rw [hO] at hown hRK2
                have hRK3 : RK = false := by rw [hRK2.out]; rfl
                subst hRK3
                have hc5 := hown _ _ K2.drew.mutLt (K2.drew.ro 3 rfl)
                have c11 := (K2.ro 3 rfl).now.c11 HKL.out
                simp only at c11
                have HOWN := hid hown
                clear hown hresp
                go_wp2_with fail
                have HKK := K2.mutLt
                refine wp_region_any (by kernel_rfl) ?_
                refine wpAny_hold 11 102 (_) (spL [(96, IsV (.bool false))]) (by kernel_rfl) (by kernel_rfl) (by kernel_rfl) rfl ?_ (K2.drew) ?_
                · exact stays_cons isV_mono (stays_nil _)
                simp only [List.take_succ_cons, List.take_zero, List.drop_succ_cons, List.drop_zero, Act.put, List.getElem_toArray, List.getElem_cons_zero, List.getElem_cons_succ, List.setIfInBounds_toArray, List.set_cons_succ, List.set_cons_zero]
                refine dw_val rfl rfl rfl ?_; apply Exists.intro; refine ⟨fun wv HC => ?_, ?_⟩
                ·  go_simp <;> rfl
                simp only [Act.put, List.setIfInBounds_toArray, List.set_cons_succ, List.set_cons_zero]
                refine dw_val rfl rfl rfl ?_; apply Exists.intro; refine ⟨fun wv HC => ?_, ?_⟩
                ·  go_simp <;> rfl
                simp only [Act.put, List.setIfInBounds_toArray, List.set_cons_succ, List.set_cons_zero]
                refine dw_val rfl rfl rfl ?_; apply Exists.intro; refine ⟨fun wv HC => ?_, ?_⟩
                ·  go_simp <;> rfl
                simp only [Act.put, List.setIfInBounds_toArray, List.set_cons_succ, List.set_cons_zero]
                refine dw_val rfl rfl rfl ?_; apply Exists.intro; refine ⟨fun wv HC => ?_, ?_⟩
                · obtain ⟨q0, q1, q2, q3, q4, q5, q6, q7, q8, q9, q10⟩ := (HC.ro 3 rfl).now.c11 HKL.out; go_simp <;> rfl
                simp only [Act.put, List.setIfInBounds_toArray, List.set_cons_succ, List.set_cons_zero]
                refine dw_val rfl rfl rfl ?_; apply Exists.intro; refine ⟨fun wv HC => ?_, ?_⟩
                · obtain ⟨q0, q1, q2, q3, -⟩ := four11 (P := True) (HC.cst_ 2 rfl) trivial; go_simp <;> rfl
                simp only [Act.put, List.setIfInBounds_toArray, List.set_cons_succ, List.set_cons_zero]
                refine dw_callR 96 (IsV (.bool false)) (f := 13) (args := #[.agg #[.string tname, .string ttab, .bool false, .int .i64 tev, .slice cA cn cc, .bool teach, .slice pA pn pc, .slice fA fn fc, .slice (some ⟨b2, o2, none⟩) kn kc, .slice oA on oc, .slice uA un uc], .agg #[.string rtab, .string rcol, .int .i64 rlo, .int .i64 rhi]]) rfl rfl rfl rfl (fun wv => ?_) (fun wv HC hrm hD => ?_) ?_
                · go_simp <;> rfl
                · refine (HOWN.out _ _ HC.mutLt (HC.ro 3 rfl)).mono ?_
                  rintro e w5 ⟨rfl, b5⟩
                  exact ⟨_, rfl, rfl, HC.call b5, RM.below b5⟩
                rintro x5 wx HCx rfl
                simp only [Act.put, List.setIfInBounds_toArray, List.set_cons_succ, List.set_cons_zero]
                refine dw_val rfl rfl rfl ?_; apply Exists.intro; refine ⟨fun wv HC => ?_, ?_⟩
                ·  go_simp <;> rfl
                simp only [Act.put, List.setIfInBounds_toArray, List.set_cons_succ, List.set_cons_zero]
                refine dw_skip rfl rfl rfl ?_
                simp only [Act.put, List.setIfInBounds_toArray, List.set_cons_succ, List.set_cons_zero]
                refine dw_skip rfl rfl rfl ?_
                simp only [Act.put, List.setIfInBounds_toArray, List.set_cons_succ, List.set_cons_zero]
                refine dw_skip rfl rfl rfl ?_
                simp only [Act.put, List.setIfInBounds_toArray, List.set_cons_succ, List.set_cons_zero]
                refine dw_val rfl rfl rfl ?_; apply Exists.intro; refine ⟨fun wv HC => ?_, ?_⟩
                ·  go_simp <;> rfl
                simp only [Act.put, List.setIfInBounds_toArray, List.set_cons_succ, List.set_cons_zero]
                refine rel_nil ?_
                rintro wx2 HX
                rintro hrm HG
                clear HG
                go_wp2_with fail
                go_ret
                exact ⟨by first | rfl | simp, HX.below⟩
              · rw [hO] at hown hRK2
                have hRK3 : RK = RB := by rw [hRK2.out]; simp
                subst hRK3
                have hc5 := hown _ _ K2.drew.mutLt (K2.drew.ro 3 rfl)
                have HRESP := hid hresp
                clear hown hresp
                go_wp2_with fail
                go_region_held3 (fun w' => w'.cell? ⟨w.heap.size, 0, none⟩ = some (.string rtab) ∧ w'.cell? ⟨w.heap.size, 1, none⟩ = some (.string rcol) ∧ w'.cell? ⟨w.heap.size, 2, none⟩ = some (.int .i64 rlo) ∧ w'.cell? ⟨w.heap.size, 3, none⟩ = some (.int .i64 rhi) ∧ w'.cell? ⟨b, o + k * 11, none⟩ = some (.string tname) ∧ w'.cell? ⟨b, o + k * 11 + 1, none⟩ = some (.string ttab) ∧ w'.cell? ⟨b, o + k * 11 + 2, none⟩ = some (.bool false) ∧ w'.cell? ⟨b, o + k * 11 + 3, none⟩ = some (.int .i64 tev) ∧ w'.cell? ⟨b, o + k * 11 + 4, none⟩ = some (.slice cA cn cc) ∧ w'.cell? ⟨b, o + k * 11 + 5, none⟩ = some (.bool teach) ∧ w'.cell? ⟨b, o + k * 11 + 6, none⟩ = some (.slice pA pn pc) ∧ w'.cell? ⟨b, o + k * 11 + 7, none⟩ = some (.slice fA fn fc) ∧ w'.cell? ⟨b, o + k * 11 + 8, none⟩ = some (.slice (some ⟨b2, o2, none⟩) kn kc) ∧ w'.cell? ⟨b, o + k * 11 + 9, none⟩ = some (.slice oA on oc) ∧ w'.cell? ⟨b, o + k * 11 + 10, none⟩ = some (.slice uA un uc))
                  (first | exact four11 (K2.drew.cst_ 2 rfl) ((K2.drew.ro 3 rfl).now.c11 HKL.out) | exact four11 (K3.cst_ 2 rfl) ((K3.ro 3 rfl).now.c11 HKL.out) | exact four11 (K4.cst_ 2 rfl) ((K4.ro 3 rfl).now.c11 HKL.out))
                  (first
                    | (go_at_call 13; ((with_reducible refine hc5.mono ?_); rintro e w5 ⟨rfl, b5⟩; have K3 := K2.drew.call b5; have hc6 := HRESP.out _ _ K3.mutLt (K3.ro 3 rfl)))
                    | (go_at_call 14; ((with_reducible refine hc6.mono ?_); rintro e w6 ⟨rfl, b6⟩; have K4 := K3.call b6)))
                go_wp2_with fail
                go_ret
                exact ⟨by first | rfl | simp, K4.below⟩
            · have hRK2 : RK = false := by rw [hRK.out, hg]; simp [h3]
              subst hRK2
              clear hRK hg
              go_wp2_with fail
              go_ret
              exact ⟨by first | rfl | simp, K2.below⟩
          · have hRK2 : RK = false := by rw [hRK.out, hg]; simp [h2]
            have h2b : decide (rhi < rlo) = true := by simp; omega
            subst hRK2
            clear hRK hg
            go_wp2_with fail
            go_ret
            exact ⟨by first | rfl | simp, K2.below⟩
        · have hRK2 : RK = false := by rw [hRK.out, hg]; simp
          subst hRK2
          clear hRK hg
          go_wp2_with fail
          go_ret
          exact ⟨by first | rfl | simp, K2.below⟩
      · have hRK2 : RK = false := by rw [hRK.out, hg]; simp [h1]
        have h1b : (cty != 1) = true := by simpa using h1
        subst hRK2
        clear hRK hg
        go_wp2_with fail
        all_goals first
          | (exfalso; omega)
          | skip
        go_ret
        exact ⟨by first | rfl | simp, K2.below⟩
end Go.Proofs.Ytkpbnlbhfhkhcaa

namespace Go.Proofs.Ytkpbnlbhfhkhcaa
open Go.RowKit
set_option linter.unusedVariables false
set_option linter.unusedSimpArgs false

def bs_u : ByteArray := ⟨#[117]⟩
def bs_n : ByteArray := ⟨#[110]⟩
def bs_m : ByteArray := ⟨#[109]⟩
/-- the tables of the law: u has a number n that is no key -/
def TabsR (tabs : List (ByteArray × List Col)) : Prop := ∃ x, tabs.find? (fun x => decide (x.1 = bs_u)) = some x ∧ colGood x.2 bs_n = true
/-- a trigger that lowers n of u, with a certificate -/
def Descends (lo hi : Int) (t : Tg) : Prop := t.before = false ∧ t.rank.l = [⟨bs_u, bs_n, lo, hi⟩] ∧ ∃ a, t.acts.l = [a] ∧ LowAc bs_u bs_n 1 lo hi a
theorem certB_zero {d : Nat} {t : Tg} {ts : List Tg} {tabs : List (ByteArray × List Col)} {r : Rk} (hb : t.before = false) (hr : t.rank.l = [r]) : certB d (t :: ts) tabs 0 = rankOk d (t :: ts) tabs t r := by
  simp [certB, hb, hr]
theorem rank_tab {d : Nat} {t : Tg} {ts : List Tg} {tabs : List (ByteArray × List Col)} {lo hi : Int} (h : TabsR tabs) : rankOk d ts tabs t ⟨bs_u, bs_n, lo, hi⟩ = ((decide (lo ≤ hi) && decide (hi - lo ≤ 1048576)) && ownT d t ⟨bs_u, bs_n, lo, hi⟩ && respB ts ⟨bs_u, bs_n, lo, hi⟩) := by
  obtain ⟨x, h1, h2⟩ := h
  simp [rankOk, h1, h2]
theorem desc_own {d : Nat} {t : Tg} {lo hi : Int} (h : Descends lo hi t) (h3 : I64 lo) (h4 : I64 hi) : ownT (d + 1) t ⟨bs_u, bs_n, lo, hi⟩ = true := by
  obtain ⟨_, _, a, ha, hl⟩ := h
  simp [ownT, ha, low_own d hl (by decide) h3 h4]
theorem desc_resp {t : Tg} {lo hi L H : Int} (h : Descends lo hi t) : respT ⟨bs_u, bs_n, L, H⟩ t = true := by
  obtain ⟨hb, _, a, ha, hl⟩ := h
  simp [respT, hb, ha, low_harmless hl (by decide)]
theorem cert_alone {d : Nat} {t : Tg} {lo hi : Int} {tabs : List (ByteArray × List Col)} (hT : TabsR tabs) (h : Descends lo hi t) (h3 : I64 lo) (h4 : I64 hi) (h5 : lo ≤ hi) (h6 : hi - lo ≤ 1048576) : certB (d + 1) [t] tabs 0 = true := by
  rw [certB_zero h.1 h.2.1, rank_tab hT, desc_own h h3 h4]
  simp [respB, desc_resp h, h5, h6]
theorem cert_two {d : Nat} {t o : Tg} {lo hi : Int} {tabs : List (ByteArray × List Col)} (hT : TabsR tabs) (h : Descends lo hi t) (h3 : I64 lo) (h4 : I64 hi) (h5 : lo ≤ hi) (h6 : hi - lo ≤ 1048576) : certB (d + 1) [t, o] tabs 0 = respT ⟨bs_u, bs_n, lo, hi⟩ o := by
  rw [certB_zero h.1 h.2.1, rank_tab hT, desc_own h h3 h4]
  simp [respB, desc_resp h, h5, h6]
/-- an insert into the table -/
theorem cert_insert {d : Nat} {t o : Tg} {lo hi : Int} {tabs : List (ByteArray × List Col)} (hT : TabsR tabs) (h : Descends lo hi t) (h3 : I64 lo) (h4 : I64 hi) (h5 : lo ≤ hi) (h6 : hi - lo ≤ 1048576) {a : Ac} (hb : o.before = false) (ha : o.acts.l = [a]) (h1 : a.kind = 1) (h2 : a.tab = bs_u) : certB (d + 1) [t, o] tabs 0 = false := by
  rw [cert_two hT h h3 h4 h5 h6]
  simp [respT, hb, ha, harmlessA, h1, h2]
/-- an assignment that does not lower -/
theorem cert_assign {d : Nat} {t o : Tg} {lo hi : Int} {tabs : List (ByteArray × List Col)} (hT : TabsR tabs) (h : Descends lo hi t) (h3 : I64 lo) (h4 : I64 hi) (h5 : lo ≤ hi) (h6 : hi - lo ≤ 1048576) {a : Ac} {v : Vl} (hb : o.before = false) (ha : o.acts.l = [a]) (h1 : a.kind = 2) (h2 : a.tab = bs_u) (hs : a.sets.l = [⟨bs_n, litE v⟩]) : certB (d + 1) [t, o] tabs 0 = false := by
  rw [cert_two hT h h3 h4 h5 h6]
  simp [respT, hb, ha, harmlessA, h1, h2, assignedA, hs, lowersA, lowS, stepS, litE]
/-- a BEFORE trigger that sets the column -/
theorem cert_before {d : Nat} {t o : Tg} {lo hi : Int} {tabs : List (ByteArray × List Col)} (hT : TabsR tabs) (h : Descends lo hi t) (h3 : I64 lo) (h4 : I64 hi) (h5 : lo ≤ hi) (h6 : hi - lo ≤ 1048576) {a : Ac} {e : Ex} (hb : o.before = true) (ho : o.tab = bs_u) (he : o.event = 2) (hr : o.each = true) (ha : o.acts.l = [a]) (h1 : a.kind = 5) (hs : a.sets.l = [⟨bs_n, e⟩]) : certB (d + 1) [t, o] tabs 0 = false := by
  rw [cert_two hT h h3 h4 h5 h6]
  simp [respT, hb, ho, he, hr, setCols, ha, h1, hs]
/-- a trigger that leaves the column -/
theorem cert_harmless {d : Nat} {t o : Tg} {lo hi : Int} {tabs : List (ByteArray × List Col)} (hT : TabsR tabs) (h : Descends lo hi t) (h3 : I64 lo) (h4 : I64 hi) (h5 : lo ≤ hi) (h6 : hi - lo ≤ 1048576) {a b c : Ac} {e : Ex} (hb : o.before = false) (ho : o.acts.l = [a, b, c]) (ha : a.kind = 3) (hbl : LowAc bs_u bs_n 0 0 0 b) (hc : c.kind = 2) (hs : c.sets.l = [⟨bs_m, e⟩]) : certB (d + 1) [t, o] tabs 0 = true := by
  rw [cert_two hT h h3 h4 h5 h6]
  have h1 : ¬ bs_m = bs_n := by decide
  have h2 : ¬ bs_n = bs_m := by decide
  have e1 : harmlessA ⟨bs_u, bs_n, lo, hi⟩ a = true := by simp [harmlessA, ha]
  have e2 : harmlessA ⟨bs_u, bs_n, lo, hi⟩ c = true := by simp [harmlessA, hc, assignedA, hs, h1, h2]
  simp [respT, hb, ho, low_harmless hbl (by decide), e1, e2]
/-- an own action that breaks the certificate -/
theorem cert_own {d : Nat} {t : Tg} {ts : List Tg} {lo hi : Int} {tabs : List (ByteArray × List Col)} (hb : t.before = false) (hr : t.rank.l = [⟨bs_u, bs_n, lo, hi⟩]) {a b : Ac} (ha : t.acts.l = [a, b]) (h : ownAct d ⟨bs_u, bs_n, lo, hi⟩ b = false) : certB d (t :: ts) tabs 0 = false := by
  rw [certB_zero hb hr]
  simp [rankOk, ownT, ha, h]
theorem cert_wide {d : Nat} {t : Tg} {ts : List Tg} {lo hi : Int} {tabs : List (ByteArray × List Col)} (hb : t.before = false) (hr : t.rank.l = [⟨bs_u, bs_n, lo, hi⟩]) (h : 1048576 < hi - lo) : certB d (t :: ts) tabs 0 = false := by
  rw [certB_zero hb hr]
  have : ¬ (hi - lo ≤ 1048576) := by omega
  simp [rankOk, this]
end Go.Proofs.Ytkpbnlbhfhkhcaa

namespace Go.Proofs.Ytkpbnlbhfhkhcaa
open Go.RowKit
set_option linter.unusedVariables false
set_option linter.unusedSimpArgs false

def TabRet (w : World) (M : Nat → Prop) (e : Ending) (w' : World) : Prop := ∃ (A : Option Addr) (c : Nat) (l : List Te), e = .returned (.slice A 3 c) ∧ TabsR (tabsE l) ∧ (∀ x ∈ l, x.n ≤ 4398046511104) ∧ Ro w' M (TesIn A 3 l) ∧ Below w.heap.size w w'
theorem Try.elTe28 : ElemT Try.prog 32 66 4 72 (.agg #[.string ⟨#[]⟩, .slice none 0 0, .int .i64 0, .slice none 0 0]) := ⟨Try.underlying32, by kernel_rfl, rfl, by omega⟩
set_option maxRecDepth 100000 in
set_option maxHeartbeats 4000000 in
theorem tables28_any (M : Nat → Prop) (w : World) (hM : ∀ b, M b → b < w.heap.size) : Calls Try.prog 7 #[] w fun e w' => TabRet w M e w' := by
  have K0 := Hold.start M w hM
  go_enter Try.func7, Try.ntmps7
  go_wp2_with fail
  refine (schemas_any _ _ K0.mutLt).mono ?_
  rintro e w1 ⟨g, g0, g1, g2, nl, nt, nu, hnl, hnt, hnu, rfl, b1, r0, r1, r2, r3⟩
  have HNL := hid (And.intro hnl (And.intro hnt hnu))
  have K1 := (((((K0.call b1).add r3).add (r2.less (by simp [Mut, Hp.foot]))).add (r1.less (by simp [Mut, Hp.foot]))).add (r0.less (by simp [Mut, Hp.foot]))).nil 66 4
  clear K0 b1 r0 r1 r2 r3 hnl hnt hnu
  go_wp2_with fail
  go_loopw [1, 6] (fun ov iv wr => ∃ (k cap : Nat) (O : Option Addr), k ≤ 3 ∧ iv = .int .i64 k ∧ ov = .slice O k cap ∧ Hold M none w wr [.own 66 4 (.slice O k cap) k (teCells ([⟨nl, some ⟨g0, 0, none⟩, 2, 2, logCols, 1, none, 0, 0, []⟩, ⟨nt, some ⟨g1, 0, none⟩, 4, 4, tCols, 1, none, 0, 0, []⟩, ⟨nu, some ⟨g2, 0, none⟩, 3, 3, uCols, 1, none, 0, 0, []⟩].take k)), .ro (fun w => w.heap[g]? = some (.cells #[.string nl, .slice (some ⟨g0, 0, none⟩) 2 2, .string nt, .slice (some ⟨g1, 0, none⟩) 4 4, .string nu, .slice (some ⟨g2, 0, none⟩) 3 3] 53 (0, 0))), .ro (SlR 4 (some ⟨g0, 0, none⟩) 2 (colCells logCols)), .ro (SlR 4 (some ⟨g1, 0, none⟩) 4 (colCells tCols)), .ro (SlR 4 (some ⟨g2, 0, none⟩) 3 (colCells uCols))]) (fun _ iv _ => 3 - (intOf iv).toNat)
  case atStart => exact ⟨0, 0, none, by omega, rfl, rfl, K1⟩
  case round =>
    clear K1
    obtain ⟨k, cap, O, hk, rfl, rfl, H⟩ := hrel
    by_cases hlt : k < 3
    · have hd : decide ((k : Int) < 3) = true := by simp; omega
      have hblk := (H.ro 1 rfl).now
      have hgl := Blk.lt hblk
      obtain rfl | rfl | rfl : k = 0 ∨ k = 1 ∨ k = 2 := by omega
      · have c0 := cell_of_row _ _ 0 _ _ _ hblk
        have c1 := cell_of_row _ _ 1 _ _ _ hblk
        clear hblk
        have K1 := H.alloc_cst #[.string nl, .slice (some ⟨g0, 0, none⟩) 2 2] 53
        have F1 := K1.facts
        simp only [World.size_alloc, World.size_drew, factsL, cellsF, Nat.reduceAdd, List.toList_toArray, List.set_cons_zero, List.set_cons_succ, List.setIfInBounds_toArray, and_true, true_and] at F1
        clear H
        go_wp2_with (at_builtin; go_must (refine wpList_appH K1 1 rfl Try.elTe28 #[.string nl, .slice (some ⟨g0, 0, none⟩) 2 2, .int .i64 1, .slice none 0 0] rfl (.tmp 10) (.tmp 13) rfl rfl _ (by first | rfl | simp) rfl rfl (by intro u hu; simp at hu; rcases hu with rfl | rfl | rfl | rfl <;> rfl) (by omega) (by omega) ?_); intro g9 cap9 w9 hc9 hm9 KB; simp only [List.set_cons_zero, List.set_cons_succ] at KB)
        have KC := KB.drop (List.sublist_cons_self _ _)
        go_roundw
        case rel => exact ⟨1, cap9, _, by omega, by go_num, by first | rfl | trivial, KC⟩
        case measure => simp [intOf]
      · have c0 := cell_of_row _ _ 2 _ _ _ hblk
        have c1 := cell_of_row _ _ 3 _ _ _ hblk
        clear hblk
        have K1 := H.alloc_cst #[.string nt, .slice (some ⟨g1, 0, none⟩) 4 4] 53
        have F1 := K1.facts
        simp only [World.size_alloc, World.size_drew, factsL, cellsF, Nat.reduceAdd, List.toList_toArray, List.set_cons_zero, List.set_cons_succ, List.setIfInBounds_toArray, and_true, true_and] at F1
        clear H
        go_wp2_with (at_builtin; go_must (refine wpList_appH K1 1 rfl Try.elTe28 #[.string nt, .slice (some ⟨g1, 0, none⟩) 4 4, .int .i64 1, .slice none 0 0] rfl (.tmp 10) (.tmp 13) rfl rfl _ (by first | rfl | simp) rfl rfl (by intro u hu; simp at hu; rcases hu with rfl | rfl | rfl | rfl <;> rfl) (by omega) (by omega) ?_); intro g9 cap9 w9 hc9 hm9 KB; simp only [List.set_cons_zero, List.set_cons_succ] at KB)
        have KC := KB.drop (List.sublist_cons_self _ _)
        go_roundw
        case rel => exact ⟨2, cap9, _, by omega, by go_num, by first | rfl | trivial, KC⟩
        case measure => simp [intOf]
      · have c0 := cell_of_row _ _ 4 _ _ _ hblk
        have c1 := cell_of_row _ _ 5 _ _ _ hblk
        clear hblk
        have K1 := H.alloc_cst #[.string nu, .slice (some ⟨g2, 0, none⟩) 3 3] 53
        have F1 := K1.facts
        simp only [World.size_alloc, World.size_drew, factsL, cellsF, Nat.reduceAdd, List.toList_toArray, List.set_cons_zero, List.set_cons_succ, List.setIfInBounds_toArray, and_true, true_and] at F1
        clear H
        go_wp2_with (at_builtin; go_must (refine wpList_appH K1 1 rfl Try.elTe28 #[.string nu, .slice (some ⟨g2, 0, none⟩) 3 3, .int .i64 1, .slice none 0 0] rfl (.tmp 10) (.tmp 13) rfl rfl _ (by first | rfl | simp) rfl rfl (by intro u hu; simp at hu; rcases hu with rfl | rfl | rfl | rfl <;> rfl) (by omega) (by omega) ?_); intro g9 cap9 w9 hc9 hm9 KB; simp only [List.set_cons_zero, List.set_cons_succ] at KB)
        have KC := KB.drop (List.sublist_cons_self _ _)
        go_roundw
        case rel => exact ⟨3, cap9, _, by omega, by go_num, by first | rfl | trivial, KC⟩
        case measure => simp [intOf]
    · obtain rfl : 3 = k := by omega
      have K2 := H.sealRow 0 rfl
      simp only [List.set_cons_zero] at K2
      have HR := hid (show TabsR (tabsE [⟨nl, some ⟨g0, 0, none⟩, 2, 2, logCols, 1, none, 0, 0, []⟩, ⟨nt, some ⟨g1, 0, none⟩, 4, 4, tCols, 1, none, 0, 0, []⟩, ⟨nu, some ⟨g2, 0, none⟩, 3, 3, uCols, 1, none, 0, 0, []⟩]) from ⟨(nu, uCols), by
        simp only [tabsE, List.map_cons, List.map_nil]
        rw [HNL.out.1, HNL.out.2.1, HNL.out.2.2]
        decide +kernel, show colGood uCols bs_n = true by decide +kernel⟩)
      go_wp2_with fail
      go_ret
      refine ⟨O, cap, [⟨nl, some ⟨g0, 0, none⟩, 2, 2, logCols, 1, none, 0, 0, []⟩, ⟨nt, some ⟨g1, 0, none⟩, 4, 4, tCols, 1, none, 0, 0, []⟩, ⟨nu, some ⟨g2, 0, none⟩, 3, 3, uCols, 1, none, 0, 0, []⟩], by first | rfl | simp, HR.out, ?_, ?_, K2.below⟩
      · intro x hx
        simp only [List.mem_cons, List.not_mem_nil, or_false] at hx
        rcases hx with rfl | rfl | rfl
        · show (2 : Nat) ≤ 4398046511104; omega
        · show (4 : Nat) ≤ 4398046511104; omega
        · show (3 : Nat) ≤ 4398046511104; omega
      · have R := ((K2.ro 0 rfl).and ((K2.ro 2 rfl).and ((K2.ro 3 rfl).and (K2.ro 4 rfl)))).less (fun b hb => .inl hb : ∀ b, M b → Mut M _ b)
        refine R.imp fun w2 h2 => ⟨h2.1, fun x hx => ?_⟩
        simp only [List.mem_cons, List.not_mem_nil, or_false] at hx
        rcases hx with rfl | rfl | rfl
        · exact ⟨h2.2.1, slr_nil 2 w2, fun r hr => nomatch hr⟩
        · exact ⟨h2.2.2.1, slr_nil 2 w2, fun r hr => nomatch hr⟩
        · exact ⟨h2.2.2.2, slr_nil 2 w2, fun r hr => nomatch hr⟩
end Go.Proofs.Ytkpbnlbhfhkhcaa

namespace Go.Proofs.Ytkpbnlbhfhkhcaa
open Go.RowKit
set_option linter.unusedVariables false
set_option linter.unusedSimpArgs false

set_option maxHeartbeats 2000000 in
theorem col_any (w : World) (t n : ByteArray) : Calls Try.prog 18 #[.string t, .string n] w fun e w' => e = .returned (colE t n).val ∧ Below w.heap.size w w' := by
  have K0 := (Hold.begin_ w).alloc #[.int .i64 2, .int .i64 0, .bool false, .int .i64 0, .int .i64 0, .string ⟨#[]⟩, .string t, .string n, .slice none 0 0, .slice none 0 0] 38
  have F := K0.facts
  simp only [World.size_alloc, World.size_drew, factsL, cellsF, Nat.reduceAdd, List.toList_toArray, List.set_cons_zero, List.set_cons_succ, List.setIfInBounds_toArray, and_true, true_and] at F
  have HB := hid K0.below
  go_enter Try.func18, Try.ntmps18
  go_wp2_with fail
  exact bodyPost_ret (v := (colE t n).val) (by simp [results, Try.results18, go_sem, F, Ex.val, colE, vlZ]) rfl ⟨rfl, HB.out⟩
set_option maxHeartbeats 2000000 in
theorem lit_any (w : World) (v : Vl) : Calls Try.prog 16 #[.agg #[.int .i64 v.k, .int .i64 v.i, .string v.s]] w fun e w' => e = .returned (litE v).val ∧ Below w.heap.size w w' := by
  have K0 := ((Hold.begin_ w).alloc_cst #[.int .i64 v.k, .int .i64 v.i, .string v.s] 35).alloc #[.int .i64 1, .int .i64 0, .bool false, .int .i64 v.k, .int .i64 v.i, .string v.s, .string ⟨#[]⟩, .string ⟨#[]⟩, .slice none 0 0, .slice none 0 0] 38
  have F := K0.facts
  simp only [World.size_alloc, World.size_drew, factsL, cellsF, Nat.reduceAdd, List.toList_toArray, List.set_cons_zero, List.set_cons_succ, List.setIfInBounds_toArray, and_true, true_and] at F
  have HB := hid K0.below
  go_enter Try.func16, Try.ntmps16
  go_wp2_with fail
  exact bodyPost_ret (v := (litE v).val) (by simp [results, Try.results16, go_sem, F, Ex.val, litE, vlZ]) rfl ⟨rfl, HB.out⟩
set_option maxHeartbeats 4000000 in
theorem bin_any (M : Nat → Prop) (w : World) (hM : ∀ b, M b → b < w.heap.size) (op : Int) (a b : Ex) (d : Nat) (ha : Ro w M (ExIn d a)) (hb : Ro w M (ExIn d b)) : Calls Try.prog 17 #[.int .i64 op, .agg #[.int .i64 a.kind, .int .i64 a.op, .bool a.nt, .int .i64 a.v.k, .int .i64 a.v.i, .string a.v.s, .string a.tab, .string a.nm, .slice a.A a.n a.c, .slice a.B a.m a.d], .agg #[.int .i64 b.kind, .int .i64 b.op, .bool b.nt, .int .i64 b.v.k, .int .i64 b.v.i, .string b.v.s, .string b.tab, .string b.nm, .slice b.A b.n b.c, .slice b.B b.m b.d]] w fun e w' => ∃ g : Nat, e = .returned (opE 5 op false g 2 [a, b]).val ∧ Ro w' M (ExIn (d + 1) (opE 5 op false g 2 [a, b])) ∧ Below w.heap.size w w' := by
  have K0 := (((((Hold.start M w hM).add (hb.less (by simp [Mut]))).add (ha.less (by simp [Mut, Hp.foot]))).alloc_cst #[.int .i64 a.kind, .int .i64 a.op, .bool a.nt, .int .i64 a.v.k, .int .i64 a.v.i, .string a.v.s, .string a.tab, .string a.nm, .slice a.A a.n a.c, .slice a.B a.m a.d] 38).alloc_cst #[.int .i64 b.kind, .int .i64 b.op, .bool b.nt, .int .i64 b.v.k, .int .i64 b.v.i, .string b.v.s, .string b.tab, .string b.nm, .slice b.A b.n b.c, .slice b.B b.m b.d] 38).alloc #[.int .i64 5, .int .i64 op, .bool false, .int .i64 0, .int .i64 0, .string ⟨#[]⟩, .string ⟨#[]⟩, .string ⟨#[]⟩, .slice (some ⟨w.heap.size + 1 + 1 + 1, 0, none⟩) 2 2, .slice none 0 0] 38
  simp only [World.size_alloc] at K0
  have K1 := K0.alloc_cst #[.int .i64 a.kind, .int .i64 a.op, .bool a.nt, .int .i64 a.v.k, .int .i64 a.v.i, .string a.v.s, .string a.tab, .string a.nm, .slice a.A a.n a.c, .slice a.B a.m a.d, .int .i64 b.kind, .int .i64 b.op, .bool b.nt, .int .i64 b.v.k, .int .i64 b.v.i, .string b.v.s, .string b.tab, .string b.nm, .slice b.A b.n b.c, .slice b.B b.m b.d] 38
  simp only [World.size_alloc] at K1
  have F := K1.facts
  simp only [World.size_alloc, World.size_drew, factsL, cellsF, Nat.reduceAdd, List.toList_toArray, List.set_cons_zero, List.set_cons_succ, List.setIfInBounds_toArray, and_true, true_and] at F
  have hr := exs_block (d := d) (l := [a, b]) (K1.get 0 rfl) rfl (fun x hx => by
    simp only [List.mem_cons, List.not_mem_nil, or_false] at hx
    rcases hx with rfl | rfl
    · exact K1.ro 4 rfl
    · exact K1.ro 5 rfl)
  have HR := hid (show Ro _ M (ExIn (d + 1) (opE 5 op false (w.heap.size + 1 + 1 + 1) 2 [a, b])) from (hr.less fun b hb => .inl hb).imp fun w2 h2 => op_in h2)
  have HB := hid K1.below
  clear K0 K1 hr
  go_enter Try.func17, Try.ntmps17
  go_wp2_with fail
  exact bodyPost_ret (v := (opE 5 op false (w.heap.size + 1 + 1 + 1) 2 [a, b]).val) (by simp [results, Try.results17, go_sem, F, Ex.val, opE, vlZ]) rfl ⟨_, rfl, HR.out, HB.out⟩
set_option maxHeartbeats 4000000 in
theorem num0_any (w : World) (n : Int) (h : 0 ≤ n) : Calls Try.prog 8 #[.int .i64 n] w fun e w' => e = .returned (litE ⟨1, n, ⟨#[]⟩⟩).val ∧ Below w.heap.size w w' := by
  have K0 := (Hold.begin_ w).alloc #[.int .i64 0, .int .i64 0, .bool false, .int .i64 0, .int .i64 0, .string ⟨#[]⟩, .string ⟨#[]⟩, .string ⟨#[]⟩, .slice none 0 0, .slice none 0 0] 38
  have hd : decide (n < 0) = false := by simp; omega
  have hd2 : ¬ n < 0 := by omega
  obtain ⟨g, hg⟩ : ∃ g, g = w.heap.size := ⟨_, rfl⟩
  rw [← hg] at K0
  go_enter Try.func8, Try.ntmps8
  go_wp2_with fail
  rw [← hg]
  have HG := hid hg
  clear hg
  refine (lit_any _ ⟨1, n, ⟨#[]⟩⟩).mono ?_
  rintro e w1 ⟨rfl, b1⟩
  have K1 := K0.call b1
  clear K0 b1
  have F := K1.facts
  simp only [World.size_alloc, World.size_drew, factsL, cellsF, Nat.reduceAdd, List.toList_toArray, List.set_cons_zero, List.set_cons_succ, List.setIfInBounds_toArray, and_true, true_and] at F
  have K2 := ((((((((((K1.store 0 rfl 0 (.int .i64 1)).store 0 rfl 1 (.int .i64 0)).store 0 rfl 2 (.bool false)).store 0 rfl 3 (.int .i64 1)).store 0 rfl 4 (.int .i64 n)).store 0 rfl 5 (.string ⟨#[]⟩)).store 0 rfl 6 (.string ⟨#[]⟩)).store 0 rfl 7 (.string ⟨#[]⟩)).store 0 rfl 8 (.slice none 0 0)).store 0 rfl 9 (.slice none 0 0))
  simp only [List.set_cons_zero, List.set_cons_succ, List.setIfInBounds_toArray] at K2
  have HB := hid K2.below
  rw [show (litE ⟨1, n, ⟨#[]⟩⟩).val = .agg #[.int .i64 1, .int .i64 0, .bool false, .int .i64 1, .int .i64 n, .string ⟨#[]⟩, .string ⟨#[]⟩, .string ⟨#[]⟩, .slice none 0 0, .slice none 0 0] from rfl]
  go_wp2_with fail
  exact bodyPost_ret (v := .agg #[.int .i64 1, .int .i64 0, .bool false, .int .i64 1, .int .i64 n, .string ⟨#[]⟩, .string ⟨#[]⟩, .string ⟨#[]⟩, .slice none 0 0, .slice none 0 0]) (by simp [results, Try.results8, go_sem, F]) rfl ⟨rfl, HB.out⟩
set_option maxHeartbeats 4000000 in
theorem numN_any (M : Nat → Prop) (w : World) (hM : ∀ b, M b → b < w.heap.size) (n : Int) (h : n < 0) (h2 : -4611686018427387904 ≤ n) : Calls Try.prog 8 #[.int .i64 n] w fun e w' => ∃ g : Nat, e = .returned (opE 4 0 false g 1 [litE ⟨1, -n, ⟨#[]⟩⟩]).val ∧ Ro w' M (ExIn 2 (opE 4 0 false g 1 [litE ⟨1, -n, ⟨#[]⟩⟩])) ∧ Below w.heap.size w w' := by
  have K0 := (Hold.start M w hM).alloc #[.int .i64 0, .int .i64 0, .bool false, .int .i64 0, .int .i64 0, .string ⟨#[]⟩, .string ⟨#[]⟩, .string ⟨#[]⟩, .slice none 0 0, .slice none 0 0] 38
  have hd : decide (n < 0) = true := by simp; omega
  have hw : IntKind.i64.wrap (-n) = -n := by rw [IntKind.wrap_i64]; omega
  obtain ⟨g, hg⟩ : ∃ g, g = w.heap.size := ⟨_, rfl⟩
  rw [← hg] at K0
  go_enter Try.func8, Try.ntmps8
  go_wp2_with fail
  rw [← hg]
  have HG := hid hg
  clear hg
  refine (num0_any _ (-n) (by omega)).mono ?_
  rintro e w1 ⟨rfl, b1⟩
  have KA := K0.call b1
  have K1 := KA.alloc_cst #[.int .i64 1, .int .i64 0, .bool false, .int .i64 1, .int .i64 (-n), .string ⟨#[]⟩, .string ⟨#[]⟩, .string ⟨#[]⟩, .slice none 0 0, .slice none 0 0] 38
  clear KA b1
  obtain ⟨g2, hg2⟩ : ∃ g, g = w1.heap.size := ⟨_, rfl⟩
  rw [← hg2] at K1
  have F := K1.facts
  simp only [World.size_alloc, World.size_drew, factsL, cellsF, Nat.reduceAdd, List.toList_toArray, List.set_cons_zero, List.set_cons_succ, List.setIfInBounds_toArray, and_true, true_and] at F
  have K2 := ((((((((((K1.store 1 rfl 0 (.int .i64 4)).store 1 rfl 1 (.int .i64 0)).store 1 rfl 2 (.bool false)).store 1 rfl 3 (.int .i64 0)).store 1 rfl 4 (.int .i64 0)).store 1 rfl 5 (.string ⟨#[]⟩)).store 1 rfl 6 (.string ⟨#[]⟩)).store 1 rfl 7 (.string ⟨#[]⟩)).store 1 rfl 8 (.slice (some ⟨g2, 0, none⟩) 1 1)).store 1 rfl 9 (.slice none 0 0))
  simp only [List.set_cons_zero, List.set_cons_succ, List.setIfInBounds_toArray] at K2
  clear K1 K0
  have F2 := K2.facts
  simp only [World.size_alloc, World.size_drew, factsL, cellsF, Nat.reduceAdd, List.toList_toArray, List.set_cons_zero, List.set_cons_succ, List.setIfInBounds_toArray, and_true, true_and] at F2
  have hr := exs_block (d := 1) (l := [litE ⟨1, -n, ⟨#[]⟩⟩]) (K2.get 0 rfl) rfl (fun x hx w2 _ _ => by
    simp only [List.mem_cons, List.not_mem_nil, or_false] at hx
    subst hx
    exact lit_in _ _)
  have HR := hid (show Ro _ M (ExIn 2 (opE 4 0 false g2 1 [litE ⟨1, -n, ⟨#[]⟩⟩])) from (hr.less fun b hb => .inl hb).imp fun w2 h2 => op_in h2)
  have HB := hid K2.below
  rw [show (litE ⟨1, -n, ⟨#[]⟩⟩).val = .agg #[.int .i64 1, .int .i64 0, .bool false, .int .i64 1, .int .i64 (-n), .string ⟨#[]⟩, .string ⟨#[]⟩, .string ⟨#[]⟩, .slice none 0 0, .slice none 0 0] from rfl]
  clear hr K2
  go_wp2_with fail
  rw [← hg2]
  have HG2 := hid hg2
  clear hg2
  refine bodyPost_ret (v := (opE 4 0 false g2 1 [litE ⟨1, -n, ⟨#[]⟩⟩]).val) ?_ rfl ⟨_, rfl, HR.out, HB.out⟩
  have HO : (opE 4 0 false g2 1 [litE ⟨1, -n, ⟨#[]⟩⟩]).val = .agg #[.int .i64 4, .int .i64 0, .bool false, .int .i64 0, .int .i64 0, .string ⟨#[]⟩, .string ⟨#[]⟩, .string ⟨#[]⟩, .slice (some ⟨g2, 0, none⟩) 1 1, .slice none 0 0] := rfl
  rw [HO]
  clear HO HR HB
  simp [results, Try.results8, go_sem, F2]
theorem wnum_any (M : Nat → Prop) (w : World) (hM : ∀ b, M b → b < w.heap.size) (n : Int) (h2 : -4611686018427387904 ≤ n) : Calls Try.prog 8 #[.int .i64 n] w fun e w' => ∃ x : Ex, e = .returned x.val ∧ NumE x n ∧ Ro w' M (ExIn 2 x) ∧ Below w.heap.size w w' := by
  by_cases h : n < 0
  · refine (numN_any M w hM n h h2).mono ?_
    rintro e w1 ⟨g, rfl, r, b⟩
    exact ⟨_, rfl, .inr ⟨h, g, rfl⟩, r, b⟩
  · refine (num0_any w n (by omega)).mono ?_
    rintro e w1 ⟨rfl, b⟩
    exact ⟨_, rfl, .inl ⟨by omega, rfl⟩, fun w2 _ _ => (lit_in _ _).more, b⟩
set_option maxHeartbeats 4000000 in
theorem between_any (M : Nat → Prop) (w : World) (hM : ∀ b, M b → b < w.heap.size) (s : ByteArray) (lo hi : Int) (h1 : -4611686018427387904 ≤ lo) (h2 : -4611686018427387904 ≤ hi) : Calls Try.prog 19 #[.string s, .int .i64 lo, .int .i64 hi] w fun e w' => ∃ (g : Nat) (x y : Ex), e = .returned (opE 7 0 false g 3 [colE ⟨#[]⟩ s, x, y]).val ∧ NumE x lo ∧ NumE y hi ∧ Ro w' M (ExIn 3 (opE 7 0 false g 3 [colE ⟨#[]⟩ s, x, y])) ∧ Below w.heap.size w w' := by
  have K0 := (Hold.start M w hM).alloc #[.int .i64 0, .int .i64 0, .bool false, .int .i64 0, .int .i64 0, .string ⟨#[]⟩, .string ⟨#[]⟩, .string ⟨#[]⟩, .slice none 0 0, .slice none 0 0] 38
  obtain ⟨g, hg⟩ : ∃ g, g = w.heap.size := ⟨_, rfl⟩
  rw [← hg] at K0
  go_enter Try.func19, Try.ntmps19
  go_wp2_with fail
  rw [← hg]
  have HG := hid hg
  clear hg
  refine (col_any _ ⟨#[]⟩ s).mono ?_
  rintro e w1 ⟨rfl, b1⟩
  have K1 := K0.call b1
  clear K0 b1
  go_wp2_with fail
  refine (wnum_any _ _ K1.mutLt lo h1).mono ?_
  rintro e w2 ⟨x, rfl, hx, rx, b1⟩
  have K2 := (K1.call b1).add rx
  have HX := hid hx
  clear K1 b1 rx hx
  go_wp2_with fail
  refine (wnum_any _ _ K2.mutLt hi h2).mono ?_
  rintro e w3 ⟨y, rfl, hy, ry, b1⟩
  have K3 := ((K2.call b1).add ry).perm (L' := [.blk g 38 #[.int .i64 0, .int .i64 0, .bool false, .int .i64 0, .int .i64 0, .string ⟨#[]⟩, .string ⟨#[]⟩, .string ⟨#[]⟩, .slice none 0 0, .slice none 0 0], .ro (ExIn 2 x), .ro (ExIn 2 y)]) (List.reverse_perm _).symm
  have HY := hid hy
  clear K2 b1 ry hy
  have K1 := K3.alloc_cst #[.int .i64 2, .int .i64 0, .bool false, .int .i64 0, .int .i64 0, .string ⟨#[]⟩, .string ⟨#[]⟩, .string s, .slice none 0 0, .slice none 0 0, .int .i64 x.kind, .int .i64 x.op, .bool x.nt, .int .i64 x.v.k, .int .i64 x.v.i, .string x.v.s, .string x.tab, .string x.nm, .slice x.A x.n x.c, .slice x.B x.m x.d, .int .i64 y.kind, .int .i64 y.op, .bool y.nt, .int .i64 y.v.k, .int .i64 y.v.i, .string y.v.s, .string y.tab, .string y.nm, .slice y.A y.n y.c, .slice y.B y.m y.d] 38
  obtain ⟨g2, hg2⟩ : ∃ g, g = w3.heap.size := ⟨_, rfl⟩
  rw [← hg2] at K1
  have F := K1.facts
  simp only [World.size_alloc, World.size_drew, factsL, cellsF, Nat.reduceAdd, List.toList_toArray, List.set_cons_zero, List.set_cons_succ, List.setIfInBounds_toArray, and_true, true_and] at F
  have K2 := ((((((((((K1.store 1 rfl 0 (.int .i64 7)).store 1 rfl 1 (.int .i64 0)).store 1 rfl 2 (.bool false)).store 1 rfl 3 (.int .i64 0)).store 1 rfl 4 (.int .i64 0)).store 1 rfl 5 (.string ⟨#[]⟩)).store 1 rfl 6 (.string ⟨#[]⟩)).store 1 rfl 7 (.string ⟨#[]⟩)).store 1 rfl 8 (.slice (some ⟨g2, 0, none⟩) 3 3)).store 1 rfl 9 (.slice none 0 0))
  simp only [List.set_cons_zero, List.set_cons_succ, List.setIfInBounds_toArray] at K2
  clear K1 K3
  have F2 := K2.facts
  simp only [World.size_alloc, World.size_drew, factsL, cellsF, Nat.reduceAdd, List.toList_toArray, List.set_cons_zero, List.set_cons_succ, List.setIfInBounds_toArray, and_true, true_and] at F2
  have hr := exs_block (d := 2) (l := [colE ⟨#[]⟩ s, x, y]) (K2.get 0 rfl) rfl (fun z hz => by
    simp only [List.mem_cons, List.not_mem_nil, or_false] at hz
    rcases hz with rfl | rfl | rfl
    · exact fun w2 _ _ => (col_in _ _ _).more
    · exact K2.ro 2 rfl
    · exact K2.ro 3 rfl)
  have HR := hid (show Ro _ M (ExIn 3 (opE 7 0 false g2 3 [colE ⟨#[]⟩ s, x, y])) from (hr.less fun b hb => .inl hb).imp fun w2 h2 => op_in h2)
  have HB := hid K2.below
  rw [show (colE ⟨#[]⟩ s).val = .agg #[.int .i64 2, .int .i64 0, .bool false, .int .i64 0, .int .i64 0, .string ⟨#[]⟩, .string ⟨#[]⟩, .string s, .slice none 0 0, .slice none 0 0] from rfl, show x.val = .agg #[.int .i64 x.kind, .int .i64 x.op, .bool x.nt, .int .i64 x.v.k, .int .i64 x.v.i, .string x.v.s, .string x.tab, .string x.nm, .slice x.A x.n x.c, .slice x.B x.m x.d] from rfl, show y.val = .agg #[.int .i64 y.kind, .int .i64 y.op, .bool y.nt, .int .i64 y.v.k, .int .i64 y.v.i, .string y.v.s, .string y.tab, .string y.nm, .slice y.A y.n y.c, .slice y.B y.m y.d] from rfl]
  clear hr K2
  go_wp2_with fail
  rw [← hg2]
  have HG2 := hid hg2
  clear hg2
  refine bodyPost_ret (v := (opE 7 0 false g2 3 [colE ⟨#[]⟩ s, x, y]).val) ?_ rfl ⟨_, x, y, rfl, HX.out, HY.out, HR.out, HB.out⟩
  have HO : (opE 7 0 false g2 3 [colE ⟨#[]⟩ s, x, y]).val = .agg #[.int .i64 7, .int .i64 0, .bool false, .int .i64 0, .int .i64 0, .string ⟨#[]⟩, .string ⟨#[]⟩, .string ⟨#[]⟩, .slice (some ⟨g2, 0, none⟩) 3 3, .slice none 0 0] := rfl
  rw [HO]
  clear HO HR HB HX HY
  simp [results, Try.results19, go_sem, F2]
end Go.Proofs.Ytkpbnlbhfhkhcaa

namespace Go.Proofs.Ytkpbnlbhfhkhcaa
open Go.RowKit
set_option linter.unusedVariables false
set_option linter.unusedSimpArgs false

/-- an action made here: at most one assignment and one condition, no rows, no query -/
structure AcSm (a : Ac) : Prop where
  r : a.rows.l = []
  q : a.qs.l = []
  s : a.sets.n ≤ 1
  h : a.wh.n ≤ 1
def LowRet (w : World) (M : Nat → Prop) (col : ByteArray) (k lo hi : Int) (e : Ending) (w' : World) : Prop := ∃ a : Ac, e = .returned a.val ∧ LowAc bs_u col k lo hi a ∧ AcSm a ∧ Ro w' M (AcIn 3 a) ∧ Below w.heap.size w w'
set_option maxRecDepth 100000 in
set_option maxHeartbeats 4000000 in
theorem lower_any (M : Nat → Prop) (w : World) (hM : ∀ b, M b → b < w.heap.size) (col : ByteArray) (k lo hi : Int) (hk : -4611686018427387904 ≤ k) (h1 : -4611686018427387904 ≤ lo) (h2 : -4611686018427387904 ≤ hi) : Calls Try.prog 9 #[.string col, .int .i64 k, .int .i64 lo, .int .i64 hi] w fun e w' => LowRet w M col k lo hi e w' := by
  have K0 := (Hold.start M w hM).alloc #[.int .i64 0, .string ⟨#[]⟩, .slice none 0 0, .slice none 0 0, .slice none 0 0, .slice none 0 0, .string ⟨#[]⟩] 43
  obtain ⟨g, hg⟩ : ∃ g, g = w.heap.size := ⟨_, rfl⟩
  rw [← hg] at K0
  go_enter Try.func9, Try.ntmps9
  go_wp2_with fail
  rw [← hg]
  have HG := hid hg
  clear hg
  refine (col_any _ ⟨#[]⟩ col).mono ?_
  rintro e w1 ⟨rfl, b1⟩
  have K1 := K0.call b1
  clear K0 b1
  go_wp2_with fail
  refine (wnum_any _ _ K1.mutLt k hk).mono ?_
  rintro e w2 ⟨kE, rfl, hkE, rk, b2⟩
  have K2 := (K1.call b2).add rk
  have HKE := hid hkE
  clear K1 b2 rk hkE
  go_wp2_with fail
  refine (bin_any _ _ K2.mutLt 10 (colE ⟨#[]⟩ col) kE 2 (fun w2 _ _ => (col_in _ _ _).more) (K2.ro 0 rfl)).mono ?_
  rintro e w3 ⟨gb, rfl, rb, b3⟩
  have K3 := (K2.call b3).add rb
  clear K2 b3 rb
  rw [show (opE 5 10 false gb 2 [colE ⟨#[]⟩ col, kE]).val = .agg #[.int .i64 5, .int .i64 10, .bool false, .int .i64 0, .int .i64 0, .string ⟨#[]⟩, .string ⟨#[]⟩, .string ⟨#[]⟩, .slice (some ⟨gb, 0, none⟩) 2 2, .slice none 0 0] from rfl]
  have K4 := K3.alloc_cst #[.string col, .int .i64 5, .int .i64 10, .bool false, .int .i64 0, .int .i64 0, .string ⟨#[]⟩, .string ⟨#[]⟩, .string ⟨#[]⟩, .slice (some ⟨gb, 0, none⟩) 2 2, .slice none 0 0] 45
  obtain ⟨gs, hgs⟩ : ∃ gs, gs = w3.heap.size := ⟨_, rfl⟩
  rw [← hgs] at K4
  clear K3
  go_wp2_with fail
  rw [← hgs]
  have HGS := hid hgs
  clear hgs
  refine (between_any _ _ K4.mutLt col lo hi h1 h2).mono ?_
  rintro e w4 ⟨gt, x, y, rfl, hx, hy, rt, b4⟩
  have K5 := ((K4.call b4).add rt).alloc_cst #[.int .i64 7, .int .i64 0, .bool false, .int .i64 0, .int .i64 0, .string ⟨#[]⟩, .string ⟨#[]⟩, .string ⟨#[]⟩, .slice (some ⟨gt, 0, none⟩) 3 3, .slice none 0 0] 38
  have HXY := hid (And.intro hx hy)
  clear K4 b4 rt hx hy
  rw [show (opE 7 0 false gt 3 [colE ⟨#[]⟩ col, x, y]).val = .agg #[.int .i64 7, .int .i64 0, .bool false, .int .i64 0, .int .i64 0, .string ⟨#[]⟩, .string ⟨#[]⟩, .string ⟨#[]⟩, .slice (some ⟨gt, 0, none⟩) 3 3, .slice none 0 0] from rfl]
  obtain ⟨gw, hgw⟩ : ∃ gw, gw = w4.heap.size := ⟨_, rfl⟩
  rw [← hgw] at K5
  have F5 := K5.facts
  simp only [World.size_alloc, World.size_drew, factsL, cellsF, Nat.reduceAdd, List.toList_toArray, List.set_cons_zero, List.set_cons_succ, List.setIfInBounds_toArray, and_true, true_and] at F5
  have K6 := ((((((K5.store 5 rfl 0 (.int .i64 2)).store 5 rfl 1 (.string ⟨#[117]⟩)).store 5 rfl 2 (.slice none 0 0)).store 5 rfl 3 (.slice none 0 0)).store 5 rfl 4 (.slice (some ⟨gs, 0, none⟩) 1 1)).store 5 rfl 5 (.slice (some ⟨gw, 0, none⟩) 1 1)).store 5 rfl 6 (.string ⟨#[]⟩)
  simp only [List.set_cons_zero, List.set_cons_succ, List.setIfInBounds_toArray] at K6
  have F6 := K6.facts
  simp only [World.size_alloc, World.size_drew, factsL, cellsF, Nat.reduceAdd, List.toList_toArray, List.set_cons_zero, List.set_cons_succ, List.setIfInBounds_toArray, and_true, true_and] at F6
  have hS : Ro _ _ (SesIn 3 (some ⟨gs, 0, none⟩) 1 [⟨col, opE 5 10 false gb 2 [colE ⟨#[]⟩ col, kE]⟩]) := (show Ro _ _ (SlR 11 (some ⟨gs, 0, none⟩) 1 [.string col, .int .i64 5, .int .i64 10, .bool false, .int .i64 0, .int .i64 0, .string ⟨#[]⟩, .string ⟨#[]⟩, .string ⟨#[]⟩, .slice (some ⟨gb, 0, none⟩) 2 2, .slice none 0 0]) from ro_block (K6.get 2 rfl) rfl).and ((K6.ro 3 rfl).imp fun w2 h2 s hs => by
    simp only [List.mem_cons, List.not_mem_nil, or_false] at hs
    subst hs
    exact h2)
  have hW : Ro _ _ (ExsIn 3 (some ⟨gw, 0, none⟩) 1 [opE 7 0 false gt 3 [colE ⟨#[]⟩ col, x, y]]) := exs_block (l := [opE 7 0 false gt 3 [colE ⟨#[]⟩ col, x, y]]) (K6.get 0 rfl) rfl (fun z hz => by
    simp only [List.mem_cons, List.not_mem_nil, or_false] at hz
    subst hz
    exact K6.ro 1 rfl)
  have hA : Ro _ M (AcIn 3 ⟨2, ⟨#[117]⟩, SlP.nil, SlP.nil, ⟨some ⟨gs, 0, none⟩, 1, 1, [⟨col, opE 5 10 false gb 2 [colE ⟨#[]⟩ col, kE]⟩]⟩, ⟨some ⟨gw, 0, none⟩, 1, 1, [opE 7 0 false gt 3 [colE ⟨#[]⟩ col, x, y]]⟩, ⟨#[]⟩⟩) := ((hS.and hW).imp fun w2 h2 => ⟨SlP.nil_in _ _ _ _, SlP.nil_in _ _ _ _, h2.1, h2.2⟩).less (fun b hb => .inl hb)
  have HA := hid hA
  have HB := hid K6.below
  clear hS hW hA K5 K6
  go_wp2_with fail
  rw [← hgw]
  refine bodyPost_ret (v := .agg #[.int .i64 2, .string ⟨#[117]⟩, .slice none 0 0, .slice none 0 0, .slice (some ⟨gs, 0, none⟩) 1 1, .slice (some ⟨gw, 0, none⟩) 1 1, .string ⟨#[]⟩]) ?_ rfl ?_
  · clear HA HB
    simp [results, Try.results9, go_sem, F6]
  · refine ⟨⟨2, ⟨#[117]⟩, SlP.nil, SlP.nil, ⟨some ⟨gs, 0, none⟩, 1, 1, [⟨col, opE 5 10 false gb 2 [colE ⟨#[]⟩ col, kE]⟩]⟩, ⟨some ⟨gw, 0, none⟩, 1, 1, [opE 7 0 false gt 3 [colE ⟨#[]⟩ col, x, y]]⟩, ⟨#[]⟩⟩, rfl, ⟨rfl, rfl, gb, gt, kE, x, y, rfl, rfl, HKE.out, HXY.out.1, HXY.out.2⟩, ⟨rfl, rfl, Nat.le_refl _, Nat.le_refl _⟩, HA.out, HB.out⟩
/-- the trigger that lowers a column, with its places -/
def desT (gr ga : Nat) (col : ByteArray) (lo hi : Int) (a : Ac) : Tg := ⟨⟨#[97]⟩, ⟨#[117]⟩, false, 2, SlP.nil, false, SlP.nil, SlP.nil, ⟨some ⟨gr, 0, none⟩, 1, 1, [⟨bs_u, col, lo, hi⟩]⟩, SlP.nil, ⟨some ⟨ga, 0, none⟩, 1, 1, [a]⟩⟩
def DesRet (w : World) (M : Nat → Prop) (col : ByteArray) (k lo hi : Int) (e : Ending) (w' : World) : Prop := ∃ (gr ga : Nat) (a : Ac), e = .returned (desT gr ga col lo hi a).val ∧ LowAc bs_u col k lo hi a ∧ AcSm a ∧ Ro w' M (TgIn 3 (desT gr ga col lo hi a)) ∧ Below w.heap.size w w'
theorem numE_w {x : Ex} {n : Int} (h : NumE x n) (d : Nat) : exW d x ≤ 2 := by
  rcases h with ⟨_, rfl⟩ | ⟨_, g, rfl⟩
  · rcases d with _ | d <;> simp [exW, litE]
  · rcases d with _ | _ | d <;> simp [exW, opE, litE]
theorem low_w {u c : ByteArray} {k lo hi : Int} {a : Ac} (h : LowAc u c k lo hi a) (hs : AcSm a) (d : Nat) : acW d a ≤ 20 := by
  obtain ⟨_, _, g1, g2, kE, x, y, h1, h2, hk, hx, hy⟩ := h
  have e1 := fun d => numE_w hk d
  have e2 := fun d => numE_w hx d
  have e3 := fun d => numE_w hy d
  have e4 : ∀ d, exW d (colE ⟨#[]⟩ c) = 1 := fun d => by rcases d with _ | d <;> simp [exW, colE]
  rcases d with _ | d
  · simp [acW, rrW, sesW, qusW, exsW, hs.r, hs.q, h1, h2, exW]
  · have b1 : exW (d + 1) (opE 5 10 false g1 2 [colE ⟨#[]⟩ c, kE]) ≤ 4 := by
      have := e1 d; have := e4 d
      simp only [exW_succ, opE, exsW, qusW, List.map_cons, List.map_nil, List.sum_cons, List.sum_nil]; omega
    have b2 : exW (d + 1) (opE 7 0 false g2 3 [colE ⟨#[]⟩ c, x, y]) ≤ 6 := by
      have := e2 d; have := e3 d; have := e4 d
      simp only [exW_succ, opE, exsW, qusW, List.map_cons, List.map_nil, List.sum_cons, List.sum_nil]; omega
    simp only [acW, rrW, sesW, qusW, exsW, hs.r, hs.q, h1, h2, List.map_cons, List.map_nil, List.sum_cons, List.sum_nil]
    omega
theorem setsOf_two {l : List Ac} (h : ∀ a ∈ l, a.kind ≠ 5) : setsOf l = [] := by
  unfold setsOf
  rw [List.flatMap_eq_nil_iff]
  intro a ha
  rw [if_neg (h a ha)]
/-- triggers whose actions are small fit -/
theorem fit_of {d : Nat} {t : Tg} (hn : t.acts.n ≤ 100) (hr : t.rank.n ≤ 100) (hc : t.cond.l = []) (hw : acsW d t.acts.l ≤ 1000) (hs : (setsOf t.acts.l).length ≤ 1000) (ha : ∀ a ∈ t.acts.l, a.sets.n ≤ 1 ∧ a.wh.n ≤ 1) : TgFit d t :=
  ⟨by omega, by omega, by unfold tgW; rw [hc]; show 0 + _ ≤ _; omega, fun a h => ⟨by have := (ha a h).1; omega, by have := (ha a h).2; omega⟩, by omega⟩
set_option maxRecDepth 100000 in
set_option maxHeartbeats 8000000 in
theorem descends_any (M : Nat → Prop) (w : World) (hM : ∀ b, M b → b < w.heap.size) (col : ByteArray) (k lo hi : Int) (hk : -4611686018427387904 ≤ k) (h1 : -4611686018427387904 ≤ lo) (h2 : -4611686018427387904 ≤ hi) : Calls Try.prog 5 #[.string col, .int .i64 k, .int .i64 lo, .int .i64 hi] w fun e w' => DesRet w M col k lo hi e w' := by
  have K0 := ((Hold.start M w hM).alloc #[.string ⟨#[]⟩, .string ⟨#[]⟩, .bool false, .int .i64 0, .slice none 0 0, .bool false, .slice none 0 0, .slice none 0 0, .slice none 0 0, .slice none 0 0, .slice none 0 0] 28)
  obtain ⟨g, hg⟩ : ∃ g, g = w.heap.size := ⟨_, rfl⟩
  rw [← hg] at K0
  have K1 := K0.alloc_cst #[.string ⟨#[117]⟩, .string col, .int .i64 lo, .int .i64 hi] 48
  rw [World.size_alloc, ← hg] at K1
  obtain ⟨gr, hgr⟩ : ∃ gr, gr = g + 1 := ⟨_, rfl⟩
  rw [← hgr] at K1
  clear K0
  go_enter Try.func5, Try.ntmps5
  go_wp2_with fail
  rw [← hg]
  try rw [← hgr]
  have HG := hid hg
  have HGR := hid hgr
  clear hg hgr
  refine (lower_any _ _ K1.mutLt col k lo hi hk h1 h2).mono ?_
  rintro e w1 ⟨⟨ak, atab, ⟨arA, arn, arc, arl⟩, ⟨aqA, aqn, aqc, aql⟩, ⟨asA, asn, asc, asl⟩, ⟨awA, awn, awc, awl⟩, atext⟩, rfl, hl, hsm, ra, b1⟩
  have K5 := ((K1.call b1).add ra).alloc_cst #[.int .i64 ak, .string atab, .slice arA arn arc, .slice aqA aqn aqc, .slice asA asn asc, .slice awA awn awc, .string atext] 43
  have HL := hid hl
  have HS := hid hsm
  clear K1 b1 ra hl hsm
  rw [show (⟨ak, atab, ⟨arA, arn, arc, arl⟩, ⟨aqA, aqn, aqc, aql⟩, ⟨asA, asn, asc, asl⟩, ⟨awA, awn, awc, awl⟩, atext⟩ : Ac).val = .agg #[.int .i64 ak, .string atab, .slice arA arn arc, .slice aqA aqn aqc, .slice asA asn asc, .slice awA awn awc, .string atext] from rfl]
  obtain ⟨ga, hga⟩ : ∃ ga, ga = w1.heap.size := ⟨_, rfl⟩
  rw [← hga] at K5
  have F5 := K5.facts
  simp only [World.size_alloc, World.size_drew, factsL, cellsF, Nat.reduceAdd, List.toList_toArray, List.set_cons_zero, List.set_cons_succ, List.setIfInBounds_toArray, and_true, true_and] at F5
  have K6 := (((((((((((K5.store 3 rfl 0 (.string ⟨#[97]⟩)).store 3 rfl 1 (.string ⟨#[117]⟩)).store 3 rfl 2 (.bool false)).store 3 rfl 3 (.int .i64 2)).store 3 rfl 4 (.slice none 0 0)).store 3 rfl 5 (.bool false)).store 3 rfl 6 (.slice none 0 0)).store 3 rfl 7 (.slice none 0 0)).store 3 rfl 8 (.slice (some ⟨gr, 0, none⟩) 1 1)).store 3 rfl 9 (.slice none 0 0)).store 3 rfl 10 (.slice (some ⟨ga, 0, none⟩) 1 1))
  simp only [List.set_cons_zero, List.set_cons_succ, List.setIfInBounds_toArray] at K6
  have F6 := K6.facts
  simp only [World.size_alloc, World.size_drew, factsL, cellsF, Nat.reduceAdd, List.toList_toArray, List.set_cons_zero, List.set_cons_succ, List.setIfInBounds_toArray, and_true, true_and] at F6
  have hR : Ro _ _ (RksIn (some ⟨gr, 0, none⟩) 1 [⟨bs_u, col, lo, hi⟩]) := (show Ro _ _ (SlR 4 (some ⟨gr, 0, none⟩) 1 [.string ⟨#[117]⟩, .string col, .int .i64 lo, .int .i64 hi]) from ro_block (K6.get 2 rfl) rfl).imp fun w2 h2 => ⟨h2, fun _ _ => trivial⟩
  have hA : Ro _ _ (AcsIn 3 (some ⟨ga, 0, none⟩) 1 [⟨ak, atab, ⟨arA, arn, arc, arl⟩, ⟨aqA, aqn, aqc, aql⟩, ⟨asA, asn, asc, asl⟩, ⟨awA, awn, awc, awl⟩, atext⟩]) := (show Ro _ _ (SlR 7 (some ⟨ga, 0, none⟩) 1 [.int .i64 ak, .string atab, .slice arA arn arc, .slice aqA aqn aqc, .slice asA asn asc, .slice awA awn awc, .string atext]) from ro_block (K6.get 0 rfl) rfl).and ((K6.ro 1 rfl).imp fun w2 h2 s hs => by
    simp only [List.mem_cons, List.not_mem_nil, or_false] at hs
    subst hs
    exact h2)
  have hT : Ro _ M (TgIn 3 (desT gr ga col lo hi ⟨ak, atab, ⟨arA, arn, arc, arl⟩, ⟨aqA, aqn, aqc, aql⟩, ⟨asA, asn, asc, asl⟩, ⟨awA, awn, awc, awl⟩, atext⟩)) := ((hR.and hA).imp fun w2 h2 => ⟨SlP.nil_in _ _ _ _, SlP.nil_in _ _ _ _, SlP.nil_in _ _ _ _, h2.1, SlP.nil_in _ _ _ _, h2.2⟩).less (fun b hb => .inl hb)
  have HA := hid hT
  have HB := hid K6.below
  clear hR hA hT K5 K6
  go_wp2_with fail
  rw [← hga]
  refine bodyPost_ret (v := .agg #[.string ⟨#[97]⟩, .string ⟨#[117]⟩, .bool false, .int .i64 2, .slice none 0 0, .bool false, .slice none 0 0, .slice none 0 0, .slice (some ⟨gr, 0, none⟩) 1 1, .slice none 0 0, .slice (some ⟨ga, 0, none⟩) 1 1]) ?_ rfl ?_
  · clear HA HB HL HS
    simp [results, Try.results5, go_sem, F6]
  · exact ⟨gr, ga, ⟨ak, atab, ⟨arA, arn, arc, arl⟩, ⟨aqA, aqn, aqc, aql⟩, ⟨asA, asn, asc, asl⟩, ⟨awA, awn, awc, awl⟩, atext⟩, rfl, HL.out, HS.out, HA.out, HB.out⟩
end Go.Proofs.Ytkpbnlbhfhkhcaa

namespace Go.Proofs.Ytkpbnlbhfhkhcaa
open Go.RowKit
set_option linter.unusedVariables false
set_option linter.unusedSimpArgs false

def TgS (M : Nat → Prop) (n : Nat) (l : List Tg) (u : Value) (w : World) : Prop := ∃ (A : Option Addr) (c : Nat), u = .slice A n c ∧ Ro w M (TgsIn 3 A n l)
def TeS (M : Nat → Prop) (u : Value) (w : World) : Prop := ∃ (A : Option Addr) (c : Nat) (l : List Te), u = .slice A 3 c ∧ TabsR (tabsE l) ∧ (∀ x ∈ l, x.n ≤ 4398046511104) ∧ Ro w M (TesIn A 3 l)
theorem tgS_mono {M : Nat → Prop} {n : Nat} {l : List Tg} (u : Value) (w w' : World) (hr : RM M w w') (h : TgS M n l u w) : TgS M n l u w' := by
  obtain ⟨A, c, h1, h2⟩ := h
  exact ⟨A, c, h1, hr.ro h2⟩
theorem teS_mono {M : Nat → Prop} (u : Value) (w w' : World) (hr : RM M w w') (h : TeS M u w) : TeS M u w' := by
  obtain ⟨A, c, l, h1, h2, h3, h4⟩ := h
  exact ⟨A, c, l, h1, h2, h3, hr.ro h4⟩
theorem cert_slot {M : Nat → Prop} {w : World} (hM : ∀ b, M b → b < w.heap.size) {u v : Value} {n : Nat} {t : Tg} {ts : List Tg} {r : Rk} {z : Bool} (h1 : TgS M n (t :: ts) u w) (h2 : TeS M v w) (hfit : ∀ x ∈ t :: ts, TgFit 3 x) (hb : t.before = false) (hr : t.rank.l = [r]) (hI : I64 r.lo ∧ I64 r.hi) (hz : ∀ tabs, TabsR tabs → certB 3 (t :: ts) tabs 0 = z) (hn : n ≤ 4611686018427387904) :
    Calls Try.prog 6 #[u, v, .int .i64 0] w fun e w' => e = .returned (.bool z) ∧ Below w.heap.size w w' := by
  obtain ⟨A, c, rfl, ht⟩ := h1
  obtain ⟨B, e, l, rfl, hT, hc, hD⟩ := h2
  have h := cert1_any M w hM A n c (t :: ts) B 3 e l 0 t r [] 2 ht hD hn (by omega) hfit hc rfl hb hr hI
  rw [← certB_zero hb hr, hz _ hT] at h
  exact h
theorem tables_slot {M : Nat → Prop} (w : World) (hM : ∀ b, M b → b < w.heap.size) : Calls Try.prog 7 #[] w fun e w' => ∃ u, e = .returned u ∧ TeS M u w' ∧ Below w.heap.size w w' := by
  refine (tables28_any M w hM).mono ?_
  rintro e w' ⟨A, c, l, rfl, h1, h2, h3, h4⟩
  exact ⟨_, rfl, ⟨A, c, l, rfl, h1, h2, h3⟩, h4⟩
set_option maxRecDepth 100000 in
set_option maxHeartbeats 4000000 in
theorem measure30 (w : World) (t c n : ByteArray) (A : Option Addr) : Calls Try.prog 20 #[.agg #[.string t, .string c, .int .i64 1, .int .i64 10], .agg #[.string n, .slice none 0 0, .int .i64 0, .slice A 3 3]] w fun e w' => e = .returned (.int .i64 30) ∧ Below w.heap.size w w' := by
  have K0 := ((Hold.begin_ w).alloc_cst #[.string t, .string c, .int .i64 1, .int .i64 10] 48).alloc_cst #[.string n, .slice none 0 0, .int .i64 0, .slice A 3 3] 66
  simp only [World.size_alloc] at K0
  have F0 := K0.facts
  simp only [World.size_alloc, World.size_drew, factsL, cellsF, Nat.reduceAdd, List.toList_toArray, List.set_cons_zero, List.set_cons_succ, List.setIfInBounds_toArray, and_true, true_and] at F0
  have HB := hid K0.below
  clear K0
  go_enter Try.func20, Try.ntmps20
  go_wp2_with fail
  go_ret
  exact ⟨by first | rfl | (simp; kernel_rfl), HB.out⟩
section
variable {P : Program} {M : Nat → Prop} {row : Option Nat} {w0 w1 : World} {L : List Hp} {sp : SpW} {F : Act → Prop} {S0 : Array Bool}
variable {ops : Array Oper} {o : Oper} {rest : List Oper} {a : Act} {k : Nat}
/-- append to a row without room: a list of one's own -/
theorem dw_grow {t e : TypeId} {size bytes : Nat} {z : Value} (hE : ElemT P t e size bytes z) (d : Tmp) (V : Value → World → Prop) (hS : S0.getD k false = false) (hw : Region.wanted o (yielded ops a.tmps) = true) (hd : o.dst = some d) (hsp : sp d = some V)
    (s x : Operand) (ho : o.op = .call { callee := .builtin .append, args := #[s, x], argTypes := #[t, t] }) {b q n cap : Nat} (hs : a.eval s = .slice (some ⟨b, q, none⟩) n cap) {g m c : Nat} (hx : a.eval x = .slice (some ⟨g, 0, none⟩) m c) (hg : cap < n + m) (hn0 : 0 < n) (hm0 : 0 < m) (hq : n + m < 140737488355328) (hb : (n + m) * bytes ≤ 140737488355328)
    (hr : ∀ w, Hold M row w0 w L → Deps ops (GW sp) o a w → ∃ olds ys : List Value, SlR size (some ⟨b, q, none⟩) n olds w ∧ SlR size (some ⟨g, 0, none⟩) m ys w ∧ ∀ C' cap' w', Hold M row w0 w' L → RM (Mut M L) w w' → Ro w' (Mut M L) (SlR size C' (n + m) (olds ++ ys)) → V (.slice C' (n + m) cap') w')
    (hn : ∀ u w, Hold M row w0 w L → V u w → wpRel P ops (HC M row w0 w1 L) (GW sp) (RM (Mut M L)) S0 F (k + 1) rest (a.put (some d) u)) : wpRel P ops (HC M row w0 w1 L) (GW sp) (RM (Mut M L)) S0 F k (o :: rest) a := by
  refine rel_step hS hw d hd (fun w hC hD => ?_) fun u w hC hu => hn u w hC.1 ((GW_on hsp).1 hu)
  obtain ⟨olds, ys, h1, h2, hV⟩ := hr w hC.1 hD
  obtain ⟨b1, o1, e1, hb1, hc1⟩ := (show Rd w w.heap.size size (some ⟨b, q, none⟩) n olds from h1).2 hn0
  obtain ⟨b2, o2, e2, hb2, hc2⟩ := (show Rd w w.heap.size size (some ⟨g, 0, none⟩) m ys from h2).2 hm0
  obtain ⟨rfl, rfl⟩ : b = b1 ∧ q = o1 := by injection e1 with e1; injection e1 with x1 x2; exact ⟨x1, x2⟩
  obtain ⟨rfl, rfl⟩ : g = b2 ∧ 0 = o2 := by injection e2 with e2; injection e2 with x1 x2; exact ⟨x1, x2⟩
  obtain ⟨i0, hi1, hi2, hi3, hi4⟩ := info_parts hE.hi
  obtain ⟨v', w', hrun, ho2, hgr⟩ := run_append_arg_grows (P := P) (w := w) t o.type e i0 z size bytes hE.ht hi1 hi2 hi3 hi4 hE.hzs hE.hsz ⟨b, q, none⟩ n cap olds h1.1 (fun j u hu => by rw [Addr.add_lit]; exact hc1 j u hu) ⟨g, 0, none⟩ m c ys h2.1 (fun j u hu => by rw [Addr.add_lit]; exact hc2 j u hu) hg (by unfold maxLen; omega) hb
  have hbl : Below w.heap.size w w' := ⟨hgr.os, hgr.tape, hgr.output, hgr.size, fun k hk => hgr.block k hk (by simp)⟩
  obtain ⟨C', cap', rfl⟩ := own_form ho2
  have hH := hC.1.call hbl
  refine ⟨.slice C' (n + m) cap', w', ?_, (GW_on hsp).2 (hV C' cap' w' hH (RM.below hbl) (own_ro hC.1.mutLt ho2)), ⟨hH, hC.2.trans (RM.below hbl)⟩, RM.below hbl⟩
  unfold execOp
  simp only [ho, resolve, invoke, builtin, Sem.run_bind, Sem.run_pure, Result.andThen_ok, List.map_toArray, List.map_cons, List.map_nil, hs, hx, hrun]
end
end Go.Proofs.Ytkpbnlbhfhkhcaa

namespace Go.Proofs.Ytkpbnlbhfhkhcaa
open Go.RowKit
set_option linter.unusedVariables false
set_option linter.unusedSimpArgs false

/-- an insert into u without rows -/
def insA : Ac := ⟨1, ⟨#[117]⟩, SlP.nil, SlP.nil, SlP.nil, SlP.nil, ⟨#[]⟩⟩
def insT (gi : Nat) : Tg := ⟨⟨#[97]⟩, ⟨#[117]⟩, false, 2, SlP.nil, false, SlP.nil, SlP.nil, SlP.nil, SlP.nil, ⟨some ⟨gi, 0, none⟩, 1, 1, [⟨1, ⟨#[117]⟩, SlP.nil, SlP.nil, SlP.nil, SlP.nil, ⟨#[]⟩⟩]⟩⟩
theorem insA_in (d : Nat) (w : World) : AcIn d insA w := ⟨SlP.nil_in _ _ _ _, SlP.nil_in _ _ _ _, SlP.nil_in _ _ _ _, SlP.nil_in _ _ _ _⟩
theorem des_fit {gr ga : Nat} {col : ByteArray} {k lo hi : Int} {a : Ac} (h : LowAc bs_u col k lo hi a) (hs : AcSm a) (d : Nat) : TgFit d (desT gr ga col lo hi a) := by
  refine fit_of (by show 1 ≤ 100; omega) (by show 1 ≤ 100; omega) rfl ?_ ?_ ?_
  · show (([a] : List Ac).map (acW d)).sum ≤ 1000
    have := low_w h hs d
    simp only [List.map_cons, List.map_nil, List.sum_cons, List.sum_nil]
    omega
  · show (setsOf [a]).length ≤ 1000
    rw [setsOf_two (fun b hb => by
      simp only [List.mem_cons, List.not_mem_nil, or_false] at hb
      subst hb
      rw [h.1]; decide)]
    simp
  · intro b hb
    have hb : b ∈ [a] := hb
    simp only [List.mem_cons, List.not_mem_nil, or_false] at hb
    subst hb
    exact ⟨hs.s, hs.h⟩
theorem des_is {gr ga : Nat} {lo hi : Int} {a : Ac} (h : LowAc bs_u bs_n 1 lo hi a) : Descends lo hi (desT gr ga bs_n lo hi a) := ⟨rfl, rfl, a, rfl, h⟩
theorem ins_fit (gi d : Nat) : TgFit d (insT gi) := by
  refine fit_of (by show 1 ≤ 100; omega) (by show 0 ≤ 100; omega) rfl ?_ ?_ ?_
  · show (([insA] : List Ac).map (acW d)).sum ≤ 1000
    simp [acW, insA, rrW, sesW, qusW, exsW, SlP.nil]
  · show (setsOf [insA]).length ≤ 1000
    simp [setsOf, insA]
  · intro b hb
    have hb : b ∈ [insA] := hb
    simp only [List.mem_cons, List.not_mem_nil, or_false] at hb
    subst hb
    exact ⟨by decide, by decide⟩
/-- a row of triggers in a new block -/
theorem tgs_block {w : World} {M : Nat → Prop} {g : Nat} {t : TypeId} {cs : Array Value} {l : List Tg} (h : Ro w M (fun w => w.heap[g]? = some (.cells cs t (0, 0)))) (hl : cs.toList = l.flatMap Tg.cells) (hr : ∀ x ∈ l, Ro w M (TgIn 3 x)) : Ro w M (TgsIn 3 (some ⟨g, 0, none⟩) l.length l) := by
  have h1 : Ro w M (SlR 11 (some ⟨g, 0, none⟩) l.length cs.toList) := ro_block h (by rw [hl, flat_len _ 11 (fun _ => rfl)])
  rw [hl] at h1
  exact h1.and fun w2 a b x hx => hr x hx w2 a b
theorem eleven {w : World} {g : Nat} {t : TypeId} {c0 c1 c2 c3 c4 c5 c6 c7 c8 c9 c10 : Value} (h : Blk w g t #[c0, c1, c2, c3, c4, c5, c6, c7, c8, c9, c10]) : w.cell? ⟨g, 0, none⟩ = some c0 ∧ w.cell? ⟨g, 1, none⟩ = some c1 ∧ w.cell? ⟨g, 2, none⟩ = some c2 ∧ w.cell? ⟨g, 3, none⟩ = some c3 ∧ w.cell? ⟨g, 4, none⟩ = some c4 ∧ w.cell? ⟨g, 5, none⟩ = some c5 ∧ w.cell? ⟨g, 6, none⟩ = some c6 ∧ w.cell? ⟨g, 7, none⟩ = some c7 ∧ w.cell? ⟨g, 8, none⟩ = some c8 ∧ w.cell? ⟨g, 9, none⟩ = some c9 ∧ w.cell? ⟨g, 10, none⟩ = some c10 := ⟨h.cell 0, h.cell 1, h.cell 2, h.cell 3, h.cell 4, h.cell 5, h.cell 6, h.cell 7, h.cell 8, h.cell 9, h.cell 10⟩
theorem insT_in {w : World} {M : Nat → Prop} {gi : Nat} {t : TypeId} (h : Ro w M (fun w => w.heap[gi]? = some (.cells #[.int .i64 1, .string ⟨#[117]⟩, .slice none 0 0, .slice none 0 0, .slice none 0 0, .slice none 0 0, .string ⟨#[]⟩] t (0, 0)))) : Ro w M (TgIn 3 (insT gi)) :=
  (show Ro w M (SlR 7 (some ⟨gi, 0, none⟩) 1 [.int .i64 1, .string ⟨#[117]⟩, .slice none 0 0, .slice none 0 0, .slice none 0 0, .slice none 0 0, .string ⟨#[]⟩]) from ro_block h rfl).imp fun w2 h2 => ⟨SlP.nil_in _ _ _ _, SlP.nil_in _ _ _ _, SlP.nil_in _ _ _ _, SlP.nil_in _ _ _ _, SlP.nil_in _ _ _ _, h2, fun x hx => by
    have hx : x ∈ [insA] := hx
    simp only [List.mem_cons, List.not_mem_nil, or_false] at hx
    subst hx
    exact insA_in 3 w2⟩
theorem ro_alloc {M : Nat → Prop} {w : World} {S : World → Prop} (h : Ro w M S) (o : Obj) : Ro (w.alloc o) M S := (RM.alloc M w o).ro h
theorem des_rank {w : World} {gr ga : Nat} {col : ByteArray} {lo hi : Int} {a : Ac} (h : TgIn 3 (desT gr ga col lo hi a) w) : w.cell? ⟨gr, 0, none⟩ = some (.string bs_u) ∧ w.cell? ⟨gr, 1, none⟩ = some (.string col) ∧ w.cell? ⟨gr, 2, none⟩ = some (.int .i64 lo) ∧ w.cell? ⟨gr, 3, none⟩ = some (.int .i64 hi) := by
  have hr : RksIn (some ⟨gr, 0, none⟩) 1 [⟨bs_u, col, lo, hi⟩] w := h.ranks
  obtain ⟨b, o, e, hb, hcl, -⟩ := hr.at_ (k := 0) (x := ⟨bs_u, col, lo, hi⟩) rfl
  obtain ⟨rfl, rfl⟩ : gr = b ∧ 0 = o := by injection e with e; injection e with e1 e2; exact ⟨e1, e2⟩
  have r0 := hcl 0 _ (by omega) rfl
  have r1 := hcl 1 _ (by omega) rfl
  have r2 := hcl 2 _ (by omega) rfl
  have r3 := hcl 3 _ (by omega) rfl
  simp only [Nat.zero_mul, Nat.add_zero, Nat.zero_add] at r0 r1 r2 r3
  exact ⟨r0, r1, r2, r3⟩
set_option maxRecDepth 100000 in
set_option maxHeartbeats 16000000 in
theorem known28_any (M : Nat → Prop) (w : World) (hM : ∀ b, M b → b < w.heap.size) : Calls Try.prog 10 #[] w fun e w' => e = .returned (.bool true) ∧ Below w.heap.size w w' := by
  have K0 := Hold.start M w hM
  go_enter Try.func10, Try.ntmps10
  go_wp2_with fail
  refine (descends_any _ _ K0.mutLt ⟨#[110]⟩ 1 1 10 (by decide) (by decide) (by decide)).mono ?_
  rintro e w1 ⟨gr, ga, a, rfl, hl, hs, rt, b1⟩
  have K1 := ((K0.call b1).add rt).alloc_cst #[.string ⟨#[97]⟩, .string ⟨#[117]⟩, .bool false, .int .i64 2, .slice none 0 0, .bool false, .slice none 0 0, .slice none 0 0, .slice (some ⟨gr, 0, none⟩) 1 1, .slice none 0 0, .slice (some ⟨ga, 0, none⟩) 1 1] 28
  have HL := hid hl
  have HSM := hid hs
  clear K0 b1 rt hl hs
  rw [show (desT gr ga ⟨#[110]⟩ 1 10 a).val = .agg #[.string ⟨#[97]⟩, .string ⟨#[117]⟩, .bool false, .int .i64 2, .slice none 0 0, .bool false, .slice none 0 0, .slice none 0 0, .slice (some ⟨gr, 0, none⟩) 1 1, .slice none 0 0, .slice (some ⟨ga, 0, none⟩) 1 1] from rfl]
  obtain ⟨gx, hgx⟩ : ∃ gx, gx = w1.heap.size := ⟨_, rfl⟩
  rw [← hgx] at K1
  have K2 := K1.alloc #[.string ⟨#[97]⟩, .string ⟨#[117]⟩, .bool false, .int .i64 2, .slice none 0 0, .bool false, .slice none 0 0, .slice none 0 0, .slice (some ⟨gr, 0, none⟩) 1 1, .slice none 0 0, .slice (some ⟨ga, 0, none⟩) 1 1] 28
  rw [World.size_alloc, ← hgx] at K2
  have K3 := K2.alloc_cst #[.int .i64 1, .string ⟨#[117]⟩, .slice none 0 0, .slice none 0 0, .slice none 0 0, .slice none 0 0, .string ⟨#[]⟩] 43
  rw [World.size_alloc, World.size_alloc, ← hgx] at K3
  have K4 := K3.store 1 rfl 10 (.slice (some ⟨gx + 1 + 1, 0, none⟩) 1 1)
  have K5 := K4.store 1 rfl 8 (.slice none 0 0)
  simp only [List.set_cons_zero, List.set_cons_succ, List.setIfInBounds_toArray] at K4 K5
  have F3 := K3.facts
  simp only [World.size_alloc, World.size_drew, factsL, cellsF, Nat.reduceAdd, List.toList_toArray, List.set_cons_zero, List.set_cons_succ, List.setIfInBounds_toArray, and_true, true_and] at F3
  have F4 := K4.facts
  simp only [World.size_alloc, World.size_drew, factsL, cellsF, Nat.reduceAdd, List.toList_toArray, List.set_cons_zero, List.set_cons_succ, List.setIfInBounds_toArray, and_true, true_and] at F4
  have F5 := K5.facts
  simp only [World.size_alloc, World.size_drew, factsL, cellsF, Nat.reduceAdd, List.toList_toArray, List.set_cons_zero, List.set_cons_succ, List.setIfInBounds_toArray, and_true, true_and] at F5
  clear K2 K3 K4
  go_wp2_with fail
  have KF := (K1.alloc_cst #[.string ⟨#[97]⟩, .string ⟨#[117]⟩, .bool false, .int .i64 2, .slice none 0 0, .bool false, .slice none 0 0, .slice none 0 0, .slice none 0 0, .slice none 0 0, .slice (some ⟨gx + 1 + 1, 0, none⟩) 1 1] 28).alloc_cst #[.int .i64 1, .string ⟨#[117]⟩, .slice none 0 0, .slice none 0 0, .slice none 0 0, .slice none 0 0, .string ⟨#[]⟩] 43
  simp only [World.size_alloc, ← hgx] at KF
  rw [← hgx]
  obtain ⟨gi, hgi⟩ : ∃ gi, gi = gx + 1 + 1 := ⟨_, rfl⟩
  rw [← hgi] at KF ⊢
  obtain ⟨gy, hgy⟩ : ∃ gy, gy = gx + 1 := ⟨_, rfl⟩
  rw [← hgy] at KF ⊢
  have HG := hid (And.intro hgx (And.intro hgi hgy))
  clear hgx hgi hgy
  have H2 : ∀ tabs, TabsR tabs → certB 3 [desT gr ga ⟨#[110]⟩ 1 10 a] tabs 0 = true := fun tabs hT => cert_alone hT (des_is HL.out) ⟨by decide, by decide⟩ ⟨by decide, by decide⟩ (by decide) (by decide)
  have H3 : ∀ tabs, TabsR tabs → certB 3 [desT gr ga ⟨#[110]⟩ 1 10 a, insT gi] tabs 0 = false := fun tabs hT => cert_insert hT (des_is HL.out) ⟨by decide, by decide⟩ ⟨by decide, by decide⟩ (by decide) (by decide) (a := insA) rfl rfl rfl rfl
  have HC2 := hid H2
  have HC3 := hid H3
  have HF1 := hid (show ∀ x ∈ [desT gr ga ⟨#[110]⟩ 1 10 a], TgFit 3 x from fun x hx => by
    simp only [List.mem_cons, List.not_mem_nil, or_false] at hx
    subst hx
    exact des_fit HL.out HSM.out 3)
  have HF2 := hid (show ∀ x ∈ [desT gr ga ⟨#[110]⟩ 1 10 a, insT gi], TgFit 3 x from fun x hx => by
    simp only [List.mem_cons, List.not_mem_nil, or_false] at hx
    rcases hx with rfl | rfl
    · exact des_fit HL.out HSM.out 3
    · exact ins_fit gi 3)
  clear H2 H3 F3 F4 F5
  obtain ⟨KL, hKL⟩ : ∃ KL : List Hp, KL = [.cst gi 43 #[.int .i64 1, .string ⟨#[117]⟩, .slice none 0 0, .slice none 0 0, .slice none 0 0, .slice none 0 0, .string ⟨#[]⟩], .cst gy 28 #[.string ⟨#[97]⟩, .string ⟨#[117]⟩, .bool false, .int .i64 2, .slice none 0 0, .bool false, .slice none 0 0, .slice none 0 0, .slice none 0 0, .slice none 0 0, .slice (some ⟨gi, 0, none⟩) 1 1], .cst gx 28 #[.string ⟨#[97]⟩, .string ⟨#[117]⟩, .bool false, .int .i64 2, .slice none 0 0, .bool false, .slice none 0 0, .slice none 0 0, .slice (some ⟨gr, 0, none⟩) 1 1, .slice none 0 0, .slice (some ⟨ga, 0, none⟩) 1 1], .ro (TgIn 3 (desT gr ga ⟨#[110]⟩ 1 10 a))] := ⟨_, rfl⟩
  have HX0 : ∀ wv : World, Hold M none w wv KL → Blk wv gx 28 #[.string ⟨#[97]⟩, .string ⟨#[117]⟩, .bool false, .int .i64 2, .slice none 0 0, .bool false, .slice none 0 0, .slice none 0 0, .slice (some ⟨gr, 0, none⟩) 1 1, .slice none 0 0, .slice (some ⟨ga, 0, none⟩) 1 1] := fun wv h => by rw [hKL] at h; exact h.cst_ 2 rfl
  have HY0 : ∀ wv : World, Hold M none w wv KL → Blk wv gy 28 #[.string ⟨#[97]⟩, .string ⟨#[117]⟩, .bool false, .int .i64 2, .slice none 0 0, .bool false, .slice none 0 0, .slice none 0 0, .slice none 0 0, .slice none 0 0, .slice (some ⟨gi, 0, none⟩) 1 1] := fun wv h => by rw [hKL] at h; exact h.cst_ 1 rfl
  have HT0 : ∀ wv : World, Hold M none w wv KL → Ro wv (Mut M KL) (TgIn 3 (desT gr ga ⟨#[110]⟩ 1 10 a)) := fun wv h => by rw [hKL] at h ⊢; exact h.ro 3 rfl
  have HI0 : ∀ wv : World, Hold M none w wv KL → Ro wv (Mut M KL) (TgIn 3 (insT gi)) := fun wv h => by rw [hKL] at h ⊢; exact insT_in (h.get 0 rfl)
  have HX := hid HX0
  have HY := hid HY0
  have HTX := hid HT0
  have HTI := hid HI0
  rw [← hKL] at KF
  clear hKL HX0 HY0 HT0 HI0 K5
  refine wp_region_any (by kernel_rfl) ?_
  refine wpAny_hold 22 31 (KL) (spL [(10, TgS (Mut M KL) 1 [desT gr ga ⟨#[110]⟩ 1 10 a]), (11, TeS (Mut M KL)), (12, IsV (.bool true)), (16, TgS (Mut M KL) 2 [desT gr ga ⟨#[110]⟩ 1 10 a, insT gi]), (17, TeS (Mut M KL)), (18, IsV (.bool false)), (26, fun u _ => ∃ g : Nat, u = .slice (some ⟨g, 0, none⟩) 3 3), (28, IsV (.int .i64 30))]) (by kernel_rfl) (by kernel_rfl) (by kernel_rfl) rfl ?_ (KF.drew) ?_
  · exact stays_cons tgS_mono (stays_cons teS_mono (stays_cons isV_mono (stays_cons tgS_mono (stays_cons teS_mono (stays_cons isV_mono (stays_cons (fun _ _ _ _ h => h) (stays_cons isV_mono (stays_nil _))))))))
  simp only [List.take_succ_cons, List.take_zero, List.drop_succ_cons, List.drop_zero, Act.put, List.getElem_toArray, List.getElem_cons_zero, List.getElem_cons_succ, List.setIfInBounds_toArray, List.set_cons_succ, List.set_cons_zero]
  refine dw_val rfl rfl rfl ?_; apply Exists.intro; refine ⟨fun wv HC => ?_, ?_⟩
  · obtain ⟨q0, q1, q2, q3, q4, q5, q6, q7, q8, q9, q10⟩ := eleven (HX.out _ HC); go_simp <;> rfl
  simp only [Act.put, List.setIfInBounds_toArray, List.set_cons_succ, List.set_cons_zero]
  refine dw_new #[.string ⟨#[97]⟩, .string ⟨#[117]⟩, .bool false, .int .i64 2, .slice none 0 0, .bool false, .slice none 0 0, .slice none 0 0, .slice (some ⟨gr, 0, none⟩) 1 1, .slice none 0 0, .slice (some ⟨ga, 0, none⟩) 1 1] 28 10 (TgS (Mut M KL) 1 [desT gr ga ⟨#[110]⟩ 1 10 a]) (fun g => .slice (some ⟨g, 0, none⟩) 1 1) rfl rfl rfl rfl (fun wv => ?_) (fun wv HC _hrm hD hro => ?_) ?_
  · go_simp <;> rfl
  · exact ⟨_, 1, rfl, tgs_block (l := [desT gr ga ⟨#[110]⟩ 1 10 a]) (hro _ HC.mutLt) rfl (fun x hx => by
      simp only [List.mem_cons, List.not_mem_nil, or_false] at hx
      subst hx
      exact ro_alloc (HTX.out _ HC) _)⟩
  rintro g10 wg HCg h10
  simp only [Act.put, List.setIfInBounds_toArray, List.set_cons_succ, List.set_cons_zero]
  clear HCg h10
  refine dw_callR 11 (TeS (Mut M KL)) (f := 7) (args := #[]) rfl rfl rfl rfl (fun wv => ?_) (fun wv HC hrm hD => ?_) ?_
  · go_simp <;> rfl
  · refine (tables_slot wv HC.mutLt).mono ?_
    rintro e w5 ⟨u, rfl, hu, b5⟩
    exact ⟨_, rfl, hu, HC.call b5, RM.below b5⟩
  rintro u wg HCg ⟨A11, c11, l11, rfl, -, -, -⟩
  simp only [Act.put, List.setIfInBounds_toArray, List.set_cons_succ, List.set_cons_zero]
  clear HCg
  refine dw_callR 12 (IsV (.bool true)) (f := 6) (args := #[.slice (some ⟨g10, 0, none⟩) 1 1, .slice A11 3 c11, .int .i64 0]) rfl rfl rfl rfl (fun wv => ?_) (fun wv HC hrm hD => ?_) ?_
  · go_simp <;> rfl
  · have h1 : TgS (Mut M KL) 1 [desT gr ga ⟨#[110]⟩ 1 10 a] (.slice (some ⟨g10, 0, none⟩) 1 1) wv := deps_at hD 1 rfl (by kernel_rfl) rfl rfl
    have h2 : TeS (Mut M KL) (.slice A11 3 c11) wv := deps_at hD 2 rfl (by kernel_rfl) rfl rfl
    refine (cert_slot HC.mutLt h1 h2 HF1.out rfl rfl ⟨⟨by decide, by decide⟩, ⟨by decide, by decide⟩⟩ HC2.out (by decide)).mono ?_
    rintro e w5 ⟨rfl, b5⟩
    exact ⟨_, rfl, rfl, HC.call b5, RM.below b5⟩
  rintro u wg HCg rfl
  simp only [Act.put, List.setIfInBounds_toArray, List.set_cons_succ, List.set_cons_zero]
  clear HCg
  refine dw_val rfl rfl rfl ?_; apply Exists.intro; refine ⟨fun wv HC => ?_, ?_⟩
  ·  go_simp <;> rfl
  simp only [Act.put, List.setIfInBounds_toArray, List.set_cons_succ, List.set_cons_zero]
  refine dw_val rfl rfl rfl ?_; apply Exists.intro; refine ⟨fun wv HC => ?_, ?_⟩
  · obtain ⟨q0, q1, q2, q3, q4, q5, q6, q7, q8, q9, q10⟩ := eleven (HX.out _ HC); go_simp <;> rfl
  simp only [Act.put, List.setIfInBounds_toArray, List.set_cons_succ, List.set_cons_zero]
  refine dw_val rfl rfl rfl ?_; apply Exists.intro; refine ⟨fun wv HC => ?_, ?_⟩
  · obtain ⟨q0, q1, q2, q3, q4, q5, q6, q7, q8, q9, q10⟩ := eleven (HY.out _ HC); go_simp <;> rfl
  simp only [Act.put, List.setIfInBounds_toArray, List.set_cons_succ, List.set_cons_zero]
  refine dw_new #[.string ⟨#[97]⟩, .string ⟨#[117]⟩, .bool false, .int .i64 2, .slice none 0 0, .bool false, .slice none 0 0, .slice none 0 0, .slice (some ⟨gr, 0, none⟩) 1 1, .slice none 0 0, .slice (some ⟨ga, 0, none⟩) 1 1, .string ⟨#[97]⟩, .string ⟨#[117]⟩, .bool false, .int .i64 2, .slice none 0 0, .bool false, .slice none 0 0, .slice none 0 0, .slice none 0 0, .slice none 0 0, .slice (some ⟨gi, 0, none⟩) 1 1] 28 16 (TgS (Mut M KL) 2 [desT gr ga ⟨#[110]⟩ 1 10 a, insT gi]) (fun g => .slice (some ⟨g, 0, none⟩) 2 2) rfl rfl rfl rfl (fun wv => ?_) (fun wv HC _hrm hD hro => ?_) ?_
  · go_simp <;> rfl
  · exact ⟨_, 2, rfl, tgs_block (l := [desT gr ga ⟨#[110]⟩ 1 10 a, insT gi]) (hro _ HC.mutLt) rfl (fun x hx => by
      simp only [List.mem_cons, List.not_mem_nil, or_false] at hx
      rcases hx with rfl | rfl
      · exact ro_alloc (HTX.out _ HC) _
      · exact ro_alloc (HTI.out _ HC) _)⟩
  rintro g16 wg HCg h16
  simp only [Act.put, List.setIfInBounds_toArray, List.set_cons_succ, List.set_cons_zero]
  clear HCg h16
  refine dw_callR 17 (TeS (Mut M KL)) (f := 7) (args := #[]) rfl rfl rfl rfl (fun wv => ?_) (fun wv HC hrm hD => ?_) ?_
  · go_simp <;> rfl
  · refine (tables_slot wv HC.mutLt).mono ?_
    rintro e w5 ⟨u, rfl, hu, b5⟩
    exact ⟨_, rfl, hu, HC.call b5, RM.below b5⟩
  rintro u wg HCg ⟨A17, c17, l17, rfl, -, -, -⟩
  simp only [Act.put, List.setIfInBounds_toArray, List.set_cons_succ, List.set_cons_zero]
  clear HCg
  refine dw_callR 18 (IsV (.bool false)) (f := 6) (args := #[.slice (some ⟨g16, 0, none⟩) 2 2, .slice A17 3 c17, .int .i64 0]) rfl rfl rfl rfl (fun wv => ?_) (fun wv HC hrm hD => ?_) ?_
  · go_simp <;> rfl
  · have h1 : TgS (Mut M KL) 2 [desT gr ga ⟨#[110]⟩ 1 10 a, insT gi] (.slice (some ⟨g16, 0, none⟩) 2 2) wv := deps_at hD 7 rfl (by kernel_rfl) rfl rfl
    have h2 : TeS (Mut M KL) (.slice A17 3 c17) wv := deps_at hD 8 rfl (by kernel_rfl) rfl rfl
    refine (cert_slot HC.mutLt h1 h2 HF2.out rfl rfl ⟨⟨by decide, by decide⟩, ⟨by decide, by decide⟩⟩ HC3.out (by decide)).mono ?_
    rintro e w5 ⟨rfl, b5⟩
    exact ⟨_, rfl, rfl, HC.call b5, RM.below b5⟩
  rintro u wg HCg rfl
  simp only [Act.put, List.setIfInBounds_toArray, List.set_cons_succ, List.set_cons_zero]
  clear HCg
  refine dw_val rfl rfl rfl ?_; apply Exists.intro; refine ⟨fun wv HC => ?_, ?_⟩
  ·  go_simp <;> rfl
  simp only [Act.put, List.setIfInBounds_toArray, List.set_cons_succ, List.set_cons_zero]
  refine dw_val rfl rfl rfl ?_; apply Exists.intro; refine ⟨fun wv HC => ?_, ?_⟩
  ·  go_simp <;> rfl
  simp only [Act.put, List.setIfInBounds_toArray, List.set_cons_succ, List.set_cons_zero]
  refine dw_val rfl rfl rfl ?_; apply Exists.intro; refine ⟨fun wv HC => ?_, ?_⟩
  ·  go_simp <;> rfl
  simp only [Act.put, List.setIfInBounds_toArray, List.set_cons_succ, List.set_cons_zero]
  refine dw_val rfl rfl rfl ?_; apply Exists.intro; refine ⟨fun wv HC => ?_, ?_⟩
  ·  go_simp <;> rfl
  simp only [Act.put, List.setIfInBounds_toArray, List.set_cons_succ, List.set_cons_zero]
  refine dw_val rfl rfl rfl ?_; apply Exists.intro; refine ⟨fun wv HC => ?_, ?_⟩
  · obtain ⟨q0, q1, q2, q3, q4, q5, q6, q7, q8, q9, q10⟩ := eleven (HX.out _ HC); go_simp <;> rfl
  simp only [Act.put, List.setIfInBounds_toArray, List.set_cons_succ, List.set_cons_zero]
  refine dw_val rfl rfl rfl ?_; apply Exists.intro; refine ⟨fun wv HC => ?_, ?_⟩
  ·  go_simp <;> rfl
  simp only [Act.put, List.setIfInBounds_toArray, List.set_cons_succ, List.set_cons_zero]
  refine dw_val rfl rfl rfl ?_; apply Exists.intro; refine ⟨fun wv HC => ?_, ?_⟩
  · obtain ⟨q0, q1, q2, q3⟩ := des_rank (HTX.out _ HC).now; go_simp <;> rfl
  simp only [Act.put, List.setIfInBounds_toArray, List.set_cons_succ, List.set_cons_zero]
  refine dw_new (madeCells (Value.agg #[.int .i64 0, .slice none 0 0]).cells (3 * 2)) 148 26 (fun u _ => ∃ g : Nat, u = .slice (some ⟨g, 0, none⟩) 3 3) (fun g => .slice (some ⟨g, 0, none⟩) 3 3) rfl rfl rfl rfl (fun wv => ?_) (fun wv HC _hrm hD hro => ?_) ?_
  · have hm : (Instr.makeSlice 64 (.int .i64 3) (.int .i64 3)).run Try.prog wv = .ok (.slice (some ⟨wv.heap.size, 0, none⟩) 3 3) (wv.alloc (.cells (madeCells (Value.agg #[.int .i64 0, .slice none 0 0]).cells (3 * 2)) 148)) := run_make_n Try.elRw 3 (by omega) (by omega) wv
    go_simp
  · exact ⟨_, rfl⟩
  rintro g26 wg HCg h26
  simp only [Act.put, List.setIfInBounds_toArray, List.set_cons_succ, List.set_cons_zero]
  clear HCg h26
  refine dw_val rfl rfl rfl ?_; apply Exists.intro; refine ⟨fun wv HC => ?_, ?_⟩
  ·  go_simp <;> rfl
  simp only [Act.put, List.setIfInBounds_toArray, List.set_cons_succ, List.set_cons_zero]
  refine dw_callR 28 (IsV (.int .i64 30)) (f := 20) (args := #[.agg #[.string bs_u, .string ⟨#[110]⟩, .int .i64 1, .int .i64 10], .agg #[.string ⟨#[]⟩, .slice none 0 0, .int .i64 0, .slice (some ⟨g26, 0, none⟩) 3 3]]) rfl rfl rfl rfl (fun wv => ?_) (fun wv HC hrm hD => ?_) ?_
  · go_simp <;> rfl
  · refine (measure30 wv bs_u ⟨#[110]⟩ ⟨#[]⟩ (some ⟨g26, 0, none⟩)).mono ?_
    rintro e w5 ⟨rfl, b5⟩
    exact ⟨_, rfl, rfl, HC.call b5, RM.below b5⟩
  rintro u wg HCg rfl
  simp only [Act.put, List.setIfInBounds_toArray, List.set_cons_succ, List.set_cons_zero]
  clear HCg
  refine dw_val rfl rfl rfl ?_; apply Exists.intro; refine ⟨fun wv HC => ?_, ?_⟩
  ·  go_simp <;> rfl
  simp only [Act.put, List.setIfInBounds_toArray, List.set_cons_succ, List.set_cons_zero]
  refine dw_val rfl rfl rfl ?_; apply Exists.intro; refine ⟨fun wv HC => ?_, ?_⟩
  ·  go_simp <;> rfl
  simp only [Act.put, List.setIfInBounds_toArray, List.set_cons_succ, List.set_cons_zero]
  refine rel_nil ?_
  rintro wx2 HXE
  rintro hrm HG2
  clear HG2
  go_wp2_with fail
  go_ret
  exact ⟨by first | rfl | simp, HXE.below⟩
end Go.Proofs.Ytkpbnlbhfhkhcaa

/- RSame8: ref8.sameSchema. -/
import Derived.Test.YtedogodccblfeaaGreatDoorSUndSaidME
import Derived.Shelf.SlGeneric
import Derived.Shelf.SlSortCmp.NoneTotal
import Derived.Ground.SlsfProg
import Derived.Test.YtedogodccblfeaaGreatDoorProg
import Derived.Test.YtedogodccblfeaaGreatDoorSUndSaidMA
import Derived.Deep.RegionHeld3
import Derived.Shelf.SlSortCmp.QuietGrown
import Derived.WalkSpells
import Derived.Test.YtedogodccblfeaaGreatDoorSUndSaidMB
import Derived.Sort.Statements
import Derived.Shelf.SlSortCmp.Insertion
import Derived.Test.YtedogodccblfeaaGreatDoorSUndSaidMC
import Derived.Laws.CopyOwn
import Derived.Test.YtedogodccblfeaaGreatDoorSUndSaidMD
import Derived.OrdersHeld
namespace Go.Proofs.YtedogodccblfeaaGreatDoor
open Go.RowKit
set_option linter.unusedVariables false
set_option linter.unusedSimpArgs false

def pickW (lu : List Rw) (r : Rw) : Rw := (lu.find? fun z => decide (z.id = r.id)).getD r
def leftW (li : List Int) (lu l : List Rw) : List Rw := (l.filter fun r => !li.contains r.id).map (pickW lu)
theorem leftW_take {li : List Int} {lu l : List Rw} {k : Nat} {r : Rw} (hr : l[k]? = some r) : leftW li lu (l.take (k + 1)) = leftW li lu (l.take k) ++ (if li.contains r.id then [] else [pickW lu r]) := by
  unfold leftW
  rw [List.take_add_one, hr, Option.toList_some, List.filter_append, List.map_append]
  cases h : li.contains r.id
  · rw [List.filter_cons, h]; simp
  · rw [List.filter_cons, h]; simp
theorem pickW_none {lu : List Rw} {r : Rw} (h : ∀ z ∈ lu, decide (z.id = r.id) = false) : pickW lu r = r := by
  unfold pickW
  rw [List.find?_eq_none.2 (fun z hz => by rw [h z hz]; simp)]; rfl
theorem pickW_some {lu : List Rw} {r z : Rw} {k : Nat} (hz : lu[k]? = some z) (he : decide (z.id = r.id) = true) (hl : ∀ (j : Nat) (x : Rw), j < k → lu[j]? = some x → decide (x.id = r.id) = false) : pickW lu r = z := by
  unfold pickW
  have hk : k < lu.length := (List.getElem?_eq_some_iff.1 hz).1
  have hf : lu.find? (fun z => decide (z.id = r.id)) = some z := List.find?_eq_some_iff_getElem.2 ⟨he, k, hk, (List.getElem?_eq_some_iff.1 hz).2, fun j hj => by
    have := hl j lu[j] hj (List.getElem?_eq_getElem (by omega))
    simpa using this⟩
  rw [hf]; rfl
theorem pickW_mem {lu : List Rw} {r : Rw} : pickW lu r = r ∨ pickW lu r ∈ lu := by
  unfold pickW
  cases h : lu.find? fun z => decide (z.id = r.id) with
  | none => exact .inl rfl
  | some z => exact .inr (List.mem_of_find?_eq_some h)
theorem pickW_row (lu : List Rw) (r : Rw) : (pickW lu r).row = (r.id, (getR (lu.map Rw.row) r.id).getD r.vs) := by
  have hg : getR (lu.map Rw.row) r.id = (lu.find? fun z => decide (z.id = r.id)).map Rw.vs := by
    unfold getR
    have e : ((fun p : Row => p.1 == r.id) ∘ Rw.row) = fun z : Rw => decide (z.id = r.id) := by
      funext z
      show (z.id == r.id) = decide (z.id = r.id)
      by_cases h : z.id = r.id <;> simp [h]
    rw [List.find?_map, Option.map_map, e]
    rfl
  rw [hg]
  unfold pickW
  cases h : lu.find? fun z => decide (z.id = r.id) with
  | none => rfl
  | some z =>
    have := List.find?_some h
    have e : z.id = r.id := by simpa using this
    show (z.id, z.vs) = (r.id, z.vs)
    rw [e]
theorem leftW_row (nm : ByteArray) (nx : Int) (li : List Int) (d : List Row) (lu l : List Rw) : (leftW li lu l).map Rw.row = leftU ⟨nm, nx, li, d, lu.map Rw.row⟩ (l.map Rw.row) := by
  unfold leftW leftU
  rw [List.map_map, List.filter_map, List.map_map]
  have e1 : ((fun r : Row => !li.contains r.1) ∘ Rw.row) = fun r : Rw => !li.contains r.id := rfl
  rw [e1]
  apply List.map_congr_left
  intro r _
  exact pickW_row lu r
theorem leftW_mem {li : List Int} {lu l : List Rw} {r : Rw} (h : r ∈ leftW li lu l) : r ∈ l ∨ r ∈ lu := by
  obtain ⟨z, hz, rfl⟩ := List.mem_map.1 h
  rcases pickW_mem (lu := lu) (r := z) with h | h
  · rw [h]; exact .inl (List.mem_filter.1 hz).1
  · exact .inr h
/-- an entry that can be undone at rows l, and what comes of it -/
structure UndOk (l : List Rw) (li : List Int) (ld lu : List Rw) (rs : List Row) : Prop where
  nd : (li ++ lu.map Rw.id ++ ld.map Rw.id).Nodup
  inn : ∀ y ∈ li ++ lu.map Rw.id, (l.map Rw.id).contains y = true
  out : ∀ y ∈ ld.map Rw.id, (l.map Rw.id).contains y = false
  len : (leftW li lu l ++ ld).length ≤ 19
  fin : ∀ lo : List Rw, lo.Perm (leftW li lu l ++ ld) → (lo.map Rw.id).Pairwise (· ≤ ·) → lo.map Rw.row = rs
theorem undOk_of {u : Ue} {x : Te} {a : Tb} (h : StepU u.ud a x.tb) : UndOk x.l u.li u.ld u.lu a.rs := by
  have ha := h.asc_a
  have hb := h.asc_b
  have hr := h.rec_
  have i1 : u.li = (recD a x.tb).ins := congrArg Ud.ins hr
  have i2 : u.ld.map Rw.row = (recD a x.tb).del := congrArg Ud.del hr
  have i3 : u.lu.map Rw.row = (recD a x.tb).upd := congrArg Ud.upd hr
  have j2 : u.ld.map Rw.id = (recD a x.tb).del.map (·.1) := by rw [← i2, List.map_map]; rfl
  have j3 : u.lu.map Rw.id = (recD a x.tb).upd.map (·.1) := by rw [← i3, List.map_map]; rfl
  have jl : x.l.map Rw.id = x.tb.rs.map (·.1) := by show _ = (x.l.map Rw.row).map _; rw [List.map_map]; rfl
  have hrow : (leftW u.li u.lu x.l ++ u.ld).map Rw.row = leftU (recD a x.tb) x.tb.rs ++ (recD a x.tb).del := by
    rw [List.map_append, leftW_row u.nm u.nx u.li (u.ld.map Rw.row) u.lu x.l, i2]
    rw [show (⟨u.nm, u.nx, u.li, (recD a x.tb).del, u.lu.map Rw.row⟩ : Ud) = recD a x.tb from by rw [← i2]; exact hr]
    rfl
  refine ⟨?_, fun y hy => ?_, fun y hy => ?_, ?_, fun lo hp hs => ?_⟩
  · rw [i1, j2, j3]; exact rec_nodup ha hb
  · rw [i1, j3] at hy
    have := rec_in (a := a) (b := x.tb) y hy
    rw [jl]; simpa using this
  · rw [j2] at hy
    have := rec_out (a := a) (b := x.tb) y hy
    rw [jl]; simpa using this
  · have := congrArg List.length hrow
    rw [List.length_map] at this
    rw [this, rec_left_len ha hb]; exact h.la
  · refine rec_back ha hb ?_ ?_
    · rw [← hrow]; exact hp.map _
    · rw [List.map_map]; exact hs
end Go.Proofs.YtedogodccblfeaaGreatDoor

namespace Go.Proofs
open Go.Shelf
end Go.Proofs

namespace Go.Proofs.YtedogodccblfeaaGreatDoor
open Go.RowKit
set_option linter.unusedVariables false

def cmpI (a b : Int) : Int := if a < b then -1 else if b < a then 1 else 0
theorem cmp_int (a b : Int) (w : World) :
    Calls Tryz.prog 136 #[.int .i64 a, .int .i64 b] w fun e w' => e = .returned (.int .i64 (cmpI a b)) ∧ w = w' := by
  by_cases h1 : a < b
  · go_enter Tryz.func136, Tryz.ntmps136
    go_wp2
    go_ret
    exact ⟨by simp [cmpI, h1], rfl⟩
  · by_cases h2 : b < a
    · go_enter Tryz.func136, Tryz.ntmps136
      go_wp2
      go_ret
      exact ⟨by simp [cmpI, h1, h2], rfl⟩
    · go_enter Tryz.func136, Tryz.ntmps136
      go_wp2
      go_ret
      exact ⟨by rw [show cmpI a b = 0 from by unfold cmpI; rw [if_neg (by omega), if_neg (by omega)]]; rfl, rfl⟩

theorem six {w : World} {g g' : Nat} {t : TypeId} {x y z x' y' z' : Value} (h : Blk w g t #[x, y, z]) (h' : Blk w g' t #[x', y', z']) :
    w.cell? ⟨g, 0, none⟩ = some x ∧ w.cell? ⟨g, 1, none⟩ = some y ∧ w.cell? ⟨g, 2, none⟩ = some z ∧ w.cell? ⟨g', 0, none⟩ = some x' ∧ w.cell? ⟨g', 1, none⟩ = some y' ∧ w.cell? ⟨g', 2, none⟩ = some z' := ⟨h.cell 0, h.cell 1, h.cell 2, h'.cell 0, h'.cell 1, h'.cell 2⟩

end Go.Proofs.YtedogodccblfeaaGreatDoor

namespace Go.Proofs.YtedogodccblfeaaGreatDoor
open Go.RowKit Go.Sort
set_option linter.unusedVariables false

/-- from w to w' nothing but draws and new blocks -/
def Gr (w w' : World) : Prop := ∃ (q : Nat) (os : Array Obj), w' = grow (w.drewN q) os
theorem Gr.refl (w : World) : Gr w w := ⟨0, #[], by rw [grow_empty]; rfl⟩
theorem Gr.trans {a b c : World} (h : Gr a b) (k : Gr b c) : Gr a c := by
  obtain ⟨q, os, rfl⟩ := h
  obtain ⟨q2, os2, rfl⟩ := k
  exact ⟨q + q2, os ++ os2, by show grow (grow ((a.drewN q).drewN q2) os) os2 = _; rw [grow_grow, World.drewN_drewN]⟩
theorem Gr.alloc (w : World) (o : Obj) : Gr w (w.alloc o) := ⟨0, #[o], by rw [alloc_eq_grow]; rfl⟩
theorem Gr.drew (w : World) : Gr w w.drew := ⟨1, #[], by rw [grow_empty]; rfl⟩
theorem Gr.drewN (w : World) (n : Nat) : Gr w (w.drewN n) := ⟨n, #[], by rw [grow_empty]⟩
theorem Gr.size {w w' : World} (h : Gr w w') : w.heap.size ≤ w'.heap.size := by
  obtain ⟨q, os, rfl⟩ := h
  rw [size_grow]
  exact Nat.le_add_right _ _
theorem Gr.block {w w' : World} (h : Gr w w') {k : Nat} (hk : k < w.heap.size) : w'.heap[k]? = w.heap[k]? := by
  obtain ⟨q, os, rfl⟩ := h
  exact heap_grow_old (w.drewN q) os hk
theorem Gr.below {w w' : World} (h : Gr w w') : Below w.heap.size w w' := by
  have h1 := h.size
  have h2 := fun k (hk : k < w.heap.size) => h.block hk
  obtain ⟨q, os, rfl⟩ := h
  exact ⟨rfl, rfl, rfl, h1, h2⟩
theorem Gr.ro {w w' : World} {M : Nat → Prop} {S : World → Prop} (h : Gr w w') (hs : Ro w M S) : Ro w' M S := hs.below h.below
end Go.Proofs.YtedogodccblfeaaGreatDoor

namespace Go.Proofs.YtedogodccblfeaaGreatDoor
open Go.RowKit Go.Sort
set_option linter.unusedVariables false
set_option linter.unusedSimpArgs false

end Go.Proofs.YtedogodccblfeaaGreatDoor

namespace Go.Proofs.YtedogodccblfeaaGreatDoor
open Go.RowKit
set_option linter.unusedVariables false
set_option linter.unusedSimpArgs false

end Go.Proofs.YtedogodccblfeaaGreatDoor

namespace Go.Proofs.YtedogodccblfeaaGreatDoor
open Go.RowKit
set_option linter.unusedVariables false
set_option linter.unusedSimpArgs false

end Go.Proofs.YtedogodccblfeaaGreatDoor

namespace Go.Proofs.YtedogodccblfeaaGreatDoor
open Go.RowKit
set_option linter.unusedVariables false
set_option linter.unusedSimpArgs false

/-- a comparison that is a linear order -/
structure LinC {α : Type} (c : α → α → Int) : Prop where
  eq : ∀ x y, c x y = 0 ↔ x = y
  flip : ∀ x y, c x y < 0 ↔ 0 < c y x
  trans : ∀ x y z, c x y < 0 → c y z < 0 → c x z < 0
end Go.Proofs.YtedogodccblfeaaGreatDoor

namespace Go.Proofs.YtedogodccblfeaaGreatDoor
open Go.RowKit
set_option linter.unusedVariables false
set_option linter.unusedSimpArgs false

/-- rows that stand whatever becomes of block g -/
abbrev RowsAt (w : World) (g : Nat) : Type := { s : Sl // Ro w (fun b => b = g) (VlsIn s.A s.n s.vs) ∧ s.n ≤ 9223372036854775807 }
instance rowsAtInh (w : World) (g : Nat) : Inhabited (RowsAt w g) := ⟨⟨⟨none, 0, 0, []⟩, fun _ _ _ => Rd.none_, Nat.zero_le _⟩⟩
end Go.Proofs.YtedogodccblfeaaGreatDoor

namespace Go.Proofs.YtedogodccblfeaaGreatDoor
open Go.RowKit
set_option linter.unusedVariables false
set_option linter.unusedSimpArgs false

end Go.Proofs.YtedogodccblfeaaGreatDoor

namespace Go.Proofs.YtedogodccblfeaaGreatDoor
open Go.RowKit
set_option linter.unusedVariables false
set_option linter.unusedSimpArgs false

end Go.Proofs.YtedogodccblfeaaGreatDoor

namespace Go.Proofs.YtedogodccblfeaaGreatDoor
open Go.RowKit
set_option linter.unusedVariables false
set_option linter.unusedSimpArgs false

section
variable {M : Nat → Prop} {row : Option Nat} {w0 w : World} {L : List Hp} {P : Program}
end
end Go.Proofs.YtedogodccblfeaaGreatDoor

namespace Go.Proofs.YtedogodccblfeaaGreatDoor
open Go.RowKit
set_option linter.unusedVariables false
set_option linter.unusedSimpArgs false

end Go.Proofs.YtedogodccblfeaaGreatDoor

namespace Go.Proofs.YtedogodccblfeaaGreatDoor
open Go.RowKit
set_option linter.unusedVariables false
set_option linter.unusedSimpArgs false

end Go.Proofs.YtedogodccblfeaaGreatDoor

namespace Go.Proofs.YtedogodccblfeaaGreatDoor
open Go.RowKit
set_option linter.unusedVariables false
set_option linter.unusedSimpArgs false

end Go.Proofs.YtedogodccblfeaaGreatDoor

namespace Go.Proofs.YtedogodccblfeaaGreatDoor
open Go.RowKit
set_option linter.unusedVariables false
set_option linter.unusedSimpArgs false

section
variable {P : Program} {M : Nat → Prop} {row : Option Nat} {w0 w : World} {L : List Hp} {ops : Array Oper} {Q : Exit → Act → World → Prop} {Kn : Act → World → Prop} {a : Act}
end
end Go.Proofs.YtedogodccblfeaaGreatDoor

namespace Go.Proofs.YtedogodccblfeaaGreatDoor
open Go.RowKit
set_option linter.unusedVariables false
set_option linter.unusedSimpArgs false

end Go.Proofs.YtedogodccblfeaaGreatDoor

namespace Go.Proofs.YtedogodccblfeaaGreatDoor
open Go.RowKit
set_option linter.unusedVariables false
set_option linter.unusedSimpArgs false

structure El where
  nm : ByteArray
  I : Option Addr
  ni : Nat
  ci : Nat
  D : Option Addr
  nd : Nat
  cd : Nat
  U : Option Addr
  nu : Nat
  cu : Nat
  li : List Rw
  ld : List Rw
  lu : List Pr
def El.cells (x : El) : List Value := [.string x.nm, .slice x.I x.ni x.ci, .slice x.D x.nd x.cd, .slice x.U x.nu x.cu]
def El.val (x : El) : Value := .agg #[.string x.nm, .slice x.I x.ni x.ci, .slice x.D x.nd x.cd, .slice x.U x.nu x.cu]
def El.dl (x : El) : Dl := ⟨x.nm, x.li.map Rw.row, x.ld.map Rw.row, x.lu.map Pr.upd⟩
def ElIn (x : El) (w : World) : Prop := RwsIn x.I x.ni x.li w ∧ RwsIn x.D x.nd x.ld w ∧ PrsIn x.U x.nu x.lu w
structure El.good (x : El) (N K : Nat) : Prop where
  i : x.ni ≤ N
  d : x.nd ≤ N
  u : x.nu ≤ N
  ci : x.ni ≤ x.ci ∧ x.ci ≤ 9223372036854775807
  cd : x.nd ≤ x.cd ∧ x.cd ≤ 9223372036854775807
  cu : x.nu ≤ x.cu ∧ x.cu ≤ 9223372036854775807
  li : ∀ r ∈ x.li, r.ok ∧ r.n ≤ K
  ld : ∀ r ∈ x.ld, r.ok ∧ r.n ≤ K
  lu : ∀ p ∈ x.lu, p.ok ∧ p.on ≤ K ∧ p.nn ≤ K
theorem El.good.more {x : El} {N K N' K' : Nat} (h : x.good N K) (hi : x.ni ≤ N') (hd : x.nd ≤ N') (hu : x.nu ≤ N') (hK : K ≤ K') : x.good N' K' :=
  ⟨hi, hd, hu, h.ci, h.cd, h.cu, fun r hr => ⟨(h.li r hr).1, Nat.le_trans (h.li r hr).2 hK⟩, fun r hr => ⟨(h.ld r hr).1, Nat.le_trans (h.ld r hr).2 hK⟩, fun p hp => ⟨(h.lu p hp).1, Nat.le_trans (h.lu p hp).2.1 hK, Nat.le_trans (h.lu p hp).2.2 hK⟩⟩
theorem dl_el {w : World} {M : Nat → Prop} {v : Value} {d : Dl} {N K : Nat} (h : DlAt w M v d) (h1 : d.ins.length ≤ N) (h2 : d.del.length ≤ N) (h3 : d.upd.length ≤ N) (h4 : ∀ r ∈ d.ins, r.2.length ≤ K) (h5 : ∀ r ∈ d.del, r.2.length ≤ K) (h6 : ∀ u ∈ d.upd, u.2.1.length ≤ K ∧ u.2.2.length ≤ K) :
    ∃ x : El, v = x.val ∧ x.dl = d ∧ x.good N K ∧ Ro w M (ElIn x) := by
  obtain ⟨I, ni, ci, D, nd, cd, U, nu, cu, li, ld, lu, rfl, q1, q2, q3, r1, r2, r3, o1, o2, o3, e1, e2, e3⟩ := h
  have l1 : li.length = ni := r1.now.len
  have l2 : ld.length = nd := r2.now.len
  have l3 : lu.length = nu := r3.now.len
  refine ⟨⟨d.nm, I, ni, ci, D, nd, cd, U, nu, cu, li, ld, lu⟩, rfl, by simp only [El.dl, e1, e2, e3], ⟨?_, ?_, ?_, q1, q2, q3, fun r hr => ⟨o1 r hr, ?_⟩, fun r hr => ⟨o2 r hr, ?_⟩, fun p hp => ⟨o3 p hp, ?_, ?_⟩⟩, r1.and (r2.and r3)⟩
  · have := congrArg List.length e1; rw [List.length_map] at this; show ni ≤ N; omega
  · have := congrArg List.length e2; rw [List.length_map] at this; show nd ≤ N; omega
  · have := congrArg List.length e3; rw [List.length_map] at this; show nu ≤ N; omega
  · have a := h4 r.row (by rw [← e1]; exact List.mem_map_of_mem hr)
    have b : r.vs.length = r.n := (r1.now.2 r hr).len
    simp only [Rw.row] at a; omega
  · have a := h5 r.row (by rw [← e2]; exact List.mem_map_of_mem hr)
    have b : r.vs.length = r.n := (r2.now.2 r hr).len
    simp only [Rw.row] at a; omega
  · have a := h6 p.upd (by rw [← e3]; exact List.mem_map_of_mem hp)
    have b : p.old.length = p.on := (r3.now.2 p hp).1.len
    simp only [Pr.upd] at a; omega
  · have a := h6 p.upd (by rw [← e3]; exact List.mem_map_of_mem hp)
    have b : p.new.length = p.nn := (r3.now.2 p hp).2.len
    simp only [Pr.upd] at a; omega
end Go.Proofs.YtedogodccblfeaaGreatDoor

namespace Go.Proofs.YtedogodccblfeaaGreatDoor
open Go.RowKit
set_option linter.unusedVariables false
set_option linter.unusedSimpArgs false

/-- a row handed back, its values in memory -/
def RowOne (w : World) (M : Nat → Prop) (id : Int) (vs : List Vl) (e : Ending) (w' : World) : Prop := ∃ (A : Option Addr) (n c : Nat), e = .returned (.agg #[.int .i64 id, .slice A n c]) ∧ n = vs.length ∧ n ≤ c ∧ c ≤ 9223372036854775807 ∧ Ro w' M (VlsIn A n vs) ∧ Below w.heap.size w w'
set_option maxHeartbeats 2000000 in
set_option maxRecDepth 100000 in
theorem dcopied_any (M : Nat → Prop) (w : World) (hM : ∀ b, M b → b < w.heap.size) (id : Int) (A : Option Addr) (n c : Nat) (vs : List Vl) (hD : Ro w M (VlsIn A n vs)) (hn : n ≤ 4398046511104) : Calls Tryz.prog 147 #[.agg #[.int .i64 id, .slice A n c]] w fun e w' => RowOne w M id vs e w' := by
  have K0 := ((Hold.start M w hM).add (hD.less (by simp [Mut]))).alloc_cst #[.int .i64 id, .slice A n c] 119 |>.alloc #[.int .i64 0, .slice none 0 0] 119
  simp only [World.size_alloc] at K0
  clear hD
  go_enter Tryz.func147, Tryz.ntmps147
  go_wp2_with fail
  obtain ⟨g1, hg1⟩ : ∃ g, g = w.heap.size := ⟨_, rfl⟩
  obtain ⟨g2, hg2⟩ : ∃ g, g = g1 + 1 := ⟨_, rfl⟩
  rw [← hg1, ← hg2] at K0 ⊢
  generalize (w.alloc _).alloc _ = w1 at K0 ⊢
  have HG := hid hg1
  clear hg1 hg2
  obtain ⟨KL, hKL, KN⟩ := K0.name
  have HF : Hid (∀ wv, Hold M none w wv KL → (wv.cell? ⟨g1, 0, none⟩ = some (.int .i64 id) ∧ wv.cell? ⟨g1, 1, none⟩ = some (.slice A n c) ∧ g1 < wv.heap.size) ∧ Ro wv (Mut M KL) (VlsIn A n vs)) := hid fun wv HC => by
    rw [hKL] at HC ⊢
    have y1 := HC.cst_ 1 rfl
    exact ⟨⟨cell_of_row _ _ 0 _ _ _ y1, cell_of_row _ _ 1 _ _ _ y1, Blk.lt y1⟩, HC.ro 2 rfl⟩
  have HKL := hid hKL
  clear hKL K0
  refine wp_region_any (by kernel_rfl) ?_
  refine wpAny_hold 6 9 (KL) (spL [(7, VlsSlot (Mut M KL) vs)]) (by kernel_rfl) (by kernel_rfl) (by kernel_rfl) rfl ?_ (KN.drew) ?_
  · exact stays_cons vlsSlot_mono (stays_nil _)
  simp only [List.take_succ_cons, List.take_zero, List.drop_succ_cons, List.drop_zero, Act.put, List.getElem_toArray, List.getElem_cons_zero, List.getElem_cons_succ, List.setIfInBounds_toArray, List.set_cons_succ, List.set_cons_zero]
  refine dw_val rfl rfl rfl ?_; apply Exists.intro; refine ⟨fun wv HC => ?_, ?_⟩
  ·  go_simp <;> rfl
  simp only [Act.put, List.setIfInBounds_toArray, List.set_cons_succ, List.set_cons_zero]
  refine dw_val rfl rfl rfl ?_; apply Exists.intro; refine ⟨fun wv HC => ?_, ?_⟩
  · obtain ⟨⟨f0, f1, f2⟩, _⟩ := HF.out _ HC; go_simp <;> rfl
  simp only [Act.put, List.setIfInBounds_toArray, List.set_cons_succ, List.set_cons_zero]
  refine dw_val rfl rfl rfl ?_; apply Exists.intro; refine ⟨fun wv HC => ?_, ?_⟩
  ·  go_simp <;> rfl
  simp only [Act.put, List.setIfInBounds_toArray, List.set_cons_succ, List.set_cons_zero]
  refine dw_val rfl rfl rfl ?_; apply Exists.intro; refine ⟨fun wv HC => ?_, ?_⟩
  · obtain ⟨⟨f0, f1, f2⟩, _⟩ := HF.out _ HC; go_simp <;> rfl
  simp only [Act.put, List.setIfInBounds_toArray, List.set_cons_succ, List.set_cons_zero]
  refine dw_callR 7 (VlsSlot (Mut M KL) vs) (f := 149) (args := #[.slice A n c]) rfl rfl rfl rfl (fun wv => ?_) (fun wv HC hrm hD => ?_) ?_
  · go_simp <;> rfl
  · refine (cloneVls_any _ wv HC.mutLt A n c vs (HF.out _ HC).2 hn).mono ?_
    rintro e w5 ⟨A5, n5, c5, rfl, h50, h51, h52, h53, b5⟩
    exact ⟨_, rfl, ⟨A5, n5, c5, rfl, h50, h51, h52, h53⟩, HC.call b5, RM.below b5⟩
  rintro x_ wx HCx ⟨A5, n5, c5, rfl, -, -, -, -⟩
  simp only [Act.put, List.setIfInBounds_toArray, List.set_cons_succ, List.set_cons_zero]
  clear HCx
  refine dw_val rfl rfl rfl ⟨.agg #[.int .i64 id, .slice A5 n5 c5], fun wv HC => ?_, ?_⟩
  · go_simp <;> rfl
  simp only [Act.put, List.setIfInBounds_toArray, List.set_cons_succ, List.set_cons_zero]
  refine rel_nil ?_
  rintro wx2 HX
  rintro _hrm HGW
  have hb : VlsSlot (Mut M KL) vs (.slice A5 n5 c5) wx2 := (GW_on (d := 7) rfl).1 (HGW 4 _ rfl (by omega))
  clear HGW _hrm
  obtain ⟨A6, n6, c6, e6, k0_, k1_, k2_, k3_⟩ := hb
  obtain ⟨rfl, rfl, rfl⟩ : A5 = A6 ∧ n5 = n6 ∧ c5 = c6 := by injection e6 with h1 h2 h3; exact ⟨h1, h2, h3⟩
  clear e6
  have K1 := HX.add k3_
  rw [HKL.out] at K1
  have F1 := K1.facts
  simp only [World.size_alloc, World.size_drew, factsL, cellsF, Nat.reduceAdd, List.toList_toArray, List.set_cons_zero, List.set_cons_succ, List.setIfInBounds_toArray, and_true, true_and] at F1
  have H0 := hid k0_
  clear HF KN k3_ HX k0_
  have KN := (K1.store 1 rfl 0 (.int .i64 id)).store 1 rfl 1 (.slice A5 n5 c5)
  have r1 := KN.roOut 0 rfl
  go_wp2_with fail
  exact bodyPost_ret (v := .agg #[.int .i64 id, .slice A5 n5 c5]) (by simp [results, Tryz.results147, go_sem, F1]) rfl ⟨A5, n5, c5, rfl, H0.out, k1_, k2_, r1, KN.below⟩
set_option maxHeartbeats 2000000 in
set_option maxRecDepth 100000 in
theorem rcopyrow_any (M : Nat → Prop) (w : World) (hM : ∀ b, M b → b < w.heap.size) (id : Int) (A : Option Addr) (n c : Nat) (vs : List Vl) (hD : Ro w M (VlsIn A n vs)) (hn : n ≤ 4398046511104) : Calls Tryz.prog 61 #[.agg #[.int .i64 id, .slice A n c]] w fun e w' => RowOne w M id vs e w' := by
  have K0 := ((Hold.start M w hM).add (hD.less (by simp [Mut]))).alloc_cst #[.int .i64 id, .slice A n c] 119 |>.alloc #[.int .i64 0, .slice none 0 0] 119
  simp only [World.size_alloc] at K0
  clear hD
  go_enter Tryz.func61, Tryz.ntmps61
  go_wp2_with fail
  obtain ⟨g1, hg1⟩ : ∃ g, g = w.heap.size := ⟨_, rfl⟩
  obtain ⟨g2, hg2⟩ : ∃ g, g = g1 + 1 := ⟨_, rfl⟩
  rw [← hg1, ← hg2] at K0 ⊢
  generalize (w.alloc _).alloc _ = w1 at K0 ⊢
  have HG := hid hg1
  clear hg1 hg2
  obtain ⟨KL, hKL, KN⟩ := K0.name
  have HF : Hid (∀ wv, Hold M none w wv KL → (wv.cell? ⟨g1, 0, none⟩ = some (.int .i64 id) ∧ wv.cell? ⟨g1, 1, none⟩ = some (.slice A n c) ∧ g1 < wv.heap.size) ∧ Ro wv (Mut M KL) (VlsIn A n vs)) := hid fun wv HC => by
    rw [hKL] at HC ⊢
    have y1 := HC.cst_ 1 rfl
    exact ⟨⟨cell_of_row _ _ 0 _ _ _ y1, cell_of_row _ _ 1 _ _ _ y1, Blk.lt y1⟩, HC.ro 2 rfl⟩
  have HKL := hid hKL
  clear hKL K0
  refine wp_region_any (by kernel_rfl) ?_
  refine wpAny_hold 6 9 (KL) (spL [(7, VlsSlot (Mut M KL) vs)]) (by kernel_rfl) (by kernel_rfl) (by kernel_rfl) rfl ?_ (KN.drew) ?_
  · exact stays_cons vlsSlot_mono (stays_nil _)
  simp only [List.take_succ_cons, List.take_zero, List.drop_succ_cons, List.drop_zero, Act.put, List.getElem_toArray, List.getElem_cons_zero, List.getElem_cons_succ, List.setIfInBounds_toArray, List.set_cons_succ, List.set_cons_zero]
  refine dw_val rfl rfl rfl ?_; apply Exists.intro; refine ⟨fun wv HC => ?_, ?_⟩
  ·  go_simp <;> rfl
  simp only [Act.put, List.setIfInBounds_toArray, List.set_cons_succ, List.set_cons_zero]
  refine dw_val rfl rfl rfl ?_; apply Exists.intro; refine ⟨fun wv HC => ?_, ?_⟩
  · obtain ⟨⟨f0, f1, f2⟩, _⟩ := HF.out _ HC; go_simp <;> rfl
  simp only [Act.put, List.setIfInBounds_toArray, List.set_cons_succ, List.set_cons_zero]
  refine dw_val rfl rfl rfl ?_; apply Exists.intro; refine ⟨fun wv HC => ?_, ?_⟩
  ·  go_simp <;> rfl
  simp only [Act.put, List.setIfInBounds_toArray, List.set_cons_succ, List.set_cons_zero]
  refine dw_val rfl rfl rfl ?_; apply Exists.intro; refine ⟨fun wv HC => ?_, ?_⟩
  · obtain ⟨⟨f0, f1, f2⟩, _⟩ := HF.out _ HC; go_simp <;> rfl
  simp only [Act.put, List.setIfInBounds_toArray, List.set_cons_succ, List.set_cons_zero]
  refine dw_callR 7 (VlsSlot (Mut M KL) vs) (f := 56) (args := #[.slice A n c]) rfl rfl rfl rfl (fun wv => ?_) (fun wv HC hrm hD => ?_) ?_
  · go_simp <;> rfl
  · refine (copyVls_any _ wv HC.mutLt A n c vs (HF.out _ HC).2 hn).mono ?_
    rintro e w5 ⟨A5, n5, c5, rfl, h50, h51, h52, h53, b5⟩
    exact ⟨_, rfl, ⟨A5, n5, c5, rfl, h50, h51, h52, h53⟩, HC.call b5, RM.below b5⟩
  rintro x_ wx HCx ⟨A5, n5, c5, rfl, -, -, -, -⟩
  simp only [Act.put, List.setIfInBounds_toArray, List.set_cons_succ, List.set_cons_zero]
  clear HCx
  refine dw_val rfl rfl rfl ⟨.agg #[.int .i64 id, .slice A5 n5 c5], fun wv HC => ?_, ?_⟩
  · go_simp <;> rfl
  simp only [Act.put, List.setIfInBounds_toArray, List.set_cons_succ, List.set_cons_zero]
  refine rel_nil ?_
  rintro wx2 HX
  rintro _hrm HGW
  have hb : VlsSlot (Mut M KL) vs (.slice A5 n5 c5) wx2 := (GW_on (d := 7) rfl).1 (HGW 4 _ rfl (by omega))
  clear HGW _hrm
  obtain ⟨A6, n6, c6, e6, k0_, k1_, k2_, k3_⟩ := hb
  obtain ⟨rfl, rfl, rfl⟩ : A5 = A6 ∧ n5 = n6 ∧ c5 = c6 := by injection e6 with h1 h2 h3; exact ⟨h1, h2, h3⟩
  clear e6
  have K1 := HX.add k3_
  rw [HKL.out] at K1
  have F1 := K1.facts
  simp only [World.size_alloc, World.size_drew, factsL, cellsF, Nat.reduceAdd, List.toList_toArray, List.set_cons_zero, List.set_cons_succ, List.setIfInBounds_toArray, and_true, true_and] at F1
  have H0 := hid k0_
  clear HF KN k3_ HX k0_
  have KN := (K1.store 1 rfl 0 (.int .i64 id)).store 1 rfl 1 (.slice A5 n5 c5)
  have r1 := KN.roOut 0 rfl
  go_wp2_with fail
  exact bodyPost_ret (v := .agg #[.int .i64 id, .slice A5 n5 c5]) (by simp [results, Tryz.results61, go_sem, F1]) rfl ⟨A5, n5, c5, rfl, H0.out, k1_, k2_, r1, KN.below⟩
set_option maxHeartbeats 1000000 in
set_option maxRecDepth 100000 in
theorem dsameschema_any (w : World) (nm : ByteArray) (A : Option Addr) (n c : Nat) (cs : List Col) (nm2 : ByteArray) (B : Option Addr) (m d : Nat) (ds : List Col) (hD : ColsIn A n cs w) (hE : ColsIn B m ds w) (hn : n ≤ 4398046511104) :
    Calls Tryz.prog 146 #[.agg #[.string nm, .slice A n c], .agg #[.string nm2, .slice B m d]] w fun e w' => e = .returned (.bool (decide (nm = nm2 ∧ cs = ds))) ∧ Below w.heap.size w w' := by
  have K0 := ((((Hold.start None_ w (fun b hb => hb.elim)).add (Rd.ro hE (Nat.le_refl _) (by simp [Mut, None_]) : Ro w _ (ColsIn B m ds))).add (Rd.ro hD (Nat.le_refl _) (by simp [Mut, None_, Hp.foot]) : Ro w _ (ColsIn A n cs))).alloc_cst #[.string nm, .slice A n c] 49).alloc_cst #[.string nm2, .slice B m d] 49
  rw [World.size_alloc] at K0
  have F0 := K0.facts
  simp only [World.size_alloc, World.size_drew, factsL, cellsF, Nat.reduceAdd, List.toList_toArray, List.set_cons_zero, List.set_cons_succ, List.setIfInBounds_toArray, and_true, true_and] at F0
  clear hD hE
  by_cases hi : nm = nm2
  · have h1 : (nm.toList == nm2.toList) = true := by simp [hi]
    have HI := hid hi; clear hi
    go_enter Tryz.func146, Tryz.ntmps146
    go_wp2_with fail
    refine (eqCols_any _ A n c cs B m d ds (K0.ro 2 rfl).now (K0.ro 3 rfl).now hn).mono ?_
    rintro e w1 ⟨rfl, q, rfl⟩
    have K1 := K0.drewN q
    have HB := hid (show decide (nm = nm2 ∧ cs = ds) = decide (cs = ds) by simp [HI.out])
    go_wp2_with fail
    go_ret
    exact ⟨by rw [HB.out] <;> first | rfl | simp, K1.below⟩
  · have h1 : (nm.toList == nm2.toList) = false := by rw [beq_eq_false_iff_ne]; exact fun h => hi (bytesEq h)
    have HB := hid (show decide (nm = nm2 ∧ cs = ds) = false by simp [hi])
    clear hi
    go_enter Tryz.func146, Tryz.ntmps146
    go_wp2_with fail
    go_ret
    exact ⟨by rw [HB.out] <;> rfl, K0.below⟩
end Go.Proofs.YtedogodccblfeaaGreatDoor

namespace Go.Proofs.YtedogodccblfeaaGreatDoor
open Go.RowKit
set_option linter.unusedVariables false
set_option linter.unusedSimpArgs false

/-- a difference whose rows are short -/
structure DlShort (d : Dl) : Prop where
  fi : d.ins.length ≤ 4398046511104
  fd : d.del.length ≤ 4398046511104
  fu : d.upd.length ≤ 4398046511104
  ri : ∀ r ∈ d.ins, r.2.length ≤ 4398046511104
  rd : ∀ r ∈ d.del, r.2.length ≤ 4398046511104
  ru : ∀ u ∈ d.upd, u.2.1.length ≤ 4398046511104 ∧ u.2.2.length ≤ 4398046511104

end Go.Proofs.YtedogodccblfeaaGreatDoor

namespace Go.Proofs.YtedogodccblfeaaGreatDoor
open Go.RowKit
set_option linter.unusedVariables false
set_option linter.unusedSimpArgs false

def elCells (l : List El) : List Value := l.flatMap El.cells
theorem elCells_len (l : List El) : (elCells l).length = l.length * 4 := flat_len _ 4 (fun _ => rfl) l
def ElsIn (A : Option Addr) (n : Nat) (l : List El) (w : World) : Prop := SlR 4 A n (elCells l) w ∧ ∀ x ∈ l, ElIn x w
theorem ElsIn.len {w : World} {A : Option Addr} {n : Nat} {l : List El} (h : ElsIn A n l w) : l.length = n := by
  have := (show Rd w w.heap.size 4 A n (elCells l) from h.1).1
  rw [elCells_len] at this
  omega
theorem ElsIn.at_ {w : World} {A : Option Addr} {n : Nat} {l : List El} (h : ElsIn A n l w) {k : Nat} {x : El} (hx : l[k]? = some x) :
    ∃ b o, A = some ⟨b, o, none⟩ ∧ b < w.heap.size ∧ w.cell? ⟨b, o + k * 4, none⟩ = some (.string x.nm) ∧ w.cell? ⟨b, o + k * 4 + 1, none⟩ = some (.slice x.I x.ni x.ci) ∧ w.cell? ⟨b, o + k * 4 + 2, none⟩ = some (.slice x.D x.nd x.cd) ∧ w.cell? ⟨b, o + k * 4 + 3, none⟩ = some (.slice x.U x.nu x.cu) ∧ ElIn x w := by
  have hk : k < n := by rw [← h.len]; exact (List.getElem?_eq_some_iff.1 hx).1
  obtain ⟨b, o, e, hb, hc⟩ := (show Rd w w.heap.size 4 A n (elCells l) from h.1).2 (by omega)
  exact ⟨b, o, e, hb, hc _ _ (flat_get El.cells 4 (fun _ => rfl) l k 0 x (by omega) hx), hc _ _ (flat_get El.cells 4 (fun _ => rfl) l k 1 x (by omega) hx), hc _ _ (flat_get El.cells 4 (fun _ => rfl) l k 2 x (by omega) hx), hc _ _ (flat_get El.cells 4 (fun _ => rfl) l k 3 x (by omega) hx), h.2 x (List.mem_of_getElem? hx)⟩
end Go.Proofs.YtedogodccblfeaaGreatDoor

namespace Go.Proofs.YtedogodccblfeaaGreatDoor
open Go.RowKit
set_option linter.unusedVariables false
set_option linter.unusedSimpArgs false

/-- is the table at a place valid, and its name behind the one before? -/
def stoOk (l : List Tb) (k : Nat) : Bool := match l[k]? with
  | none => true
  | some t => tabB t.nm t.cs t.nx t.rs && (k == 0 || match l[k - 1]? with | some p => Op.bytesLess p.nm.toList t.nm.toList | none => false)
def storB (l : List Tb) : Bool := decide (l.length ≤ 6) && (List.range l.length).all (stoOk l)
theorem storB_big {l : List Tb} (h : 6 < l.length) : storB l = false := by
  unfold storB; rw [decide_eq_false (by omega)]; rfl
theorem storB_bad {l : List Tb} {k : Nat} (hk : k < l.length) (h : stoOk l k = false) : storB l = false := by
  unfold storB
  rw [List.all_eq_false.2 ⟨k, List.mem_range.2 hk, by rw [h]; simp⟩, Bool.and_false]
theorem storB_end {l : List Tb} {n : Nat} (hn : l.length = n) (h6 : n ≤ 6) (h : (List.range n).all (stoOk l) = true) : storB l = true := by
  unfold storB
  rw [hn, h, decide_eq_true h6]; rfl
theorem range_next {p : Nat → Bool} {k : Nat} (h : (List.range k).all p = true) (hk : p k = true) : (List.range (k + 1)).all p = true := by
  rw [List.range_succ, List.all_append, h]; simp [hk]
theorem stoOk_tab {l : List Tb} {k : Nat} {t : Tb} (h : l[k]? = some t) (hb : tabB t.nm t.cs t.nx t.rs = false) : stoOk l k = false := by unfold stoOk; rw [h]; simp [hb]
theorem stoOk_zero {l : List Tb} {t : Tb} (h : l[0]? = some t) (hb : tabB t.nm t.cs t.nx t.rs = true) : stoOk l 0 = true := by unfold stoOk; rw [h]; simp [hb]
theorem stoOk_next {l : List Tb} {j : Nat} {t p : Tb} (h : l[j + 1]? = some t) (hp : l[j]? = some p) (hb : tabB t.nm t.cs t.nx t.rs = true) : stoOk l (j + 1) = Op.bytesLess p.nm.toList t.nm.toList := by
  unfold stoOk
  rw [h, show j + 1 - 1 = j from rfl, hp]
  simp [hb]
theorem te_at {l : List Te} {k : Nat} {x : Te} (h : l[k]? = some x) : (l.map Te.tb)[k]? = some x.tb := by rw [List.getElem?_map, h]; rfl
set_option maxHeartbeats 8000000 in
set_option maxRecDepth 100000 in
theorem stvalid_any (M : Nat → Prop) (w : World) (hM : ∀ b, M b → b < w.heap.size) (A : Option Addr) (n c : Nat) (l : List Te) (hL : Ro w M (TesIn A n l)) (hok : ∀ x ∈ l, x.ok ∧ TbM x.tb) (hn : n ≤ 4611686018427387904) :
    Calls Tryz.prog 33 #[.slice A n c] w fun e w' => e = .returned (.bool (storB (l.map Te.tb))) ∧ Below w.heap.size w w' := by
  have HL := hid hL.now.len
  have HOK := hid hok
  have K0 := (Hold.start M w hM).add (hL.less (by simp [Mut]))
  clear hok hL
  go_enter Tryz.func33, Tryz.ntmps33
  by_cases h6 : 6 < n
  · have hb : decide ((n : Int) > 6) = true := by simp; omega
    have hb' : decide (6 < n) = true := by simp; omega
    have HN := hid (storB_big (l := l.map Te.tb) (by rw [List.length_map, HL.out]; exact h6))
    clear h6
    go_wp2_with fail
    go_ret
    exact ⟨by rw [HN.out] <;> rfl, K0.below⟩
  have hb : decide ((n : Int) > 6) = false := by simp; omega
  have hb' : decide (6 < n) = false := by simp; omega
  go_wp2_with fail
  clear hb hb'
  go_loopw [10] (fun iv wr => ∃ (k : Nat), k ≤ n ∧ iv = .int .i64 k ∧ Hid ((List.range k).all (stoOk (l.map Te.tb)) = true) ∧ Hold M none w wr [.ro (TesIn A n l)]) (fun iv _ => n - (intOf iv).toNat)
  case atStart => exact ⟨0, by omega, rfl, hid rfl, K0⟩
  case round =>
    clear K0
    obtain ⟨k, hk, rfl, HR, H⟩ := hrel
    by_cases hlt : k < n
    · have hdd : decide ((k : Int) < (n : Int)) = true := by simp; omega
      have i0 : (0 : Int) ≤ (k : Int) := by omega
      have i1 : (k : Int) < (n : Int) := by omega
      obtain ⟨x, hx⟩ := get_of HL.out hlt
      have HXT := hid (te_at hx)
      have HXO := hid (HOK.out x (List.mem_of_getElem? hx)).1
      have HXM := hid (HOK.out x (List.mem_of_getElem? hx)).2
      have hxr : Ro wr _ (TeIn x) := (H.ro 0 rfl).imp fun w2 h2 => h2.2 x (List.mem_of_getElem? hx)
      have HXB := hid (show x.n ≤ 9223372036854775807 ∧ x.m ≤ 4611686018427387904 from ⟨Nat.le_trans HXO.out.nc HXO.out.c, by
        have h1 := HXM.out.rs
        have h2 : x.l.length = x.m := hxr.now.2.len
        have h3 : x.tb.rs.length = x.l.length := List.length_map ..
        omega⟩)
      obtain ⟨g, o, rfl, hgb, c0, c1, c2, c3, -⟩ := (H.ro 0 rfl).now.at_ hx
      have HIX := hid hx
      clear hx
      obtain ⟨VB, hVB⟩ : ∃ VB, tabB x.nm x.cs x.nx (x.l.map Rw.row) = VB := ⟨_, rfl⟩
      have HVB := hid hVB
      clear hVB
      have K2 := H.alloc_cst #[.string x.nm, .slice x.A x.n x.c, .int .i64 x.nx, .slice x.B x.m x.d] 58
      clear H hxr
      have FA := K2.facts
      simp only [World.size_alloc, World.size_drew, factsL, cellsF, Nat.reduceAdd, List.toList_toArray, List.set_cons_zero, List.set_cons_succ, List.setIfInBounds_toArray, and_true, true_and] at FA
      go_wp2_with fail
      obtain ⟨gx, hgx⟩ : ∃ gx, gx = wr.heap.size := ⟨_, rfl⟩
      rw [← hgx] at K2 FA ⊢
      have HGX := hid hgx
      clear hgx c0 c1 c2 c3 hgb FA
      generalize World.alloc wr _ = w2 at K2 ⊢
      obtain ⟨KL, hKL, KN⟩ := K2.name
      have HF : Hid (∀ wv, Hold M none w wv KL → wv.cell? ⟨gx, 0, none⟩ = some (.string x.nm) ∧ wv.cell? ⟨gx, 1, none⟩ = some (.slice x.A x.n x.c) ∧ wv.cell? ⟨gx, 2, none⟩ = some (.int .i64 x.nx) ∧ wv.cell? ⟨gx, 3, none⟩ = some (.slice x.B x.m x.d) ∧ gx < wv.heap.size) := hid fun wv HC => by
        rw [hKL] at HC
        have y0 := HC.cst_ 0 rfl
        exact ⟨cell_of_row _ _ 0 _ _ _ y0, cell_of_row _ _ 1 _ _ _ y0, cell_of_row _ _ 2 _ _ _ y0, cell_of_row _ _ 3 _ _ _ y0, Blk.lt y0⟩
      have HX : Hid (∀ wv, Hold M none w wv KL → Ro wv (Mut M KL) (TeIn x)) := hid fun wv HC => by
        rw [hKL] at HC ⊢
        exact (HC.ro 1 rfl).imp fun w2 h2 => h2.2 x (List.mem_of_getElem? HIX.out)
      have HKL := hid hKL
      have HKN := KN
      obtain rfl | rfl : VB = false ∨ VB = true := by cases VB <;> simp
      · skip
        have HN := hid (storB_bad (by rw [List.length_map, HL.out]; exact hlt) (stoOk_tab HXT.out HVB.out))
        clear hKL K2
        refine wp_region_any (by kernel_rfl) ?_
        refine wpAny_hold 20 36 (KL) (spL [(16, IsV (.bool false))]) (by kernel_rfl) (by kernel_rfl) (by kernel_rfl) rfl ?_ (KN.drew) ?_
        · exact stays_cons isV_mono (stays_nil _)
        simp only [List.take_succ_cons, List.take_zero, List.drop_succ_cons, List.drop_zero, Act.put, List.getElem_toArray, List.getElem_cons_zero, List.getElem_cons_succ, List.setIfInBounds_toArray, List.set_cons_succ, List.set_cons_zero]
        refine dw_val rfl rfl rfl ?_; apply Exists.intro; refine ⟨fun wv HC => ?_, ?_⟩
        · obtain ⟨f0, f1, f2, f3, f4⟩ := HF.out _ HC; go_simp <;> rfl
        simp only [Act.put, List.setIfInBounds_toArray, List.set_cons_succ, List.set_cons_zero]
        refine dw_callR 16 (IsV (.bool false)) (f := 87) (args := #[.agg #[.string x.nm, .slice x.A x.n x.c, .int .i64 x.nx, .slice x.B x.m x.d]]) rfl rfl rfl rfl (fun wv => ?_) (fun wv HC hrm hD => ?_) ?_
        · go_simp <;> rfl
        · refine (tvalid_any _ wv HC.mutLt x.nm x.A x.n x.c x.cs x.nx x.B x.m x.d x.l ((HX.out _ HC).imp fun w h => h.1) ((HX.out _ HC).imp fun w h => h.2) HXB.out.1 HXB.out.2 HXO.out.l HXM.out.nm HXM.out.cs).mono ?_
          rintro e w5 ⟨rfl, b5⟩
          exact ⟨_, rfl, by rw [HVB.out]; rfl, HC.call b5, RM.below b5⟩
        rintro u_ wx HCx rfl
        clear HCx
        simp only [Act.put, List.setIfInBounds_toArray, List.set_cons_succ, List.set_cons_zero]
        refine dw_val rfl rfl rfl ?_; apply Exists.intro; refine ⟨fun wv HC => ?_, ?_⟩
        ·  go_simp <;> rfl
        simp only [Act.put, List.setIfInBounds_toArray, List.set_cons_succ, List.set_cons_zero]
        refine dw_val rfl rfl rfl ?_; apply Exists.intro; refine ⟨fun wv HC => ?_, ?_⟩
        ·  go_simp <;> rfl
        simp only [Act.put, List.setIfInBounds_toArray, List.set_cons_succ, List.set_cons_zero]
        refine dw_skip rfl rfl rfl ?_
        simp only [Act.put, List.setIfInBounds_toArray, List.set_cons_succ, List.set_cons_zero]
        refine dw_skip rfl rfl rfl ?_
        simp only [Act.put, List.setIfInBounds_toArray, List.set_cons_succ, List.set_cons_zero]
        refine dw_skip rfl rfl rfl ?_
        simp only [Act.put, List.setIfInBounds_toArray, List.set_cons_succ, List.set_cons_zero]
        refine dw_skip rfl rfl rfl ?_
        simp only [Act.put, List.setIfInBounds_toArray, List.set_cons_succ, List.set_cons_zero]
        refine dw_skip rfl rfl rfl ?_
        simp only [Act.put, List.setIfInBounds_toArray, List.set_cons_succ, List.set_cons_zero]
        refine dw_skip rfl rfl rfl ?_
        simp only [Act.put, List.setIfInBounds_toArray, List.set_cons_succ, List.set_cons_zero]
        refine dw_skip rfl rfl rfl ?_
        simp only [Act.put, List.setIfInBounds_toArray, List.set_cons_succ, List.set_cons_zero]
        refine dw_skip rfl rfl rfl ?_
        simp only [Act.put, List.setIfInBounds_toArray, List.set_cons_succ, List.set_cons_zero]
        refine dw_skip rfl rfl rfl ?_
        simp only [Act.put, List.setIfInBounds_toArray, List.set_cons_succ, List.set_cons_zero]
        refine dw_skip rfl rfl rfl ?_
        simp only [Act.put, List.setIfInBounds_toArray, List.set_cons_succ, List.set_cons_zero]
        refine dw_skip rfl rfl rfl ?_
        simp only [Act.put, List.setIfInBounds_toArray, List.set_cons_succ, List.set_cons_zero]
        refine dw_skip rfl rfl rfl ?_
        simp only [Act.put, List.setIfInBounds_toArray, List.set_cons_succ, List.set_cons_zero]
        refine dw_skip rfl rfl rfl ?_
        simp only [Act.put, List.setIfInBounds_toArray, List.set_cons_succ, List.set_cons_zero]
        refine dw_skip rfl rfl rfl ?_
        simp only [Act.put, List.setIfInBounds_toArray, List.set_cons_succ, List.set_cons_zero]
        refine dw_skip rfl rfl rfl ?_
        simp only [Act.put, List.setIfInBounds_toArray, List.set_cons_succ, List.set_cons_zero]
        refine dw_val rfl rfl rfl ?_; apply Exists.intro; refine ⟨fun wv HC => ?_, ?_⟩
        ·  go_simp <;> rfl
        simp only [Act.put, List.setIfInBounds_toArray, List.set_cons_succ, List.set_cons_zero]
        refine rel_nil ?_
        rintro wx9 HX9
        rintro _hrm _HG
        clear _hrm _HG
        rw [HKL.out] at HX9
        go_wp2_with fail
        go_ret
        exact ⟨by rw [HN.out] <;> rfl, HX9.below⟩
      · skip
        have HVT := hid HVB.out
        cases k with
        | zero =>
          have hz : decide (((0 : Nat) : Int) > 0) = false := by decide
          (try simp only [Nat.zero_mul, Nat.add_zero] at HF)
          have HN := hid (range_next HR.out (stoOk_zero HXT.out HVT.out))
          clear hKL K2
          refine wp_region_any (by kernel_rfl) ?_
          refine wpAny_hold 20 36 (KL) (spL [(16, IsV (.bool true))]) (by kernel_rfl) (by kernel_rfl) (by kernel_rfl) rfl ?_ (KN.drew) ?_
          · exact stays_cons isV_mono (stays_nil _)
          simp only [List.take_succ_cons, List.take_zero, List.drop_succ_cons, List.drop_zero, Act.put, List.getElem_toArray, List.getElem_cons_zero, List.getElem_cons_succ, List.setIfInBounds_toArray, List.set_cons_succ, List.set_cons_zero]
          refine dw_val rfl rfl rfl ?_; apply Exists.intro; refine ⟨fun wv HC => ?_, ?_⟩
          · obtain ⟨f0, f1, f2, f3, f4⟩ := HF.out _ HC; go_simp <;> rfl
          simp only [Act.put, List.setIfInBounds_toArray, List.set_cons_succ, List.set_cons_zero]
          refine dw_callR 16 (IsV (.bool true)) (f := 87) (args := #[.agg #[.string x.nm, .slice x.A x.n x.c, .int .i64 x.nx, .slice x.B x.m x.d]]) rfl rfl rfl rfl (fun wv => ?_) (fun wv HC hrm hD => ?_) ?_
          · go_simp <;> rfl
          · refine (tvalid_any _ wv HC.mutLt x.nm x.A x.n x.c x.cs x.nx x.B x.m x.d x.l ((HX.out _ HC).imp fun w h => h.1) ((HX.out _ HC).imp fun w h => h.2) HXB.out.1 HXB.out.2 HXO.out.l HXM.out.nm HXM.out.cs).mono ?_
            rintro e w5 ⟨rfl, b5⟩
            exact ⟨_, rfl, by rw [HVB.out]; rfl, HC.call b5, RM.below b5⟩
          rintro u_ wx HCx rfl
          clear HCx
          simp only [Act.put, List.setIfInBounds_toArray, List.set_cons_succ, List.set_cons_zero]
          refine dw_val rfl rfl rfl ?_; apply Exists.intro; refine ⟨fun wv HC => ?_, ?_⟩
          ·  go_simp <;> rfl
          simp only [Act.put, List.setIfInBounds_toArray, List.set_cons_succ, List.set_cons_zero]
          refine dw_val rfl rfl rfl ?_; apply Exists.intro; refine ⟨fun wv HC => ?_, ?_⟩
          ·  go_simp <;> rfl
          simp only [Act.put, List.setIfInBounds_toArray, List.set_cons_succ, List.set_cons_zero]
          refine dw_val rfl rfl rfl ?_; apply Exists.intro; refine ⟨fun wv HC => ?_, ?_⟩
          ·  go_simp <;> rfl
          simp only [Act.put, List.setIfInBounds_toArray, List.set_cons_succ, List.set_cons_zero]
          refine dw_val rfl rfl rfl ?_; apply Exists.intro; refine ⟨fun wv HC => ?_, ?_⟩
          ·  go_simp <;> rfl
          simp only [Act.put, List.setIfInBounds_toArray, List.set_cons_succ, List.set_cons_zero]
          refine dw_val rfl rfl rfl ?_; apply Exists.intro; refine ⟨fun wv HC => ?_, ?_⟩
          ·  go_simp <;> rfl
          simp only [Act.put, List.setIfInBounds_toArray, List.set_cons_succ, List.set_cons_zero]
          refine dw_skip rfl rfl rfl ?_
          simp only [Act.put, List.setIfInBounds_toArray, List.set_cons_succ, List.set_cons_zero]
          refine dw_skip rfl rfl rfl ?_
          simp only [Act.put, List.setIfInBounds_toArray, List.set_cons_succ, List.set_cons_zero]
          refine dw_skip rfl rfl rfl ?_
          simp only [Act.put, List.setIfInBounds_toArray, List.set_cons_succ, List.set_cons_zero]
          refine dw_skip rfl rfl rfl ?_
          simp only [Act.put, List.setIfInBounds_toArray, List.set_cons_succ, List.set_cons_zero]
          refine dw_skip rfl rfl rfl ?_
          simp only [Act.put, List.setIfInBounds_toArray, List.set_cons_succ, List.set_cons_zero]
          refine dw_skip rfl rfl rfl ?_
          simp only [Act.put, List.setIfInBounds_toArray, List.set_cons_succ, List.set_cons_zero]
          refine dw_skip rfl rfl rfl ?_
          simp only [Act.put, List.setIfInBounds_toArray, List.set_cons_succ, List.set_cons_zero]
          refine dw_skip rfl rfl rfl ?_
          simp only [Act.put, List.setIfInBounds_toArray, List.set_cons_succ, List.set_cons_zero]
          refine dw_skip rfl rfl rfl ?_
          simp only [Act.put, List.setIfInBounds_toArray, List.set_cons_succ, List.set_cons_zero]
          refine dw_skip rfl rfl rfl ?_
          simp only [Act.put, List.setIfInBounds_toArray, List.set_cons_succ, List.set_cons_zero]
          refine dw_skip rfl rfl rfl ?_
          simp only [Act.put, List.setIfInBounds_toArray, List.set_cons_succ, List.set_cons_zero]
          refine dw_val rfl rfl rfl ?_; apply Exists.intro; refine ⟨fun wv HC => ?_, ?_⟩
          ·  go_simp <;> rfl
          simp only [Act.put, List.setIfInBounds_toArray, List.set_cons_succ, List.set_cons_zero]
          refine dw_val rfl rfl rfl ?_; apply Exists.intro; refine ⟨fun wv HC => ?_, ?_⟩
          ·  go_simp <;> rfl
          simp only [Act.put, List.setIfInBounds_toArray, List.set_cons_succ, List.set_cons_zero]
          refine rel_nil ?_
          rintro wx9 HX9
          rintro _hrm _HG
          clear _hrm _HG
          rw [HKL.out] at HX9
          go_wp2_with fail
          go_roundw
          case rel => exact ⟨0 + 1, by omega, by go_num, HN, HX9.drop (List.sublist_cons_self _ _)⟩
          case measure => simp [intOf]; omega
        | succ j =>
          have hz : decide (((j + 1 : Nat) : Int) > 0) = true := by simp <;> omega
          have hz2 : decide ((j : Int) + 1 > 0) = true := by simp <;> omega
          have s1 : IntKind.i64.wrap (((j + 1 : Nat) : Int) - 1) = (j : Int) := by rw [IntKind.wrap_i64]; omega
          have s2 : IntKind.i64.wrap ((j : Int) + 1 - 1) = (j : Int) := by rw [IntKind.wrap_i64]; omega
          have s3 : IntKind.i64.wrap (j : Int) = (j : Int) := by rw [IntKind.wrap_i64]; omega
          have j2 : (0 : Int) ≤ (j : Int) := by omega
          have j3 : (j : Int) < (n : Int) := by omega
          have i2 : (0 : Int) ≤ (j : Int) + 1 := by omega
          have i3 : (j : Int) + 1 < (n : Int) := by omega
          obtain ⟨y, hy⟩ := get_of HL.out (show j < n by omega)
          have HYT := hid (te_at hy)
          have HIY := hid hy
          clear hy
          have HP : Hid (∀ wv, Hold M none w wv KL → wv.cell? ⟨g, o + j * 4, none⟩ = some (.string y.nm) ∧ g < wv.heap.size) := hid fun wv HC => by
            rw [hKL] at HC
            obtain ⟨g', o', e', hl, e0, -⟩ := (HC.ro 1 rfl).now.at_ HIY.out
            obtain ⟨rfl, rfl⟩ : g = g' ∧ o = o' := by injection e' with e'; injection e' with a1 a2; exact ⟨a1, a2⟩
            exact ⟨e0, hl⟩
          clear hKL K2
          cases hlt3 : Op.bytesLess y.nm.toList x.nm.toList with
          | true =>
            have HN := hid (range_next HR.out ((stoOk_next HXT.out HYT.out HVT.out).trans hlt3))
            refine wp_region_any (by kernel_rfl) ?_
            refine wpAny_hold 20 36 (KL) (spL [(16, IsV (.bool true))]) (by kernel_rfl) (by kernel_rfl) (by kernel_rfl) rfl ?_ (KN.drew) ?_
            · exact stays_cons isV_mono (stays_nil _)
            simp only [List.take_succ_cons, List.take_zero, List.drop_succ_cons, List.drop_zero, Act.put, List.getElem_toArray, List.getElem_cons_zero, List.getElem_cons_succ, List.setIfInBounds_toArray, List.set_cons_succ, List.set_cons_zero]
            refine dw_val rfl rfl rfl ?_; apply Exists.intro; refine ⟨fun wv HC => ?_, ?_⟩
            · obtain ⟨f0, f1, f2, f3, f4⟩ := HF.out _ HC; go_simp <;> rfl
            simp only [Act.put, List.setIfInBounds_toArray, List.set_cons_succ, List.set_cons_zero]
            refine dw_callR 16 (IsV (.bool true)) (f := 87) (args := #[.agg #[.string x.nm, .slice x.A x.n x.c, .int .i64 x.nx, .slice x.B x.m x.d]]) rfl rfl rfl rfl (fun wv => ?_) (fun wv HC hrm hD => ?_) ?_
            · go_simp <;> rfl
            · refine (tvalid_any _ wv HC.mutLt x.nm x.A x.n x.c x.cs x.nx x.B x.m x.d x.l ((HX.out _ HC).imp fun w h => h.1) ((HX.out _ HC).imp fun w h => h.2) HXB.out.1 HXB.out.2 HXO.out.l HXM.out.nm HXM.out.cs).mono ?_
              rintro e w5 ⟨rfl, b5⟩
              exact ⟨_, rfl, by rw [HVB.out]; rfl, HC.call b5, RM.below b5⟩
            rintro u_ wx HCx rfl
            clear HCx
            simp only [Act.put, List.setIfInBounds_toArray, List.set_cons_succ, List.set_cons_zero]
            refine dw_val rfl rfl rfl ?_; apply Exists.intro; refine ⟨fun wv HC => ?_, ?_⟩
            ·  go_simp <;> rfl
            simp only [Act.put, List.setIfInBounds_toArray, List.set_cons_succ, List.set_cons_zero]
            refine dw_val rfl rfl rfl ?_; apply Exists.intro; refine ⟨fun wv HC => ?_, ?_⟩
            ·  go_simp <;> rfl
            simp only [Act.put, List.setIfInBounds_toArray, List.set_cons_succ, List.set_cons_zero]
            refine dw_val rfl rfl rfl ?_; apply Exists.intro; refine ⟨fun wv HC => ?_, ?_⟩
            ·  go_simp <;> rfl
            simp only [Act.put, List.setIfInBounds_toArray, List.set_cons_succ, List.set_cons_zero]
            refine dw_val rfl rfl rfl ?_; apply Exists.intro; refine ⟨fun wv HC => ?_, ?_⟩
            ·  go_simp <;> rfl
            simp only [Act.put, List.setIfInBounds_toArray, List.set_cons_succ, List.set_cons_zero]
            refine dw_val rfl rfl rfl ?_; apply Exists.intro; refine ⟨fun wv HC => ?_, ?_⟩
            ·  go_simp <;> rfl
            simp only [Act.put, List.setIfInBounds_toArray, List.set_cons_succ, List.set_cons_zero]
            refine dw_val rfl rfl rfl ?_; apply Exists.intro; refine ⟨fun wv HC => ?_, ?_⟩
            · obtain ⟨f0, f1, f2, f3, f4⟩ := HF.out _ HC; obtain ⟨p0, p1⟩ := HP.out _ HC; go_simp <;> rfl
            simp only [Act.put, List.setIfInBounds_toArray, List.set_cons_succ, List.set_cons_zero]
            refine dw_val rfl rfl rfl ?_; apply Exists.intro; refine ⟨fun wv HC => ?_, ?_⟩
            · obtain ⟨f0, f1, f2, f3, f4⟩ := HF.out _ HC; obtain ⟨p0, p1⟩ := HP.out _ HC; go_simp <;> rfl
            simp only [Act.put, List.setIfInBounds_toArray, List.set_cons_succ, List.set_cons_zero]
            refine dw_val rfl rfl rfl ?_; apply Exists.intro; refine ⟨fun wv HC => ?_, ?_⟩
            · obtain ⟨f0, f1, f2, f3, f4⟩ := HF.out _ HC; obtain ⟨p0, p1⟩ := HP.out _ HC; go_simp <;> rfl
            simp only [Act.put, List.setIfInBounds_toArray, List.set_cons_succ, List.set_cons_zero]
            refine dw_val rfl rfl rfl ?_; apply Exists.intro; refine ⟨fun wv HC => ?_, ?_⟩
            · obtain ⟨f0, f1, f2, f3, f4⟩ := HF.out _ HC; obtain ⟨p0, p1⟩ := HP.out _ HC; go_simp <;> rfl
            simp only [Act.put, List.setIfInBounds_toArray, List.set_cons_succ, List.set_cons_zero]
            refine dw_val rfl rfl rfl ?_; apply Exists.intro; refine ⟨fun wv HC => ?_, ?_⟩
            · obtain ⟨f0, f1, f2, f3, f4⟩ := HF.out _ HC; obtain ⟨p0, p1⟩ := HP.out _ HC; go_simp <;> rfl
            simp only [Act.put, List.setIfInBounds_toArray, List.set_cons_succ, List.set_cons_zero]
            refine dw_val rfl rfl rfl ?_; apply Exists.intro; refine ⟨fun wv HC => ?_, ?_⟩
            · obtain ⟨f0, f1, f2, f3, f4⟩ := HF.out _ HC; obtain ⟨p0, p1⟩ := HP.out _ HC; go_simp <;> rfl
            simp only [Act.put, List.setIfInBounds_toArray, List.set_cons_succ, List.set_cons_zero]
            refine dw_val rfl rfl rfl ?_; apply Exists.intro; refine ⟨fun wv HC => ?_, ?_⟩
            · obtain ⟨f0, f1, f2, f3, f4⟩ := HF.out _ HC; obtain ⟨p0, p1⟩ := HP.out _ HC; go_simp <;> rfl
            simp only [Act.put, List.setIfInBounds_toArray, List.set_cons_succ, List.set_cons_zero]
            refine dw_val rfl rfl rfl ?_; apply Exists.intro; refine ⟨fun wv HC => ?_, ?_⟩
            · obtain ⟨f0, f1, f2, f3, f4⟩ := HF.out _ HC; obtain ⟨p0, p1⟩ := HP.out _ HC; go_simp <;> rfl
            simp only [Act.put, List.setIfInBounds_toArray, List.set_cons_succ, List.set_cons_zero]
            refine dw_val rfl rfl rfl ?_; apply Exists.intro; refine ⟨fun wv HC => ?_, ?_⟩
            · obtain ⟨f0, f1, f2, f3, f4⟩ := HF.out _ HC; obtain ⟨p0, p1⟩ := HP.out _ HC; go_simp <;> rfl
            simp only [Act.put, List.setIfInBounds_toArray, List.set_cons_succ, List.set_cons_zero]
            refine dw_val rfl rfl rfl ?_; apply Exists.intro; refine ⟨fun wv HC => ?_, ?_⟩
            · obtain ⟨f0, f1, f2, f3, f4⟩ := HF.out _ HC; obtain ⟨p0, p1⟩ := HP.out _ HC; go_simp <;> rfl
            simp only [Act.put, List.setIfInBounds_toArray, List.set_cons_succ, List.set_cons_zero]
            refine dw_val rfl rfl rfl ?_; apply Exists.intro; refine ⟨fun wv HC => ?_, ?_⟩
            · obtain ⟨f0, f1, f2, f3, f4⟩ := HF.out _ HC; obtain ⟨p0, p1⟩ := HP.out _ HC; go_simp <;> rfl
            simp only [Act.put, List.setIfInBounds_toArray, List.set_cons_succ, List.set_cons_zero]
            refine dw_val rfl rfl rfl ?_; apply Exists.intro; refine ⟨fun wv HC => ?_, ?_⟩
            ·  go_simp <;> rfl
            simp only [Act.put, List.setIfInBounds_toArray, List.set_cons_succ, List.set_cons_zero]
            refine dw_val rfl rfl rfl ?_; apply Exists.intro; refine ⟨fun wv HC => ?_, ?_⟩
            ·  go_simp <;> rfl
            simp only [Act.put, List.setIfInBounds_toArray, List.set_cons_succ, List.set_cons_zero]
            refine rel_nil ?_
            rintro wx9 HX9
            rintro _hrm _HG
            clear _hrm _HG
            rw [HKL.out] at HX9
            go_wp2_with fail
            go_roundw
            case rel => exact ⟨(j + 1) + 1, by omega, by go_num, HN, HX9.drop (List.sublist_cons_self _ _)⟩
            case measure => simp [intOf]; omega
          | false =>
            have HN := hid (storB_bad (by rw [List.length_map, HL.out]; exact hlt) ((stoOk_next HXT.out HYT.out HVT.out).trans hlt3))
            refine wp_region_any (by kernel_rfl) ?_
            refine wpAny_hold 20 36 (KL) (spL [(16, IsV (.bool true))]) (by kernel_rfl) (by kernel_rfl) (by kernel_rfl) rfl ?_ (KN.drew) ?_
            · exact stays_cons isV_mono (stays_nil _)
            simp only [List.take_succ_cons, List.take_zero, List.drop_succ_cons, List.drop_zero, Act.put, List.getElem_toArray, List.getElem_cons_zero, List.getElem_cons_succ, List.setIfInBounds_toArray, List.set_cons_succ, List.set_cons_zero]
            refine dw_val rfl rfl rfl ?_; apply Exists.intro; refine ⟨fun wv HC => ?_, ?_⟩
            · obtain ⟨f0, f1, f2, f3, f4⟩ := HF.out _ HC; go_simp <;> rfl
            simp only [Act.put, List.setIfInBounds_toArray, List.set_cons_succ, List.set_cons_zero]
            refine dw_callR 16 (IsV (.bool true)) (f := 87) (args := #[.agg #[.string x.nm, .slice x.A x.n x.c, .int .i64 x.nx, .slice x.B x.m x.d]]) rfl rfl rfl rfl (fun wv => ?_) (fun wv HC hrm hD => ?_) ?_
            · go_simp <;> rfl
            · refine (tvalid_any _ wv HC.mutLt x.nm x.A x.n x.c x.cs x.nx x.B x.m x.d x.l ((HX.out _ HC).imp fun w h => h.1) ((HX.out _ HC).imp fun w h => h.2) HXB.out.1 HXB.out.2 HXO.out.l HXM.out.nm HXM.out.cs).mono ?_
              rintro e w5 ⟨rfl, b5⟩
              exact ⟨_, rfl, by rw [HVB.out]; rfl, HC.call b5, RM.below b5⟩
            rintro u_ wx HCx rfl
            clear HCx
            simp only [Act.put, List.setIfInBounds_toArray, List.set_cons_succ, List.set_cons_zero]
            refine dw_val rfl rfl rfl ?_; apply Exists.intro; refine ⟨fun wv HC => ?_, ?_⟩
            ·  go_simp <;> rfl
            simp only [Act.put, List.setIfInBounds_toArray, List.set_cons_succ, List.set_cons_zero]
            refine dw_val rfl rfl rfl ?_; apply Exists.intro; refine ⟨fun wv HC => ?_, ?_⟩
            ·  go_simp <;> rfl
            simp only [Act.put, List.setIfInBounds_toArray, List.set_cons_succ, List.set_cons_zero]
            refine dw_val rfl rfl rfl ?_; apply Exists.intro; refine ⟨fun wv HC => ?_, ?_⟩
            ·  go_simp <;> rfl
            simp only [Act.put, List.setIfInBounds_toArray, List.set_cons_succ, List.set_cons_zero]
            refine dw_val rfl rfl rfl ?_; apply Exists.intro; refine ⟨fun wv HC => ?_, ?_⟩
            ·  go_simp <;> rfl
            simp only [Act.put, List.setIfInBounds_toArray, List.set_cons_succ, List.set_cons_zero]
            refine dw_val rfl rfl rfl ?_; apply Exists.intro; refine ⟨fun wv HC => ?_, ?_⟩
            ·  go_simp <;> rfl
            simp only [Act.put, List.setIfInBounds_toArray, List.set_cons_succ, List.set_cons_zero]
            refine dw_val rfl rfl rfl ?_; apply Exists.intro; refine ⟨fun wv HC => ?_, ?_⟩
            · obtain ⟨f0, f1, f2, f3, f4⟩ := HF.out _ HC; obtain ⟨p0, p1⟩ := HP.out _ HC; go_simp <;> rfl
            simp only [Act.put, List.setIfInBounds_toArray, List.set_cons_succ, List.set_cons_zero]
            refine dw_val rfl rfl rfl ?_; apply Exists.intro; refine ⟨fun wv HC => ?_, ?_⟩
            · obtain ⟨f0, f1, f2, f3, f4⟩ := HF.out _ HC; obtain ⟨p0, p1⟩ := HP.out _ HC; go_simp <;> rfl
            simp only [Act.put, List.setIfInBounds_toArray, List.set_cons_succ, List.set_cons_zero]
            refine dw_val rfl rfl rfl ?_; apply Exists.intro; refine ⟨fun wv HC => ?_, ?_⟩
            · obtain ⟨f0, f1, f2, f3, f4⟩ := HF.out _ HC; obtain ⟨p0, p1⟩ := HP.out _ HC; go_simp <;> rfl
            simp only [Act.put, List.setIfInBounds_toArray, List.set_cons_succ, List.set_cons_zero]
            refine dw_val rfl rfl rfl ?_; apply Exists.intro; refine ⟨fun wv HC => ?_, ?_⟩
            · obtain ⟨f0, f1, f2, f3, f4⟩ := HF.out _ HC; obtain ⟨p0, p1⟩ := HP.out _ HC; go_simp <;> rfl
            simp only [Act.put, List.setIfInBounds_toArray, List.set_cons_succ, List.set_cons_zero]
            refine dw_val rfl rfl rfl ?_; apply Exists.intro; refine ⟨fun wv HC => ?_, ?_⟩
            · obtain ⟨f0, f1, f2, f3, f4⟩ := HF.out _ HC; obtain ⟨p0, p1⟩ := HP.out _ HC; go_simp <;> rfl
            simp only [Act.put, List.setIfInBounds_toArray, List.set_cons_succ, List.set_cons_zero]
            refine dw_val rfl rfl rfl ?_; apply Exists.intro; refine ⟨fun wv HC => ?_, ?_⟩
            · obtain ⟨f0, f1, f2, f3, f4⟩ := HF.out _ HC; obtain ⟨p0, p1⟩ := HP.out _ HC; go_simp <;> rfl
            simp only [Act.put, List.setIfInBounds_toArray, List.set_cons_succ, List.set_cons_zero]
            refine dw_val rfl rfl rfl ?_; apply Exists.intro; refine ⟨fun wv HC => ?_, ?_⟩
            · obtain ⟨f0, f1, f2, f3, f4⟩ := HF.out _ HC; obtain ⟨p0, p1⟩ := HP.out _ HC; go_simp <;> rfl
            simp only [Act.put, List.setIfInBounds_toArray, List.set_cons_succ, List.set_cons_zero]
            refine dw_val rfl rfl rfl ?_; apply Exists.intro; refine ⟨fun wv HC => ?_, ?_⟩
            · obtain ⟨f0, f1, f2, f3, f4⟩ := HF.out _ HC; obtain ⟨p0, p1⟩ := HP.out _ HC; go_simp <;> rfl
            simp only [Act.put, List.setIfInBounds_toArray, List.set_cons_succ, List.set_cons_zero]
            refine dw_val rfl rfl rfl ?_; apply Exists.intro; refine ⟨fun wv HC => ?_, ?_⟩
            · obtain ⟨f0, f1, f2, f3, f4⟩ := HF.out _ HC; obtain ⟨p0, p1⟩ := HP.out _ HC; go_simp <;> rfl
            simp only [Act.put, List.setIfInBounds_toArray, List.set_cons_succ, List.set_cons_zero]
            refine dw_val rfl rfl rfl ?_; apply Exists.intro; refine ⟨fun wv HC => ?_, ?_⟩
            · obtain ⟨f0, f1, f2, f3, f4⟩ := HF.out _ HC; obtain ⟨p0, p1⟩ := HP.out _ HC; go_simp <;> rfl
            simp only [Act.put, List.setIfInBounds_toArray, List.set_cons_succ, List.set_cons_zero]
            refine dw_val rfl rfl rfl ?_; apply Exists.intro; refine ⟨fun wv HC => ?_, ?_⟩
            · obtain ⟨f0, f1, f2, f3, f4⟩ := HF.out _ HC; obtain ⟨p0, p1⟩ := HP.out _ HC; go_simp <;> rfl
            simp only [Act.put, List.setIfInBounds_toArray, List.set_cons_succ, List.set_cons_zero]
            refine dw_val rfl rfl rfl ?_; apply Exists.intro; refine ⟨fun wv HC => ?_, ?_⟩
            ·  go_simp <;> rfl
            simp only [Act.put, List.setIfInBounds_toArray, List.set_cons_succ, List.set_cons_zero]
            refine dw_val rfl rfl rfl ?_; apply Exists.intro; refine ⟨fun wv HC => ?_, ?_⟩
            ·  go_simp <;> rfl
            simp only [Act.put, List.setIfInBounds_toArray, List.set_cons_succ, List.set_cons_zero]
            refine rel_nil ?_
            rintro wx9 HX9
            rintro _hrm _HG
            clear _hrm _HG
            rw [HKL.out] at HX9
            go_wp2_with fail
            go_ret
            exact ⟨by rw [HN.out] <;> rfl, HX9.below⟩
    · obtain rfl : k = n := by omega
      have hdd : decide ((k : Int) < (k : Int)) = false := by simp
      have HN := hid (storB_end (by rw [List.length_map]; exact HL.out) (by omega) HR.out)
      go_wp2_with fail
      go_ret
      exact ⟨by rw [HN.out] <;> rfl, H.below⟩
end Go.Proofs.YtedogodccblfeaaGreatDoor

namespace Go.Proofs.YtedogodccblfeaaGreatDoor
open Go.RowKit
set_option linter.unusedVariables false
set_option linter.unusedSimpArgs false

theorem sametb_any (w : World) (x y : Te) (hx : TeIn x w) (hy : TeIn y w) (hn : x.n ≤ 4398046511104 ∧ x.m ≤ 4398046511104 ∧ ∀ q ∈ x.l, q.n ≤ 4398046511104) :
    Calls Tryz.prog 69 #[.agg #[.string x.nm, .slice x.A x.n x.c, .int .i64 x.nx, .slice x.B x.m x.d], .agg #[.string y.nm, .slice y.A y.n y.c, .int .i64 y.nx, .slice y.B y.m y.d]] w fun e w' => e = .returned (.bool (decide (x.tb = y.tb))) ∧ Below w.heap.size w w' :=
  sametable_any w x.nm x.A x.n x.c x.cs x.nx x.B x.m x.d x.l y.nm y.A y.n y.c y.cs y.nx y.B y.m y.d y.l hx.1 hy.1 hx.2 hy.2 hn.1 hn.2.1 hn.2.2
set_option maxHeartbeats 4000000 in
set_option maxRecDepth 100000 in
theorem eqTables_any (M : Nat → Prop) (w : World) (hM : ∀ b, M b → b < w.heap.size) (A : Option Addr) (n c : Nat) (xs : List Te) (B : Option Addr) (m d : Nat) (ys : List Te) (hD : Ro w M (TesIn A n xs)) (hE : Ro w M (TesIn B m ys)) (hn : n ≤ 4398046511204) (hr : ∀ r ∈ xs, r.n ≤ 4398046511104 ∧ r.m ≤ 4398046511104 ∧ ∀ q ∈ r.l, q.n ≤ 4398046511104) (hs : ∀ r ∈ ys, r.n ≤ 4398046511104 ∧ r.m ≤ 4398046511104 ∧ ∀ q ∈ r.l, q.n ≤ 4398046511104) :
    Calls Tryz.prog 68 #[.slice A n c, .slice B m d, .func (.func 69) #[] #[]] w fun e w' => e = .returned (.bool (decide (xs.map Te.tb = ys.map Te.tb))) ∧ Below w.heap.size w w' := by
  have HL := hid hD.now.len
  have HK := hid hE.now.len
  by_cases hnm : n = m
  · subst hnm
    have hb : ((n : Int) != (n : Int)) = false := by simp
    have K0 := ((Hold.start M w hM).add (hE.less (by simp [Mut]))).add (hD.less (by simp [Mut, Hp.foot]))
    clear hD hE
    go_enter Tryz.func68, Tryz.ntmps68
    go_wp2_with fail
    go_loopw [17] (fun i wr => ∃ (k : Nat), k ≤ n ∧ i = .int .i64 k ∧ Hid ((xs.map Te.tb).take k = (ys.map Te.tb).take k) ∧ Hold M none w wr [.ro (TesIn A n xs), .ro (TesIn B n ys)]) (fun i _ => n - (intOf i).toNat)
    case atStart => exact ⟨0, by omega, rfl, hid (by simp), K0⟩
    case round =>
      clear K0
      obtain ⟨k, hk, rfl, HTK, H⟩ := hrel
      by_cases hlt : k < n
      · have hd : decide ((k : Int) < (n : Int)) = true := by simp; omega
        have i0 : (0 : Int) ≤ (k : Int) := by omega
        have i1 : (k : Int) < (n : Int) := by omega
        obtain ⟨x, hx⟩ := get_of HL.out hlt
        obtain ⟨y, hy⟩ := get_of HK.out hlt
        have HXN := hid (hr x (List.mem_of_getElem? hx))
        have HYN := hid (hs y (List.mem_of_getElem? hy))
        have HX := hid (show (xs.map Te.tb)[k]? = some (Te.tb x) by simp [hx])
        have HY := hid (show (ys.map Te.tb)[k]? = some (Te.tb y) by simp [hy])
        have HXM := hid (List.mem_of_getElem? hx)
        have HYM := hid (List.mem_of_getElem? hy)
        obtain ⟨g, o, rfl, hbx, x0, x1, x2, x3, -⟩ := (H.ro 0 rfl).now.at_ hx
        obtain ⟨g', o', rfl, hby, y0, y1, y2, y3, -⟩ := (H.ro 1 rfl).now.at_ hy
        have K2 := (H.alloc_cst #[.string x.nm, .slice x.A x.n x.c, .int .i64 x.nx, .slice x.B x.m x.d] 58).alloc_cst #[.string y.nm, .slice y.A y.n y.c, .int .i64 y.nx, .slice y.B y.m y.d] 58
        clear hx hy H
        have FA := K2.facts
        simp only [World.size_alloc, World.size_drew, factsL, cellsF, Nat.reduceAdd, List.toList_toArray, List.set_cons_zero, List.set_cons_succ, List.setIfInBounds_toArray, and_true, true_and] at FA
        go_wp2_with fail
        refine (sametb_any _ x y ((K2.ro 2 rfl).now.2 x HXM.out) ((K2.ro 3 rfl).now.2 y HYM.out) HXN.out).mono ?_
        rintro e w3 ⟨rfl, b3⟩
        have K3 := (K2.call b3).drop (List.Sublist.cons _ (List.sublist_cons_self _ _))
        clear K2 FA b3
        by_cases hb : Te.tb x = Te.tb y
        · have HB := hid (takeEq_succ HX.out HY.out HTK.out hb)
          rw [decide_eq_true hb]
          clear hb
          go_wp2_with fail
          go_roundw
          case rel => exact ⟨k + 1, by omega, by go_num, HB, K3⟩
          case measure => simp [intOf]; omega
        · have HB := hid (beqL_no HX.out HY.out hb)
          rw [decide_eq_false hb]
          clear hb
          go_wp2_with fail
          go_ret
          exact ⟨by rw [HB.out] <;> rfl, K3.below⟩
      · obtain rfl : n = k := by omega
        have hd : decide ((n : Int) < (n : Int)) = false := by simp
        have HB := hid (show decide (xs.map Te.tb = ys.map Te.tb) = true by
          have h := HTK.out
          rw [List.take_of_length_le (by rw [List.length_map, HL.out]; exact Nat.le_refl _), List.take_of_length_le (by rw [List.length_map, HK.out]; exact Nat.le_refl _)] at h
          simp [h])
        go_wp2_with fail
        go_ret
        exact ⟨by rw [HB.out] <;> rfl, H.below⟩
  · have hb : ((n : Int) != (m : Int)) = true := by simp; omega
    have HB := hid (show decide (xs.map Te.tb = ys.map Te.tb) = false by
      rw [decide_eq_false_iff_not]; intro h; have h1 := congrArg List.length h; rw [List.length_map, List.length_map, HL.out, HK.out] at h1; exact hnm h1)
    go_enter Tryz.func68, Tryz.ntmps68
    go_wp2_with fail
    go_ret
    exact ⟨by rw [HB.out] <;> rfl, Below.refl _ _⟩
theorem sameTables_any (M : Nat → Prop) (w : World) (hM : ∀ b, M b → b < w.heap.size) (A : Option Addr) (n c : Nat) (xs : List Te) (B : Option Addr) (m d : Nat) (ys : List Te) (hD : Ro w M (TesIn A n xs)) (hE : Ro w M (TesIn B m ys)) (hn : n ≤ 4398046511204) (hr : ∀ r ∈ xs, r.n ≤ 4398046511104 ∧ r.m ≤ 4398046511104 ∧ ∀ q ∈ r.l, q.n ≤ 4398046511104) (hs : ∀ r ∈ ys, r.n ≤ 4398046511104 ∧ r.m ≤ 4398046511104 ∧ ∀ q ∈ r.l, q.n ≤ 4398046511104) :
    Calls Tryz.prog 21 #[.slice A n c, .slice B m d] w fun e w' => e = .returned (.bool (decide (xs.map Te.tb = ys.map Te.tb))) ∧ Below w.heap.size w w' := by
  have HE := hid (eqTables_any M w hM A n c xs B m d ys hD hE hn hr hs)
  clear hD hE hr hs
  go_enter Tryz.func21, Tryz.ntmps21
  go_wp2_with fail
  refine HE.out.mono ?_
  rintro e w1 ⟨rfl, b1⟩
  have HB := hid b1
  clear b1 HE
  go_wp2_with fail
  go_ret
  exact ⟨rfl, HB.out⟩
/-- the place of the first table with a name -/
def findS (l : List Tb) (s : ByteArray) : Int := findB (fun t => t.nm.toList == s.toList) l
set_option maxHeartbeats 2000000 in
theorem stfind1_any (w : World) (x : Te) (b : Nat) (s : ByteArray) (t : TypeId) (hb : w.heap[b]? = some (.cells #[.string s] t (0, 0))) :
    Calls Tryz.prog 89 #[.agg #[.string x.nm, .slice x.A x.n x.c, .int .i64 x.nx, .slice x.B x.m x.d], .pointer (some ⟨b, 0, none⟩)] w fun e w' => e = .returned (.bool (x.nm.toList == s.toList)) ∧ Below w.heap.size w w' := by
  have hbl : b < w.heap.size := Blk.lt (t := t) (cs := #[.string s]) hb
  have K0 := ((Hold.begin_ w).addCst (g := b) (t := t) (cs := #[.string s]) (fun w2 h1 h2 => (h2 b hbl (by simp [Mut, None_])).trans hb)).alloc_cst #[.string x.nm, .slice x.A x.n x.c, .int .i64 x.nx, .slice x.B x.m x.d] 58
  have F0 := K0.facts
  simp only [World.size_alloc, World.size_drew, factsL, cellsF, Nat.reduceAdd, List.toList_toArray, List.set_cons_zero, List.set_cons_succ, List.setIfInBounds_toArray, and_true, true_and] at F0
  go_enter Tryz.func89, Tryz.ntmps89
  go_wp2_with fail
  go_ret
  exact ⟨rfl, K0.below⟩
set_option maxHeartbeats 2000000 in
set_option maxRecDepth 100000 in
theorem stfindI_any (M : Nat → Prop) (w : World) (hM : ∀ b, M b → b < w.heap.size) (A : Option Addr) (n c : Nat) (l : List Te) (b : Nat) (s : ByteArray) (t : TypeId) (hB : Ro w M (fun w => w.heap[b]? = some (.cells #[.string s] t (0, 0)))) (hD : Ro w M (TesIn A n l)) (hn : n ≤ 4611686018427387904) :
    Calls Tryz.prog 88 #[.slice A n c, .func (.func 89) #[] #[.pointer (some ⟨b, 0, none⟩)]] w fun e w' => e = .returned (.int .i64 (findS (l.map Te.tb) s)) ∧ Below w.heap.size w w' := by
  have HL := hid hD.now.len
  have K0 := (((Hold.start M w hM).add (hB.less (by simp [Mut]))).add (hD.less (by simp [Mut, Hp.foot])))
  go_enter Tryz.func88, Tryz.ntmps88
  go_wp2_with fail
  go_loopw [8] (fun iv wr => ∃ (k : Nat), k ≤ n ∧ iv = .int .i64 k ∧ Hid (findS (l.map Te.tb) s = findFrom (fun t => t.nm.toList == s.toList) k ((l.map Te.tb).drop k)) ∧ Hold M none w wr [.ro (TesIn A n l), .ro (fun w => w.heap[b]? = some (.cells #[.string s] t (0, 0)))]) (fun iv _ => n - (intOf iv).toNat)
  case atStart => exact ⟨0, by omega, rfl, hid rfl, K0⟩
  case round =>
    clear K0
    obtain ⟨k, hk, rfl, HC, H⟩ := hrel
    by_cases hlt : k < n
    · have hd : decide ((k : Int) < (n : Int)) = true := by simp; omega
      have i0 : (0 : Int) ≤ (k : Int) := by omega
      have i1 : (k : Int) < (n : Int) := by omega
      obtain ⟨x, hx⟩ := get_of HL.out hlt
      obtain ⟨g, o, rfl, hb, c0, c1, c2, c3, -⟩ := (H.ro 0 rfl).now.at_ hx
      have HX := hid (te_at hx)
      clear hx
      go_wp2_with fail
      refine (stfind1_any wr x b s t (H.ro 1 rfl).now).mono ?_
      rintro e w1 ⟨rfl, b1⟩
      have K1 := H.call b1
      clear H b1
      cases hz : (x.nm.toList == s.toList)
      · have HN := hid (find_miss HC.out HX.out hz)
        clear hz
        go_wp2_with fail
        go_roundw
        case rel => exact ⟨k + 1, by omega, by go_num, HN, K1⟩
        case measure => simp [intOf]; omega
      · have HN := hid (show findS (l.map Te.tb) s = (k : Int) from find_hit HC.out HX.out hz)
        clear hz
        go_wp2_with fail
        go_ret
        exact ⟨by rw [HN.out] <;> rfl, K1.below⟩
    · obtain rfl : n = k := by omega
      have hd : decide ((n : Int) < (n : Int)) = false := by simp
      have HN := hid (show findS (l.map Te.tb) s = -1 from find_end HC.out (by rw [List.length_map, HL.out]; exact Nat.le_refl _))
      go_wp2_with fail
      go_ret
      exact ⟨by rw [HN.out] <;> rfl, H.below⟩
set_option maxHeartbeats 2000000 in
theorem stfind_any (M : Nat → Prop) (w : World) (hM : ∀ b, M b → b < w.heap.size) (A : Option Addr) (n c : Nat) (l : List Te) (s : ByteArray) (hD : Ro w M (TesIn A n l)) (hn : n ≤ 4611686018427387904) :
    Calls Tryz.prog 35 #[.slice A n c, .string s] w fun e w' => e = .returned (.int .i64 (findS (l.map Te.tb) s)) ∧ Below w.heap.size w w' := by
  have K0 := ((Hold.start M w hM).add (hD.less (by simp [Mut]))).alloc_cst #[.string s] 9
  clear hD
  go_enter Tryz.func35, Tryz.ntmps35
  go_wp2_with fail
  refine (stfindI_any _ _ K0.mutLt A n c l w.heap.size s 9 (K0.get 0 rfl) (K0.ro 1 rfl) hn).mono ?_
  rintro e w1 ⟨rfl, b1⟩
  have K1 := K0.call b1
  clear K0 b1
  go_wp2_with fail
  go_ret
  exact ⟨rfl, K1.below⟩
end Go.Proofs.YtedogodccblfeaaGreatDoor

namespace Go.Proofs.YtedogodccblfeaaGreatDoor
open Go.RowKit
set_option linter.unusedVariables false
set_option linter.unusedSimpArgs false

theorem VTab.lim {x : Te} {w : World} (ho : x.ok) (hw : TeIn x w) (h : VTab x.tb) : x.n ≤ 100 ∧ x.m ≤ 100 ∧ ∀ r ∈ x.l, r.ok ∧ r.n ≤ 4 := by
  have h1 := h.sch.len
  have h2 := h.rows
  have l1 : x.cs.length = x.n := (RdC.of_sl hw.1).len
  have l2 : x.l.length = x.m := hw.2.len
  have e1 : x.tb.cs = x.cs := rfl
  have e2 : x.tb.rs = x.l.map Rw.row := rfl
  rw [e1] at h1
  rw [e2, List.length_map] at h2
  refine ⟨by omega, by omega, fun r hr => ⟨ho.l r hr, ?_⟩⟩
  have h3 := h.len r.row (by rw [e2]; exact List.mem_map_of_mem hr)
  have h4 : r.vs.length = r.n := (hw.2.2 r hr).len
  have h5 : r.row.2 = r.vs := rfl
  rw [h5] at h3; omega
theorem VTab.tbm {t : Tb} (h : VTab t) : TbM t :=
  ⟨h.sch.nm, h.sch.cs, by have := h.rows; omega, fun r hr => by have := h.len r hr; omega⟩
theorem VTab.ids {x : Te} (h : VTab x.tb) : ∀ r ∈ x.l, r.id ≠ 0 := fun r hr => by
  have h9 := ((okR_asc (tabB_ok h.val).2.2.2.2.1).2 r.row (List.mem_map_of_mem hr)).1
  have h10 : r.row.1 = r.id := rfl
  rw [h10] at h9; omega
theorem te_apart {w : World} {Q : Nat → Prop} {x : Te} (h : Ro w Q (TeIn x)) (hv : VTab x.tb) {ga : Nat} {t : TypeId} (hg : w.heap[ga]? = some (.cells zeroTc t (0, 0))) : Ro w (fun b => b = ga ∨ Q b) (TeIn x) :=
  (((h.imp fun w h => h.1).colsOff hg).less fun b hb => hb.elim .inr .inl).and (rws_apart (h.imp fun w h => h.2) hg hv.ids)
theorem uesIn_take {w : World} {b o n : Nat} {l : List Ue} (h : UesIn (some ⟨b, o, none⟩) n l w) {k : Nat} (hk : k ≤ n) : UesIn (some ⟨b, o, none⟩) k (l.take k) w := by
  have hl := h.len
  refine ⟨?_, fun x hx => h.2 x (List.mem_of_mem_take hx)⟩
  have h1 : Rd w w.heap.size 5 (some ⟨b, o, none⟩) n (ueCells l) := h.1
  refine ⟨by rw [ueCells_len, List.length_take, Nat.min_eq_left (by omega)], fun h0 => ?_⟩
  obtain ⟨b', o', e, hb, hc⟩ := h1.2 (by omega)
  refine ⟨b', o', e, hb, fun j u hu => hc j u ?_⟩
  have e2 : ueCells l = ueCells (l.take k) ++ ueCells (l.drop k) := by
    unfold ueCells; rw [← List.flatMap_append, List.take_append_drop]
  rw [e2, List.getElem?_append_left (List.getElem?_eq_some_iff.1 hu).1]
  exact hu
theorem back_next {lg : List Ue} {to r : Nat} {u : Ue} (h : lg[to + r]? = some u) : ((lg.drop to).take (r + 1)).reverse.map Ue.ud = u.ud :: ((lg.drop to).take r).reverse.map Ue.ud := by
  rw [List.take_add_one, List.getElem?_drop, h]; simp
end Go.Proofs.YtedogodccblfeaaGreatDoor

namespace Go.Proofs.YtedogodccblfeaaGreatDoor
open Go.RowKit
set_option linter.unusedVariables false
set_option linter.unusedSimpArgs false

/-- a store of log, t and u -/
structure StOk (S : List Tb) : Prop where
  len : S.length = 3
  at_ : ∀ (j : Nat) (t : Tb), S[j]? = some t → t.nm = nm3 j ∧ t.cs = cs3 j ∧ VTab t
theorem Sto3.st {N : Nat} {l : List Te} (h : Sto3 N 3 l) : StOk (l.map Te.tb) := by
  refine ⟨by rw [List.length_map, h.len], fun j t ht => ?_⟩
  rw [List.getElem?_map] at ht
  cases hx : l[j]? with
  | none => rw [hx] at ht; cases ht
  | some x =>
    rw [hx] at ht
    obtain rfl : x.tb = t := by simpa using ht
    exact ⟨(h.at_ j x hx).1, (h.at_ j x hx).2, (h.ok x (List.mem_of_getElem? hx)).2.1⟩
theorem StOk.set {S : List Tb} (h : StOk S) {k : Nat} {a x : Tb} (hk : S[k]? = some a) (hn : x.nm = a.nm) (hc : x.cs = a.cs) (hv : VTab x) : StOk (S.set k x) := by
  refine ⟨by rw [List.length_set, h.len], fun j t ht => ?_⟩
  rw [List.getElem?_set] at ht
  split at ht
  · rename_i hj
    subst hj
    split at ht
    · injection ht with ht
      subst ht
      exact ⟨hn.trans (h.at_ k a hk).1, hc.trans (h.at_ k a hk).2.1, hv⟩
    · cases ht
  · exact h.at_ j t ht
theorem less3 : Op.bytesLess (nm3 0).toList (nm3 1).toList = true ∧ Op.bytesLess (nm3 1).toList (nm3 2).toList = true := by decide +kernel
theorem StOk.stor {S : List Tb} (h : StOk S) : storB S = true := by
  refine storB_end h.len (by omega) ?_
  have g : ∀ j, j < 3 → ∃ t, S[j]? = some t := fun j hj => ⟨S[j]'(by rw [h.len]; exact hj), List.getElem?_eq_getElem _⟩
  obtain ⟨a, ha⟩ := g 0 (by omega)
  obtain ⟨b, hb⟩ := g 1 (by omega)
  obtain ⟨c, hc⟩ := g 2 (by omega)
  refine range_next (range_next (range_next rfl (stoOk_zero ha (h.at_ 0 a ha).2.2.val)) ?_) ?_
  · rw [stoOk_next hb ha (h.at_ 1 b hb).2.2.val, (h.at_ 0 a ha).1, (h.at_ 1 b hb).1]; exact less3.1
  · rw [stoOk_next hc hb (h.at_ 2 c hc).2.2.val, (h.at_ 1 b hb).1, (h.at_ 2 c hc).1]; exact less3.2
theorem StOk.find {S : List Tb} (h : StOk S) {k : Nat} {t : Tb} (hk : S[k]? = some t) : findT S t.nm = (k : Int) := by
  refine findT_at ?_ hk
  have hl := h.len
  match S, hl, h with
  | [a, b, c], _, h =>
    have ha := (h.at_ 0 a rfl).1
    have hb := (h.at_ 1 b rfl).1
    have hc := (h.at_ 2 c rfl).1
    simp only [List.map_cons, List.map_nil, ha, hb, hc]
    decide +kernel
end Go.Proofs.YtedogodccblfeaaGreatDoor

namespace Go.Proofs.YtedogodccblfeaaGreatDoor
open Go.RowKit
set_option linter.unusedVariables false
set_option linter.unusedSimpArgs false

theorem ApOk.rows {t : Tb} {ins : List (List Vl)} {dels : List Int} {us : List Upd} {T : Tb} (h : ApOk t.nm t.cs t.nx t.rs ins dels us T) : T.rs.length ≤ t.rs.length + ins.length := by
  rw [h.tb]
  show (keepR dels us t.rs ++ insR t.nx ins).length ≤ _
  have h1 : (keepR dels us t.rs).length ≤ t.rs.length := by unfold keepR; simp; exact List.length_filter_le _ _
  have h2 : (insR t.nx ins).length = ins.length := by unfold insR; simp
  rw [List.length_append, h2]; omega
/-- what Apply answers of a table and a change that brings at most three rows -/
def Ap3 (M : Nat → Prop) (t : Tb) (u : Value) (w : World) : Prop := ∃ (ins : List (List Vl)) (dels : List Int) (us : List Upd), ApSlot M (applyC t.nm t.cs t.nx t.rs ins dels us) u w ∧ ins.length ≤ 3
theorem ap3_mono {M : Nat → Prop} {t : Tb} (u : Value) (w w' : World) (hr : RM M w w') (h : Ap3 M t u w) : Ap3 M t u w' := by
  obtain ⟨i, d, s, h1, h2⟩ := h
  exact ⟨i, d, s, apSlot_mono _ _ _ hr h1, h2⟩
end Go.Proofs.YtedogodccblfeaaGreatDoor

namespace Go.Proofs.YtedogodccblfeaaGreatDoor
open Go.RowKit
set_option linter.unusedVariables false
set_option linter.unusedSimpArgs false

/-- what a step hands back: nothing done, or one change recorded -/
def StepD (S : List Tb) (us : List Ud) (S' : List Tb) (us' : List Ud) : Prop :=
  (S' = S ∧ us' = us) ∨ ∃ (k : Nat) (a x : Tb) (u : Ud), S[k]? = some a ∧ StepU u a x ∧ x.rs.length ≤ a.rs.length + 3 ∧ S' = S.set k x ∧ us' = us ++ [u]
theorem snoc_at {α : Type} {l : List α} {x y : α} {j : Nat} (h : (l ++ [x])[j]? = some y) : (j < l.length ∧ l[j]? = some y) ∨ (j = l.length ∧ y = x) := by
  rw [List.getElem?_append] at h
  split at h
  · rename_i hj; exact .inl ⟨hj, h⟩
  · rename_i hj
    right
    have h1 := (List.getElem?_eq_some_iff.1 h).1
    simp only [List.length_cons, List.length_nil] at h1
    have h2 : j = l.length := by omega
    subst h2
    simp at h
    exact ⟨rfl, h.symm⟩
/-- the first i steps: the stores and the logs, and each log leads back -/
structure Hist (i : Nat) (SS : List (List Tb)) (UU : List (List Ud)) : Prop where
  lenS : SS.length = i + 1
  lenU : UU.length = i + 1
  st : ∀ (j : Nat) (S : List Tb), SS[j]? = some S → StOk S ∧ ∀ t ∈ S, t.rs.length ≤ 4 + 3 * j
  lg : ∀ (j : Nat) (U : List Ud), UU[j]? = some U → U.length ≤ j
  back : ∀ (S : List Tb) (U : List Ud), SS[i]? = some S → UU[i]? = some U → ∀ (j : Nat) (Sj : List Tb) (Uj : List Ud), SS[j]? = some Sj → UU[j]? = some Uj → U.take Uj.length = Uj ∧ BackR ((U.drop Uj.length).reverse) S Sj
theorem Hist.zero {S : List Tb} (h : StOk S) (hr : ∀ t ∈ S, t.rs.length ≤ 4) : Hist 0 [S] [[]] := by
  refine ⟨rfl, rfl, fun j T hT => ?_, fun j U hU => ?_, fun T U hT hU j Tj Uj hj1 hj2 => ?_⟩
  · rcases j with _ | j
    · obtain rfl : S = T := by simpa using hT
      exact ⟨h, fun t ht => by have := hr t ht; omega⟩
    · simp at hT
  · rcases j with _ | j
    · obtain rfl : [] = U := by simpa using hU
      exact Nat.le_refl _
    · simp at hU
  · rcases j with _ | j
    · obtain rfl : S = T := by simpa using hT
      obtain rfl : S = Tj := by simpa using hj1
      obtain rfl : [] = U := by simpa using hU
      obtain rfl : [] = Uj := by simpa using hj2
      exact ⟨rfl, rfl⟩
    · simp at hj1
theorem Hist.next {i : Nat} {SS : List (List Tb)} {UU : List (List Ud)} {S S' : List Tb} {U U' : List Ud} (h : Hist i SS UU) (hS : SS[i]? = some S) (hU : UU[i]? = some U) (hd : StepD S U S' U') : Hist (i + 1) (SS ++ [S']) (UU ++ [U']) := by
  have hS' : StOk S' ∧ (∀ t ∈ S', t.rs.length ≤ 4 + 3 * (i + 1)) ∧ U'.length ≤ i + 1 ∧ ∀ (j : Nat) (Sj : List Tb) (Uj : List Ud), SS[j]? = some Sj → UU[j]? = some Uj → U'.take Uj.length = Uj ∧ BackR ((U'.drop Uj.length).reverse) S' Sj := by
    have h1 := h.st i S hS
    have h2 := h.lg i U hU
    rcases hd with ⟨rfl, rfl⟩ | ⟨k, a, x, u, hk, hu, hr, rfl, rfl⟩
    · exact ⟨h1.1, fun t ht => by have := h1.2 t ht; omega, by omega, fun j Sj Uj a b => h.back S' U' hS hU j Sj Uj a b⟩
    · have hst : StOk (S.set k x) := h1.1.set hk hu.later.1 hu.later.2.1 hu.vb
      have hkl : k < S.length := (List.getElem?_eq_some_iff.1 hk).1
      have hx : (S.set k x)[k]? = some x := List.getElem?_set_self hkl
      have hn : u.nm = x.nm := by rw [hu.rec_, hu.later.1]; rfl
      refine ⟨hst, fun t ht => ?_, by simp; omega, fun j Sj Uj hj1 hj2 => ?_⟩
      · rcases List.mem_or_eq_of_mem_set ht with ht | rfl
        · have := h1.2 t ht; omega
        · have := h1.2 a (List.mem_of_getElem? hk); omega
      · obtain ⟨g1, g2⟩ := h.back S U hS hU j Sj Uj hj1 hj2
        have hl : Uj.length ≤ U.length := by have := congrArg List.length g1; simp at this; omega
        refine ⟨by rw [List.take_append_of_le_length hl]; exact g1, ?_⟩
        rw [List.drop_append_of_le_length hl, List.reverse_append]
        exact back_step hk (by rw [hn]; exact hst.find hx) hu g2
  obtain ⟨a1, a2, a3, a4⟩ := hS'
  have l1 := h.lenS
  have l2 := h.lenU
  refine ⟨by simp [l1], by simp [l2], fun j T hT => ?_, fun j V hV => ?_, fun T V hT hV j Sj Uj hj1 hj2 => ?_⟩
  · rcases snoc_at hT with ⟨_, h1⟩ | ⟨h1, rfl⟩
    · exact h.st j T h1
    · exact ⟨a1, fun t ht => by have := a2 t ht; omega⟩
  · rcases snoc_at hV with ⟨_, h1⟩ | ⟨h1, rfl⟩
    · exact h.lg j V h1
    · omega
  · rcases snoc_at hT with ⟨h1, _⟩ | ⟨_, rfl⟩
    · omega
    rcases snoc_at hV with ⟨h1, _⟩ | ⟨_, rfl⟩
    · omega
    rcases snoc_at hj1 with ⟨h1, h3⟩ | ⟨h1, rfl⟩
    · rcases snoc_at hj2 with ⟨h2, h4⟩ | ⟨h2, rfl⟩
      · exact a4 j Sj Uj h3 h4
      · omega
    · rcases snoc_at hj2 with ⟨h2, h4⟩ | ⟨h2, rfl⟩
      · omega
      · exact ⟨List.take_length, by rw [List.drop_length]; rfl⟩
theorem mem_turn {rs l : List Row} {u : Upd} (h : u ∈ turnR rs l) : ∃ r ∈ l, ∃ o, getR rs r.1 = some o ∧ u = (r.1, o, r.2) := by
  obtain ⟨r, hr, h2⟩ := List.mem_filterMap.1 h
  split at h2
  · rename_i o ho
    split at h2
    · cases h2
    · injection h2 with h2
      exact ⟨r, hr, o, ho, h2.symm⟩
  · cases h2
/-- the difference of two tables of a few rows is small -/
theorem betD_small {a b : Tb} (va : VTab a) (vb : VTab b) (la : a.rs.length ≤ 19) (lb : b.rs.length ≤ 22) {N K : Nat} (hN : 25 ≤ N) (hK : 4 ≤ K) :
    (betD a b).ins.length ≤ N ∧ (betD a b).del.length ≤ N ∧ (betD a b).upd.length ≤ N ∧ (∀ r ∈ (betD a b).ins, r.2.length ≤ K) ∧ (∀ r ∈ (betD a b).del, r.2.length ≤ K) ∧ ∀ u ∈ (betD a b).upd, u.2.1.length ≤ K ∧ u.2.2.length ≤ K := by
  refine ⟨?_, ?_, ?_, fun r hr => ?_, fun r hr => ?_, fun u hu => ?_⟩
  · have : (offR a.rs b.rs).length ≤ b.rs.length := List.length_filter_le _ _
    show (offR a.rs b.rs).length ≤ _
    omega
  · have : (offR b.rs a.rs).length ≤ a.rs.length := List.length_filter_le _ _
    show (offR b.rs a.rs).length ≤ _
    omega
  · have : (turnR a.rs b.rs).length ≤ b.rs.length := List.length_filterMap_le _ _
    show (turnR a.rs b.rs).length ≤ _
    omega
  · have := vb.len r (List.mem_filter.1 (show r ∈ offR a.rs b.rs from hr)).1; omega
  · have := va.len r (List.mem_filter.1 (show r ∈ offR b.rs a.rs from hr)).1; omega
  · obtain ⟨r, hr, o, ho, rfl⟩ := mem_turn hu
    have k1 := vb.len r hr
    have k2 := va.len _ (getR_out ho)
    dsimp only at k1 k2 ⊢
    omega
end Go.Proofs.YtedogodccblfeaaGreatDoor

namespace Go.Proofs.YtedogodccblfeaaGreatDoor
open Go.RowKit
set_option linter.unusedVariables false
set_option linter.unusedSimpArgs false

set_option maxHeartbeats 8000000 in
set_option maxRecDepth 100000 in
theorem dbetw_any (M : Nat → Prop) (w : World) (hM : ∀ b, M b → b < w.heap.size) (va vb : Value) (a b : Tb) (hTa : TbAt w M va a) (hTb : TbAt w M vb b) (hsa : a.nm.size ≤ maxLen) (hca : ∀ x ∈ a.cs, x.name.size ≤ maxLen) (hra : a.rs.length ≤ 4398046511104) (hsb : b.nm.size ≤ maxLen) (hcb : ∀ x ∈ b.cs, x.name.size ≤ maxLen) (hrb : b.rs.length ≤ 4398046511104) :
    Calls Tryz.prog 81 #[va, vb] w fun e w' => BetRet w M (betweenC a b) e w' := by
  obtain ⟨aA, an, ac, aB, am, ad, la, rfl, a1, a2, a3, a4, a5, a6, a7, a8⟩ := hTa
  obtain ⟨bA, bn, bc, bB, bm, bd, lb, rfl, b1, b2, b3, b4, b5, b6, b7, b8⟩ := hTb
  have HAL := hid (show la.length = am from a6.now.len)
  have HBL := hid (show lb.length = bm from b6.now.len)
  have HAR := hid a8
  have HBR := hid b8
  have HAO := hid a7
  have HBO := hid b7
  have HAE := hid a6.now
  have HBE := hid b6.now
  have HAC := hid (show a.cs.length = an from cols_n a5.now)
  have ham : am ≤ 4398046511104 := by have := HAL.out; have h := congrArg List.length a8; rw [List.length_map] at h; omega
  have hbm : bm ≤ 4398046511104 := by have := HBL.out; have h := congrArg List.length b8; rw [List.length_map] at h; omega
  have K0 := (((((((Hold.start M w hM).add (b6.less (by simp [Mut]))).add (b5.less (by simp [Mut, Hp.foot]))).add (a6.less (by simp [Mut, Hp.foot]))).add (a5.less (by simp [Mut, Hp.foot]))).alloc_cst #[.string a.nm, .slice aA an ac, .int .i64 a.nx, .slice aB am ad] 58).alloc_cst #[.string b.nm, .slice bA bn bc, .int .i64 b.nx, .slice bB bm bd] 58).alloc #[.string ⟨#[]⟩, .slice none 0 0, .slice none 0 0, .slice none 0 0] 44
  simp only [World.size_alloc] at K0
  have F0 := K0.facts
  simp only [World.size_alloc, World.size_drew, factsL, cellsF, Nat.reduceAdd, List.toList_toArray, List.set_cons_zero, List.set_cons_succ, List.setIfInBounds_toArray, and_true, true_and] at F0
  clear a5 a6 a7 a8 b5 b6 b7 b8
  go_enter Tryz.func81, Tryz.ntmps81
  go_wp2
  go_step3
  go_wp2_with fail
  obtain ⟨g2, hg2⟩ : ∃ g, g = w.heap.size := ⟨_, rfl⟩
  obtain ⟨g3, hg3⟩ : ∃ g, g = g2 + 1 := ⟨_, rfl⟩
  obtain ⟨g4, hg4⟩ : ∃ g, g = g3 + 1 := ⟨_, rfl⟩
  rw [← hg2, ← hg3, ← hg4] at K0 ⊢
  clear F0
  generalize ((w.alloc _).alloc _).alloc _ = w1 at K0 ⊢
  have HGX := hid hg2
  clear hg2 hg3 hg4
  have hv := tvalid_any _ _ K0.mutLt a.nm aA an ac a.cs a.nx aB am ad la (K0.ro 3 rfl) (K0.ro 4 rfl) (by omega) (by omega) HAO.out hsa hca
  rw [HAR.out] at hv
  refine hv.mono ?_
  clear hv
  rintro e w2 ⟨rfl, b1_⟩
  have K1 := K0.call b1_
  clear K0 b1_
  have F1 := K1.facts
  simp only [World.size_alloc, World.size_drew, factsL, cellsF, Nat.reduceAdd, List.toList_toArray, List.set_cons_zero, List.set_cons_succ, List.setIfInBounds_toArray, and_true, true_and] at F1
  cases hva : tabB a.nm a.cs a.nx a.rs
  · have HN := hid (betC_a (b := b) hva)
    clear hva
    have KN := (((K1.store 0 rfl 0 (.string ⟨#[]⟩)).store 0 rfl 1 (.slice none 0 0)).store 0 rfl 2 (.slice none 0 0)).store 0 rfl 3 (.slice none 0 0)
    go_wp2_with fail
    exact bodyPost_ret (v := .tuple #[.agg #[.string ⟨#[]⟩, .slice none 0 0, .slice none 0 0, .slice none 0 0], .bool false]) (by simp [results, Tryz.results81, go_sem, F1]) rfl ⟨_, by rw [HN.out], by rw [HN.out]; exact dlAt_zero, KN.below⟩
  have HVA := hid hva
  clear hva
  go_wp2_with fail
  have hv := tvalid_any _ _ K1.mutLt b.nm bA bn bc b.cs b.nx bB bm bd lb (K1.ro 5 rfl) (K1.ro 6 rfl) (by omega) (by omega) HBO.out hsb hcb
  rw [HBR.out] at hv
  refine hv.mono ?_
  clear hv
  rintro e w3 ⟨rfl, b1_⟩
  have K2 := K1.call b1_
  clear K1 b1_ F1
  have F2 := K2.facts
  simp only [World.size_alloc, World.size_drew, factsL, cellsF, Nat.reduceAdd, List.toList_toArray, List.set_cons_zero, List.set_cons_succ, List.setIfInBounds_toArray, and_true, true_and] at F2
  cases hvb : tabB b.nm b.cs b.nx b.rs
  · have HN := hid (betC_b (a := a) hvb)
    clear hvb
    have KN := (((K2.store 0 rfl 0 (.string ⟨#[]⟩)).store 0 rfl 1 (.slice none 0 0)).store 0 rfl 2 (.slice none 0 0)).store 0 rfl 3 (.slice none 0 0)
    go_wp2_with fail
    exact bodyPost_ret (v := .tuple #[.agg #[.string ⟨#[]⟩, .slice none 0 0, .slice none 0 0, .slice none 0 0], .bool false]) (by simp [results, Tryz.results81, go_sem, F2]) rfl ⟨_, by rw [HN.out], by rw [HN.out]; exact dlAt_zero, KN.below⟩
  have HVB := hid hvb
  clear hvb hsa hca hsb hcb
  have han6 : an ≤ 6 := by have := tabB_cols HVA.out; have := HAC.out; omega
  have ham1 : am ≤ 100 := by have := (tabB_rows HVA.out).1; have h := congrArg List.length HAR.out; rw [List.length_map] at h; have := HAL.out; omega
  have hbm1 : bm ≤ 100 := by have := (tabB_rows HVB.out).1; have h := congrArg List.length HBR.out; rw [List.length_map] at h; have := HBL.out; omega
  have HSA := hid (rw_short HAE.out (by rw [HAR.out]; exact HVA.out))
  have HSB := hid (rw_short HBE.out (by rw [HBR.out]; exact HVB.out))
  clear ham hbm hra hrb
  go_wp2_with fail
  refine (dsameschema_any _ a.nm aA an ac a.cs b.nm bA bn bc b.cs (K2.ro 3 rfl).now (K2.ro 5 rfl).now (by omega)).mono ?_
  rintro e w4 ⟨rfl, b1_⟩
  have K3 := K2.call b1_
  clear K2 b1_ F2
  have F3 := K3.facts
  simp only [World.size_alloc, World.size_drew, factsL, cellsF, Nat.reduceAdd, List.toList_toArray, List.set_cons_zero, List.set_cons_succ, List.setIfInBounds_toArray, and_true, true_and] at F3
  cases hss : decide (a.nm = b.nm ∧ a.cs = b.cs)
  · have HN := hid (betC_s hss)
    clear hss
    have KN := (((K3.store 0 rfl 0 (.string ⟨#[]⟩)).store 0 rfl 1 (.slice none 0 0)).store 0 rfl 2 (.slice none 0 0)).store 0 rfl 3 (.slice none 0 0)
    go_wp2_with fail
    exact bodyPost_ret (v := .tuple #[.agg #[.string ⟨#[]⟩, .slice none 0 0, .slice none 0 0, .slice none 0 0], .bool false]) (by simp [results, Tryz.results81, go_sem, F3]) rfl ⟨_, by rw [HN.out], by rw [HN.out]; exact dlAt_zero, KN.below⟩
  have HEQ := hid (of_decide_eq_true hss)
  clear hss
  by_cases hnx : b.nx < a.nx
  · have hd : decide (b.nx < a.nx) = true := by simpa using hnx
    have HN := hid (betC_n hnx)
    clear hnx
    have KN := (((K3.store 0 rfl 0 (.string ⟨#[]⟩)).store 0 rfl 1 (.slice none 0 0)).store 0 rfl 2 (.slice none 0 0)).store 0 rfl 3 (.slice none 0 0)
    go_wp2_with fail
    exact bodyPost_ret (v := .tuple #[.agg #[.string ⟨#[]⟩, .slice none 0 0, .slice none 0 0, .slice none 0 0], .bool false]) (by simp [results, Tryz.results81, go_sem, F3]) rfl ⟨_, by rw [HN.out], by rw [HN.out]; exact dlAt_zero, KN.below⟩
  have hd : decide (b.nx < a.nx) = false := by simpa using hnx
  have HST := hid (BSt.zero HVA.out HVB.out HEQ.out (show a.nx ≤ b.nx by omega))
  clear hnx
  have K4 := K3.alloc #[.string a.nm, .slice none 0 0, .slice none 0 0, .slice none 0 0] 44
  go_wp2
  go_step3
  go_wp2
  obtain ⟨g6, hg6⟩ : ∃ g, g = w4.heap.size := ⟨_, rfl⟩
  rw [← hg6] at K4 ⊢
  have HG6 := hid hg6
  clear hg6 hd F3 K3
  generalize World.alloc w4 _ = w5 at K4 ⊢
  have K5 := ((((((K4.add (show Ro _ _ (PrVals []) from fun _ _ _ r hr => nomatch hr)).add (ro_vals_nil _ _)).add (ro_vals_nil _ _)).nil 110 3).nil 119 2).nil 119 2)
  have K6 := K5.add (show Ro _ _ (RwsIn aB am (la.drop 0)) from K5.ro 11 rfl)
  clear K4 K5
  go_loopg [7, 46] bm (fun gh bv iv wr => ∃ (j p np cp ni ci nd cd nu cu : Nat) (Ap I D U : Option Addr) (li ld : List Rw) (lu : List Pr), j + gh = bm ∧ iv = .int .i64 j ∧ bv = .slice Ap np cp ∧ np + p = am ∧ p ≤ am ∧ ni ≤ j ∧ nd ≤ p ∧ nu ≤ j ∧ np ≤ cp ∧ cp ≤ 9223372036854775807 ∧ Hid (BSt a b j p li ld lu) ∧ Hold M none w wr [.ro (RwsIn Ap np (la.drop p)), .own 119 2 (.slice I ni ci) ni (rwCells li), .own 119 2 (.slice D nd cd) nd (rwCells ld), .own 110 3 (.slice U nu cu) nu (prCells lu), .ro (ValsIn li), .ro (ValsIn ld), .ro (PrVals lu), .blk g6 44 #[.string a.nm, .slice I ni ci, .slice D nd cd, .slice U nu cu], .blk g4 44 #[.string ⟨#[]⟩, .slice none 0 0, .slice none 0 0, .slice none 0 0], .cst g3 58 #[.string b.nm, .slice bA bn bc, .int .i64 b.nx, .slice bB bm bd], .cst g2 58 #[.string a.nm, .slice aA an ac, .int .i64 a.nx, .slice aB am ad], .ro (ColsIn aA an a.cs), .ro (RwsIn aB am la), .ro (ColsIn bA bn b.cs), .ro (RwsIn bB bm lb)])
  case atStart => exact ⟨0, 0, am, ad, 0, 0, 0, 0, 0, 0, aB, none, none, none, [], [], [], by omega, rfl, rfl, by omega, by omega, by omega, by omega, by omega, a3, a4, HST, K6⟩
  case round =>
    clear K6
    obtain ⟨j, p, np, cp, ni, ci, nd, cd, nu, cu, Ap, I, D, U, li, ld, lu, hj, rfl, rfl, hnp, hpm, hni, hnd, hnu, hncp, hcp, HBS, H⟩ := hrel
    obtain ⟨wo, rfl⟩ : ∃ wo : World, wo = wr := ⟨_, rfl⟩
    cases gk with
    | succ go =>
      have hlt : j < bm := by omega
      have hd : decide ((j : Int) < (bm : Int)) = true := by simp; omega
      have j0 : (0 : Int) ≤ (j : Int) := by omega
      have j1 : (j : Int) < (bm : Int) := by omega
      obtain ⟨r, hr⟩ := get_of HBL.out hlt
      obtain ⟨bb, bo, rfl, hbb, c0, c1, _⟩ := (H.ro 14 rfl).now.at_ hr
      have HRR := hid (show b.rs[j]? = some r.row by rw [← HBR.out, List.getElem?_map, hr]; rfl)
      have HRO := hid (HBO.out r (List.mem_of_getElem? hr))
      have hrn6 := HSB.out r (List.mem_of_getElem? hr)
      have hxr : Ro wo _ (VlsIn r.A r.n r.vs) := (H.ro 14 rfl).imp fun w2 h2 => h2.2 r (List.mem_of_getElem? hr)
      obtain ⟨rid, rA, rn, rc, rvs⟩ := r
      dsimp only at *
      clear hr
      have K1 := (H.add hxr).alloc_cst #[.int .i64 rid, .slice rA rn rc] 119
      clear H hxr
      obtain ⟨g9, hg9⟩ : ∃ g, g = wo.heap.size := ⟨_, rfl⟩
      rw [← hg9] at K1
      go_wp2_with fail
      rw [← hg9]
      have HG9 := hid hg9
      clear hg9 c0 c1
      generalize World.alloc wo _ = wo2 at K1 ⊢
      go_loopg [7] np (fun gh bv wq => ∃ (p np cp nd cd : Nat) (Ap D : Option Addr) (ld : List Rw), gh = np ∧ bv = .slice Ap np cp ∧ np + p = am ∧ p ≤ am ∧ nd ≤ p ∧ np ≤ cp ∧ cp ≤ 9223372036854775807 ∧ Hid (BSt a b j p li ld lu) ∧ Hold M none w wq [.cst g9 119 #[.int .i64 rid, .slice rA rn rc], .ro (VlsIn rA rn rvs), .ro (RwsIn Ap np (la.drop p)), .own 119 2 (.slice I ni ci) ni (rwCells li), .own 119 2 (.slice D nd cd) nd (rwCells ld), .own 110 3 (.slice U nu cu) nu (prCells lu), .ro (ValsIn li), .ro (ValsIn ld), .ro (PrVals lu), .blk g6 44 #[.string a.nm, .slice I ni ci, .slice D nd cd, .slice U nu cu], .blk g4 44 #[.string ⟨#[]⟩, .slice none 0 0, .slice none 0 0, .slice none 0 0], .cst g3 58 #[.string b.nm, .slice bA bn bc, .int .i64 b.nx, .slice (some ⟨bb, bo, none⟩) bm bd], .cst g2 58 #[.string a.nm, .slice aA an ac, .int .i64 a.nx, .slice aB am ad], .ro (ColsIn aA an a.cs), .ro (RwsIn aB am la), .ro (ColsIn bA bn b.cs), .ro (RwsIn (some ⟨bb, bo, none⟩) bm lb)])
      case atStart => exact ⟨p, np, cp, nd, cd, Ap, D, ld, rfl, rfl, hnp, hpm, hnd, hncp, hcp, HBS, K1⟩
      case round =>
        clear K1 HBS hnp hpm hnd hncp hcp
        clear p np cp nd cd Ap D ld
        obtain ⟨p, np, cp, nd, cd, Ap, D, ld, hgh, rfl, hnp, hpm, hnd, hncp, hcp, HBS, H2⟩ := hrel
        cases gk with
        | succ gi =>
          have hnp0 : 0 < np := by omega
          have hq1 : decide ((np : Int) > 0) = true := by rw [decide_eq_true_iff]; omega
          have hq2 : ((0 : Int) < (np : Int)) := by omega
          obtain ⟨x, hx⟩ := get_of HAL.out (show p < am by omega)
          have HXX := hid (show a.rs[p]? = some x.row by rw [← HAR.out, List.getElem?_map, hx]; rfl)
          have HXO := hid (HAO.out x (List.mem_of_getElem? hx))
          have hxn6 := HSA.out x (List.mem_of_getElem? hx)
          have hdr := drop_cons hx
          have hbf := H2.ro 2 rfl
          rw [hdr] at hbf
          obtain ⟨bx, ox, rfl, _⟩ := hbf.tailRws
          have HDR := hid hdr
          obtain ⟨b', o', e', hbx', x0, x1, _⟩ := hbf.now.at_ (k := 0) rfl
          obtain ⟨rfl, rfl⟩ : bx = b' ∧ ox = o' := by injection e' with e'; injection e' with e1 e2; exact ⟨e1, e2⟩
          simp only [Nat.zero_mul, Nat.add_zero] at x0 x1
          clear hx hdr hbf e'
          obtain ⟨xid, xA, xn, xc, xvs⟩ := x
          dsimp only at *
          have F2 := H2.facts
          simp only [World.size_alloc, World.size_drew, factsL, cellsF, Nat.reduceAdd, List.toList_toArray, List.set_cons_zero, List.set_cons_succ, List.setIfInBounds_toArray, and_true, true_and] at F2
          by_cases hle : xid ≤ rid
          · have hd2 : decide (xid ≤ rid) = true := by simpa using hle
            go_wp2_with fail
            go_quiet (fail)
            have H3 := H2.drewN nq
            clear H2 F2 x0 x1
            obtain ⟨w3, hw3⟩ : ∃ w3, w3 = wr.drewN nq := ⟨_, rfl⟩
            rw [← hw3] at H3 ⊢
            clear hw3
            have hbf : Ro w3 _ (RwsIn (some ⟨bx, ox, none⟩) np (⟨xid, xA, xn, xc, xvs⟩ :: la.drop (p + 1))) := (H3.ro 2 rfl).imp fun w2 h2 => by rw [← HDR.out]; exact h2
            obtain ⟨bx', ox', e', hnxt⟩ := hbf.tailRws
            obtain ⟨rfl, rfl⟩ : bx = bx' ∧ ox = ox' := by injection e' with e'; injection e' with e1 e2; exact ⟨e1, e2⟩
            obtain ⟨b', o', e2', hbx', x0, x1, _⟩ := hbf.now.at_ (k := 0) rfl
            obtain ⟨rfl, rfl⟩ : bx = b' ∧ ox = o' := by injection e2' with e2'; injection e2' with e1 e2; exact ⟨e1, e2⟩
            simp only [Nat.zero_mul, Nat.add_zero] at x0 x1
            have hxx : Ro w3 _ (VlsIn xA xn xvs) := hbf.imp fun w2 h2 => h2.2 _ (List.mem_cons_self ..)
            have K2 := (H3.add hxx).alloc_cst #[.int .i64 xid, .slice xA xn xc] 119
            clear e' e2' hbf hxx
            have hnp1 : 1 ≤ np := by omega
            by_cases hc1 : cp = 1
            · have HZ := hid (show la.drop (p + 1) = [] from List.drop_of_length_le (by rw [HAL.out]; omega))
              have KX := K2.swapRo 4 rfl (Ro.nilRws (A := some ⟨bx, ox, none⟩) (n := np - 1) (l := la.drop (p + 1)) (by omega) HZ.out)
              simp only [List.set_cons_zero, List.set_cons_succ] at KX
              clear K2 H3 hnxt
              have FK := KX.facts
              simp only [World.size_alloc, World.size_drew, factsL, cellsF, Nat.reduceAdd, List.toList_toArray, List.set_cons_zero, List.set_cons_succ, List.setIfInBounds_toArray, and_true, true_and] at FK
              by_cases hlt3 : xid < rid
              · have hd4 : decide (xid < rid) = true := by simpa using hlt3
                obtain ⟨KL, hKL, KN⟩ := KX.name
                have HF : Hid (∀ wv, Hold M none w wv KL → (wv.cell? ⟨g6, 2, none⟩ = some (.slice D nd cd) ∧ g6 < wv.heap.size) ∧ wv.cell? ⟨w3.heap.size, 0, none⟩ = some (.int .i64 xid) ∧ wv.cell? ⟨w3.heap.size, 1, none⟩ = some (.slice xA xn xc) ∧ w3.heap.size < wv.heap.size) := hid fun wv HC => by
                  rw [hKL] at HC
                  have y1 := HC.blk_ 11 rfl
                  have y2 := HC.cst_ 0 rfl
                  exact ⟨⟨cell_of_row _ _ 2 _ _ _ y1, Blk.lt y1⟩, cell_of_row _ _ 0 _ _ _ y2, cell_of_row _ _ 1 _ _ _ y2, Blk.lt y2⟩
                have HRX : Hid (∀ wv, Hold M none w wv KL → Ro wv (Mut M KL) (VlsIn xA xn xvs)) := hid fun wv HC => by
                  rw [hKL] at HC ⊢
                  exact HC.ro 1 rfl
                have HKL := hid hKL
                clear hKL KX
                go_wp2_with fail
                refine wp_region_any (by kernel_rfl) ?_
                refine wpAny_hold 5 128 (KL) (spL [(75, RowSlot (Mut M KL) xid xvs), (76, RBoxSlot (Mut M KL) xid xvs)]) (by kernel_rfl) (by kernel_rfl) (by kernel_rfl) rfl ?_ (KN.drew) ?_
                · exact stays_cons rowSlot_mono (stays_cons rboxSlot_mono (stays_nil _))
                simp only [List.take_succ_cons, List.take_zero, List.drop_succ_cons, List.drop_zero, Act.put, List.getElem_toArray, List.getElem_cons_zero, List.getElem_cons_succ, List.setIfInBounds_toArray, List.set_cons_succ, List.set_cons_zero]
                refine dw_val rfl rfl rfl ?_; apply Exists.intro; refine ⟨fun wv HC => ?_, ?_⟩
                ·  go_simp <;> rfl
                simp only [Act.put, List.setIfInBounds_toArray, List.set_cons_succ, List.set_cons_zero]
                refine dw_val rfl rfl rfl ?_; apply Exists.intro; refine ⟨fun wv HC => ?_, ?_⟩
                · obtain ⟨⟨f0, f1⟩, f2, f3, f4⟩ := HF.out _ HC; go_simp <;> rfl
                simp only [Act.put, List.setIfInBounds_toArray, List.set_cons_succ, List.set_cons_zero]
                refine dw_val rfl rfl rfl ?_; apply Exists.intro; refine ⟨fun wv HC => ?_, ?_⟩
                · obtain ⟨⟨f0, f1⟩, f2, f3, f4⟩ := HF.out _ HC; go_simp <;> rfl
                simp only [Act.put, List.setIfInBounds_toArray, List.set_cons_succ, List.set_cons_zero]
                refine dw_callR 75 (RowSlot (Mut M KL) xid xvs) (f := 147) (args := #[.agg #[.int .i64 xid, .slice xA xn xc]]) rfl rfl rfl rfl (fun wv => ?_) (fun wv HC hrm hD => ?_) ?_
                · go_simp <;> rfl
                · refine (dcopied_any _ wv HC.mutLt xid xA xn xc xvs (HRX.out _ HC) (by omega)).mono ?_
                  rintro e w5 ⟨A5, n5, c5, rfl, h50, h51, h52, h53, b5⟩
                  exact ⟨_, rfl, ⟨A5, n5, c5, rfl, h50, h51, h52, h53⟩, HC.call b5, RM.below b5⟩
                rintro x_ wx HCx ⟨A5, n5, c5, rfl, -, -, -, -⟩
                clear HCx
                simp only [Act.put, List.setIfInBounds_toArray, List.set_cons_succ, List.set_cons_zero]
                refine dw_new #[.int .i64 xid, .slice A5 n5 c5] 119 76 (RBoxSlot (Mut M KL) xid xvs) (fun g => .slice (some ⟨g, 0, none⟩) 1 1) rfl rfl rfl rfl (fun wv => ?_) (fun wv HC _hrm hD hro => ?_) ?_
                · go_simp <;> rfl
                · have hsl : RowSlot (Mut M KL) xid xvs (.agg #[.int .i64 xid, .slice A5 n5 c5]) wv := deps_at hD 3 rfl (by kernel_rfl) rfl rfl
                  obtain ⟨A6, n6, c6, e6, h1, h2, h3, h4⟩ := hsl
                  obtain ⟨rfl, rfl, rfl⟩ : A5 = A6 ∧ n5 = n6 ∧ c5 = c6 := by
                    injection e6 with e6
                    simp at e6
                    exact e6
                  exact ⟨_, A5, n5, c5, rfl, h1, h2, h3, h4.step (by simp) (fun b hb _ => Below.heap_alloc wv _ b hb) (fun _ _ h => h), ro_block (hro _ HC.mutLt) rfl⟩
                rintro gn wg HCg hsl
                simp only [Act.put, List.setIfInBounds_toArray, List.set_cons_succ, List.set_cons_zero]
                clear hsl HCg
                refine rel_nil ?_
                rintro wx2 HX
                rintro _hrm HGW
                have hb2 : RBoxSlot (Mut M KL) xid xvs (.slice (some ⟨gn, 0, none⟩) 1 1) wx2 := (GW_on (d := 76) rfl).1 (HGW 4 _ rfl (by omega))
                clear HGW _hrm
                obtain ⟨gq, A6, n6, c6, e6, k0_, k1_, k2_, k3_, k4_⟩ := hb2
                obtain rfl : gn = gq := by injection e6 with e6; injection e6 with e6; injection e6
                clear e6
                rw [HKL.out] at HX k3_
                have k5 := hid k4_.now
                have HK0 := hid (And.intro k0_ (And.intro k1_ k2_))
                clear k4_ k0_ k1_ k2_ HF HRX KN
                have HRS := hid (show rwCells ld ++ [.int .i64 xid, .slice A6 n6 c6] = rwCells (ld ++ [⟨xid, A6, n6, c6, xvs⟩]) from rwCells_snoc1 _ _ _ _ _ _)
                have KA := HX.add k3_
                clear HX k3_
                have FKA := KA.facts
                simp only [World.size_alloc, World.size_drew, factsL, cellsF, Nat.reduceAdd, List.toList_toArray, List.set_cons_zero, List.set_cons_succ, List.setIfInBounds_toArray, and_true, true_and] at FKA
                go_wp2_with (at_builtin; go_must (refine wpList_appAllH KA 7 rfl Tryz.elRw k5.out rfl (.tmp 73) (.tmp 76) rfl rfl rfl (by intro z hz; simp at hz; rcases hz with rfl | rfl <;> rfl) (by omega) (by omega) ?_); intro C' cap' w6 hc6 hm6 KB; rw [HRS.out] at KB; simp only [List.set_cons_zero, List.set_cons_succ] at KB; (have F3 := KB.facts); simp only [World.size_alloc, World.size_drew, factsL, cellsF, Nat.reduceAdd, List.toList_toArray, List.set_cons_zero, List.set_cons_succ, List.setIfInBounds_toArray, and_true, true_and] at F3)
                have KD := KB.store 12 rfl 2 (.slice C' (nd + 1) cap')
                have KE := (KD.swapRo 10 rfl (vals_snoc (r := ⟨xid, A6, n6, c6, xvs⟩) (KD.ro 10 rfl) (KD.ro 0 rfl))).drop (List.sublist_cons_self _ _)
                clear KB KD FKA k5
                have HBN := hid (HBS.out.left HXX.out HRR.out hlt3 (y := ⟨xid, A6, n6, c6, xvs⟩) rfl ⟨HXO.out.id, HK0.out.2.1, HK0.out.2.2, HXO.out.vs⟩)
                have KZ := KE.drop (List.Sublist.cons _ (List.sublist_cons_self _ _))
                go_roundg gi
                case measure => omega
                case rel => exact ⟨p + 1, np - 1, 0, nd + 1, cap', (some ⟨bx, ox, none⟩), C', _, by omega, by first | rfl | (simp <;> omega), by omega, by omega, by omega, by omega, by omega, HBN, KZ⟩
              · obtain rfl : xid = rid := by omega
                have hd4 : decide (xid < xid) = false := by simp
                clear hlt3
                go_wp2_with fail
                refine (eqVls_any _ xA xn xc xvs rA rn rc rvs (KX.ro 1 rfl).now (KX.ro 3 rfl).now (by omega)).mono ?_
                rintro e w7 ⟨rfl, q7, rfl⟩
                have KY := KX.drewN q7
                clear KX FK
                have FK := KY.facts
                simp only [World.size_alloc, World.size_drew, factsL, cellsF, Nat.reduceAdd, List.toList_toArray, List.set_cons_zero, List.set_cons_succ, List.setIfInBounds_toArray, and_true, true_and] at FK
                by_cases hvv : xvs = rvs
                · rw [decide_eq_true hvv]
                  have HBN := hid (HBS.out.same HXX.out HRR.out rfl hvv)
                  clear hvv
                  have KZ := KY.drop (List.Sublist.cons _ (List.Sublist.cons _ (List.Sublist.cons _ (List.sublist_cons_self _ _))))
                  go_wp2_with fail
                  go_roundg go
                  case measure => omega
                  case rel => exact ⟨j + 1, p + 1, np - 1, 0, ni, ci, nd, cd, nu, cu, (some ⟨bx, ox, none⟩), I, D, U, li, ld, lu, by omega, by first | rfl | go_num, by first | rfl | (simp <;> omega), by omega, by omega, by omega, by omega, by omega, by omega, by omega, HBN, KZ⟩
                · rw [decide_eq_false hvv]
                  have HNE := hid hvv
                  clear hvv
                  obtain ⟨KL, hKL, KN⟩ := KY.name
                  have HF : Hid (∀ wv, Hold M none w wv KL → (wv.cell? ⟨g6, 3, none⟩ = some (.slice U nu cu) ∧ g6 < wv.heap.size) ∧ wv.cell? ⟨g9, 0, none⟩ = some (.int .i64 xid) ∧ wv.cell? ⟨g9, 1, none⟩ = some (.slice rA rn rc) ∧ g9 < wv.heap.size ∧ wv.cell? ⟨w3.heap.size, 0, none⟩ = some (.int .i64 xid) ∧ wv.cell? ⟨w3.heap.size, 1, none⟩ = some (.slice xA xn xc) ∧ w3.heap.size < wv.heap.size) := hid fun wv HC => by
                    rw [hKL] at HC
                    have y1 := HC.blk_ 11 rfl
                    have y2 := HC.cst_ 2 rfl
                    have y3 := HC.cst_ 0 rfl
                    exact ⟨⟨cell_of_row _ _ 3 _ _ _ y1, Blk.lt y1⟩, cell_of_row _ _ 0 _ _ _ y2, cell_of_row _ _ 1 _ _ _ y2, Blk.lt y2, cell_of_row _ _ 0 _ _ _ y3, cell_of_row _ _ 1 _ _ _ y3, Blk.lt y3⟩
                  have HRX : Hid (∀ wv, Hold M none w wv KL → Ro wv (Mut M KL) (VlsIn xA xn xvs) ∧ Ro wv (Mut M KL) (VlsIn rA rn rvs)) := hid fun wv HC => by
                    rw [hKL] at HC ⊢
                    exact ⟨HC.ro 1 rfl, HC.ro 3 rfl⟩
                  have HKL := hid hKL
                  clear hKL KY
                  go_wp2_with fail
                  refine wp_region_any (by kernel_rfl) ?_
                  refine wpAny_hold 12 128 (KL) (spL [(91, VlsSlot (Mut M KL) xvs), (94, VlsSlot (Mut M KL) rvs), (95, PrSlot (Mut M KL) (xid, xvs, rvs)), (96, PrsSlot (Mut M KL) [(xid, xvs, rvs)])]) (by kernel_rfl) (by kernel_rfl) (by kernel_rfl) rfl ?_ (KN.drew) ?_
                  · exact stays_cons vlsSlot_mono (stays_cons vlsSlot_mono (stays_cons prSlot_mono (stays_cons prsSlot_mono (stays_nil _))))
                  simp only [List.take_succ_cons, List.take_zero, List.drop_succ_cons, List.drop_zero, Act.put, List.getElem_toArray, List.getElem_cons_zero, List.getElem_cons_succ, List.setIfInBounds_toArray, List.set_cons_succ, List.set_cons_zero]
                  refine dw_val rfl rfl rfl ?_; apply Exists.intro; refine ⟨fun wv HC => ?_, ?_⟩
                  ·  go_simp <;> rfl
                  simp only [Act.put, List.setIfInBounds_toArray, List.set_cons_succ, List.set_cons_zero]
                  refine dw_val rfl rfl rfl ?_; apply Exists.intro; refine ⟨fun wv HC => ?_, ?_⟩
                  · obtain ⟨⟨f0, f1⟩, f2, f3, f4, f5, f6, f7⟩ := HF.out _ HC; go_simp <;> rfl
                  simp only [Act.put, List.setIfInBounds_toArray, List.set_cons_succ, List.set_cons_zero]
                  refine dw_val rfl rfl rfl ?_; apply Exists.intro; refine ⟨fun wv HC => ?_, ?_⟩
                  ·  go_simp <;> rfl
                  simp only [Act.put, List.setIfInBounds_toArray, List.set_cons_succ, List.set_cons_zero]
                  refine dw_val rfl rfl rfl ?_; apply Exists.intro; refine ⟨fun wv HC => ?_, ?_⟩
                  · obtain ⟨⟨f0, f1⟩, f2, f3, f4, f5, f6, f7⟩ := HF.out _ HC; go_simp <;> rfl
                  simp only [Act.put, List.setIfInBounds_toArray, List.set_cons_succ, List.set_cons_zero]
                  refine dw_val rfl rfl rfl ?_; apply Exists.intro; refine ⟨fun wv HC => ?_, ?_⟩
                  ·  go_simp <;> rfl
                  simp only [Act.put, List.setIfInBounds_toArray, List.set_cons_succ, List.set_cons_zero]
                  refine dw_val rfl rfl rfl ?_; apply Exists.intro; refine ⟨fun wv HC => ?_, ?_⟩
                  · obtain ⟨⟨f0, f1⟩, f2, f3, f4, f5, f6, f7⟩ := HF.out _ HC; go_simp <;> rfl
                  simp only [Act.put, List.setIfInBounds_toArray, List.set_cons_succ, List.set_cons_zero]
                  refine dw_callR 91 (VlsSlot (Mut M KL) xvs) (f := 149) (args := #[.slice xA xn xc]) rfl rfl rfl rfl (fun wv => ?_) (fun wv HC hrm hD => ?_) ?_
                  · go_simp <;> rfl
                  · refine (cloneVls_any _ wv HC.mutLt xA xn xc xvs (HRX.out _ HC).1 (by omega)).mono ?_
                    rintro e w5 ⟨A5, n5, c5, rfl, h50, h51, h52, h53, b5⟩
                    exact ⟨_, rfl, ⟨A5, n5, c5, rfl, h50, h51, h52, h53⟩, HC.call b5, RM.below b5⟩
                  rintro x_ wx HCx ⟨A91, n91, c91, rfl, -, -, -, -⟩
                  clear HCx
                  simp only [Act.put, List.setIfInBounds_toArray, List.set_cons_succ, List.set_cons_zero]
                  refine dw_val rfl rfl rfl ?_; apply Exists.intro; refine ⟨fun wv HC => ?_, ?_⟩
                  ·  go_simp <;> rfl
                  simp only [Act.put, List.setIfInBounds_toArray, List.set_cons_succ, List.set_cons_zero]
                  refine dw_val rfl rfl rfl ?_; apply Exists.intro; refine ⟨fun wv HC => ?_, ?_⟩
                  · obtain ⟨⟨f0, f1⟩, f2, f3, f4, f5, f6, f7⟩ := HF.out _ HC; go_simp <;> rfl
                  simp only [Act.put, List.setIfInBounds_toArray, List.set_cons_succ, List.set_cons_zero]
                  refine dw_callR 94 (VlsSlot (Mut M KL) rvs) (f := 149) (args := #[.slice rA rn rc]) rfl rfl rfl rfl (fun wv => ?_) (fun wv HC hrm hD => ?_) ?_
                  · go_simp <;> rfl
                  · refine (cloneVls_any _ wv HC.mutLt rA rn rc rvs (HRX.out _ HC).2 (by omega)).mono ?_
                    rintro e w5 ⟨A5, n5, c5, rfl, h50, h51, h52, h53, b5⟩
                    exact ⟨_, rfl, ⟨A5, n5, c5, rfl, h50, h51, h52, h53⟩, HC.call b5, RM.below b5⟩
                  rintro x_ wx HCx ⟨A94, n94, c94, rfl, -, -, -, -⟩
                  clear HCx
                  simp only [Act.put, List.setIfInBounds_toArray, List.set_cons_succ, List.set_cons_zero]
                  refine dw_valC 95 (PrSlot (Mut M KL) (xid, xvs, rvs)) rfl rfl rfl rfl (.agg #[.int .i64 xid, .slice A91 n91 c91, .slice A94 n94 c94]) (fun wv HC => ?_) (fun wv HC hD => ?_) ?_
                  · go_simp <;> rfl
                  · have ha : VlsSlot (Mut M KL) xvs (.slice A91 n91 c91) wv := deps_at hD 6 rfl (by kernel_rfl) rfl rfl
                    have hb : VlsSlot (Mut M KL) rvs (.slice A94 n94 c94) wv := deps_at hD 9 rfl (by kernel_rfl) rfl rfl
                    exact prSlot_of HXO.out.id HXO.out.vs HRO.out.vs ha hb
                  simp only [Act.put, List.setIfInBounds_toArray, List.set_cons_succ, List.set_cons_zero]
                  refine dw_new #[.int .i64 xid, .slice A91 n91 c91, .slice A94 n94 c94] 110 96 (PrsSlot (Mut M KL) [(xid, xvs, rvs)]) (fun g => .slice (some ⟨g, 0, none⟩) 1 1) rfl rfl rfl rfl (fun wv => ?_) (fun wv HC _hrm hD hro => ?_) ?_
                  · go_simp <;> rfl
                  · have hrr := RM.alloc (Mut M KL) wv (.cells #[.int .i64 xid, .slice A91 n91 c91, .slice A94 n94 c94] 110)
                    have h0 : PrSlot (Mut M KL) (xid, xvs, rvs) (.agg #[.int .i64 xid, .slice A91 n91 c91, .slice A94 n94 c94]) wv := deps_at hD 10 rfl (by kernel_rfl) rfl rfl
                    replace h0 := prSlot_mono _ _ _ hrr h0
                    exact prsSlot_one (hro _ HC.mutLt) (fun i j k e1 => Value.agg.inj e1) h0
                  rintro g96 wg HCg hsl
                  simp only [Act.put, List.setIfInBounds_toArray, List.set_cons_succ, List.set_cons_zero]
                  clear hsl HCg
                  refine rel_nil ?_
                  rintro wx5 HX5
                  rintro _hrm HGW
                  have hb2 : PrsSlot (Mut M KL) [(xid, xvs, rvs)] (.slice (some ⟨g96, 0, none⟩) 1 1) wx5 := (GW_on (d := 96) rfl).1 (HGW 11 _ rfl (by omega))
                  clear HGW _hrm
                  obtain ⟨Aq, nq, cq, pq, heq, -, -, hpm, hpok, hpr⟩ := hb2
                  obtain ⟨rfl, rfl, rfl⟩ : some ⟨g96, 0, none⟩ = Aq ∧ 1 = nq ∧ 1 = cq := by injection heq with h1 h2 h3; exact ⟨h1, h2, h3⟩
                  clear heq
                  obtain ⟨pr, rfl, hpu⟩ : ∃ pr, pq = [pr] ∧ pr.upd = (xid, xvs, rvs) := by
                    obtain ⟨pr, h1, h2⟩ := List.map_eq_singleton_iff.1 hpm
                    exact ⟨pr, h1, h2⟩
                  rw [HKL.out] at HX5 hpr
                  have HPE := hid (show prCells lu ++ prCells [pr] = prCells (lu ++ [pr]) by simp [prCells])
                  have KA := HX5.add (hpr.imp fun w h => (h.2 : PrVals [pr] w))
                  have k5 := hid ((hpr.imp fun w h => h.1).now)
                  have HBN := hid (HBS.out.turn HXX.out HRR.out rfl HNE.out hpu (hpok pr (List.mem_singleton.2 rfl)))
                  clear HX5 hpr hpm hpok hpu HF HRX KN
                  have FKA := KA.facts
                  simp only [World.size_alloc, World.size_drew, factsL, cellsF, Nat.reduceAdd, List.toList_toArray, List.set_cons_zero, List.set_cons_succ, List.setIfInBounds_toArray, and_true, true_and] at FKA
                  go_wp2_with (at_builtin; go_must (refine wpList_appAllH KA 8 rfl Tryz.elPr k5.out rfl (.tmp 86) (.tmp 96) rfl rfl rfl (prCells_one _) (by omega) (by omega) ?_); intro C' cap' w6 hc6 hm6 KB; rw [HPE.out] at KB; simp only [List.set_cons_zero, List.set_cons_succ] at KB; (have FB := KB.facts); simp only [World.size_alloc, World.size_drew, factsL, cellsF, Nat.reduceAdd, List.toList_toArray, List.set_cons_zero, List.set_cons_succ, List.setIfInBounds_toArray, and_true, true_and] at FB)
                  have KD := KB.store 12 rfl 3 (.slice C' (nu + 1) cap')
                  have KZ := (KD.swapRo 11 rfl (prVals_app (KD.ro 11 rfl) (KD.ro 0 rfl))).drop (List.Sublist.cons _ (List.Sublist.cons _ (List.Sublist.cons _ (List.Sublist.cons _ (List.sublist_cons_self _ _)))))
                  clear KB KD FKA k5
                  go_roundg go
                  case measure => omega
                  case rel => exact ⟨j + 1, p + 1, np - 1, 0, ni, ci, nd, cd, nu + 1, cap', (some ⟨bx, ox, none⟩), I, D, C', li, ld, _, by omega, by first | rfl | go_num, by first | rfl | (simp <;> omega), by omega, by omega, by omega, by omega, by omega, by omega, by omega, HBN, KZ⟩
            · have KX := K2.swapRo 4 rfl (hnxt.step (by simp) (fun b hb _ => Below.heap_alloc w3 _ b hb) (fun b hb h => (mut_none rfl b ((mut_none rfl b h)))))
              simp only [List.set_cons_zero, List.set_cons_succ] at KX
              clear K2 H3 hnxt
              have FK := KX.facts
              simp only [World.size_alloc, World.size_drew, factsL, cellsF, Nat.reduceAdd, List.toList_toArray, List.set_cons_zero, List.set_cons_succ, List.setIfInBounds_toArray, and_true, true_and] at FK
              by_cases hlt3 : xid < rid
              · have hd4 : decide (xid < rid) = true := by simpa using hlt3
                obtain ⟨KL, hKL, KN⟩ := KX.name
                have HF : Hid (∀ wv, Hold M none w wv KL → (wv.cell? ⟨g6, 2, none⟩ = some (.slice D nd cd) ∧ g6 < wv.heap.size) ∧ wv.cell? ⟨w3.heap.size, 0, none⟩ = some (.int .i64 xid) ∧ wv.cell? ⟨w3.heap.size, 1, none⟩ = some (.slice xA xn xc) ∧ w3.heap.size < wv.heap.size) := hid fun wv HC => by
                  rw [hKL] at HC
                  have y1 := HC.blk_ 11 rfl
                  have y2 := HC.cst_ 0 rfl
                  exact ⟨⟨cell_of_row _ _ 2 _ _ _ y1, Blk.lt y1⟩, cell_of_row _ _ 0 _ _ _ y2, cell_of_row _ _ 1 _ _ _ y2, Blk.lt y2⟩
                have HRX : Hid (∀ wv, Hold M none w wv KL → Ro wv (Mut M KL) (VlsIn xA xn xvs)) := hid fun wv HC => by
                  rw [hKL] at HC ⊢
                  exact HC.ro 1 rfl
                have HKL := hid hKL
                clear hKL KX
                go_wp2_with fail
                refine wp_region_any (by kernel_rfl) ?_
                refine wpAny_hold 5 128 (KL) (spL [(75, RowSlot (Mut M KL) xid xvs), (76, RBoxSlot (Mut M KL) xid xvs)]) (by kernel_rfl) (by kernel_rfl) (by kernel_rfl) rfl ?_ (KN.drew) ?_
                · exact stays_cons rowSlot_mono (stays_cons rboxSlot_mono (stays_nil _))
                simp only [List.take_succ_cons, List.take_zero, List.drop_succ_cons, List.drop_zero, Act.put, List.getElem_toArray, List.getElem_cons_zero, List.getElem_cons_succ, List.setIfInBounds_toArray, List.set_cons_succ, List.set_cons_zero]
                refine dw_val rfl rfl rfl ?_; apply Exists.intro; refine ⟨fun wv HC => ?_, ?_⟩
                ·  go_simp <;> rfl
                simp only [Act.put, List.setIfInBounds_toArray, List.set_cons_succ, List.set_cons_zero]
                refine dw_val rfl rfl rfl ?_; apply Exists.intro; refine ⟨fun wv HC => ?_, ?_⟩
                · obtain ⟨⟨f0, f1⟩, f2, f3, f4⟩ := HF.out _ HC; go_simp <;> rfl
                simp only [Act.put, List.setIfInBounds_toArray, List.set_cons_succ, List.set_cons_zero]
                refine dw_val rfl rfl rfl ?_; apply Exists.intro; refine ⟨fun wv HC => ?_, ?_⟩
                · obtain ⟨⟨f0, f1⟩, f2, f3, f4⟩ := HF.out _ HC; go_simp <;> rfl
                simp only [Act.put, List.setIfInBounds_toArray, List.set_cons_succ, List.set_cons_zero]
                refine dw_callR 75 (RowSlot (Mut M KL) xid xvs) (f := 147) (args := #[.agg #[.int .i64 xid, .slice xA xn xc]]) rfl rfl rfl rfl (fun wv => ?_) (fun wv HC hrm hD => ?_) ?_
                · go_simp <;> rfl
                · refine (dcopied_any _ wv HC.mutLt xid xA xn xc xvs (HRX.out _ HC) (by omega)).mono ?_
                  rintro e w5 ⟨A5, n5, c5, rfl, h50, h51, h52, h53, b5⟩
                  exact ⟨_, rfl, ⟨A5, n5, c5, rfl, h50, h51, h52, h53⟩, HC.call b5, RM.below b5⟩
                rintro x_ wx HCx ⟨A5, n5, c5, rfl, -, -, -, -⟩
                clear HCx
                simp only [Act.put, List.setIfInBounds_toArray, List.set_cons_succ, List.set_cons_zero]
                refine dw_new #[.int .i64 xid, .slice A5 n5 c5] 119 76 (RBoxSlot (Mut M KL) xid xvs) (fun g => .slice (some ⟨g, 0, none⟩) 1 1) rfl rfl rfl rfl (fun wv => ?_) (fun wv HC _hrm hD hro => ?_) ?_
                · go_simp <;> rfl
                · have hsl : RowSlot (Mut M KL) xid xvs (.agg #[.int .i64 xid, .slice A5 n5 c5]) wv := deps_at hD 3 rfl (by kernel_rfl) rfl rfl
                  obtain ⟨A6, n6, c6, e6, h1, h2, h3, h4⟩ := hsl
                  obtain ⟨rfl, rfl, rfl⟩ : A5 = A6 ∧ n5 = n6 ∧ c5 = c6 := by
                    injection e6 with e6
                    simp at e6
                    exact e6
                  exact ⟨_, A5, n5, c5, rfl, h1, h2, h3, h4.step (by simp) (fun b hb _ => Below.heap_alloc wv _ b hb) (fun _ _ h => h), ro_block (hro _ HC.mutLt) rfl⟩
                rintro gn wg HCg hsl
                simp only [Act.put, List.setIfInBounds_toArray, List.set_cons_succ, List.set_cons_zero]
                clear hsl HCg
                refine rel_nil ?_
                rintro wx2 HX
                rintro _hrm HGW
                have hb2 : RBoxSlot (Mut M KL) xid xvs (.slice (some ⟨gn, 0, none⟩) 1 1) wx2 := (GW_on (d := 76) rfl).1 (HGW 4 _ rfl (by omega))
                clear HGW _hrm
                obtain ⟨gq, A6, n6, c6, e6, k0_, k1_, k2_, k3_, k4_⟩ := hb2
                obtain rfl : gn = gq := by injection e6 with e6; injection e6 with e6; injection e6
                clear e6
                rw [HKL.out] at HX k3_
                have k5 := hid k4_.now
                have HK0 := hid (And.intro k0_ (And.intro k1_ k2_))
                clear k4_ k0_ k1_ k2_ HF HRX KN
                have HRS := hid (show rwCells ld ++ [.int .i64 xid, .slice A6 n6 c6] = rwCells (ld ++ [⟨xid, A6, n6, c6, xvs⟩]) from rwCells_snoc1 _ _ _ _ _ _)
                have KA := HX.add k3_
                clear HX k3_
                have FKA := KA.facts
                simp only [World.size_alloc, World.size_drew, factsL, cellsF, Nat.reduceAdd, List.toList_toArray, List.set_cons_zero, List.set_cons_succ, List.setIfInBounds_toArray, and_true, true_and] at FKA
                go_wp2_with (at_builtin; go_must (refine wpList_appAllH KA 7 rfl Tryz.elRw k5.out rfl (.tmp 73) (.tmp 76) rfl rfl rfl (by intro z hz; simp at hz; rcases hz with rfl | rfl <;> rfl) (by omega) (by omega) ?_); intro C' cap' w6 hc6 hm6 KB; rw [HRS.out] at KB; simp only [List.set_cons_zero, List.set_cons_succ] at KB; (have F3 := KB.facts); simp only [World.size_alloc, World.size_drew, factsL, cellsF, Nat.reduceAdd, List.toList_toArray, List.set_cons_zero, List.set_cons_succ, List.setIfInBounds_toArray, and_true, true_and] at F3)
                have KD := KB.store 12 rfl 2 (.slice C' (nd + 1) cap')
                have KE := (KD.swapRo 10 rfl (vals_snoc (r := ⟨xid, A6, n6, c6, xvs⟩) (KD.ro 10 rfl) (KD.ro 0 rfl))).drop (List.sublist_cons_self _ _)
                clear KB KD FKA k5
                have HBN := hid (HBS.out.left HXX.out HRR.out hlt3 (y := ⟨xid, A6, n6, c6, xvs⟩) rfl ⟨HXO.out.id, HK0.out.2.1, HK0.out.2.2, HXO.out.vs⟩)
                have KZ := KE.drop (List.Sublist.cons _ (List.sublist_cons_self _ _))
                go_roundg gi
                case measure => omega
                case rel => exact ⟨p + 1, np - 1, (cp - 1), nd + 1, cap', (some ⟨bx, ox + 2, none⟩), C', _, by omega, by first | rfl | (simp <;> omega), by omega, by omega, by omega, by omega, by omega, HBN, KZ⟩
              · obtain rfl : xid = rid := by omega
                have hd4 : decide (xid < xid) = false := by simp
                clear hlt3
                go_wp2_with fail
                refine (eqVls_any _ xA xn xc xvs rA rn rc rvs (KX.ro 1 rfl).now (KX.ro 3 rfl).now (by omega)).mono ?_
                rintro e w7 ⟨rfl, q7, rfl⟩
                have KY := KX.drewN q7
                clear KX FK
                have FK := KY.facts
                simp only [World.size_alloc, World.size_drew, factsL, cellsF, Nat.reduceAdd, List.toList_toArray, List.set_cons_zero, List.set_cons_succ, List.setIfInBounds_toArray, and_true, true_and] at FK
                by_cases hvv : xvs = rvs
                · rw [decide_eq_true hvv]
                  have HBN := hid (HBS.out.same HXX.out HRR.out rfl hvv)
                  clear hvv
                  have KZ := KY.drop (List.Sublist.cons _ (List.Sublist.cons _ (List.Sublist.cons _ (List.sublist_cons_self _ _))))
                  go_wp2_with fail
                  go_roundg go
                  case measure => omega
                  case rel => exact ⟨j + 1, p + 1, np - 1, (cp - 1), ni, ci, nd, cd, nu, cu, (some ⟨bx, ox + 2, none⟩), I, D, U, li, ld, lu, by omega, by first | rfl | go_num, by first | rfl | (simp <;> omega), by omega, by omega, by omega, by omega, by omega, by omega, by omega, HBN, KZ⟩
                · rw [decide_eq_false hvv]
                  have HNE := hid hvv
                  clear hvv
                  obtain ⟨KL, hKL, KN⟩ := KY.name
                  have HF : Hid (∀ wv, Hold M none w wv KL → (wv.cell? ⟨g6, 3, none⟩ = some (.slice U nu cu) ∧ g6 < wv.heap.size) ∧ wv.cell? ⟨g9, 0, none⟩ = some (.int .i64 xid) ∧ wv.cell? ⟨g9, 1, none⟩ = some (.slice rA rn rc) ∧ g9 < wv.heap.size ∧ wv.cell? ⟨w3.heap.size, 0, none⟩ = some (.int .i64 xid) ∧ wv.cell? ⟨w3.heap.size, 1, none⟩ = some (.slice xA xn xc) ∧ w3.heap.size < wv.heap.size) := hid fun wv HC => by
                    rw [hKL] at HC
                    have y1 := HC.blk_ 11 rfl
                    have y2 := HC.cst_ 2 rfl
                    have y3 := HC.cst_ 0 rfl
                    exact ⟨⟨cell_of_row _ _ 3 _ _ _ y1, Blk.lt y1⟩, cell_of_row _ _ 0 _ _ _ y2, cell_of_row _ _ 1 _ _ _ y2, Blk.lt y2, cell_of_row _ _ 0 _ _ _ y3, cell_of_row _ _ 1 _ _ _ y3, Blk.lt y3⟩
                  have HRX : Hid (∀ wv, Hold M none w wv KL → Ro wv (Mut M KL) (VlsIn xA xn xvs) ∧ Ro wv (Mut M KL) (VlsIn rA rn rvs)) := hid fun wv HC => by
                    rw [hKL] at HC ⊢
                    exact ⟨HC.ro 1 rfl, HC.ro 3 rfl⟩
                  have HKL := hid hKL
                  clear hKL KY
                  go_wp2_with fail
                  refine wp_region_any (by kernel_rfl) ?_
                  refine wpAny_hold 12 128 (KL) (spL [(91, VlsSlot (Mut M KL) xvs), (94, VlsSlot (Mut M KL) rvs), (95, PrSlot (Mut M KL) (xid, xvs, rvs)), (96, PrsSlot (Mut M KL) [(xid, xvs, rvs)])]) (by kernel_rfl) (by kernel_rfl) (by kernel_rfl) rfl ?_ (KN.drew) ?_
                  · exact stays_cons vlsSlot_mono (stays_cons vlsSlot_mono (stays_cons prSlot_mono (stays_cons prsSlot_mono (stays_nil _))))
                  simp only [List.take_succ_cons, List.take_zero, List.drop_succ_cons, List.drop_zero, Act.put, List.getElem_toArray, List.getElem_cons_zero, List.getElem_cons_succ, List.setIfInBounds_toArray, List.set_cons_succ, List.set_cons_zero]
                  refine dw_val rfl rfl rfl ?_; apply Exists.intro; refine ⟨fun wv HC => ?_, ?_⟩
                  ·  go_simp <;> rfl
                  simp only [Act.put, List.setIfInBounds_toArray, List.set_cons_succ, List.set_cons_zero]
                  refine dw_val rfl rfl rfl ?_; apply Exists.intro; refine ⟨fun wv HC => ?_, ?_⟩
                  · obtain ⟨⟨f0, f1⟩, f2, f3, f4, f5, f6, f7⟩ := HF.out _ HC; go_simp <;> rfl
                  simp only [Act.put, List.setIfInBounds_toArray, List.set_cons_succ, List.set_cons_zero]
                  refine dw_val rfl rfl rfl ?_; apply Exists.intro; refine ⟨fun wv HC => ?_, ?_⟩
                  ·  go_simp <;> rfl
                  simp only [Act.put, List.setIfInBounds_toArray, List.set_cons_succ, List.set_cons_zero]
                  refine dw_val rfl rfl rfl ?_; apply Exists.intro; refine ⟨fun wv HC => ?_, ?_⟩
                  · obtain ⟨⟨f0, f1⟩, f2, f3, f4, f5, f6, f7⟩ := HF.out _ HC; go_simp <;> rfl
                  simp only [Act.put, List.setIfInBounds_toArray, List.set_cons_succ, List.set_cons_zero]
                  refine dw_val rfl rfl rfl ?_; apply Exists.intro; refine ⟨fun wv HC => ?_, ?_⟩
                  ·  go_simp <;> rfl
                  simp only [Act.put, List.setIfInBounds_toArray, List.set_cons_succ, List.set_cons_zero]
                  refine dw_val rfl rfl rfl ?_; apply Exists.intro; refine ⟨fun wv HC => ?_, ?_⟩
                  · obtain ⟨⟨f0, f1⟩, f2, f3, f4, f5, f6, f7⟩ := HF.out _ HC; go_simp <;> rfl
                  simp only [Act.put, List.setIfInBounds_toArray, List.set_cons_succ, List.set_cons_zero]
                  refine dw_callR 91 (VlsSlot (Mut M KL) xvs) (f := 149) (args := #[.slice xA xn xc]) rfl rfl rfl rfl (fun wv => ?_) (fun wv HC hrm hD => ?_) ?_
                  · go_simp <;> rfl
                  · refine (cloneVls_any _ wv HC.mutLt xA xn xc xvs (HRX.out _ HC).1 (by omega)).mono ?_
                    rintro e w5 ⟨A5, n5, c5, rfl, h50, h51, h52, h53, b5⟩
                    exact ⟨_, rfl, ⟨A5, n5, c5, rfl, h50, h51, h52, h53⟩, HC.call b5, RM.below b5⟩
                  rintro x_ wx HCx ⟨A91, n91, c91, rfl, -, -, -, -⟩
                  clear HCx
                  simp only [Act.put, List.setIfInBounds_toArray, List.set_cons_succ, List.set_cons_zero]
                  refine dw_val rfl rfl rfl ?_; apply Exists.intro; refine ⟨fun wv HC => ?_, ?_⟩
                  ·  go_simp <;> rfl
                  simp only [Act.put, List.setIfInBounds_toArray, List.set_cons_succ, List.set_cons_zero]
                  refine dw_val rfl rfl rfl ?_; apply Exists.intro; refine ⟨fun wv HC => ?_, ?_⟩
                  · obtain ⟨⟨f0, f1⟩, f2, f3, f4, f5, f6, f7⟩ := HF.out _ HC; go_simp <;> rfl
                  simp only [Act.put, List.setIfInBounds_toArray, List.set_cons_succ, List.set_cons_zero]
                  refine dw_callR 94 (VlsSlot (Mut M KL) rvs) (f := 149) (args := #[.slice rA rn rc]) rfl rfl rfl rfl (fun wv => ?_) (fun wv HC hrm hD => ?_) ?_
                  · go_simp <;> rfl
                  · refine (cloneVls_any _ wv HC.mutLt rA rn rc rvs (HRX.out _ HC).2 (by omega)).mono ?_
                    rintro e w5 ⟨A5, n5, c5, rfl, h50, h51, h52, h53, b5⟩
                    exact ⟨_, rfl, ⟨A5, n5, c5, rfl, h50, h51, h52, h53⟩, HC.call b5, RM.below b5⟩
                  rintro x_ wx HCx ⟨A94, n94, c94, rfl, -, -, -, -⟩
                  clear HCx
                  simp only [Act.put, List.setIfInBounds_toArray, List.set_cons_succ, List.set_cons_zero]
                  refine dw_valC 95 (PrSlot (Mut M KL) (xid, xvs, rvs)) rfl rfl rfl rfl (.agg #[.int .i64 xid, .slice A91 n91 c91, .slice A94 n94 c94]) (fun wv HC => ?_) (fun wv HC hD => ?_) ?_
                  · go_simp <;> rfl
                  · have ha : VlsSlot (Mut M KL) xvs (.slice A91 n91 c91) wv := deps_at hD 6 rfl (by kernel_rfl) rfl rfl
                    have hb : VlsSlot (Mut M KL) rvs (.slice A94 n94 c94) wv := deps_at hD 9 rfl (by kernel_rfl) rfl rfl
                    exact prSlot_of HXO.out.id HXO.out.vs HRO.out.vs ha hb
                  simp only [Act.put, List.setIfInBounds_toArray, List.set_cons_succ, List.set_cons_zero]
                  refine dw_new #[.int .i64 xid, .slice A91 n91 c91, .slice A94 n94 c94] 110 96 (PrsSlot (Mut M KL) [(xid, xvs, rvs)]) (fun g => .slice (some ⟨g, 0, none⟩) 1 1) rfl rfl rfl rfl (fun wv => ?_) (fun wv HC _hrm hD hro => ?_) ?_
                  · go_simp <;> rfl
                  · have hrr := RM.alloc (Mut M KL) wv (.cells #[.int .i64 xid, .slice A91 n91 c91, .slice A94 n94 c94] 110)
                    have h0 : PrSlot (Mut M KL) (xid, xvs, rvs) (.agg #[.int .i64 xid, .slice A91 n91 c91, .slice A94 n94 c94]) wv := deps_at hD 10 rfl (by kernel_rfl) rfl rfl
                    replace h0 := prSlot_mono _ _ _ hrr h0
                    exact prsSlot_one (hro _ HC.mutLt) (fun i j k e1 => Value.agg.inj e1) h0
                  rintro g96 wg HCg hsl
                  simp only [Act.put, List.setIfInBounds_toArray, List.set_cons_succ, List.set_cons_zero]
                  clear hsl HCg
                  refine rel_nil ?_
                  rintro wx5 HX5
                  rintro _hrm HGW
                  have hb2 : PrsSlot (Mut M KL) [(xid, xvs, rvs)] (.slice (some ⟨g96, 0, none⟩) 1 1) wx5 := (GW_on (d := 96) rfl).1 (HGW 11 _ rfl (by omega))
                  clear HGW _hrm
                  obtain ⟨Aq, nq, cq, pq, heq, -, -, hpm, hpok, hpr⟩ := hb2
                  obtain ⟨rfl, rfl, rfl⟩ : some ⟨g96, 0, none⟩ = Aq ∧ 1 = nq ∧ 1 = cq := by injection heq with h1 h2 h3; exact ⟨h1, h2, h3⟩
                  clear heq
                  obtain ⟨pr, rfl, hpu⟩ : ∃ pr, pq = [pr] ∧ pr.upd = (xid, xvs, rvs) := by
                    obtain ⟨pr, h1, h2⟩ := List.map_eq_singleton_iff.1 hpm
                    exact ⟨pr, h1, h2⟩
                  rw [HKL.out] at HX5 hpr
                  have HPE := hid (show prCells lu ++ prCells [pr] = prCells (lu ++ [pr]) by simp [prCells])
                  have KA := HX5.add (hpr.imp fun w h => (h.2 : PrVals [pr] w))
                  have k5 := hid ((hpr.imp fun w h => h.1).now)
                  have HBN := hid (HBS.out.turn HXX.out HRR.out rfl HNE.out hpu (hpok pr (List.mem_singleton.2 rfl)))
                  clear HX5 hpr hpm hpok hpu HF HRX KN
                  have FKA := KA.facts
                  simp only [World.size_alloc, World.size_drew, factsL, cellsF, Nat.reduceAdd, List.toList_toArray, List.set_cons_zero, List.set_cons_succ, List.setIfInBounds_toArray, and_true, true_and] at FKA
                  go_wp2_with (at_builtin; go_must (refine wpList_appAllH KA 8 rfl Tryz.elPr k5.out rfl (.tmp 86) (.tmp 96) rfl rfl rfl (prCells_one _) (by omega) (by omega) ?_); intro C' cap' w6 hc6 hm6 KB; rw [HPE.out] at KB; simp only [List.set_cons_zero, List.set_cons_succ] at KB; (have FB := KB.facts); simp only [World.size_alloc, World.size_drew, factsL, cellsF, Nat.reduceAdd, List.toList_toArray, List.set_cons_zero, List.set_cons_succ, List.setIfInBounds_toArray, and_true, true_and] at FB)
                  have KD := KB.store 12 rfl 3 (.slice C' (nu + 1) cap')
                  have KZ := (KD.swapRo 11 rfl (prVals_app (KD.ro 11 rfl) (KD.ro 0 rfl))).drop (List.Sublist.cons _ (List.Sublist.cons _ (List.Sublist.cons _ (List.Sublist.cons _ (List.sublist_cons_self _ _)))))
                  clear KB KD FKA k5
                  go_roundg go
                  case measure => omega
                  case rel => exact ⟨j + 1, p + 1, np - 1, (cp - 1), ni, ci, nd, cd, nu + 1, cap', (some ⟨bx, ox + 2, none⟩), I, D, C', li, ld, _, by omega, by first | rfl | go_num, by first | rfl | (simp <;> omega), by omega, by omega, by omega, by omega, by omega, by omega, by omega, HBN, KZ⟩
          · have hd2 : decide (xid ≤ rid) = false := by simpa using hle
            have HRGT := hid (show ∀ x, a.rs[p]? = some x → rid < x.1 from fun x hx => by rw [HXX.out] at hx; injection hx with hx; subst hx; show rid < xid; omega)
            go_wp2_with fail
            go_quiet (fail)
            have H3 := H2.drewN nq
            clear H2 F2 x0 x1
            generalize wr.drewN nq = w3 at H3 ⊢
            by_cases hrn : rid < a.nx
            · have hd3 : decide (rid < a.nx) = true := by simpa using hrn
              have HN := hid (HBS.out.bad HRR.out HRGT.out hrn)
              clear hrn
              have FK := H3.facts
              simp only [World.size_alloc, World.size_drew, factsL, cellsF, Nat.reduceAdd, List.toList_toArray, List.set_cons_zero, List.set_cons_succ, List.setIfInBounds_toArray, and_true, true_and] at FK
              have KN := (((H3.store 10 rfl 0 (.string ⟨#[]⟩)).store 10 rfl 1 (.slice none 0 0)).store 10 rfl 2 (.slice none 0 0)).store 10 rfl 3 (.slice none 0 0)
              go_wp2_with fail
              (try rw [Exit.noGoto_ret])
              exact bodyPost_ret (v := .tuple #[.agg #[.string ⟨#[]⟩, .slice none 0 0, .slice none 0 0, .slice none 0 0], .bool false]) (by simp [results, Tryz.results81, go_sem, FK]) rfl ⟨_, by rw [HN.out], by rw [HN.out]; exact dlAt_zero, KN.below⟩
            · have hd3 : decide (rid < a.nx) = false := by simpa using hrn
              have HRN := hid (show a.nx ≤ rid by omega)
              clear hrn
              have FK := H3.facts
              simp only [World.size_alloc, World.size_drew, factsL, cellsF, Nat.reduceAdd, List.toList_toArray, List.set_cons_zero, List.set_cons_succ, List.setIfInBounds_toArray, and_true, true_and] at FK
              obtain ⟨KL, hKL, KN⟩ := H3.name
              have HF : Hid (∀ wv, Hold M none w wv KL → (wv.cell? ⟨g6, 1, none⟩ = some (.slice I ni ci) ∧ g6 < wv.heap.size) ∧ wv.cell? ⟨g9, 0, none⟩ = some (.int .i64 rid) ∧ wv.cell? ⟨g9, 1, none⟩ = some (.slice rA rn rc) ∧ g9 < wv.heap.size) := hid fun wv HC => by
                rw [hKL] at HC
                have y1 := HC.blk_ 9 rfl
                have y2 := HC.cst_ 0 rfl
                exact ⟨⟨cell_of_row _ _ 1 _ _ _ y1, Blk.lt y1⟩, cell_of_row _ _ 0 _ _ _ y2, cell_of_row _ _ 1 _ _ _ y2, Blk.lt y2⟩
              have HRX : Hid (∀ wv, Hold M none w wv KL → Ro wv (Mut M KL) (VlsIn rA rn rvs)) := hid fun wv HC => by
                rw [hKL] at HC ⊢
                exact HC.ro 1 rfl
              have HKL := hid hKL
              clear hKL H3
              go_wp2_with fail
              refine wp_region_any (by kernel_rfl) ?_
              refine wpAny_hold 5 128 (KL) (spL [(108, RowSlot (Mut M KL) rid rvs), (109, RBoxSlot (Mut M KL) rid rvs)]) (by kernel_rfl) (by kernel_rfl) (by kernel_rfl) rfl ?_ (KN.drew) ?_
              · exact stays_cons rowSlot_mono (stays_cons rboxSlot_mono (stays_nil _))
              simp only [List.take_succ_cons, List.take_zero, List.drop_succ_cons, List.drop_zero, Act.put, List.getElem_toArray, List.getElem_cons_zero, List.getElem_cons_succ, List.setIfInBounds_toArray, List.set_cons_succ, List.set_cons_zero]
              refine dw_val rfl rfl rfl ?_; apply Exists.intro; refine ⟨fun wv HC => ?_, ?_⟩
              ·  go_simp <;> rfl
              simp only [Act.put, List.setIfInBounds_toArray, List.set_cons_succ, List.set_cons_zero]
              refine dw_val rfl rfl rfl ?_; apply Exists.intro; refine ⟨fun wv HC => ?_, ?_⟩
              · obtain ⟨⟨f0, f1⟩, f2, f3, f4⟩ := HF.out _ HC; go_simp <;> rfl
              simp only [Act.put, List.setIfInBounds_toArray, List.set_cons_succ, List.set_cons_zero]
              refine dw_val rfl rfl rfl ?_; apply Exists.intro; refine ⟨fun wv HC => ?_, ?_⟩
              · obtain ⟨⟨f0, f1⟩, f2, f3, f4⟩ := HF.out _ HC; go_simp <;> rfl
              simp only [Act.put, List.setIfInBounds_toArray, List.set_cons_succ, List.set_cons_zero]
              refine dw_callR 108 (RowSlot (Mut M KL) rid rvs) (f := 147) (args := #[.agg #[.int .i64 rid, .slice rA rn rc]]) rfl rfl rfl rfl (fun wv => ?_) (fun wv HC hrm hD => ?_) ?_
              · go_simp <;> rfl
              · refine (dcopied_any _ wv HC.mutLt rid rA rn rc rvs (HRX.out _ HC) (by omega)).mono ?_
                rintro e w5 ⟨A5, n5, c5, rfl, h50, h51, h52, h53, b5⟩
                exact ⟨_, rfl, ⟨A5, n5, c5, rfl, h50, h51, h52, h53⟩, HC.call b5, RM.below b5⟩
              rintro x_ wx HCx ⟨A5, n5, c5, rfl, -, -, -, -⟩
              clear HCx
              simp only [Act.put, List.setIfInBounds_toArray, List.set_cons_succ, List.set_cons_zero]
              refine dw_new #[.int .i64 rid, .slice A5 n5 c5] 119 109 (RBoxSlot (Mut M KL) rid rvs) (fun g => .slice (some ⟨g, 0, none⟩) 1 1) rfl rfl rfl rfl (fun wv => ?_) (fun wv HC _hrm hD hro => ?_) ?_
              · go_simp <;> rfl
              · have hsl : RowSlot (Mut M KL) rid rvs (.agg #[.int .i64 rid, .slice A5 n5 c5]) wv := deps_at hD 3 rfl (by kernel_rfl) rfl rfl
                obtain ⟨A6, n6, c6, e6, h1, h2, h3, h4⟩ := hsl
                obtain ⟨rfl, rfl, rfl⟩ : A5 = A6 ∧ n5 = n6 ∧ c5 = c6 := by
                  injection e6 with e6
                  simp at e6
                  exact e6
                exact ⟨_, A5, n5, c5, rfl, h1, h2, h3, h4.step (by simp) (fun b hb _ => Below.heap_alloc wv _ b hb) (fun _ _ h => h), ro_block (hro _ HC.mutLt) rfl⟩
              rintro gn wg HCg hsl
              simp only [Act.put, List.setIfInBounds_toArray, List.set_cons_succ, List.set_cons_zero]
              clear hsl HCg
              refine rel_nil ?_
              rintro wx2 HX
              rintro _hrm HGW
              have hb2 : RBoxSlot (Mut M KL) rid rvs (.slice (some ⟨gn, 0, none⟩) 1 1) wx2 := (GW_on (d := 109) rfl).1 (HGW 4 _ rfl (by omega))
              clear HGW _hrm
              obtain ⟨gq, A6, n6, c6, e6, k0_, k1_, k2_, k3_, k4_⟩ := hb2
              obtain rfl : gn = gq := by injection e6 with e6; injection e6 with e6; injection e6
              clear e6
              rw [HKL.out] at HX k3_
              have k5 := hid k4_.now
              have HK0 := hid (And.intro k0_ (And.intro k1_ k2_))
              clear k4_ k0_ k1_ k2_ HF HRX KN
              have HRS := hid (show rwCells li ++ [.int .i64 rid, .slice A6 n6 c6] = rwCells (li ++ [⟨rid, A6, n6, c6, rvs⟩]) from rwCells_snoc1 _ _ _ _ _ _)
              have KA := HX.add k3_
              clear HX k3_
              have FKA := KA.facts
              simp only [World.size_alloc, World.size_drew, factsL, cellsF, Nat.reduceAdd, List.toList_toArray, List.set_cons_zero, List.set_cons_succ, List.setIfInBounds_toArray, and_true, true_and] at FKA
              go_wp2_with (at_builtin; go_must (refine wpList_appAllH KA 4 rfl Tryz.elRw k5.out rfl (.tmp 106) (.tmp 109) rfl rfl rfl (by intro z hz; simp at hz; rcases hz with rfl | rfl <;> rfl) (by omega) (by omega) ?_); intro C' cap' w6 hc6 hm6 KB; rw [HRS.out] at KB; simp only [List.set_cons_zero, List.set_cons_succ] at KB; (have F3 := KB.facts); simp only [World.size_alloc, World.size_drew, factsL, cellsF, Nat.reduceAdd, List.toList_toArray, List.set_cons_zero, List.set_cons_succ, List.setIfInBounds_toArray, and_true, true_and] at F3)
              have KD := KB.store 10 rfl 1 (.slice C' (ni + 1) cap')
              have KE := (KD.swapRo 7 rfl (vals_snoc (r := ⟨rid, A6, n6, c6, rvs⟩) (KD.ro 7 rfl) (KD.ro 0 rfl))).drop (List.sublist_cons_self _ _)
              clear KB KD FKA k5
              have HBN := hid (HBS.out.right HRR.out HRGT.out HRN.out (y := ⟨rid, A6, n6, c6, rvs⟩) rfl ⟨HRO.out.id, HK0.out.2.1, HK0.out.2.2, HRO.out.vs⟩)
              have KZ := KE.drop (List.Sublist.cons _ (List.sublist_cons_self _ _))
              go_roundg go
              case measure => omega
              case rel => exact ⟨j + 1, p, _, cp, ni + 1, cap', nd, cd, nu, cu, _, C', D, U, _, ld, lu, by omega, by first | rfl | go_num, rfl, by omega, by omega, by omega, by omega, by omega, by omega, by omega, HBN, KZ⟩
        | zero =>
          obtain rfl : np = 0 := by omega
          have HRGT := hid (show ∀ x, a.rs[p]? = some x → rid < x.1 from fun x hx => by
            have h1 := (List.getElem?_eq_some_iff.1 hx).1
            have h2 := congrArg List.length HAR.out
            rw [List.length_map, HAL.out] at h2
            omega)
          have F2 := H2.facts
          simp only [World.size_alloc, World.size_drew, factsL, cellsF, Nat.reduceAdd, List.toList_toArray, List.set_cons_zero, List.set_cons_succ, List.setIfInBounds_toArray, and_true, true_and] at F2
          go_wp2_with fail
          go_quiet (fail)
          have H3 := H2.drewN nq
          clear H2 F2
          generalize wr.drewN nq = w3 at H3 ⊢
          by_cases hrn : rid < a.nx
          · have hd3 : decide (rid < a.nx) = true := by simpa using hrn
            have HN := hid (HBS.out.bad HRR.out HRGT.out hrn)
            clear hrn
            have FK := H3.facts
            simp only [World.size_alloc, World.size_drew, factsL, cellsF, Nat.reduceAdd, List.toList_toArray, List.set_cons_zero, List.set_cons_succ, List.setIfInBounds_toArray, and_true, true_and] at FK
            have KN := (((H3.store 10 rfl 0 (.string ⟨#[]⟩)).store 10 rfl 1 (.slice none 0 0)).store 10 rfl 2 (.slice none 0 0)).store 10 rfl 3 (.slice none 0 0)
            go_wp2_with fail
            (try rw [Exit.noGoto_ret])
            exact bodyPost_ret (v := .tuple #[.agg #[.string ⟨#[]⟩, .slice none 0 0, .slice none 0 0, .slice none 0 0], .bool false]) (by simp [results, Tryz.results81, go_sem, FK]) rfl ⟨_, by rw [HN.out], by rw [HN.out]; exact dlAt_zero, KN.below⟩
          · have hd3 : decide (rid < a.nx) = false := by simpa using hrn
            have HRN := hid (show a.nx ≤ rid by omega)
            clear hrn
            have FK := H3.facts
            simp only [World.size_alloc, World.size_drew, factsL, cellsF, Nat.reduceAdd, List.toList_toArray, List.set_cons_zero, List.set_cons_succ, List.setIfInBounds_toArray, and_true, true_and] at FK
            obtain ⟨KL, hKL, KN⟩ := H3.name
            have HF : Hid (∀ wv, Hold M none w wv KL → (wv.cell? ⟨g6, 1, none⟩ = some (.slice I ni ci) ∧ g6 < wv.heap.size) ∧ wv.cell? ⟨g9, 0, none⟩ = some (.int .i64 rid) ∧ wv.cell? ⟨g9, 1, none⟩ = some (.slice rA rn rc) ∧ g9 < wv.heap.size) := hid fun wv HC => by
              rw [hKL] at HC
              have y1 := HC.blk_ 9 rfl
              have y2 := HC.cst_ 0 rfl
              exact ⟨⟨cell_of_row _ _ 1 _ _ _ y1, Blk.lt y1⟩, cell_of_row _ _ 0 _ _ _ y2, cell_of_row _ _ 1 _ _ _ y2, Blk.lt y2⟩
            have HRX : Hid (∀ wv, Hold M none w wv KL → Ro wv (Mut M KL) (VlsIn rA rn rvs)) := hid fun wv HC => by
              rw [hKL] at HC ⊢
              exact HC.ro 1 rfl
            have HKL := hid hKL
            clear hKL H3
            go_wp2_with fail
            refine wp_region_any (by kernel_rfl) ?_
            refine wpAny_hold 5 128 (KL) (spL [(108, RowSlot (Mut M KL) rid rvs), (109, RBoxSlot (Mut M KL) rid rvs)]) (by kernel_rfl) (by kernel_rfl) (by kernel_rfl) rfl ?_ (KN.drew) ?_
            · exact stays_cons rowSlot_mono (stays_cons rboxSlot_mono (stays_nil _))
            simp only [List.take_succ_cons, List.take_zero, List.drop_succ_cons, List.drop_zero, Act.put, List.getElem_toArray, List.getElem_cons_zero, List.getElem_cons_succ, List.setIfInBounds_toArray, List.set_cons_succ, List.set_cons_zero]
            refine dw_val rfl rfl rfl ?_; apply Exists.intro; refine ⟨fun wv HC => ?_, ?_⟩
            ·  go_simp <;> rfl
            simp only [Act.put, List.setIfInBounds_toArray, List.set_cons_succ, List.set_cons_zero]
            refine dw_val rfl rfl rfl ?_; apply Exists.intro; refine ⟨fun wv HC => ?_, ?_⟩
            · obtain ⟨⟨f0, f1⟩, f2, f3, f4⟩ := HF.out _ HC; go_simp <;> rfl
            simp only [Act.put, List.setIfInBounds_toArray, List.set_cons_succ, List.set_cons_zero]
            refine dw_val rfl rfl rfl ?_; apply Exists.intro; refine ⟨fun wv HC => ?_, ?_⟩
            · obtain ⟨⟨f0, f1⟩, f2, f3, f4⟩ := HF.out _ HC; go_simp <;> rfl
            simp only [Act.put, List.setIfInBounds_toArray, List.set_cons_succ, List.set_cons_zero]
            refine dw_callR 108 (RowSlot (Mut M KL) rid rvs) (f := 147) (args := #[.agg #[.int .i64 rid, .slice rA rn rc]]) rfl rfl rfl rfl (fun wv => ?_) (fun wv HC hrm hD => ?_) ?_
            · go_simp <;> rfl
            · refine (dcopied_any _ wv HC.mutLt rid rA rn rc rvs (HRX.out _ HC) (by omega)).mono ?_
              rintro e w5 ⟨A5, n5, c5, rfl, h50, h51, h52, h53, b5⟩
              exact ⟨_, rfl, ⟨A5, n5, c5, rfl, h50, h51, h52, h53⟩, HC.call b5, RM.below b5⟩
            rintro x_ wx HCx ⟨A5, n5, c5, rfl, -, -, -, -⟩
            clear HCx
            simp only [Act.put, List.setIfInBounds_toArray, List.set_cons_succ, List.set_cons_zero]
            refine dw_new #[.int .i64 rid, .slice A5 n5 c5] 119 109 (RBoxSlot (Mut M KL) rid rvs) (fun g => .slice (some ⟨g, 0, none⟩) 1 1) rfl rfl rfl rfl (fun wv => ?_) (fun wv HC _hrm hD hro => ?_) ?_
            · go_simp <;> rfl
            · have hsl : RowSlot (Mut M KL) rid rvs (.agg #[.int .i64 rid, .slice A5 n5 c5]) wv := deps_at hD 3 rfl (by kernel_rfl) rfl rfl
              obtain ⟨A6, n6, c6, e6, h1, h2, h3, h4⟩ := hsl
              obtain ⟨rfl, rfl, rfl⟩ : A5 = A6 ∧ n5 = n6 ∧ c5 = c6 := by
                injection e6 with e6
                simp at e6
                exact e6
              exact ⟨_, A5, n5, c5, rfl, h1, h2, h3, h4.step (by simp) (fun b hb _ => Below.heap_alloc wv _ b hb) (fun _ _ h => h), ro_block (hro _ HC.mutLt) rfl⟩
            rintro gn wg HCg hsl
            simp only [Act.put, List.setIfInBounds_toArray, List.set_cons_succ, List.set_cons_zero]
            clear hsl HCg
            refine rel_nil ?_
            rintro wx2 HX
            rintro _hrm HGW
            have hb2 : RBoxSlot (Mut M KL) rid rvs (.slice (some ⟨gn, 0, none⟩) 1 1) wx2 := (GW_on (d := 109) rfl).1 (HGW 4 _ rfl (by omega))
            clear HGW _hrm
            obtain ⟨gq, A6, n6, c6, e6, k0_, k1_, k2_, k3_, k4_⟩ := hb2
            obtain rfl : gn = gq := by injection e6 with e6; injection e6 with e6; injection e6
            clear e6
            rw [HKL.out] at HX k3_
            have k5 := hid k4_.now
            have HK0 := hid (And.intro k0_ (And.intro k1_ k2_))
            clear k4_ k0_ k1_ k2_ HF HRX KN
            have HRS := hid (show rwCells li ++ [.int .i64 rid, .slice A6 n6 c6] = rwCells (li ++ [⟨rid, A6, n6, c6, rvs⟩]) from rwCells_snoc1 _ _ _ _ _ _)
            have KA := HX.add k3_
            clear HX k3_
            have FKA := KA.facts
            simp only [World.size_alloc, World.size_drew, factsL, cellsF, Nat.reduceAdd, List.toList_toArray, List.set_cons_zero, List.set_cons_succ, List.setIfInBounds_toArray, and_true, true_and] at FKA
            go_wp2_with (at_builtin; go_must (refine wpList_appAllH KA 4 rfl Tryz.elRw k5.out rfl (.tmp 106) (.tmp 109) rfl rfl rfl (by intro z hz; simp at hz; rcases hz with rfl | rfl <;> rfl) (by omega) (by omega) ?_); intro C' cap' w6 hc6 hm6 KB; rw [HRS.out] at KB; simp only [List.set_cons_zero, List.set_cons_succ] at KB; (have F3 := KB.facts); simp only [World.size_alloc, World.size_drew, factsL, cellsF, Nat.reduceAdd, List.toList_toArray, List.set_cons_zero, List.set_cons_succ, List.setIfInBounds_toArray, and_true, true_and] at F3)
            have KD := KB.store 10 rfl 1 (.slice C' (ni + 1) cap')
            have KE := (KD.swapRo 7 rfl (vals_snoc (r := ⟨rid, A6, n6, c6, rvs⟩) (KD.ro 7 rfl) (KD.ro 0 rfl))).drop (List.sublist_cons_self _ _)
            clear KB KD FKA k5
            have HBN := hid (HBS.out.right HRR.out HRGT.out HRN.out (y := ⟨rid, A6, n6, c6, rvs⟩) rfl ⟨HRO.out.id, HK0.out.2.1, HK0.out.2.2, HRO.out.vs⟩)
            have KZ := KE.drop (List.Sublist.cons _ (List.sublist_cons_self _ _))
            go_roundg go
            case measure => omega
            case rel => exact ⟨j + 1, p, _, cp, ni + 1, cap', nd, cd, nu, cu, _, C', D, U, _, ld, lu, by omega, by first | rfl | go_num, rfl, by omega, by omega, by omega, by omega, by omega, by omega, by omega, HBN, KZ⟩
    | zero =>
      obtain rfl : j = bm := by omega
      have hd : decide ((j : Int) < (j : Int)) = false := by simp
      have HBJ := hid (show b.rs.length ≤ j by rw [← HBR.out, List.length_map, HBL.out]; exact Nat.le_refl _)
      go_wp2_with fail
      (try rw [Exit.noGoto_ret])
      go_loopw [115] (fun iv wr => ∃ (k nd cd : Nat) (D : Option Addr) (ld : List Rw), k ≤ np ∧ iv = .int .i64 k ∧ nd ≤ p + k ∧ Hid (BSt a b j (p + k) li ld lu) ∧ Hold M none w wr [.ro (RwsIn Ap np (la.drop p)), .own 119 2 (.slice I ni ci) ni (rwCells li), .own 119 2 (.slice D nd cd) nd (rwCells ld), .own 110 3 (.slice U nu cu) nu (prCells lu), .ro (ValsIn li), .ro (ValsIn ld), .ro (PrVals lu), .blk g6 44 #[.string a.nm, .slice I ni ci, .slice D nd cd, .slice U nu cu], .blk g4 44 #[.string ⟨#[]⟩, .slice none 0 0, .slice none 0 0, .slice none 0 0], .cst g3 58 #[.string b.nm, .slice bA bn bc, .int .i64 b.nx, .slice bB j bd], .cst g2 58 #[.string a.nm, .slice aA an ac, .int .i64 a.nx, .slice aB am ad], .ro (ColsIn aA an a.cs), .ro (RwsIn aB am la), .ro (ColsIn bA bn b.cs), .ro (RwsIn bB j lb)]) (fun iv _ => np - (intOf iv).toNat)
      case atStart => exact ⟨0, nd, cd, D, ld, by omega, rfl, by omega, HBS, H⟩
      case round =>
        clear H HBS hnd
        clear nd cd D ld
        obtain ⟨k, nd, cd, D, ld, hk, rfl, hnd, HBS, H⟩ := hrel
        by_cases hlt : k < np
        · have hd5 : decide ((k : Int) < (np : Int)) = true := by simp; omega
          have k0 : (0 : Int) ≤ (k : Int) := by omega
          have k1 : (k : Int) < (np : Int) := by omega
          obtain ⟨x, hx⟩ := get_of HAL.out (show p + k < am by omega)
          have HXX := hid (show a.rs[p + k]? = some x.row by rw [← HAR.out, List.getElem?_map, hx]; rfl)
          have HXO := hid (HAO.out x (List.mem_of_getElem? hx))
          have hxn6 := HSA.out x (List.mem_of_getElem? hx)
          have hx2 : (la.drop p)[k]? = some x := by rw [List.getElem?_drop]; exact hx
          obtain ⟨bx, ox, rfl, hbx', x0, x1, _⟩ := (H.ro 0 rfl).now.at_ hx2
          have hxx : Ro wr _ (VlsIn x.A x.n x.vs) := (H.ro 0 rfl).imp fun w2 h2 => h2.2 x (List.mem_of_getElem? hx2)
          clear hx hx2
          obtain ⟨xid, xA, xn, xc, xvs⟩ := x
          dsimp only at *
          have KX := (H.add hxx).alloc_cst #[.int .i64 xid, .slice xA xn xc] 119
          clear H hxx
          obtain ⟨KL, hKL, KN⟩ := KX.name
          have HF : Hid (∀ wv, Hold M none w wv KL → (wv.cell? ⟨g6, 2, none⟩ = some (.slice D nd cd) ∧ g6 < wv.heap.size) ∧ wv.cell? ⟨wr.heap.size, 0, none⟩ = some (.int .i64 xid) ∧ wv.cell? ⟨wr.heap.size, 1, none⟩ = some (.slice xA xn xc) ∧ wr.heap.size < wv.heap.size) := hid fun wv HC => by
            rw [hKL] at HC
            have y1 := HC.blk_ 9 rfl
            have y2 := HC.cst_ 0 rfl
            exact ⟨⟨cell_of_row _ _ 2 _ _ _ y1, Blk.lt y1⟩, cell_of_row _ _ 0 _ _ _ y2, cell_of_row _ _ 1 _ _ _ y2, Blk.lt y2⟩
          have HRX : Hid (∀ wv, Hold M none w wv KL → Ro wv (Mut M KL) (VlsIn xA xn xvs)) := hid fun wv HC => by
            rw [hKL] at HC ⊢
            exact HC.ro 1 rfl
          have HKL := hid hKL
          clear hKL KX
          go_wp2_with fail
          refine wp_region_any (by kernel_rfl) ?_
          refine wpAny_hold 5 128 (KL) (spL [(122, RowSlot (Mut M KL) xid xvs), (123, RBoxSlot (Mut M KL) xid xvs)]) (by kernel_rfl) (by kernel_rfl) (by kernel_rfl) rfl ?_ (KN.drew) ?_
          · exact stays_cons rowSlot_mono (stays_cons rboxSlot_mono (stays_nil _))
          simp only [List.take_succ_cons, List.take_zero, List.drop_succ_cons, List.drop_zero, Act.put, List.getElem_toArray, List.getElem_cons_zero, List.getElem_cons_succ, List.setIfInBounds_toArray, List.set_cons_succ, List.set_cons_zero]
          refine dw_val rfl rfl rfl ?_; apply Exists.intro; refine ⟨fun wv HC => ?_, ?_⟩
          ·  go_simp <;> rfl
          simp only [Act.put, List.setIfInBounds_toArray, List.set_cons_succ, List.set_cons_zero]
          refine dw_val rfl rfl rfl ?_; apply Exists.intro; refine ⟨fun wv HC => ?_, ?_⟩
          · obtain ⟨⟨f0, f1⟩, f2, f3, f4⟩ := HF.out _ HC; go_simp <;> rfl
          simp only [Act.put, List.setIfInBounds_toArray, List.set_cons_succ, List.set_cons_zero]
          refine dw_val rfl rfl rfl ?_; apply Exists.intro; refine ⟨fun wv HC => ?_, ?_⟩
          · obtain ⟨⟨f0, f1⟩, f2, f3, f4⟩ := HF.out _ HC; go_simp <;> rfl
          simp only [Act.put, List.setIfInBounds_toArray, List.set_cons_succ, List.set_cons_zero]
          refine dw_callR 122 (RowSlot (Mut M KL) xid xvs) (f := 147) (args := #[.agg #[.int .i64 xid, .slice xA xn xc]]) rfl rfl rfl rfl (fun wv => ?_) (fun wv HC hrm hD => ?_) ?_
          · go_simp <;> rfl
          · refine (dcopied_any _ wv HC.mutLt xid xA xn xc xvs (HRX.out _ HC) (by omega)).mono ?_
            rintro e w5 ⟨A5, n5, c5, rfl, h50, h51, h52, h53, b5⟩
            exact ⟨_, rfl, ⟨A5, n5, c5, rfl, h50, h51, h52, h53⟩, HC.call b5, RM.below b5⟩
          rintro x_ wx HCx ⟨A5, n5, c5, rfl, -, -, -, -⟩
          clear HCx
          simp only [Act.put, List.setIfInBounds_toArray, List.set_cons_succ, List.set_cons_zero]
          refine dw_new #[.int .i64 xid, .slice A5 n5 c5] 119 123 (RBoxSlot (Mut M KL) xid xvs) (fun g => .slice (some ⟨g, 0, none⟩) 1 1) rfl rfl rfl rfl (fun wv => ?_) (fun wv HC _hrm hD hro => ?_) ?_
          · go_simp <;> rfl
          · have hsl : RowSlot (Mut M KL) xid xvs (.agg #[.int .i64 xid, .slice A5 n5 c5]) wv := deps_at hD 3 rfl (by kernel_rfl) rfl rfl
            obtain ⟨A6, n6, c6, e6, h1, h2, h3, h4⟩ := hsl
            obtain ⟨rfl, rfl, rfl⟩ : A5 = A6 ∧ n5 = n6 ∧ c5 = c6 := by
              injection e6 with e6
              simp at e6
              exact e6
            exact ⟨_, A5, n5, c5, rfl, h1, h2, h3, h4.step (by simp) (fun b hb _ => Below.heap_alloc wv _ b hb) (fun _ _ h => h), ro_block (hro _ HC.mutLt) rfl⟩
          rintro gn wg HCg hsl
          simp only [Act.put, List.setIfInBounds_toArray, List.set_cons_succ, List.set_cons_zero]
          clear hsl HCg
          refine rel_nil ?_
          rintro wx2 HX
          rintro _hrm HGW
          have hb2 : RBoxSlot (Mut M KL) xid xvs (.slice (some ⟨gn, 0, none⟩) 1 1) wx2 := (GW_on (d := 123) rfl).1 (HGW 4 _ rfl (by omega))
          clear HGW _hrm
          obtain ⟨gq, A6, n6, c6, e6, k0_, k1_, k2_, k3_, k4_⟩ := hb2
          obtain rfl : gn = gq := by injection e6 with e6; injection e6 with e6; injection e6
          clear e6
          rw [HKL.out] at HX k3_
          have k5 := hid k4_.now
          have HK0 := hid (And.intro k0_ (And.intro k1_ k2_))
          clear k4_ k0_ k1_ k2_ HF HRX KN
          have HRS := hid (show rwCells ld ++ [.int .i64 xid, .slice A6 n6 c6] = rwCells (ld ++ [⟨xid, A6, n6, c6, xvs⟩]) from rwCells_snoc1 _ _ _ _ _ _)
          have KA := HX.add k3_
          clear HX k3_
          have FKA := KA.facts
          simp only [World.size_alloc, World.size_drew, factsL, cellsF, Nat.reduceAdd, List.toList_toArray, List.set_cons_zero, List.set_cons_succ, List.setIfInBounds_toArray, and_true, true_and] at FKA
          go_wp2_with (at_builtin; go_must (refine wpList_appAllH KA 5 rfl Tryz.elRw k5.out rfl (.tmp 120) (.tmp 123) rfl rfl rfl (by intro z hz; simp at hz; rcases hz with rfl | rfl <;> rfl) (by omega) (by omega) ?_); intro C' cap' w6 hc6 hm6 KB; rw [HRS.out] at KB; simp only [List.set_cons_zero, List.set_cons_succ] at KB; (have F3 := KB.facts); simp only [World.size_alloc, World.size_drew, factsL, cellsF, Nat.reduceAdd, List.toList_toArray, List.set_cons_zero, List.set_cons_succ, List.setIfInBounds_toArray, and_true, true_and] at F3)
          have KD := KB.store 10 rfl 2 (.slice C' (nd + 1) cap')
          have KE := (KD.swapRo 8 rfl (vals_snoc (r := ⟨xid, A6, n6, c6, xvs⟩) (KD.ro 8 rfl) (KD.ro 0 rfl))).drop (List.sublist_cons_self _ _)
          clear KB KD FKA k5
          have HBN := hid (HBS.out.tail HBJ.out HXX.out (y := ⟨xid, A6, n6, c6, xvs⟩) rfl ⟨HXO.out.id, HK0.out.2.1, HK0.out.2.2, HXO.out.vs⟩)
          have KZ := KE.drop (List.Sublist.cons _ (List.sublist_cons_self _ _))
          go_roundw
          case rel => exact ⟨k + 1, nd + 1, cap', C', _, by omega, by first | rfl | go_num, by omega, HBN, KZ⟩
          case measure => simp [intOf]; omega
        · obtain rfl : np = k := by omega
          have hd5 : decide ((np : Int) < (np : Int)) = false := by simp
          have HFIN := hid (HBS.out.fin HBJ.out (by rw [← HAR.out, List.length_map, HAL.out]; omega))
          have F := H.facts
          simp only [World.size_alloc, World.size_drew, factsL, cellsF, Nat.reduceAdd, List.toList_toArray, List.set_cons_zero, List.set_cons_succ, List.setIfInBounds_toArray, and_true, true_and] at F
          obtain ⟨hi1, hi2, _⟩ := own_caps (H.get 1 rfl)
          obtain ⟨hd1, hd2, _⟩ := own_caps (H.get 2 rfl)
          obtain ⟨hu1, hu2, _⟩ := own_caps (H.get 3 rfl)
          have KS := H.sealRow 1 rfl
          simp only [List.set_cons_zero, List.set_cons_succ] at KS
          have KS2 := KS.sealRow 2 rfl
          simp only [List.set_cons_zero, List.set_cons_succ] at KS2
          have KS3 := KS2.sealRow 3 rfl
          simp only [List.set_cons_zero, List.set_cons_succ] at KS3
          have KN := (((KS3.store 8 rfl 0 (.string a.nm)).store 8 rfl 1 (.slice I ni ci)).store 8 rfl 2 (.slice D nd cd)).store 8 rfl 3 (.slice U nu cu)
          have r1 := (KN.roOut 1 rfl).and (KN.roOut 4 rfl)
          have r2 := (KN.roOut 2 rfl).and (KN.roOut 5 rfl)
          have r3 := (KN.roOut 3 rfl).and (KN.roOut 6 rfl)
          have NK := H.nes
          simp only [nesL, neF, and_true, true_and] at NK
          clear KS KS2 KS3 H
          go_wp2_with fail
          (try rw [Exit.noGoto_ret])
          exact bodyPost_ret (v := .tuple #[.agg #[.string a.nm, .slice I ni ci, .slice D nd cd, .slice U nu cu], .bool true]) (by simp [results, Tryz.results81, go_sem, F, NK]) rfl ⟨_, by rw [HFIN.out], by rw [HFIN.out]; exact ⟨I, ni, ci, D, nd, cd, U, nu, cu, li, ld, lu, rfl, ⟨hi1, hi2⟩, ⟨hd1, hd2⟩, ⟨hu1, hu2⟩, r1, r2, r3, HBS.out.ok1, HBS.out.ok2, HBS.out.ok3, rfl, rfl, rfl⟩, KN.below⟩
end Go.Proofs.YtedogodccblfeaaGreatDoor

namespace Go.Proofs.YtedogodccblfeaaGreatDoor
open Go.RowKit
set_option linter.unusedVariables false
set_option linter.unusedSimpArgs false

/-- an update's row of before -/
def oldRw (p : Pr) : Rw := ⟨p.id, p.oA, p.on, p.oc, p.old⟩
/-- a log and a yes -/
def RecRet (w : World) (M : Nat → Prop) (N K : Nat) (us : List Ud) (e : Ending) (w' : World) : Prop := ∃ (A : Option Addr) (n c : Nat) (l : List Ue), e = .returned (.tuple #[.slice A n c, .bool true]) ∧ n ≤ c ∧ c ≤ 9223372036854775807 ∧ l.map Ue.ud = us ∧ (∀ x ∈ l, x.good N K) ∧ Ro w' M (UesIn A n l) ∧ Below w.heap.size w w'
def LogSl (M : Nat → Prop) (b0 N K : Nat) (us : List Ud) (u : Value) (w : World) : Prop := ∃ (A : Option Addr) (n c : Nat) (l : List Ue), u = .slice A n c ∧ l.map Ue.ud = us ∧ (∀ x ∈ l, x.good N K) ∧ w.ownsRow b0 129 5 (.slice A n c) n (ueCells l) ∧ Ro w (Mut M [.own 129 5 (.slice A n c) n (ueCells l)]) (UeVals l)
theorem logSl_mono {M : Nat → Prop} {b0 N K : Nat} (hM : ∀ b, M b → b < b0) {us : List Ud} (u : Value) (w w' : World) (hr : RM M w w') (h : LogSl M b0 N K us u w) : LogSl M b0 N K us u w' := by
  obtain ⟨A, n, c, l, h1, h2, h3, h4, h5⟩ := h
  exact ⟨A, n, c, l, h1, h2, h3, own_RM hM hr h4, h5.step hr.1 (fun b hb hn => hr.2 b hb fun hm => hn (.inl hm)) fun _ _ h => h⟩
def UeBox (M : Nat → Prop) (cs : Array Value) (u : Value) (w : World) : Prop := ∃ g : Nat, u = .slice (some ⟨g, 0, none⟩) 1 1 ∧ Ro w M (SlR 5 (some ⟨g, 0, none⟩) 1 cs.toList)
theorem ueBox_mono {M : Nat → Prop} {cs : Array Value} (u : Value) (w w' : World) (hr : RM M w w') (h : UeBox M cs u w) : UeBox M cs u w' := by
  obtain ⟨g, h1, h2⟩ := h
  exact ⟨g, h1, hr.ro h2⟩
set_option maxHeartbeats 8000000 in
set_option maxRecDepth 100000 in
theorem record_any (M : Nat → Prop) (w : World) (hM : ∀ b, M b → b < w.heap.size) (A : Option Addr) (n c N K : Nat) (us : List Ue) (x y : Te) (d : Dl) (hx : x.ok) (hy : y.ok) (rx : Ro w M (TeIn x)) (ry : Ro w M (TeIn y)) (mx : TbM x.tb) (my : TbM y.tb) (hL : Ro w M (UesIn A n us)) (hok : ∀ u ∈ us, u.good N K) (hn : n ≤ 1000000) (hN : N ≤ 1000000) (hK : K ≤ 4398046511104)
    (hbt : betweenC x.tb y.tb = (true, d)) (h1 : d.ins.length ≤ N) (h2 : d.del.length ≤ N) (h3 : d.upd.length ≤ N) (h4 : ∀ r ∈ d.ins, r.2.length ≤ K) (h5 : ∀ r ∈ d.del, r.2.length ≤ K) (h6 : ∀ u ∈ d.upd, u.2.1.length ≤ K ∧ u.2.2.length ≤ K) :
    Calls Tryz.prog 63 #[.slice A n c, .agg #[.string x.nm, .slice x.A x.n x.c, .int .i64 x.nx, .slice x.B x.m x.d], .agg #[.string y.nm, .slice y.A y.n y.c, .int .i64 y.nx, .slice y.B y.m y.d]] w fun e w' => RecRet w M N K (us.map Ue.ud ++ [udOf x.nx d]) e w' := by
  have HOK := hid (And.intro hok (And.intro hN hK))
  have HML := hid hM
  have HUL := hid hL.now.len
  have K1 := ((((Hold.start M w hM).add (hL.less (by simp [Mut]))).add (rx.less (by simp [Mut, Hp.foot]))).add (ry.less (by simp [Mut, Hp.foot]))).alloc_cst #[.string x.nm, .slice x.A x.n x.c, .int .i64 x.nx, .slice x.B x.m x.d] 58 |>.alloc_cst #[.string y.nm, .slice y.A y.n y.c, .int .i64 y.nx, .slice y.B y.m y.d] 58
  rw [World.size_alloc] at K1
  clear hL rx ry hok
  have F1 := K1.facts
  simp only [World.size_alloc, World.size_drew, factsL, cellsF, Nat.reduceAdd, List.toList_toArray, List.set_cons_zero, List.set_cons_succ, List.setIfInBounds_toArray, and_true, true_and] at F1
  go_enter Tryz.func63, Tryz.ntmps63
  go_wp2_with fail
  refine (dbetw_any _ _ K1.mutLt _ _ x.tb y.tb (te_tb hx (K1.ro 3 rfl)) (te_tb hy (K1.ro 2 rfl)) mx.nm mx.cs mx.rs my.nm my.cs my.rs).mono ?_
  rintro e w2 ⟨v, rfl, hd, b2⟩
  rw [hbt] at hd ⊢
  obtain ⟨⟨znm, zI, zni, zci, zD, znd, zcd, zU, znu, zcu, zli, zld, zlu⟩, rfl, hz, hzg, rz⟩ := dl_el hd h1 h2 h3 h4 h5 h6
  dsimp only [El.val, ElIn] at rz ⊢
  have HZ := hid hz
  have HZG := hid hzg
  have K2 := (((K1.call b2).add (show Ro w2 _ (RwsIn zI zni zli) from rz.imp fun w h => h.1)).add (show Ro w2 _ (RwsIn zD znd zld) from (rz.imp fun w h => h.2.1).less (by simp [Mut, Hp.foot]))).add (show Ro w2 _ (PrsIn zU znu zlu) from (rz.imp fun w h => h.2.2).less (by simp [Mut, Hp.foot]))
  have hzi : zni ≤ 1000000 := Nat.le_trans hzg.i hN
  have hzu : znu ≤ 1000000 := Nat.le_trans hzg.u hN
  have hci := hzg.ci
  have hcd := hzg.cd
  have hcu := hzg.cu
  dsimp only at hci hcd hcu
  clear K1 F1 hd b2 hz hzg rz h1 h2 h3 h4 h5 h6 hx hy mx my hbt hN hK
  have F2 := K2.facts
  simp only [World.size_alloc, World.size_drew, factsL, cellsF, Nat.reduceAdd, List.toList_toArray, List.set_cons_zero, List.set_cons_succ, List.setIfInBounds_toArray, and_true, true_and] at F2
  obtain ⟨gd, hgd⟩ : ∃ g, g = w2.heap.size := ⟨_, rfl⟩
  obtain ⟨gu, hgu⟩ : ∃ g, g = w2.heap.size + 1 := ⟨_, rfl⟩
  have K3 := K2.alloc_cst #[.string znm, .slice zI zni zci, .slice zD znd zcd, .slice zU znu zcu] 44
  have K4 := K3.alloc #[.string znm, .int .i64 x.nx, .slice none 0 0, .slice zD znd zcd, .slice none 0 0] 129
  rw [World.size_alloc, ← hgu, ← hgd] at K4
  have KL := (K4.drop (show List.Sublist [Hp.blk gu 129 #[.string znm, .int .i64 x.nx, .slice none 0 0, .slice zD znd zcd, .slice none 0 0], .cst gd 44 #[.string znm, .slice zI zni zci, .slice zD znd zcd, .slice zU znu zcu], .ro (PrsIn zU znu zlu), .ro (RwsIn zD znd zld), .ro (RwsIn zI zni zli), .ro (UesIn A n us)] _ from .cons_cons _ (.cons_cons _ (.cons_cons _ (.cons_cons _ (.cons_cons _ (.cons _ (.cons _ (.cons _ (.cons _ (List.Sublist.refl _)))))))))))
  have K5 := KL.nil 3 1
  have F5 := K5.facts
  simp only [World.size_alloc, World.size_drew, factsL, cellsF, Nat.reduceAdd, List.toList_toArray, List.set_cons_zero, List.set_cons_succ, List.setIfInBounds_toArray, and_true, true_and] at F5
  clear K2 K3 K4 KL
  rw [hgu, hgd] at F5
  go_wp2_with fail
  rw [← hgu, ← hgd]
  have HGU := hid hgu
  have HGD := hid hgd
  have HL1 := hid (K5.ro 5 rfl).now.len
  have HL2 := hid (K5.ro 3 rfl).now.len
  clear hgu hgd F2 F5
  go_loopw [33] (fun iv wr => ∃ (k cap : Nat) (O : Option Addr), k ≤ zni ∧ iv = .int .i64 k ∧ Hold M none w wr [.own 3 1 (.slice O k cap) k (iCells ((zli.take k).map Rw.id)), .blk gu 129 #[.string znm, .int .i64 x.nx, .slice O k cap, .slice zD znd zcd, .slice none 0 0], .cst gd 44 #[.string znm, .slice zI zni zci, .slice zD znd zcd, .slice zU znu zcu], .ro (PrsIn zU znu zlu), .ro (RwsIn zD znd zld), .ro (RwsIn zI zni zli), .ro (UesIn A n us)]) (fun iv _ => zni - (intOf iv).toNat)
  case atStart => exact ⟨0, 0, none, by omega, rfl, K5⟩
  case round =>
    clear K5
    obtain ⟨k, cap, O, hk, rfl, H⟩ := hrel
    by_cases hlt : k < zni
    · have hd : decide ((k : Int) < (zni : Int)) = true := by simp; omega
      have i0 : (0 : Int) ≤ (k : Int) := by omega
      have i1 : (k : Int) < (zni : Int) := by omega
      obtain ⟨r, hx⟩ := get_of HL1.out hlt
      obtain ⟨g, o, rfl, hb, c0, c1, -⟩ := (H.ro 5 rfl).now.at_ hx
      have HCE := hid (show iCells ((zli.take k).map Rw.id) ++ (#[Value.int .i64 r.id]).toList = iCells ((zli.take (k + 1)).map Rw.id) by rw [List.take_add_one, hx]; simp [iCells])
      clear hx
      have K1 := H.alloc_cst #[.int .i64 r.id, .slice r.A r.n r.c] 119
      have FA := K1.facts
      simp only [World.size_alloc, World.size_drew, factsL, cellsF, Nat.reduceAdd, List.toList_toArray, List.set_cons_zero, List.set_cons_succ, List.setIfInBounds_toArray, and_true, true_and] at FA
      clear H
      go_wp2_with (at_builtin; go_must (refine wpList_appH K1 1 rfl Tryz.elIntC #[.int .i64 r.id] rfl (.tmp 38) (.tmp 41) rfl rfl _ (by first | rfl | simp) rfl rfl (by intro u hu; simp at hu; rcases hu with rfl; rfl) (by omega) (by omega) ?_); intro g9 cap9 w9 hc9 hm9 KB; rw [HCE.out] at KB; simp only [List.set_cons_zero, List.set_cons_succ] at KB; (have FB := KB.facts); simp only [World.size_alloc, World.size_drew, factsL, cellsF, Nat.reduceAdd, List.toList_toArray, List.set_cons_zero, List.set_cons_succ, List.setIfInBounds_toArray, and_true, true_and] at FB)
      have KC := KB.store 2 rfl 2 (.slice (some ⟨g9, 0, none⟩) (k + 1) cap9)
      simp only [List.set_cons_zero, List.set_cons_succ, List.setIfInBounds_toArray] at KC
      go_roundw
      case rel => exact ⟨k + 1, cap9, _, by omega, by go_num, KC.drop (List.sublist_cons_self _ _)⟩
      case measure => simp [intOf]; omega
    · obtain rfl : zni = k := by omega
      have hd : decide ((zni : Int) < (zni : Int)) = false := by simp
      rw [List.take_of_length_le (by rw [HL1.out]; exact Nat.le_refl _)] at H
      have hcap := own_caps (H.get 0 rfl)
      have KS := H.sealRow 0 rfl
      simp only [List.set_cons_zero] at KS
      have KT : Hold M none w wr [.ro (IsIn O zni (zli.map Rw.id)), .blk gu 129 #[.string znm, .int .i64 x.nx, .slice O zni cap, .slice zD znd zcd, .slice none 0 0], .cst gd 44 #[.string znm, .slice zI zni zci, .slice zD znd zcd, .slice zU znu zcu], .ro (PrsIn zU znu zlu), .ro (RwsIn zD znd zld), .ro (RwsIn zI zni zli), .ro (UesIn A n us)] := KS
      have K6 := KT.nil 119 2
      clear H KS KT
      have F6 := K6.facts
      simp only [World.size_alloc, World.size_drew, factsL, cellsF, Nat.reduceAdd, List.toList_toArray, List.set_cons_zero, List.set_cons_succ, List.setIfInBounds_toArray, and_true, true_and] at F6
      go_wp2_with fail
      clear F6
      go_loopw [48] (fun iv wr => ∃ (k cap2 : Nat) (O2 : Option Addr), k ≤ znu ∧ iv = .int .i64 k ∧ Hold M none w wr [.own 119 2 (.slice O2 k cap2) k (rwCells ((zlu.take k).map oldRw)), .ro (IsIn O zni (zli.map Rw.id)), .blk gu 129 #[.string znm, .int .i64 x.nx, .slice O zni cap, .slice zD znd zcd, .slice O2 k cap2], .cst gd 44 #[.string znm, .slice zI zni zci, .slice zD znd zcd, .slice zU znu zcu], .ro (PrsIn zU znu zlu), .ro (RwsIn zD znd zld), .ro (RwsIn zI zni zli), .ro (UesIn A n us)]) (fun iv _ => znu - (intOf iv).toNat)
      case atStart => exact ⟨0, 0, none, by omega, rfl, K6⟩
      case round =>
        clear K6
        obtain ⟨k, cap2, O2, hk, rfl, H⟩ := hrel
        by_cases hlt : k < znu
        · have hd : decide ((k : Int) < (znu : Int)) = true := by simp; omega
          have i0 : (0 : Int) ≤ (k : Int) := by omega
          have i1 : (k : Int) < (znu : Int) := by omega
          obtain ⟨r, hx⟩ := get_of HL2.out hlt
          obtain ⟨g, o, rfl, hb, c0, c1, c2, -⟩ := (H.ro 4 rfl).now.at_ hx
          have HCE := hid (show rwCells ((zlu.take k).map oldRw) ++ (#[Value.int .i64 r.id, .slice r.oA r.on r.oc]).toList = rwCells ((zlu.take (k + 1)).map oldRw) by rw [List.take_add_one, hx]; simp [rwCells, Rw.cells, oldRw])
          clear hx
          have K1 := H.alloc_cst #[.int .i64 r.id, .slice r.oA r.on r.oc, .slice r.nA r.nn r.nc] 110
          have FA := K1.facts
          simp only [World.size_alloc, World.size_drew, factsL, cellsF, Nat.reduceAdd, List.toList_toArray, List.set_cons_zero, List.set_cons_succ, List.setIfInBounds_toArray, and_true, true_and] at FA
          clear H
          go_wp2_with (at_builtin; go_must (refine wpList_appH K1 1 rfl Tryz.elRw #[.int .i64 r.id, .slice r.oA r.on r.oc] rfl (.tmp 53) (.tmp 59) rfl rfl _ (by first | rfl | simp) rfl rfl (by intro u hu; simp at hu; rcases hu with rfl | rfl <;> rfl) (by omega) (by omega) ?_); intro g9 cap9 w9 hc9 hm9 KB; rw [HCE.out] at KB; simp only [List.set_cons_zero, List.set_cons_succ] at KB; (have FB := KB.facts); simp only [World.size_alloc, World.size_drew, factsL, cellsF, Nat.reduceAdd, List.toList_toArray, List.set_cons_zero, List.set_cons_succ, List.setIfInBounds_toArray, and_true, true_and] at FB)
          have KC := KB.store 3 rfl 4 (.slice (some ⟨g9, 0, none⟩) (k + 1) cap9)
          simp only [List.set_cons_zero, List.set_cons_succ, List.setIfInBounds_toArray] at KC
          go_roundw
          case rel => exact ⟨k + 1, cap9, _, by omega, by go_num, KC.drop (List.sublist_cons_self _ _)⟩
          case measure => simp [intOf]; omega
        · obtain rfl : znu = k := by omega
          have hd : decide ((znu : Int) < (znu : Int)) = false := by simp
          rw [List.take_of_length_le (by rw [HL2.out]; exact Nat.le_refl _)] at H
          have hcap2 := own_caps (H.get 0 rfl)
          have KS := H.sealRow 0 rfl
          simp only [List.set_cons_zero] at KS
          have KT : Hold M none w wr [.ro (SlR 2 O2 znu (rwCells (zlu.map oldRw))), .ro (IsIn O zni (zli.map Rw.id)), .blk gu 129 #[.string znm, .int .i64 x.nx, .slice O zni cap, .slice zD znd zcd, .slice O2 znu cap2], .cst gd 44 #[.string znm, .slice zI zni zci, .slice zD znd zcd, .slice zU znu zcu], .ro (PrsIn zU znu zlu), .ro (RwsIn zD znd zld), .ro (RwsIn zI zni zli), .ro (UesIn A n us)] := KS
          clear H KS
          go_wp2_with fail
          refine wp_region_any (by kernel_rfl) ?_
          refine wpAny_hold 4 68 ([.ro (SlR 2 O2 znu (rwCells (zlu.map oldRw))), .ro (IsIn O zni (zli.map Rw.id)), .blk gu 129 #[.string znm, .int .i64 x.nx, .slice O zni cap, .slice zD znd zcd, .slice O2 znu cap2], .cst gd 44 #[.string znm, .slice zI zni zci, .slice zD znd zcd, .slice zU znu zcu], .ro (PrsIn zU znu zlu), .ro (RwsIn zD znd zld), .ro (RwsIn zI zni zli), .ro (UesIn A n us)]) (spL [(64, LogSl (Mut M [.ro (SlR 2 O2 znu (rwCells (zlu.map oldRw))), .ro (IsIn O zni (zli.map Rw.id)), .blk gu 129 #[.string znm, .int .i64 x.nx, .slice O zni cap, .slice zD znd zcd, .slice O2 znu cap2], .cst gd 44 #[.string znm, .slice zI zni zci, .slice zD znd zcd, .slice zU znu zcu], .ro (PrsIn zU znu zlu), .ro (RwsIn zD znd zld), .ro (RwsIn zI zni zli), .ro (UesIn A n us)]) wr.heap.size N K (us.map Ue.ud)), (66, UeBox (Mut M [.ro (SlR 2 O2 znu (rwCells (zlu.map oldRw))), .ro (IsIn O zni (zli.map Rw.id)), .blk gu 129 #[.string znm, .int .i64 x.nx, .slice O zni cap, .slice zD znd zcd, .slice O2 znu cap2], .cst gd 44 #[.string znm, .slice zI zni zci, .slice zD znd zcd, .slice zU znu zcu], .ro (PrsIn zU znu zlu), .ro (RwsIn zD znd zld), .ro (RwsIn zI zni zli), .ro (UesIn A n us)]) #[.string znm, .int .i64 x.nx, .slice O zni cap, .slice zD znd zcd, .slice O2 znu cap2])]) (by kernel_rfl) (by kernel_rfl) (by kernel_rfl) rfl ?_ (KT.drew) ?_
          · exact stays_cons (logSl_mono KT.mutLt) (stays_cons ueBox_mono (stays_nil _))
          simp only [List.take_succ_cons, List.take_zero, List.drop_succ_cons, List.drop_zero, Act.put, List.getElem_toArray, List.getElem_cons_zero, List.getElem_cons_succ, List.setIfInBounds_toArray, List.set_cons_succ, List.set_cons_zero]
          repeat (first | (refine dw_skip rfl rfl rfl ?_; simp only [Act.put, List.setIfInBounds_toArray, List.set_cons_succ, List.set_cons_zero]) | (refine dw_val rfl rfl rfl ?_; apply Exists.intro; refine ⟨fun wv HC => ?_, ?_⟩; (focus ( go_simp <;> rfl; done)); simp only [Act.put, List.setIfInBounds_toArray, List.set_cons_succ, List.set_cons_zero]))
          refine dw_callR 64 (LogSl (Mut M [.ro (SlR 2 O2 znu (rwCells (zlu.map oldRw))), .ro (IsIn O zni (zli.map Rw.id)), .blk gu 129 #[.string znm, .int .i64 x.nx, .slice O zni cap, .slice zD znd zcd, .slice O2 znu cap2], .cst gd 44 #[.string znm, .slice zI zni zci, .slice zD znd zcd, .slice zU znu zcu], .ro (PrsIn zU znu zlu), .ro (RwsIn zD znd zld), .ro (RwsIn zI zni zli), .ro (UesIn A n us)]) wr.heap.size N K (us.map Ue.ud)) (f := 67) (args := #[.slice A n c]) rfl rfl rfl rfl (fun wv => ?_) (fun wv HC hrm hD => ?_) ?_
          · go_simp <;> rfl
          · refine (scopylog_any _ wv HC.mutLt A n c N K HOK.out.2.1 HOK.out.2.2 us HOK.out.1 (HC.ro 7 rfl) hn).mono ?_
            rintro e w5 ⟨A5, n5, c5, l5, rfl, h1, h2, h3, h4, b5⟩
            exact ⟨_, rfl, ⟨A5, n5, c5, l5, rfl, h1, h2, own_base (by simpa using hrm.1) h3, h4⟩, HC.call b5, RM.below b5⟩
          rintro u_ wx HCx ⟨A5, n5, c5, l5, rfl, -, -, -, -⟩
          clear HCx
          simp only [Act.put, List.setIfInBounds_toArray, List.set_cons_succ, List.set_cons_zero]
          repeat (first | (refine dw_skip rfl rfl rfl ?_; simp only [Act.put, List.setIfInBounds_toArray, List.set_cons_succ, List.set_cons_zero]) | (refine dw_val rfl rfl rfl ?_; apply Exists.intro; refine ⟨fun wv HC => ?_, ?_⟩; (focus (have f0 := cell_of_row _ _ 0 _ _ _ (HC.blk_ 2 rfl); have f1 := cell_of_row _ _ 1 _ _ _ (HC.blk_ 2 rfl); have f2 := cell_of_row _ _ 2 _ _ _ (HC.blk_ 2 rfl); have f3 := cell_of_row _ _ 3 _ _ _ (HC.blk_ 2 rfl); have f4 := cell_of_row _ _ 4 _ _ _ (HC.blk_ 2 rfl); have fl := Blk.lt (HC.blk_ 2 rfl); go_simp <;> rfl; done)); simp only [Act.put, List.setIfInBounds_toArray, List.set_cons_succ, List.set_cons_zero]))
          refine dw_new #[.string znm, .int .i64 x.nx, .slice O zni cap, .slice zD znd zcd, .slice O2 znu cap2] 129 66 (UeBox (Mut M [.ro (SlR 2 O2 znu (rwCells (zlu.map oldRw))), .ro (IsIn O zni (zli.map Rw.id)), .blk gu 129 #[.string znm, .int .i64 x.nx, .slice O zni cap, .slice zD znd zcd, .slice O2 znu cap2], .cst gd 44 #[.string znm, .slice zI zni zci, .slice zD znd zcd, .slice zU znu zcu], .ro (PrsIn zU znu zlu), .ro (RwsIn zD znd zld), .ro (RwsIn zI zni zli), .ro (UesIn A n us)]) #[.string znm, .int .i64 x.nx, .slice O zni cap, .slice zD znd zcd, .slice O2 znu cap2]) (fun g => .slice (some ⟨g, 0, none⟩) 1 1) rfl rfl rfl rfl (fun wv => ?_) (fun wv HC _hrm hD hro => ?_) ?_
          · go_simp <;> rfl
          · exact ⟨_, rfl, ro_block (hro _ HC.mutLt) rfl⟩
          rintro g2 wg HCg -
          simp only [Act.put, List.setIfInBounds_toArray, List.set_cons_succ, List.set_cons_zero]
          clear HCg
          refine rel_nil ?_
          rintro wx2 HX
          rintro hrm HGW
          have hu1 : LogSl (Mut M [.ro (SlR 2 O2 znu (rwCells (zlu.map oldRw))), .ro (IsIn O zni (zli.map Rw.id)), .blk gu 129 #[.string znm, .int .i64 x.nx, .slice O zni cap, .slice zD znd zcd, .slice O2 znu cap2], .cst gd 44 #[.string znm, .slice zI zni zci, .slice zD znd zcd, .slice zU znu zcu], .ro (PrsIn zU znu zlu), .ro (RwsIn zD znd zld), .ro (RwsIn zI zni zli), .ro (UesIn A n us)]) wr.heap.size N K (us.map Ue.ud) (.slice A5 n5 c5) wx2 := (GW_on (d := 64) rfl).1 (HGW 1 _ rfl (by omega))
          have hu2 : UeBox (Mut M [.ro (SlR 2 O2 znu (rwCells (zlu.map oldRw))), .ro (IsIn O zni (zli.map Rw.id)), .blk gu 129 #[.string znm, .int .i64 x.nx, .slice O zni cap, .slice zD znd zcd, .slice O2 znu cap2], .cst gd 44 #[.string znm, .slice zI zni zci, .slice zD znd zcd, .slice zU znu zcu], .ro (PrsIn zU znu zlu), .ro (RwsIn zD znd zld), .ro (RwsIn zI zni zli), .ro (UesIn A n us)]) #[.string znm, .int .i64 x.nx, .slice O zni cap, .slice zD znd zcd, .slice O2 znu cap2] (.slice (some ⟨g2, 0, none⟩) 1 1) wx2 := (GW_on (d := 66) rfl).1 (HGW 3 _ rfl (by omega))
          clear HGW
          obtain ⟨A6, n6, c6, l6, e6, p1, p2, p3, p4⟩ := hu1
          obtain ⟨rfl, rfl, rfl⟩ : A5 = A6 ∧ n5 = n6 ∧ c5 = c6 := by injection e6 with a b c; exact ⟨a, b, c⟩
          obtain ⟨g3, e7, p5⟩ := hu2
          obtain rfl : g2 = g3 := by injection e7 with e7; injection e7 with e7; injection e7
          have K7 := (Hold.addOwn KT.drew HX hrm (by simpa using p3)).add (p4.less (by intro b hb; rcases mut_cons.1 hb with h | h; exact .inr ⟨_, List.mem_singleton_self _, h⟩; exact .inl h))
          have HP := hid (And.intro p1 p2)
          have hn5 : n5 ≤ 1000000 := by
            have a := p3.1; rw [ueCells_len] at a
            have b := congrArg List.length p1; rw [List.length_map, List.length_map, HUL.out] at b
            omega
          have k5 := hid p5.now
          clear HX KT p1 p2 p3 p4 p5 e6 e7 hrm
          go_wp2_with (at_builtin; go_must (refine wpList_appAllH K7 1 rfl Tryz.elUe k5.out rfl (.tmp 64) (.tmp 66) rfl rfl rfl (by intro z hz; simp at hz; rcases hz with rfl | rfl | rfl | rfl | rfl <;> rfl) (by omega) (by omega) ?_); intro C' cap' w6 hc6 hm6 KB; simp only [List.set_cons_zero, List.set_cons_succ] at KB)
          have KD := KB.sealRow 1 rfl
          simp only [List.set_cons_zero, List.set_cons_succ] at KD
          have e9 : ueCells l6 ++ [.string znm, .int .i64 x.nx, .slice O zni cap, .slice zD znd zcd, .slice O2 znu cap2] = ueCells (l6 ++ [⟨znm, x.nx, O, zni, cap, zD, znd, zcd, O2, znu, cap2, zli.map Rw.id, zld, zlu.map oldRw⟩]) := (ueCells_snoc l6 ⟨znm, x.nx, O, zni, cap, zD, znd, zcd, O2, znu, cap2, zli.map Rw.id, zld, zlu.map oldRw⟩).symm
          rw [e9] at KD
          have rI := KD.roOut 3 rfl
          have rU := (KD.roOut 2 rfl).and ((KD.roOut 6 rfl).imp (S' := ValsIn (zlu.map oldRw)) fun w2 h2 r hr => by
            obtain ⟨p, hp, rfl⟩ := List.mem_map.1 hr
            exact (h2.2 p hp).1)
          have rE : Ro w6 M (UeIn ⟨znm, x.nx, O, zni, cap, zD, znd, zcd, O2, znu, cap2, zli.map Rw.id, zld, zlu.map oldRw⟩) := rI.and ((KD.roOut 7 rfl).and rU)
          have rL := (KD.roOut 1 rfl).and (ueVals_snoc (KD.roOut 0 rfl) rE)
          have HG := HZG.out
          have HB := KD.below
          go_wp2_with fail
          go_ret2
          refine ⟨C', n5 + 1, cap', _, rfl, hc6, hm6, ?_, fun u hu => ?_, rL, HB⟩
          · rw [List.map_append, HP.out.1, List.map_singleton]
            exact congrArg _ (congrArg (fun z => [z]) (by rw [← HZ.out]; simp [Ue.ud, udOf, El.dl, Rw.row, Pr.upd, oldRw, List.map_map, Function.comp_def]))
          · rcases List.mem_append.1 hu with hu | hu
            · exact HP.out.2 u hu
            · simp at hu; subst hu
              exact ⟨HG.i, HG.d, HG.u, ⟨hcap.1, hcap.2.1⟩, HG.cd, ⟨hcap2.1, hcap2.2.1⟩, fun i hi => by
                obtain ⟨r, hr, rfl⟩ := List.mem_map.1 hi; exact (HG.li r hr).1.id, HG.ld, fun r hr => by
                obtain ⟨p, hp, rfl⟩ := List.mem_map.1 hr
                obtain ⟨a, b, c⟩ := HG.lu p hp
                exact ⟨⟨a.id, a.oc, a.oc2, a.old⟩, b⟩⟩
end Go.Proofs.YtedogodccblfeaaGreatDoor

namespace Go.Proofs.YtedogodccblfeaaGreatDoor
open Go.RowKit
set_option linter.unusedVariables false
set_option linter.unusedSimpArgs false

set_option maxHeartbeats 4000000 in
set_option maxRecDepth 100000 in
theorem rsameschema_any (w : World) (nm : ByteArray) (A : Option Addr) (n c : Nat) (cs : List Col) (nm2 : ByteArray) (B : Option Addr) (m d : Nat) (ds : List Col) (hD : ColsIn A n cs w) (hE : ColsIn B m ds w) (hn : n ≤ 4398046511104) :
    Calls Tryz.prog 59 #[.agg #[.string nm, .slice A n c], .agg #[.string nm2, .slice B m d]] w fun e w' => e = .returned (.bool (decide (nm = nm2 ∧ cs = ds))) ∧ Below w.heap.size w w' := by
  have HL := hid (show cs.length = n from cols_n hD)
  have HK := hid (show ds.length = m from cols_n hE)
  have K0 := ((((Hold.start None_ w (fun b hb => hb.elim)).add (Rd.ro hE (Nat.le_refl _) (by simp [Mut, None_]) : Ro w _ (ColsIn B m ds))).add (Rd.ro hD (Nat.le_refl _) (by simp [Mut, None_, Hp.foot]) : Ro w _ (ColsIn A n cs))).alloc_cst #[.string nm, .slice A n c] 49).alloc_cst #[.string nm2, .slice B m d] 49
  rw [World.size_alloc] at K0
  have F0 := K0.facts
  simp only [World.size_alloc, World.size_drew, factsL, cellsF, Nat.reduceAdd, List.toList_toArray, List.set_cons_zero, List.set_cons_succ, List.setIfInBounds_toArray, and_true, true_and] at F0
  clear hD hE
  by_cases hi : nm = nm2
  · subst hi
    have h1 : (nm.toList == nm.toList) = true := by simp
    have h1' : (nm.toList != nm.toList) = false := by simp
    by_cases hnm : n = m
    · subst hnm
      have hb : ((n : Int) != (n : Int)) = false := by simp
      go_enter Tryz.func59, Tryz.ntmps59
      go_wp2_with fail
      obtain ⟨g2, hg2⟩ : ∃ g, g = w.heap.size := ⟨_, rfl⟩
      obtain ⟨g3, hg3⟩ : ∃ g, g = g2 + 1 := ⟨_, rfl⟩
      rw [← hg2, ← hg3] at K0 ⊢
      clear F0
      generalize (w.alloc _).alloc _ = w1 at K0 ⊢
      have HG := hid hg2
      clear hg2 hg3
      go_loopw [23] (fun iv wr => ∃ (k : Nat), k ≤ n ∧ iv = .int .i64 k ∧ Hid (cs.take k = ds.take k) ∧ Hold None_ none w wr [.cst g3 49 #[.string nm, .slice B n d], .cst g2 49 #[.string nm, .slice A n c], .ro (ColsIn A n cs), .ro (ColsIn B n ds)]) (fun iv _ => n - (intOf iv).toNat)
      case atStart => exact ⟨0, by omega, rfl, hid (by simp), K0⟩
      case round =>
        clear K0
        obtain ⟨k, hk, rfl, HTK, H⟩ := hrel
        have F := H.facts
        simp only [World.size_alloc, World.size_drew, factsL, cellsF, Nat.reduceAdd, List.toList_toArray, List.set_cons_zero, List.set_cons_succ, List.setIfInBounds_toArray, and_true, true_and] at F
        by_cases hlt : k < n
        · have hd : decide ((k : Int) < (n : Int)) = true := by simp; omega
          have i0 : (0 : Int) ≤ (k : Int) := by omega
          have i1 : (k : Int) < (n : Int) := by omega
          obtain ⟨x, hx⟩ := get_of HL.out hlt
          obtain ⟨y, hy⟩ := get_of HK.out hlt
          obtain ⟨g, o, rfl, hbx, x0, x1, x2, x3⟩ := (RdC.of_sl (H.ro 2 rfl).now).at_ hx
          obtain ⟨g', o', rfl, hby, y0, y1, y2, y3⟩ := (RdC.of_sl (H.ro 3 rfl).now).at_ hy
          have HX := hid hx; have HY := hid hy; clear hx hy
          by_cases h0 : x.name = y.name
          · have e0 : (x.name.toList == y.name.toList) = true := by simp [h0]
            by_cases h1 : x.ty = y.ty
            · have e1 : (x.ty == y.ty) = true := by simp [h1]
              by_cases h2 : x.nn = y.nn
              · have e2 : (x.nn == y.nn) = true := by simp [h2]
                by_cases h3 : x.key = y.key
                · have e3 : (x.key == y.key) = true := by simp [h3]
                  have HXY := hid (show x = y by cases x; cases y; simp_all)
                  clear h0 h1 h2 h3
                  go_wp2_with fail
                  go_quiet (fail)
                  have HZ := H.drewN nq
                  go_wp2_with fail
                  go_roundw
                  case rel => exact ⟨k + 1, by omega, by go_num, hid (takeEq_succ HX.out HY.out HTK.out HXY.out), HZ⟩
                  case measure => simp [intOf]; omega
                · have e3 : (x.key == y.key) = false := by simpa using h3
                  have HN := hid (show decide (nm = nm ∧ cs = ds) = false from by rw [decide_eq_false_iff_not]; rintro ⟨_, h⟩; exact take_ne HX.out HY.out (by intro h; exact h3 (by rw [h])) h)
                  clear h0 h1 h2 h3
                  go_wp2_with fail
                  go_quiet (fail)
                  have HZ := H.drewN nq
                  go_wp2_with fail
                  go_ret
                  exact ⟨by rw [HN.out] <;> rfl, HZ.below⟩
              · have e2 : (x.nn == y.nn) = false := by simpa using h2
                have HN := hid (show decide (nm = nm ∧ cs = ds) = false from by rw [decide_eq_false_iff_not]; rintro ⟨_, h⟩; exact take_ne HX.out HY.out (by intro h; exact h2 (by rw [h])) h)
                clear h0 h1 h2
                go_wp2_with fail
                go_quiet (fail)
                have HZ := H.drewN nq
                go_wp2_with fail
                go_ret
                exact ⟨by rw [HN.out] <;> rfl, HZ.below⟩
            · have e1 : (x.ty == y.ty) = false := by simpa using h1
              have HN := hid (show decide (nm = nm ∧ cs = ds) = false from by rw [decide_eq_false_iff_not]; rintro ⟨_, h⟩; exact take_ne HX.out HY.out (by intro h; exact h1 (by rw [h])) h)
              clear h0 h1
              go_wp2_with fail
              go_quiet (fail)
              have HZ := H.drewN nq
              go_wp2_with fail
              go_ret
              exact ⟨by rw [HN.out] <;> rfl, HZ.below⟩
          · have e0 : (x.name.toList == y.name.toList) = false := by rw [beq_eq_false_iff_ne]; exact fun h => h0 (bytesEq h)
            have HN := hid (show decide (nm = nm ∧ cs = ds) = false from by rw [decide_eq_false_iff_not]; rintro ⟨_, h⟩; exact take_ne HX.out HY.out (by intro h; exact h0 (by rw [h])) h)
            clear h0
            go_wp2_with fail
            go_quiet (fail)
            have HZ := H.drewN nq
            go_wp2_with fail
            go_ret
            exact ⟨by rw [HN.out] <;> rfl, HZ.below⟩
        · obtain rfl : n = k := by omega
          have hd : decide ((n : Int) < (n : Int)) = false := by simp
          have HE := hid (show cs = ds from by
            have h := HTK.out
            rw [List.take_of_length_le (by rw [HL.out]; exact Nat.le_refl _), List.take_of_length_le (by rw [HK.out]; exact Nat.le_refl _)] at h
            simp [h])
          go_wp2_with fail
          go_ret
          exact ⟨congrArg (fun b => Ending.returned (Value.bool b)) (a₁ := true) (by simp [HE.out]), H.below⟩
    · have hb : ((n : Int) != (m : Int)) = true := by simp; omega
      have HB := hid (show ¬ cs = ds from by rintro rfl; have := HL.out; have := HK.out; omega)
      go_enter Tryz.func59, Tryz.ntmps59
      go_wp2_with fail
      go_ret
      exact ⟨congrArg (fun b => Ending.returned (Value.bool b)) (a₁ := false) (by simp [HB.out]), K0.below⟩
  · have h1 : (nm.toList == nm2.toList) = false := by rw [beq_eq_false_iff_ne]; exact fun h => hi (bytesEq h)
    have h1' : (nm.toList != nm2.toList) = true := by rw [bne_iff_ne]; exact fun h => hi (bytesEq h)
    have HB := hid (show decide (nm = nm2 ∧ cs = ds) = false by simp [hi])
    clear hi
    go_enter Tryz.func59, Tryz.ntmps59
    go_wp2_with fail
    go_ret
    exact ⟨by rw [HB.out] <;> rfl, K0.below⟩
end Go.Proofs.YtedogodccblfeaaGreatDoor

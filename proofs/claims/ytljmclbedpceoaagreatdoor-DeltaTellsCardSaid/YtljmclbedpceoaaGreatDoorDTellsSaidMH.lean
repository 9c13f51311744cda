/- DeltaTells answers true for every difference, schema, tape and event: Empty, Rows, Changed and Bags answer what the reference answers. Condition: the row's own, the laid table of words; the tied card. -/
import Derived.Test.YtljmclbedpceoaaGreatDoorDTellsSaidMC
import Derived.Test.YtljmclbedpceoaaGreatDoorDTellsSaidMD
import Derived.Test.YtljmclbedpceoaaGreatDoorDTellsSaidMG
import Derived.Test.YtljmclbedpceoaaGreatDoorDTellsSaidMF
import Derived.Test.YtljmclbedpceoaaGreatDoorDTellsSaidMB
import Derived.Test.YtljmclbedpceoaaGreatDoorCards
import Derived.Test.YtljmclbedpceoaaGreatDoorTie
import Derived.Test.YtljmclbedpceoaaGreatDoorDTellsSaidMA
namespace Go.Proofs.YtljmclbedpceoaaGreatDoor
open Go.RowKit
set_option linter.unusedVariables false
set_option linter.unusedSimpArgs false
theorem own_empty {w : World} {g b0 size : Nat} {e : TypeId} (hb : b0 ≤ g) (hg : w.heap[g]? = some (.cells #[] e (0, 0))) : w.ownsRow b0 e size (.slice (some ⟨g, 0, none⟩) 0 0) 0 [] :=
  ⟨by simp, .inr ⟨g, 0, #[], rfl, hb, hg, Nat.le_refl _, Nat.zero_le _, by simp, by simp⟩⟩
theorem run_cloneEmpty {P : Program} {t e : TypeId} {size bytes : Nat} {z : Value} (hE : ElemT P t e size bytes z) (ty : TypeId) (w : World) {g b0 : Nat} (hb0 : b0 ≤ g) (hb1 : b0 ≤ w.heap.size) (hg : w.heap[g]? = some (.cells #[] e (0, 0))) {A : Option Addr} {m c : Nat} {ys : List Value} (hr : SlR size A m ys w) (h1 : ∀ u ∈ ys, u.oneCell' = true) (hq : m < 140737488355328) (hb : m * bytes ≤ 140737488355328) :
    ∃ C' cap' w', (Builtin.append_ #[t, t] ty #[.slice (some ⟨g, 0, none⟩) 0 0, .slice A m c]).run P w = .ok (.slice C' m cap') w' ∧ m ≤ cap' ∧ cap' ≤ 9223372036854775807 ∧ w'.ownsRow b0 e size (.slice C' m cap') m ys ∧ Below w.heap.size w w' := by
  obtain ⟨i0, hi1, hi2, hi3, hi4⟩ := info_parts hE.hi
  have hown := own_empty (size := size) hb0 hg
  have hz : A = none → m = 0 := fun hA => by
    rcases Nat.eq_zero_or_pos m with h0 | h0
    · exact h0
    · obtain ⟨b, o, h, _⟩ := hr.2 h0
      rw [hA] at h; cases h
  rcases A with _ | ad
  · obtain rfl := hz rfl
    have hn : ys = [] := List.eq_nil_of_length_eq_zero (by simpa using hr.1)
    subst hn
    exact ⟨some ⟨g, 0, none⟩, 0, w, run_append_self w _ t _ _ i0 size hE.ht hi1 _ _ _ hown c, by omega, by omega, hown, Below.refl _ _⟩
  · have hcells : ∀ j u, ys[j]? = some u → w.cell? (ad.add j) = some u := by
      intro j u hu
      have hpos : 0 < m := by
        rcases Nat.eq_zero_or_pos m with h0 | h0
        · have hn : ys = [] := List.eq_nil_of_length_eq_zero (by have := hr.1; rw [h0] at this; simpa using this)
          rw [hn] at hu; simp at hu
        · exact h0
      obtain ⟨b, o', hA, _, hc⟩ := hr.2 hpos
      injection hA with hA
      subst hA
      have := hc j u hu
      rwa [Addr.add_lit]
    rcases Nat.eq_zero_or_pos m with h0 | h0
    · subst h0
      have hn : ys = [] := List.eq_nil_of_length_eq_zero (by simpa using hr.1)
      subst hn
      have hrun := run_append_room_cells (P := P) (w := w) t ty e i0 hE.ht hi1 g 0 0 0 ad 0 c [] (by simp) (fun j u hu => by simp at hu) (fun u hu => nomatch hu) (by omega) (fun j hj => by simp at hj) (fun j hj => by simp at hj)
      exact ⟨some ⟨g, 0, none⟩, 0, w, hrun, by omega, by omega, hown, Below.refl _ _⟩
    · obtain ⟨v', w', hrun, h2, h3, _, h5⟩ := run_append_own_at (P := P) w b0 t ty e i0 z size bytes hE.ht hi1 hi2 hi3 hi4 hE.hzs hE.hsz _ 0 [] hown ad m c ys hr.1 hcells h1 (by unfold maxLen; omega) (by rw [Nat.zero_add]; exact hb) hb1
      rw [Nat.zero_add, List.nil_append] at h2
      obtain ⟨C', cap', rfl⟩ := own_form h2
      have hc := own_caps h2
      have hgr := run_append_grow (P := P) w t ty e i0 z hE.ht hi1 hi2 ⟨g, 0, none⟩ 0 0 [] (by simp) (fun j v hv => by simp at hv) ad m c ys (by rw [hi3]; exact hr.1) hcells (by omega) (by omega) (growslice_fits (by omega) (by rw [hi4, Nat.zero_add]; exact hb))
      have hgr2 := hrun.symm.trans hgr
      injection hgr2 with _ hw
      subst hw
      exact ⟨C', cap', _, hrun, hc.1, hc.2.1, h2, ⟨rfl, rfl, rfl, by simp, fun k hk => heap_alloc_old w.drew _ hk⟩⟩
section
variable {P : Program} {M : Nat → Prop} {row : Option Nat} {w0 w1 : World} {L : List Hp} {sp : SpW} {F : Act → Prop} {S0 : Array Bool}
variable {ops : Array Oper} {o : Oper} {rest : List Oper} {a : Act} {k : Nat}
theorem dw_cloneE {t e : TypeId} {size bytes : Nat} {z : Value} (hE : ElemT P t e size bytes z) (d : Tmp) (V : Value → World → Prop) (hS : S0.getD k false = false) (hw : Region.wanted o (yielded ops a.tmps) = true) (hd : o.dst = some d) (hsp : sp d = some V)
    (s x : Operand) (ho : o.op = .call { callee := .builtin .append, args := #[s, x], argTypes := #[t, t] }) {g b0 : Nat} (hs : a.eval s = .slice (some ⟨g, 0, none⟩) 0 0) {A : Option Addr} {m c : Nat} {ys : List Value} (hx : a.eval x = .slice A m c) (h1 : ∀ u ∈ ys, u.oneCell' = true) (hq : m < 140737488355328) (hb : m * bytes ≤ 140737488355328)
    (hb0 : b0 ≤ w1.heap.size) (hg : ∀ w, Hold M row w0 w L → Deps ops (GW sp) o a w → b0 ≤ g ∧ w.heap[g]? = some (.cells #[] e (0, 0))) (hr : ∀ w, Hold M row w0 w L → Deps ops (GW sp) o a w → SlR size A m ys w)
    (hV : ∀ C' cap' w w', Hold M row w0 w L → RM (Mut M L) w1 w → Hold M row w0 w' L → m ≤ cap' → cap' ≤ 9223372036854775807 → w'.ownsRow b0 e size (.slice C' m cap') m ys → V (.slice C' m cap') w')
    (hn : ∀ u w, Hold M row w0 w L → V u w → wpRel P ops (HC M row w0 w1 L) (GW sp) (RM (Mut M L)) S0 F (k + 1) rest (a.put (some d) u)) : wpRel P ops (HC M row w0 w1 L) (GW sp) (RM (Mut M L)) S0 F k (o :: rest) a := by
  refine rel_step hS hw d hd (fun w hC hD => ?_) fun u w hC hu => hn u w hC.1 ((GW_on hsp).1 hu)
  obtain ⟨hb2, hg2⟩ := hg w hC.1 hD
  obtain ⟨C', cap', w', hrun, c1, c2, ho2, hbl⟩ := run_cloneEmpty hE o.type w hb2 (Nat.le_trans hb0 hC.2.1) hg2 (hr w hC.1 hD) (c := c) h1 hq hb
  have hH := hC.1.call hbl
  refine ⟨.slice C' m cap', w', ?_, (GW_on hsp).2 (hV C' cap' w w' hC.1 hC.2 hH c1 c2 ho2), ⟨hH, hC.2.trans (RM.below hbl)⟩, RM.below hbl⟩
  unfold execOp
  simp only [ho, resolve, invoke, builtin, Sem.run_bind, Sem.run_pure, Result.andThen_ok, List.map_toArray, List.map_cons, List.map_nil, hs, hx, hrun]
end
/-- an empty literal's slot -/
def EmptySl (M : Nat → Prop) (b0 : Nat) (t : TypeId) (u : Value) (w : World) : Prop := ∃ g : Nat, u = .slice (some ⟨g, 0, none⟩) 0 0 ∧ b0 ≤ g ∧ Ro w M (fun w => w.heap[g]? = some (.cells #[] t (0, 0)))
theorem emptySl_mono {M : Nat → Prop} {b0 : Nat} {t : TypeId} (u : Value) (w w' : World) (hr : RM M w w') (h : EmptySl M b0 t u w) : EmptySl M b0 t u w' := by
  obtain ⟨g, h1, h2, h3⟩ := h
  exact ⟨g, h1, h2, hr.ro h3⟩
/-- a list's slot, as it stands in memory -/
def StSl (M : Nat → Prop) (size : Nat) (xs : List Value) (u : Value) (w : World) : Prop := ∃ g n : Nat, u = .slice (some ⟨g, 0, none⟩) n n ∧ Ro w M (SlR size (some ⟨g, 0, none⟩) n xs)
theorem stSl_mono {M : Nat → Prop} {size : Nat} {xs : List Value} (u : Value) (w w' : World) (hr : RM M w w') (h : StSl M size xs u w) : StSl M size xs u w' := by
  obtain ⟨g, n, h1, h2⟩ := h
  exact ⟨g, n, h1, hr.ro h2⟩
end Go.Proofs.YtljmclbedpceoaaGreatDoor

namespace Go.Proofs.YtljmclbedpceoaaGreatDoor
open Go.RowKit
set_option linter.unusedVariables false
set_option linter.unusedSimpArgs false

theorem prVals_new {U : Option Addr} {nu : Nat} {us : List Pr} {w : World} (h : PrsIn U nu us w) (r : Int) : PrVals (us ++ [⟨r, none, 0, 0, [], none, 0, 0, []⟩]) w := fun p hp => by
  rcases List.mem_append.1 hp with hp | hp
  · exact h.2 p hp
  · simp at hp; subst hp; exact ⟨Rd.none_, Rd.none_⟩
theorem prOk_new {r : Int} (h : I64 r) : Pr.ok ⟨r, none, 0, 0, [], none, 0, 0, []⟩ := ⟨h, Nat.le_refl _, Nat.zero_le _, Nat.le_refl _, Nat.zero_le _, fun v hv => (nomatch hv), fun v hv => (nomatch hv)⟩
theorem prOk_snoc {l : List Pr} {p : Pr} (h : ∀ q ∈ l, q.ok) (k : p.ok) : ∀ q ∈ l ++ [p], q.ok := prs_ok_app h (fun q hq => by simp at hq; subst hq; exact k)
end Go.Proofs.YtljmclbedpceoaaGreatDoor

namespace Go.Proofs.YtljmclbedpceoaaGreatDoor
open Go.RowKit
set_option linter.unusedVariables false
set_option linter.unusedSimpArgs false

/-- a difference whose updates' old rows are short -/
def OldShort (d : Dl) : Prop := ∀ u ∈ d.upd, u.2.1.length ≤ 1000
/-- Some difference in memory. -/
def SomeDl (PO : Prop) (w : World) (T : Nat) (M : Nat → Prop) (e : Ending) (w' : World) : Prop :=
  ∃ (v : Value) (d : Dl), e = .returned v ∧ DlAt w' M v d ∧ (d.ins.length ≤ 2000 ∧ d.del.length ≤ 2000 ∧ d.upd.length ≤ 2000) ∧ (∀ r ∈ d.ins, r.2.length ≤ 1000) ∧ (∀ u ∈ d.upd, u.2.2.length ≤ 1000) ∧ Tp w' T ∧ w.grownBy w' (some T) ∧ (PO → (∀ r ∈ d.del, r.2.length ≤ 1000) ∧ ∀ u ∈ d.upd, u.2.1.length ≤ 1000)
theorem someDl_of {PO : Prop} {M : Nat → Prop} {T : Nat} {w w' : World} {nm : ByteArray} {I D U : Option Addr} {ni ci nd cd nu cu : Nat} {li ld : List Rw} {lu : List Pr} (h1 : ni ≤ ci ∧ ci ≤ 9223372036854775807) (h2 : nd ≤ cd ∧ cd ≤ 9223372036854775807) (h3 : nu ≤ cu ∧ cu ≤ 9223372036854775807) (hi : ∀ s ∈ li, s.ok) (hd : ∀ s ∈ ld, s.ok) (hu : ∀ p ∈ lu, p.ok)
    (h5 : ni ≤ 2000 ∧ nd ≤ 2000 ∧ nu ≤ 2000) (h6 : ∀ r ∈ li, r.vs.length ≤ 1000) (h7 : (∀ p ∈ lu, p.new.length ≤ 1000) ∧ (PO → (∀ r ∈ ld, r.vs.length ≤ 1000) ∧ ∀ p ∈ lu, p.old.length ≤ 1000)) (r1 : Ro w' M (RwsIn I ni li)) (r2 : Ro w' M (RwsIn D nd ld)) (r3 : Ro w' M (PrsIn U nu lu)) (ht : Tp w' T) (hg : w.grownBy w' (some T)) : SomeDl PO w T M (.returned (.agg #[.string nm, .slice I ni ci, .slice D nd cd, .slice U nu cu])) w' := by
  have l1 : li.length = ni := r1.now.len
  have l2 : ld.length = nd := r2.now.len
  have l3 : lu.length = nu := r3.now.len
  refine ⟨_, ⟨nm, li.map Rw.row, ld.map Rw.row, lu.map Pr.upd⟩, rfl, ⟨I, ni, ci, D, nd, cd, U, nu, cu, li, ld, lu, rfl, h1, h2, h3, r1, r2, r3, hi, hd, hu, rfl, rfl, rfl⟩, ⟨by rw [List.length_map]; omega, by rw [List.length_map]; omega, by rw [List.length_map]; omega⟩, fun r hr => ?_, fun u hu => ?_, ht, hg, fun hp => ⟨fun r hr => ?_, fun u hu => ?_⟩⟩
  · obtain ⟨x, hx, rfl⟩ := List.mem_map.1 hr
    exact h6 x hx
  · obtain ⟨x, hx, rfl⟩ := List.mem_map.1 hu
    exact h7.1 x hx
  · obtain ⟨x, hx, rfl⟩ := List.mem_map.1 hr
    exact (h7.2 hp).1 x hx
  · obtain ⟨x, hx, rfl⟩ := List.mem_map.1 hu
    exact (h7.2 hp).2 x hx
theorem rwCells_one (l : List Rw) : ∀ u ∈ rwCells l, u.oneCell' = true := fun u hu => by
  unfold rwCells at hu
  rw [List.mem_flatMap] at hu
  obtain ⟨x, _, hx⟩ := hu
  simp only [Rw.cells, List.mem_cons, List.not_mem_nil, or_false] at hx
  rcases hx with rfl | rfl <;> rfl
theorem rw_ok_snoc {l : List Rw} {x : Rw} (h : ∀ r ∈ l, r.ok) (k : x.ok) : ∀ r ∈ l ++ [x], r.ok := okSnoc h k
theorem rw_len_snoc {l : List Rw} {x : Rw} (h : ∀ r ∈ l, r.vs.length ≤ 1000) (k : x.vs.length ≤ 1000) : ∀ r ∈ l ++ [x], r.vs.length ≤ 1000 := okSnoc h k
theorem pr_len_snoc {l : List Pr} {x : Pr} (h : ∀ r ∈ l, r.new.length ≤ 1000) (k : x.new.length ≤ 1000) : ∀ r ∈ l ++ [x], r.new.length ≤ 1000 := okSnoc h k
theorem rw_ok_cons {l : List Rw} {x : Rw} (h : ∀ r ∈ l, r.ok) (k : x.ok) : ∀ r ∈ x :: l, r.ok := fun r hr => by
  rcases List.mem_cons.1 hr with rfl | hr
  · exact k
  · exact h r hr
theorem rw_len_cons {l : List Rw} {x : Rw} (h : ∀ r ∈ l, r.vs.length ≤ 1000) (k : x.vs.length ≤ 1000) : ∀ r ∈ x :: l, r.vs.length ≤ 1000 := fun r hr => by
  rcases List.mem_cons.1 hr with rfl | hr
  · exact k
  · exact h r hr
theorem rwVals_new {A : Option Addr} {n : Nat} {l : List Rw} {x : Rw} {w : World} (h : RwsIn A n l w) (k : VlsIn x.A x.n x.vs w) : ValsIn (l ++ [x]) w := fun r hr => by
  rcases List.mem_append.1 hr with hr | hr
  · exact h.2 r hr
  · simp at hr; subst hr; exact k
theorem rwVals_cons {A : Option Addr} {n : Nat} {l : List Rw} {x : Rw} {w : World} (h : RwsIn A n l w) (k : VlsIn x.A x.n x.vs w) : ValsIn (x :: l) w := fun r hr => by
  rcases List.mem_cons.1 hr with rfl | hr
  · exact k
  · exact h.2 r hr
theorem rwOk_new {r : Int} (h : I64 r) : Rw.ok ⟨r, none, 0, 0, []⟩ := ⟨h, Nat.le_refl _, Nat.zero_le _, fun v hv => (nomatch hv)⟩
theorem rwOk_two {r : Int} (h : I64 r) {g : Nat} : Rw.ok ⟨r, some ⟨g, 0, none⟩, 2, 2, [⟨0, 0, ⟨#[]⟩⟩, ⟨0, 0, ⟨#[]⟩⟩]⟩ := ⟨h, Nat.le_refl _, by show (2 : Nat) ≤ _; omega, fun v hv => by
  simp at hv
  subst hv
  exact ⟨by unfold I64; decide, by unfold I64; decide, Nat.zero_le _⟩⟩
theorem prVals_two {A : Option Addr} {n : Nat} {l : List Pr} {id : Int} {B : Option Addr} {m c : Nat} {vs : List Vl} {w : World} (h : PrsIn A n l w) (k : VlsIn B m vs w) : PrVals (l ++ [⟨id, B, m, c, vs, B, m, c, vs⟩]) w := fun r hr => by
  rcases List.mem_append.1 hr with hr | hr
  · exact h.2 r hr
  · simp at hr; subst hr; exact ⟨k, k⟩

set_option maxHeartbeats 8000000 in
set_option maxRecDepth 100000 in
theorem dspoil_any (M : Nat → Prop) (T : Nat) (w : World) (hM : ∀ b, M b → b < w.heap.size) (ht : Tp w T) (hMT : ∀ b, M b → T ≤ b) (v : Value) (d : Dl) (hV : DlAt w (Mut M [.tp T]) v d) (hn1 : d.ins.length ≤ 200) (hn2 : d.del.length ≤ 200) (hn3 : d.upd.length ≤ 200) (hl1 : ∀ r ∈ d.ins, r.2.length ≤ 1000) (hl2 : ∀ r ∈ d.del, r.2.length ≤ 1000) (hl3 : ∀ u ∈ d.upd, u.2.2.length ≤ 1000) :
    Calls Tryz.prog 14 #[.pointer (some ⟨T, 0, none⟩), v] w fun e w' => SomeDl (OldShort d) w T M e w' := by
  obtain ⟨I, ni, ci, D, nd, cd, U, nu, cu, li, ld, lu, rfl, h1, h2, h3, hI, hD, hU, hoi, hod, hou, e1, e2, e3⟩ := hV
  have HB1 := hid h1
  have HB2 := hid h2
  have HB3 := hid h3
  have HOI := hid hoi
  have HOD := hid hod
  have HOU := hid hou
  have HDL := hid (show ld.length = nd from hD.now.len)
  have hni : ni ≤ 200 := by have h : li.length = ni := hI.now.len; have := congrArg List.length e1; rw [List.length_map] at this; omega
  have hnd : nd ≤ 200 := by have h : ld.length = nd := hD.now.len; have := congrArg List.length e2; rw [List.length_map] at this; omega
  have hnu : nu ≤ 200 := by have h : lu.length = nu := hU.now.len; have := congrArg List.length e3; rw [List.length_map] at this; omega
  have HSH := hid (show (ni ≤ 2000 ∧ nd ≤ 2000 ∧ nu ≤ 2000) ∧ (∀ r ∈ li, r.vs.length ≤ 1000) ∧ (∀ p ∈ lu, p.new.length ≤ 1000) ∧ (OldShort d → (∀ r ∈ ld, r.vs.length ≤ 1000) ∧ ∀ p ∈ lu, p.old.length ≤ 1000) from ⟨⟨by omega, by omega, by omega⟩, fun r hr => hl1 r.row (by rw [← e1]; exact List.mem_map_of_mem hr), fun p hp => hl3 p.upd (by rw [← e3]; exact List.mem_map_of_mem hp), fun hpo => ⟨fun r hr => hl2 r.row (by rw [← e2]; exact List.mem_map_of_mem hr), fun p hp => hpo p.upd (by rw [← e3]; exact List.mem_map_of_mem hp)⟩⟩)
  have HSH3 := hid HSH.out.2.2
  have HSD := hid (show ∀ r ∈ ld, r.vs.length ≤ 1000 from fun r hr => hl2 r.row (by rw [← e2]; exact List.mem_map_of_mem hr))
  have K0 := (((((Hold.startT M w T hM ht hMT).add hU).add (hD.less (mut_none rfl))).add ((hI.less (mut_none rfl)).less (mut_none rfl))).alloc #[.string d.nm, .slice I ni ci, .slice D nd cd, .slice U nu cu] 25).alloc #[.string ⟨#[]⟩, .slice none 0 0, .slice none 0 0, .slice none 0 0] 25
  simp only [World.size_alloc] at K0
  have F0 := K0.facts
  simp only [World.size_alloc, World.size_drew, factsL, cellsF, Nat.reduceAdd, List.toList_toArray, List.set_cons_zero, List.set_cons_succ, List.setIfInBounds_toArray, and_true, true_and] at F0
  clear hI hD hU h1 h2 h3 hoi hod hou e1 e2 e3 hn1 hn2 hn3 hl1 hl2 hl3
  go_enter Tryz.func14, Tryz.ntmps14
  obtain ⟨g3, hg3⟩ : ∃ g3, g3 = w.heap.size := ⟨_, rfl⟩
  obtain ⟨g4, hg4⟩ : ∃ g4, g4 = g3 + 1 := ⟨_, rfl⟩
  go_wp2_with fail
  rw [← hg3, ← hg4] at K0 ⊢
  clear F0
  generalize (w.alloc _).alloc _ = w1 at K0 ⊢
  have HGX0 := hid hg3
  clear hg3 hg4
  refine (next_any T 6 _ (K0.tp_ 5 rfl) (by omega) (by omega)).mono ?_
  rintro e w2 ⟨z, rfl, z0, z1, t2, g2⟩
  have K2 := Hold.callT K0 5 rfl g2 t2
  clear K0 g2 t2
  have F2 := K2.facts
  simp only [World.size_alloc, World.size_drew, factsL, cellsF, Nat.reduceAdd, List.toList_toArray, List.set_cons_zero, List.set_cons_succ, List.setIfInBounds_toArray, and_true, true_and] at F2
  have NK := K2.nes
  simp only [nesL, neF, and_true, true_and] at NK
  obtain rfl | rfl | rfl | rfl | rfl | rfl : z = 0 ∨ z = 1 ∨ z = 2 ∨ z = 3 ∨ z = 4 ∨ z = 5 := by omega
  · skip
    have K3 := K2.store 1 rfl 0 (.string ⟨#[120]⟩)
    simp only [List.set_cons_zero, List.set_cons_succ, List.setIfInBounds_toArray] at K3
    go_wp2_with fail
    have KN := (((K3.store 0 rfl 0 (.string ⟨#[120]⟩)).store 0 rfl 1 (.slice I ni ci)).store 0 rfl 2 (.slice D nd cd)).store 0 rfl 3 (.slice U nu cu)
    exact bodyPost_ret (v := .agg #[.string ⟨#[120]⟩, .slice I ni ci, .slice D nd cd, .slice U nu cu]) (by simp [results, Tryz.results14, go_sem, F2, NK]) rfl (someDl_of HB1.out HB2.out HB3.out HOI.out HOD.out HOU.out HSH.out.1 HSH.out.2.1 HSH.out.2.2 (KN.roOut 2 rfl) (KN.roOut 3 rfl) (KN.roOut 4 rfl) (KN.tp_ 5 rfl) KN.grow)
  · skip
    have KE := K2.alloc_own #[] 89 2 0 (by unfold maxLen; omega) rfl
    have k5 := hid (KE.ro 3 rfl).now.1
    clear K2
    have FE := KE.facts
    simp only [World.size_alloc, World.size_drew, factsL, cellsF, Nat.reduceAdd, List.toList_toArray, List.set_cons_zero, List.set_cons_succ, List.setIfInBounds_toArray, and_true, true_and] at FE
    go_wp2_with (at_builtin; go_must (refine wpList_appAllH KE 0 rfl Tryz.elRw k5.out rfl (.tmp 36) (.tmp 38) rfl rfl rfl (rwCells_one _) (by omega) (by omega) ?_); intro C' cap' w6 hc6 hm6 KB; (try simp only [Nat.zero_add] at hc6 KB ⊢); simp only [Nat.zero_add, List.nil_append, List.set_cons_zero, List.set_cons_succ] at KB; (have FB := KB.facts); simp only [World.size_alloc, World.size_drew, factsL, cellsF, Nat.reduceAdd, List.toList_toArray, List.set_cons_zero, List.set_cons_succ, List.setIfInBounds_toArray, and_true, true_and] at FB)
    refine (next_any T 20 _ (KB.tp_ 6 rfl) (by omega) (by omega)).mono ?_
    rintro e w3 ⟨r, rfl, r0, r1, t3, g3'⟩
    have K3 := Hold.callT KB 6 rfl g3' t3
    clear KB g3' t3 FB FE k5
    have F3 := K3.facts
    simp only [World.size_alloc, World.size_drew, factsL, cellsF, Nat.reduceAdd, List.toList_toArray, List.set_cons_zero, List.set_cons_succ, List.setIfInBounds_toArray, and_true, true_and] at F3
    go_wp2_with (at_builtin; have KZ := K3.alloc_cst #[.int .i64 0, .int .i64 0, .string ⟨#[]⟩, .int .i64 0, .int .i64 0, .string ⟨#[]⟩] 86; have HCE := hid (show rwCells li ++ (#[Value.int .i64 r, .slice (some ⟨w3.heap.size, 0, none⟩) 2 2]).toList = rwCells (li ++ [⟨r, some ⟨w3.heap.size, 0, none⟩, 2, 2, [⟨0, 0, ⟨#[]⟩⟩, ⟨0, 0, ⟨#[]⟩⟩]⟩]) from rwCells_snoc1 _ _ _ _ _ _); go_must (refine wpList_appH KZ 1 rfl Tryz.elRw #[.int .i64 r, .slice (some ⟨w3.heap.size, 0, none⟩) 2 2] rfl (.tmp 39) (.tmp 46) rfl rfl (w3.heap.size + 1) (by first | rfl | simp) rfl rfl (by intro u hu; simp at hu; rcases hu with rfl | rfl <;> rfl) (by omega) (by omega) ?_); intro g9 cap9 w9 hc9 hm9 KC; rw [HCE.out] at KC; simp only [List.set_cons_zero, List.set_cons_succ] at KC; (have FC := KC.facts); simp only [World.size_alloc, World.size_drew, factsL, cellsF, Nat.reduceAdd, List.toList_toArray, List.set_cons_zero, List.set_cons_succ, List.setIfInBounds_toArray, and_true, true_and] at FC)
    have KD := KC.store 3 rfl 1 (.slice (some ⟨g9, 0, none⟩) (ni + 1) cap9)
    have hzr : Ro _ _ (VlsIn (some ⟨w3.heap.size, 0, none⟩) 2 [⟨0, 0, ⟨#[]⟩⟩, ⟨0, 0, ⟨#[]⟩⟩]) := ro_block (t := 86) (cs := #[.int .i64 0, .int .i64 0, .string ⟨#[]⟩, .int .i64 0, .int .i64 0, .string ⟨#[]⟩]) (KD.get 0 rfl) rfl
    replace KD := KD.add hzr
    clear hzr
    have KS := KD.sealRow 2 rfl
    simp only [List.set_cons_zero, List.set_cons_succ, List.setIfInBounds_toArray] at KS
    have KN := (((KS.store 3 rfl 0 (.string d.nm)).store 3 rfl 1 (.slice (some ⟨g9, 0, none⟩) (ni + 1) cap9)).store 3 rfl 2 (.slice D nd cd)).store 3 rfl 3 (.slice U nu cu)
    exact bodyPost_ret (v := .agg #[.string d.nm, .slice (some ⟨g9, 0, none⟩) (ni + 1) cap9, .slice D nd cd, .slice U nu cu]) (by simp [results, Tryz.results14, go_sem, FC, NK]) rfl (someDl_of ⟨hc9, hm9⟩ HB2.out HB3.out (rw_ok_snoc HOI.out (rwOk_two (by unfold I64; omega))) HOD.out HOU.out ⟨by omega, by omega, by omega⟩ (rw_len_snoc HSH.out.2.1 (by show (2 : Nat) ≤ 1000; omega)) HSH.out.2.2 ((KN.roOut 2 rfl).and (((KN.roOut 5 rfl).and (KN.roOut 0 rfl)).imp fun w h => rwVals_new h.1 h.2)) (KN.roOut 6 rfl) (KN.roOut 7 rfl) (KN.tp_ 8 rfl) KN.grow)
  · skip
    have KE := K2.alloc_own #[] 89 2 0 (by unfold maxLen; omega) rfl
    have k5 := hid (KE.ro 4 rfl).now.1
    clear K2
    have FE := KE.facts
    simp only [World.size_alloc, World.size_drew, factsL, cellsF, Nat.reduceAdd, List.toList_toArray, List.set_cons_zero, List.set_cons_succ, List.setIfInBounds_toArray, and_true, true_and] at FE
    go_wp2_with (at_builtin; go_must (refine wpList_appAllH KE 0 rfl Tryz.elRw k5.out rfl (.tmp 51) (.tmp 53) rfl rfl rfl (rwCells_one _) (by omega) (by omega) ?_); intro C' cap' w6 hc6 hm6 KB; (try simp only [Nat.zero_add] at hc6 KB ⊢); simp only [Nat.zero_add, List.nil_append, List.set_cons_zero, List.set_cons_succ] at KB; (have FB := KB.facts); simp only [World.size_alloc, World.size_drew, factsL, cellsF, Nat.reduceAdd, List.toList_toArray, List.set_cons_zero, List.set_cons_succ, List.setIfInBounds_toArray, and_true, true_and] at FB)
    refine (next_any T 9 _ (KB.tp_ 6 rfl) (by omega) (by omega)).mono ?_
    rintro e w3 ⟨r, rfl, r0, r1, t3, g3'⟩
    have K3 := Hold.callT KB 6 rfl g3' t3
    clear KB g3' t3 FB FE k5
    have F3 := K3.facts
    simp only [World.size_alloc, World.size_drew, factsL, cellsF, Nat.reduceAdd, List.toList_toArray, List.set_cons_zero, List.set_cons_succ, List.setIfInBounds_toArray, and_true, true_and] at F3
    have HCE := hid (show rwCells ld ++ (#[Value.int .i64 r, .slice none 0 0]).toList = rwCells (ld ++ [⟨r, none, 0, 0, []⟩]) from rwCells_snoc1 _ _ _ _ _ _)
    go_wp2_with (at_builtin; go_must (refine wpList_appH K3 0 rfl Tryz.elRw #[.int .i64 r, .slice none 0 0] rfl (.tmp 54) (.tmp 58) rfl rfl _ rfl rfl rfl (by intro u hu; simp at hu; rcases hu with rfl | rfl <;> rfl) (by omega) (by omega) ?_); intro g9 cap9 w9 hc9 hm9 KC; rw [HCE.out] at KC; simp only [List.set_cons_zero, List.set_cons_succ] at KC; (have FC := KC.facts); simp only [World.size_alloc, World.size_drew, factsL, cellsF, Nat.reduceAdd, List.toList_toArray, List.set_cons_zero, List.set_cons_succ, List.setIfInBounds_toArray, and_true, true_and] at FC)
    have KD := KC.store 2 rfl 2 (.slice (some ⟨g9, 0, none⟩) (nd + 1) cap9)
    have KS := KD.sealRow 0 rfl
    simp only [List.set_cons_zero, List.set_cons_succ, List.setIfInBounds_toArray] at KS
    have KN := (((KS.store 1 rfl 0 (.string d.nm)).store 1 rfl 1 (.slice I ni ci)).store 1 rfl 2 (.slice (some ⟨g9, 0, none⟩) (nd + 1) cap9)).store 1 rfl 3 (.slice U nu cu)
    exact bodyPost_ret (v := .agg #[.string d.nm, .slice I ni ci, .slice (some ⟨g9, 0, none⟩) (nd + 1) cap9, .slice U nu cu]) (by simp [results, Tryz.results14, go_sem, FC, NK]) rfl (someDl_of HB1.out ⟨hc9, hm9⟩ HB3.out HOI.out (rw_ok_snoc HOD.out (rwOk_new (by unfold I64; omega))) HOU.out ⟨by omega, by omega, by omega⟩ HSH.out.2.1 ⟨HSH.out.2.2.1, fun hp => ⟨rw_len_snoc (HSH.out.2.2.2 hp).1 (Nat.zero_le _), (HSH.out.2.2.2 hp).2⟩⟩ (KN.roOut 3 rfl) ((KN.roOut 0 rfl).and ((KN.roOut 4 rfl).imp fun w h => rwVals_new h Rd.none_)) (KN.roOut 5 rfl) (KN.tp_ 6 rfl) KN.grow)
  · skip
    have KE := K2.alloc_own #[] 106 3 0 (by unfold maxLen; omega) rfl
    have k5 := hid (KE.ro 5 rfl).now.1
    clear K2
    have FE := KE.facts
    simp only [World.size_alloc, World.size_drew, factsL, cellsF, Nat.reduceAdd, List.toList_toArray, List.set_cons_zero, List.set_cons_succ, List.setIfInBounds_toArray, and_true, true_and] at FE
    go_wp2_with (at_builtin; go_must (refine wpList_appAllH KE 0 rfl Tryz.elPr k5.out rfl (.tmp 63) (.tmp 65) rfl rfl rfl (prCells_one _) (by omega) (by omega) ?_); intro C' cap' w6 hc6 hm6 KB; (try simp only [Nat.zero_add] at hc6 KB ⊢); simp only [Nat.zero_add, List.nil_append, List.set_cons_zero, List.set_cons_succ] at KB; (have FB := KB.facts); simp only [World.size_alloc, World.size_drew, factsL, cellsF, Nat.reduceAdd, List.toList_toArray, List.set_cons_zero, List.set_cons_succ, List.setIfInBounds_toArray, and_true, true_and] at FB)
    refine (next_any T 9 _ (KB.tp_ 6 rfl) (by omega) (by omega)).mono ?_
    rintro e w3 ⟨r, rfl, r0, r1, t3, g3'⟩
    have K3 := Hold.callT KB 6 rfl g3' t3
    clear KB g3' t3 FB FE k5
    have F3 := K3.facts
    simp only [World.size_alloc, World.size_drew, factsL, cellsF, Nat.reduceAdd, List.toList_toArray, List.set_cons_zero, List.set_cons_succ, List.setIfInBounds_toArray, and_true, true_and] at F3
    have HCE := hid (show prCells lu ++ (#[Value.int .i64 r, .slice none 0 0, .slice none 0 0]).toList = prCells (lu ++ [⟨r, none, 0, 0, [], none, 0, 0, []⟩]) by simp [prCells, Pr.cells])
    go_wp2_with (at_builtin; go_must (refine wpList_appH K3 0 rfl Tryz.elPr #[.int .i64 r, .slice none 0 0, .slice none 0 0] rfl (.tmp 66) (.tmp 70) rfl rfl _ rfl rfl rfl (by intro u hu; simp at hu; rcases hu with rfl | rfl | rfl <;> rfl) (by omega) (by omega) ?_); intro g9 cap9 w9 hc9 hm9 KC; rw [HCE.out] at KC; simp only [List.set_cons_zero, List.set_cons_succ] at KC; (have FC := KC.facts); simp only [World.size_alloc, World.size_drew, factsL, cellsF, Nat.reduceAdd, List.toList_toArray, List.set_cons_zero, List.set_cons_succ, List.setIfInBounds_toArray, and_true, true_and] at FC)
    have KD := KC.store 2 rfl 3 (.slice (some ⟨g9, 0, none⟩) (nu + 1) cap9)
    have KS := KD.sealRow 0 rfl
    simp only [List.set_cons_zero, List.set_cons_succ, List.setIfInBounds_toArray] at KS
    have KN := (((KS.store 1 rfl 0 (.string d.nm)).store 1 rfl 1 (.slice I ni ci)).store 1 rfl 2 (.slice D nd cd)).store 1 rfl 3 (.slice (some ⟨g9, 0, none⟩) (nu + 1) cap9)
    exact bodyPost_ret (v := .agg #[.string d.nm, .slice I ni ci, .slice D nd cd, .slice (some ⟨g9, 0, none⟩) (nu + 1) cap9]) (by simp [results, Tryz.results14, go_sem, FC, NK]) rfl (someDl_of HB1.out HB2.out ⟨hc9, hm9⟩ HOI.out HOD.out (prOk_snoc HOU.out (prOk_new (by unfold I64; omega))) ⟨by omega, by omega, by omega⟩ HSH.out.2.1 ⟨pr_len_snoc HSH.out.2.2.1 (Nat.zero_le _), fun hp => ⟨(HSH.out.2.2.2 hp).1, okSnoc (HSH.out.2.2.2 hp).2 (Nat.zero_le _)⟩⟩ (KN.roOut 3 rfl) (KN.roOut 4 rfl) ((KN.roOut 0 rfl).and ((KN.roOut 5 rfl).imp fun w h => prVals_new h r)) (KN.tp_ 6 rfl) KN.grow)
  · skip
    have KE := K2.alloc_own #[.int .i64 9223372036854775807, .slice none 0 0] 89 2 1 (by unfold maxLen; omega) rfl
    have k5 := hid (KE.ro 3 rfl).now.1
    clear K2
    have FE := KE.facts
    simp only [World.size_alloc, World.size_drew, factsL, cellsF, Nat.reduceAdd, List.toList_toArray, List.set_cons_zero, List.set_cons_succ, List.setIfInBounds_toArray, and_true, true_and] at FE
    have HCE := hid (show (#[Value.int .i64 9223372036854775807, .slice none 0 0]).toList ++ rwCells li = rwCells (⟨9223372036854775807, none, 0, 0, []⟩ :: li) by simp [rwCells, Rw.cells])
    go_wp2_with (at_builtin; go_must (refine wpList_appAllH KE 0 rfl Tryz.elRw k5.out rfl (.tmp 76) (.tmp 78) rfl rfl rfl (rwCells_one _) (by omega) (by omega) ?_); intro C' cap' w6 hc6 hm6 KB; rw [HCE.out] at KB; simp only [List.set_cons_zero, List.set_cons_succ] at KB; (have FB := KB.facts); simp only [World.size_alloc, World.size_drew, factsL, cellsF, Nat.reduceAdd, List.toList_toArray, List.set_cons_zero, List.set_cons_succ, List.setIfInBounds_toArray, and_true, true_and] at FB)
    have KD := KB.store 2 rfl 1 (.slice C' (1 + ni) cap')
    have KS := KD.sealRow 0 rfl
    simp only [List.set_cons_zero, List.set_cons_succ, List.setIfInBounds_toArray] at KS
    have KN := (((KS.store 1 rfl 0 (.string d.nm)).store 1 rfl 1 (.slice C' (1 + ni) cap')).store 1 rfl 2 (.slice D nd cd)).store 1 rfl 3 (.slice U nu cu)
    exact bodyPost_ret (v := .agg #[.string d.nm, .slice C' (1 + ni) cap', .slice D nd cd, .slice U nu cu]) (by simp [results, Tryz.results14, go_sem, FB, NK]) rfl (someDl_of ⟨hc6, hm6⟩ HB2.out HB3.out (rw_ok_cons HOI.out (rwOk_new (by unfold I64; omega))) HOD.out HOU.out ⟨by omega, by omega, by omega⟩ (rw_len_cons HSH.out.2.1 (Nat.zero_le _)) HSH.out.2.2 ((KN.roOut 0 rfl).and ((KN.roOut 3 rfl).imp fun w h => rwVals_cons h Rd.none_)) (KN.roOut 4 rfl) (KN.roOut 5 rfl) (KN.tp_ 6 rfl) KN.grow)
  · skip
    have KU : Hold M (some T) w w2 [.ro (PrsIn U nu lu), .blk g4 25 #[.string ⟨#[]⟩, .slice none 0 0, .slice none 0 0, .slice none 0 0], .blk g3 25 #[.string d.nm, .slice I ni ci, .slice D nd cd, .slice U nu cu], .ro (RwsIn I ni li), .ro (RwsIn D nd ld), .tp T] := (K2.add (K2.ro 4 rfl)).drop (List.Sublist.cons_cons _ (List.Sublist.cons_cons _ (List.Sublist.cons_cons _ (List.Sublist.cons_cons _ (List.Sublist.cons_cons _ (List.sublist_cons_self _ _))))))
    clear K2
    go_wp2_with fail
    go_loopw [12] (fun iv wr => ∃ (k q cq : Nat) (UA : Option Addr) (up : List Pr), k ≤ nd ∧ iv = .int .i64 k ∧ q ≤ nu + k ∧ Hid (q ≤ cq ∧ cq ≤ 9223372036854775807) ∧ Hid (∀ p ∈ up, p.ok) ∧ Hid ((∀ p ∈ up, p.new.length ≤ 1000) ∧ (OldShort d → (∀ r ∈ ld, r.vs.length ≤ 1000) ∧ ∀ p ∈ up, p.old.length ≤ 1000)) ∧ Hold M (some T) w wr [.ro (PrsIn UA q up), .blk g4 25 #[.string ⟨#[]⟩, .slice none 0 0, .slice none 0 0, .slice none 0 0], .blk g3 25 #[.string d.nm, .slice I ni ci, .slice D nd cd, .slice UA q cq], .ro (RwsIn I ni li), .ro (RwsIn D nd ld), .tp T]) (fun iv _ => nd - (intOf iv).toNat)
    case atStart => exact ⟨0, nu, cu, U, lu, by omega, rfl, by omega, HB3, HOU, HSH3, KU⟩
    case round =>
      clear KU F2 NK
      obtain ⟨k, q, cq, UA, up, hk, rfl, hq, HQ, HOQ, HSQ, H⟩ := hrel
      by_cases hlt : k < nd
      · have hd : decide ((k : Int) < (nd : Int)) = true := by simp; omega
        have i0 : (0 : Int) ≤ (k : Int) := by omega
        have i1 : (k : Int) < (nd : Int) := by omega
        obtain ⟨x, hx⟩ := get_of HDL.out hlt
        have hxv : Ro wr _ (VlsIn x.A x.n x.vs) := (H.ro 4 rfl).imp fun w2 h2 => h2.2 x (List.mem_of_getElem? hx)
        obtain ⟨bb, oo, rfl, hbb, c0, c1, _⟩ := (H.ro 4 rfl).now.at_ hx
        have HXO := hid (HOD.out x (List.mem_of_getElem? hx))
        have HXS := hid (HSD.out x (List.mem_of_getElem? hx))
        obtain ⟨xid, xA, xn, xc, xvs⟩ := x
        dsimp only at *
        clear hx
        have K3 := (H.add hxv).alloc_cst #[.int .i64 xid, .slice xA xn xc] 89
        clear hxv H
        have HPL := hid (show (prCells up).length = q * 3 from by rw [prCells_len, (K3.ro 2 rfl).now.len])
        have F3 := K3.facts
        simp only [World.size_alloc, World.size_drew, factsL, cellsF, Nat.reduceAdd, List.toList_toArray, List.set_cons_zero, List.set_cons_succ, List.setIfInBounds_toArray, and_true, true_and] at F3
        go_wp2_with fail
        obtain ⟨gx, hgx⟩ : ∃ g, g = wr.heap.size := ⟨_, rfl⟩
        rw [← hgx] at K3 F3 ⊢
        have HGX := hid hgx
        clear hgx c0 c1
        generalize World.alloc wr _ = w3 at K3 F3 ⊢
        obtain ⟨KL, hKL, KN⟩ := K3.name
        have HF : Hid (∀ wv, Hold M (some T) w wv KL → wv.cell? ⟨gx, 0, none⟩ = some (.int .i64 xid) ∧ wv.cell? ⟨gx, 1, none⟩ = some (.slice xA xn xc) ∧ gx < wv.heap.size ∧ wv.cell? ⟨g3, 3, none⟩ = some (.slice UA q cq) ∧ g3 < wv.heap.size) := hid fun wv HC => by
          rw [hKL] at HC
          have y1 := HC.cst_ 0 rfl
          have y2 := HC.blk_ 4 rfl
          exact ⟨cell_of_row _ _ 0 _ _ _ y1, cell_of_row _ _ 1 _ _ _ y1, Blk.lt y1, cell_of_row _ _ 3 _ _ _ y2, Blk.lt y2⟩
        have HUS : Hid (∀ wv, Hold M (some T) w wv KL → SlR 3 UA q (prCells up) wv) := hid fun wv HC => by
          rw [hKL] at HC
          exact (HC.ro 2 rfl).now.1
        have HKL := hid hKL
        clear hKL K3 F3
        obtain ⟨Hs, hHs⟩ : ∃ Hs, Hs = w3.drew.heap.size := ⟨_, rfl⟩
        have HHS := hid hHs
        have hMH : ∀ b, Mut M KL b → b < Hs := by rw [hHs]; exact KN.drew.mutLt
        clear hHs
        refine wp_region_any (by kernel_rfl) ?_
        refine wpAny_hold 12 82 (KL) (spL [(16, EmptySl (Mut M KL) Hs 106), (19, OwnSl 106 3 Hs (prCells up)), (27, StSl (Mut M KL) 3 [.int .i64 xid, .slice xA xn xc, .slice xA xn xc])]) (by kernel_rfl) (by kernel_rfl) (by kernel_rfl) rfl ?_ (KN.drew) ?_
        · exact stays_cons emptySl_mono (stays_cons (ownSl_mono hMH) (stays_cons stSl_mono (stays_nil _)))
        simp only [List.take_succ_cons, List.take_zero, List.drop_succ_cons, List.drop_zero, Act.put, List.getElem_toArray, List.getElem_cons_zero, List.getElem_cons_succ, List.setIfInBounds_toArray, List.set_cons_succ, List.set_cons_zero]
        refine dw_new #[] 106 16 (EmptySl (Mut M KL) Hs 106) (fun g => .slice (some ⟨g, 0, none⟩) 0 0) rfl rfl rfl rfl (fun wv => ?_) (fun wv HC hrm hD hro => ?_) ?_
        · go_simp <;> rfl
        · exact ⟨_, rfl, by have := hrm.1; rw [HHS.out]; exact this, hro _ HC.mutLt⟩
        rintro g11 wg HCg hsl
        simp only [Act.put, List.setIfInBounds_toArray, List.set_cons_succ, List.set_cons_zero]
        clear hsl HCg
        refine dw_val rfl rfl rfl ?_; apply Exists.intro; refine ⟨fun wv HC => ?_, ?_⟩
        ·  go_simp <;> rfl
        simp only [Act.put, List.setIfInBounds_toArray, List.set_cons_succ, List.set_cons_zero]
        refine dw_val rfl rfl rfl ?_; apply Exists.intro; refine ⟨fun wv HC => ?_, ?_⟩
        · obtain ⟨f0, f1, f2, f3, f4⟩ := HF.out _ HC; go_simp <;> rfl
        simp only [Act.put, List.setIfInBounds_toArray, List.set_cons_succ, List.set_cons_zero]
        refine dw_cloneE Tryz.elPr 19 (OwnSl 106 3 Hs (prCells up)) rfl rfl rfl rfl (.tmp 16) (.tmp 18) rfl (g := g11) (b0 := Hs) rfl (A := UA) (m := q) (c := cq) (ys := prCells up) rfl (prCells_one _) (by omega) (by omega) (by rw [HHS.out]; exact Nat.le_refl _) (fun wv HC hD => ?_) (fun wv HC hD => HUS.out _ HC) (fun C9 c9 wv wv' HC hrm HC' q1 q2 ho => ⟨C9, q, c9, rfl, by rw [HPL.out], q1, q2, ho⟩) ?_
        · have hsl : EmptySl (Mut M KL) Hs 106 (.slice (some ⟨g11, 0, none⟩) 0 0) wv := deps_at hD 0 rfl (by kernel_rfl) rfl rfl
          obtain ⟨gq, e6, h1, h2⟩ := hsl
          obtain rfl : g11 = gq := by injection e6 with e6; injection e6 with e6; injection e6
          exact ⟨h1, h2.now⟩
        rintro u wx HCx ⟨A80, n80, c80, rfl, hn80, -, -, -⟩
        obtain rfl : q = n80 := by rw [HPL.out] at hn80; omega
        clear HCx hn80
        simp only [Act.put, List.setIfInBounds_toArray, List.set_cons_succ, List.set_cons_zero]
        refine dw_val rfl rfl rfl ?_; apply Exists.intro; refine ⟨fun wv HC => ?_, ?_⟩
        ·  go_simp <;> rfl
        simp only [Act.put, List.setIfInBounds_toArray, List.set_cons_succ, List.set_cons_zero]
        refine dw_val rfl rfl rfl ?_; apply Exists.intro; refine ⟨fun wv HC => ?_, ?_⟩
        · obtain ⟨f0, f1, f2, f3, f4⟩ := HF.out _ HC; go_simp <;> rfl
        simp only [Act.put, List.setIfInBounds_toArray, List.set_cons_succ, List.set_cons_zero]
        refine dw_val rfl rfl rfl ?_; apply Exists.intro; refine ⟨fun wv HC => ?_, ?_⟩
        ·  go_simp <;> rfl
        simp only [Act.put, List.setIfInBounds_toArray, List.set_cons_succ, List.set_cons_zero]
        refine dw_val rfl rfl rfl ?_; apply Exists.intro; refine ⟨fun wv HC => ?_, ?_⟩
        · obtain ⟨f0, f1, f2, f3, f4⟩ := HF.out _ HC; go_simp <;> rfl
        simp only [Act.put, List.setIfInBounds_toArray, List.set_cons_succ, List.set_cons_zero]
        refine dw_val rfl rfl rfl ?_; apply Exists.intro; refine ⟨fun wv HC => ?_, ?_⟩
        ·  go_simp <;> rfl
        simp only [Act.put, List.setIfInBounds_toArray, List.set_cons_succ, List.set_cons_zero]
        refine dw_val rfl rfl rfl ?_; apply Exists.intro; refine ⟨fun wv HC => ?_, ?_⟩
        · obtain ⟨f0, f1, f2, f3, f4⟩ := HF.out _ HC; go_simp <;> rfl
        simp only [Act.put, List.setIfInBounds_toArray, List.set_cons_succ, List.set_cons_zero]
        refine dw_val rfl rfl rfl ?_; apply Exists.intro; refine ⟨fun wv HC => ?_, ?_⟩
        ·  go_simp <;> rfl
        simp only [Act.put, List.setIfInBounds_toArray, List.set_cons_succ, List.set_cons_zero]
        refine dw_new #[.int .i64 xid, .slice xA xn xc, .slice xA xn xc] 106 27 (StSl (Mut M KL) 3 [.int .i64 xid, .slice xA xn xc, .slice xA xn xc]) (fun g => .slice (some ⟨g, 0, none⟩) 1 1) rfl rfl rfl rfl (fun wv => ?_) (fun wv HC _hrm hD hro => ?_) ?_
        · go_simp <;> rfl
        · exact ⟨_, 1, rfl, ro_block (hro _ HC.mutLt) rfl⟩
        rintro g19 wg HCg hsl
        simp only [Act.put, List.setIfInBounds_toArray, List.set_cons_succ, List.set_cons_zero]
        clear hsl HCg
        refine rel_nil ?_
        rintro wx2 HX
        rintro _hrm HGW
        have ho70 : OwnSl 106 3 Hs (prCells up) (.slice A80 q c80) wx2 := (GW_on (d := 19) rfl).1 (HGW 3 _ rfl (by omega))
        have hb76 : StSl (Mut M KL) 3 [.int .i64 xid, .slice xA xn xc, .slice xA xn xc] (.slice (some ⟨g19, 0, none⟩) 1 1) wx2 := (GW_on (d := 27) rfl).1 (HGW 11 _ rfl (by omega))
        clear HGW
        obtain ⟨gq, nq, e6, k4_⟩ := hb76
        obtain ⟨rfl, rfl⟩ : g19 = gq ∧ 1 = nq := by injection e6 with h1 h2; injection h1 with h1; injection h1 with h1; exact ⟨h1, h2⟩
        obtain ⟨A6, n6, c6, e7, hn6, hc61, hc62, ho6⟩ := ho70
        obtain ⟨rfl, rfl, rfl⟩ : A80 = A6 ∧ q = n6 ∧ c80 = c6 := by injection e7 with h1 h2 h3; exact ⟨h1, h2, h3⟩
        clear e6 e7 hn6
        have k5 := hid k4_.now
        rw [HHS.out] at ho6
        have KA := Hold.addOwn KN.drew HX _hrm ho6
        rw [HKL.out] at KA
        clear HX _hrm ho6 k4_ HF HUS KN hMH HHS
        have FKA := KA.facts
        simp only [World.size_alloc, World.size_drew, factsL, cellsF, Nat.reduceAdd, List.toList_toArray, List.set_cons_zero, List.set_cons_succ, List.setIfInBounds_toArray, and_true, true_and] at FKA
        have HCE := hid (show prCells up ++ [.int .i64 xid, .slice xA xn xc, .slice xA xn xc] = prCells (up ++ [⟨xid, xA, xn, xc, xvs, xA, xn, xc, xvs⟩]) by simp [prCells, Pr.cells])
        go_wp2_with (at_builtin; go_must (refine wpList_appAllH KA 0 rfl Tryz.elPr k5.out rfl (.tmp 19) (.tmp 27) rfl rfl rfl (by intro u hu; simp at hu; rcases hu with rfl | rfl | rfl <;> rfl) (by omega) (by omega) ?_); intro C' cap' w6 hc6 hm6 KB; rw [HCE.out] at KB; simp only [List.set_cons_zero, List.set_cons_succ] at KB; (have F3 := KB.facts); simp only [World.size_alloc, World.size_drew, factsL, cellsF, Nat.reduceAdd, List.toList_toArray, List.set_cons_zero, List.set_cons_succ, List.setIfInBounds_toArray, and_true, true_and] at F3)
        have KD := KB.store 5 rfl 3 (.slice C' (q + 1) cap')
        have KS := KD.sealRow 0 rfl
        simp only [List.set_cons_zero, List.set_cons_succ, List.setIfInBounds_toArray] at KS
        have KP := (KS.add (show Ro _ _ (PrsIn C' (q + 1) (up ++ [⟨xid, xA, xn, xc, xvs, xA, xn, xc, xvs⟩])) from (KS.ro 0 rfl).and (((KS.ro 3 rfl).and (KS.ro 2 rfl)).imp fun w h => prVals_two h.1 h.2))).drop (List.Sublist.cons_cons _ (List.Sublist.cons _ (List.Sublist.cons _ (List.Sublist.cons _ (List.sublist_cons_self _ _)))))
        go_roundw
        case rel => exact ⟨k + 1, q + 1, cap', C', _, by omega, by first | rfl | go_num, by omega, hid ⟨hc6, hm6⟩, hid (prOk_snoc HOQ.out ⟨HXO.out.id, HXO.out.nc, HXO.out.c, HXO.out.nc, HXO.out.c, HXO.out.vs, HXO.out.vs⟩), hid ⟨okSnoc HSQ.out.1 HXS.out, fun hp => ⟨(HSQ.out.2 hp).1, okSnoc (HSQ.out.2 hp).2 HXS.out⟩⟩, KP⟩
        case measure => simp [intOf]; omega
      · obtain rfl : nd = k := by omega
        have hd : decide ((nd : Int) < (nd : Int)) = false := by simp
        have F := H.facts
        simp only [World.size_alloc, World.size_drew, factsL, cellsF, Nat.reduceAdd, List.toList_toArray, List.set_cons_zero, List.set_cons_succ, List.setIfInBounds_toArray, and_true, true_and] at F
        have NK := H.nes
        simp only [nesL, neF, and_true, true_and] at NK
        have HUL2 := hid (H.ro 0 rfl).now.len
        go_wp2_with fail
        have KN := (((H.store 1 rfl 0 (.string d.nm)).store 1 rfl 1 (.slice I ni ci)).store 1 rfl 2 (.slice D nd cd)).store 1 rfl 3 (.slice UA q cq)
        exact bodyPost_ret (v := .agg #[.string d.nm, .slice I ni ci, .slice D nd cd, .slice UA q cq]) (by simp [results, Tryz.results14, go_sem, F, NK]) rfl (someDl_of HB1.out HB2.out HQ.out HOI.out HOD.out HOQ.out ⟨by have := HSH.out.1; omega, by have := HSH.out.1; omega, by have := HUL2.out; omega⟩ HSH.out.2.1 HSQ.out (KN.roOut 3 rfl) (KN.roOut 4 rfl) (KN.roOut 0 rfl) (KN.tp_ 5 rfl) KN.grow)
end Go.Proofs.YtljmclbedpceoaaGreatDoor

namespace Go.Proofs.YtljmclbedpceoaaGreatDoor
open Go.RowKit
set_option linter.unusedVariables false
set_option linter.unusedSimpArgs false

structure El where
  nm : ByteArray
  I : Option Addr
  ni : Nat
  ci : Nat
  D : Option Addr
  nd : Nat
  cd : Nat
  U : Option Addr
  nu : Nat
  cu : Nat
  li : List Rw
  ld : List Rw
  lu : List Pr
def El.cells (x : El) : List Value := [.string x.nm, .slice x.I x.ni x.ci, .slice x.D x.nd x.cd, .slice x.U x.nu x.cu]
def El.val (x : El) : Value := .agg #[.string x.nm, .slice x.I x.ni x.ci, .slice x.D x.nd x.cd, .slice x.U x.nu x.cu]
def El.dl (x : El) : Dl := ⟨x.nm, x.li.map Rw.row, x.ld.map Rw.row, x.lu.map Pr.upd⟩
def ElIn (x : El) (w : World) : Prop := RwsIn x.I x.ni x.li w ∧ RwsIn x.D x.nd x.ld w ∧ PrsIn x.U x.nu x.lu w
structure El.good (x : El) (N K : Nat) : Prop where
  i : x.ni ≤ N
  d : x.nd ≤ N
  u : x.nu ≤ N
  ci : x.ni ≤ x.ci ∧ x.ci ≤ 9223372036854775807
  cd : x.nd ≤ x.cd ∧ x.cd ≤ 9223372036854775807
  cu : x.nu ≤ x.cu ∧ x.cu ≤ 9223372036854775807
  li : ∀ r ∈ x.li, r.ok ∧ r.n ≤ K
  ld : ∀ r ∈ x.ld, r.ok ∧ r.n ≤ K
  lu : ∀ p ∈ x.lu, p.ok ∧ p.on ≤ K ∧ p.nn ≤ K
theorem El.good.more {x : El} {N K N' K' : Nat} (h : x.good N K) (hi : x.ni ≤ N') (hd : x.nd ≤ N') (hu : x.nu ≤ N') (hK : K ≤ K') : x.good N' K' :=
  ⟨hi, hd, hu, h.ci, h.cd, h.cu, fun r hr => ⟨(h.li r hr).1, Nat.le_trans (h.li r hr).2 hK⟩, fun r hr => ⟨(h.ld r hr).1, Nat.le_trans (h.ld r hr).2 hK⟩, fun p hp => ⟨(h.lu p hp).1, Nat.le_trans (h.lu p hp).2.1 hK, Nat.le_trans (h.lu p hp).2.2 hK⟩⟩
theorem dl_el {w : World} {M : Nat → Prop} {v : Value} {d : Dl} {N K : Nat} (h : DlAt w M v d) (h1 : d.ins.length ≤ N) (h2 : d.del.length ≤ N) (h3 : d.upd.length ≤ N) (h4 : ∀ r ∈ d.ins, r.2.length ≤ K) (h5 : ∀ r ∈ d.del, r.2.length ≤ K) (h6 : ∀ u ∈ d.upd, u.2.1.length ≤ K ∧ u.2.2.length ≤ K) :
    ∃ x : El, v = x.val ∧ x.dl = d ∧ x.good N K ∧ Ro w M (ElIn x) := by
  obtain ⟨I, ni, ci, D, nd, cd, U, nu, cu, li, ld, lu, rfl, q1, q2, q3, r1, r2, r3, o1, o2, o3, e1, e2, e3⟩ := h
  have l1 : li.length = ni := r1.now.len
  have l2 : ld.length = nd := r2.now.len
  have l3 : lu.length = nu := r3.now.len
  refine ⟨⟨d.nm, I, ni, ci, D, nd, cd, U, nu, cu, li, ld, lu⟩, rfl, by simp only [El.dl, e1, e2, e3], ⟨?_, ?_, ?_, q1, q2, q3, fun r hr => ⟨o1 r hr, ?_⟩, fun r hr => ⟨o2 r hr, ?_⟩, fun p hp => ⟨o3 p hp, ?_, ?_⟩⟩, r1.and (r2.and r3)⟩
  · have := congrArg List.length e1; rw [List.length_map] at this; show ni ≤ N; omega
  · have := congrArg List.length e2; rw [List.length_map] at this; show nd ≤ N; omega
  · have := congrArg List.length e3; rw [List.length_map] at this; show nu ≤ N; omega
  · have a := h4 r.row (by rw [← e1]; exact List.mem_map_of_mem hr)
    have b : r.vs.length = r.n := (r1.now.2 r hr).len
    simp only [Rw.row] at a; omega
  · have a := h5 r.row (by rw [← e2]; exact List.mem_map_of_mem hr)
    have b : r.vs.length = r.n := (r2.now.2 r hr).len
    simp only [Rw.row] at a; omega
  · have a := h6 p.upd (by rw [← e3]; exact List.mem_map_of_mem hp)
    have b : p.old.length = p.on := (r3.now.2 p hp).1.len
    simp only [Pr.upd] at a; omega
  · have a := h6 p.upd (by rw [← e3]; exact List.mem_map_of_mem hp)
    have b : p.new.length = p.nn := (r3.now.2 p hp).2.len
    simp only [Pr.upd] at a; omega
theorem el_dl {w : World} {M : Nat → Prop} {x : El} {N K : Nat} (g : x.good N K) (r : Ro w M (ElIn x)) : DlAt w M x.val x.dl :=
  ⟨x.I, x.ni, x.ci, x.D, x.nd, x.cd, x.U, x.nu, x.cu, x.li, x.ld, x.lu, rfl, g.ci, g.cd, g.cu, r.imp fun w h => h.1, r.imp fun w h => h.2.1, r.imp fun w h => h.2.2, fun r hr => (g.li r hr).1, fun r hr => (g.ld r hr).1, fun p hp => (g.lu p hp).1, rfl, rfl, rfl⟩
theorem el_lens {w : World} {x : El} {N K : Nat} (g : x.good N K) (r : ElIn x w) : x.dl.ins.length ≤ N ∧ x.dl.del.length ≤ N ∧ x.dl.upd.length ≤ N ∧ (∀ r ∈ x.dl.ins, r.2.length ≤ K) ∧ (∀ r ∈ x.dl.del, r.2.length ≤ K) ∧ ∀ u ∈ x.dl.upd, u.2.1.length ≤ K ∧ u.2.2.length ≤ K := by
  have l1 : x.li.length = x.ni := r.1.len
  have l2 : x.ld.length = x.nd := r.2.1.len
  have l3 : x.lu.length = x.nu := r.2.2.len
  refine ⟨by simp only [El.dl, List.length_map, l1]; exact g.i, by simp only [El.dl, List.length_map, l2]; exact g.d, by simp only [El.dl, List.length_map, l3]; exact g.u, fun y hy => ?_, fun y hy => ?_, fun y hy => ?_⟩
  · obtain ⟨z, hz, rfl⟩ := List.mem_map.1 hy
    have b : z.vs.length = z.n := (r.1.2 z hz).len
    have := (g.li z hz).2
    simp only [Rw.row]; omega
  · obtain ⟨z, hz, rfl⟩ := List.mem_map.1 hy
    have b : z.vs.length = z.n := (r.2.1.2 z hz).len
    have := (g.ld z hz).2
    simp only [Rw.row]; omega
  · obtain ⟨z, hz, rfl⟩ := List.mem_map.1 hy
    have b : z.old.length = z.on := (r.2.2.2 z hz).1.len
    have c : z.new.length = z.nn := (r.2.2.2 z hz).2.len
    have := (g.lu z hz).2
    simp only [Pr.upd]; omega
theorem dlAt_lessM {w : World} {M M' : Nat → Prop} {v : Value} {d : Dl} (h : DlAt w M v d) (hM : ∀ b, M' b → M b) : DlAt w M' v d := by
  obtain ⟨I, ni, ci, D, nd, cd, U, nu, cu, li, ld, lu, h1, h2, h3, h4, h5, h6, h7, h8⟩ := h
  exact ⟨I, ni, ci, D, nd, cd, U, nu, cu, li, ld, lu, h1, h2, h3, h4, h5.less hM, h6.less hM, h7.less hM, h8⟩
/-- a block without numbers -/
def NoInt (cs : Array Value) : Prop := ∀ x : Int, Value.int .i64 x ∉ cs.toList
theorem vls_apartI {w : World} {Q : Nat → Prop} {A : Option Addr} {n : Nat} {vs : List Vl} (h : Ro w Q (VlsIn A n vs)) {ga : Nat} {t : TypeId} {cs : Array Value} (hg : w.heap[ga]? = some (.cells cs t (0, 0))) (hno : NoInt cs) : Ro w (fun b => b = ga ∨ Q b) (VlsIn A n vs) := by
  have hl : vs.length = n := h.now.len
  exact Ro.apartBlk h hg (by
    cases vs with
    | nil => left; simpa using hl.symm
    | cons v l => exact .inr ⟨.int .i64 v.k, rfl, hno _⟩)
theorem rws_apartI {w : World} {Q : Nat → Prop} {A : Option Addr} {n : Nat} {l : List Rw} (h : Ro w Q (RwsIn A n l)) {ga : Nat} {t : TypeId} {cs : Array Value} (hg : w.heap[ga]? = some (.cells cs t (0, 0))) (hno : NoInt cs) : Ro w (fun b => b = ga ∨ Q b) (RwsIn A n l) := by
  have hl := h.now.len
  have h1 : Ro w Q (SlR 2 A n (rwCells l)) := h.imp fun w2 h2 => h2.1
  have k1 := h1.apartBlk hg (by
    cases l with
    | nil => left; simpa using hl.symm
    | cons r l => exact .inr ⟨.int .i64 r.id, rfl, hno _⟩)
  exact k1.and fun w2 g1 g2 r hr => vls_apartI (h.imp fun w2 h2 => h2.2 r hr) hg hno w2 g1 g2
theorem prs_apartI {w : World} {Q : Nat → Prop} {A : Option Addr} {n : Nat} {l : List Pr} (h : Ro w Q (PrsIn A n l)) {ga : Nat} {t : TypeId} {cs : Array Value} (hg : w.heap[ga]? = some (.cells cs t (0, 0))) (hno : NoInt cs) : Ro w (fun b => b = ga ∨ Q b) (PrsIn A n l) := by
  have hl : l.length = n := h.now.len
  have h1 : Ro w Q (SlR 3 A n (prCells l)) := h.imp fun w2 h2 => h2.1
  have k1 := h1.apartBlk hg (by
    cases l with
    | nil => left; simpa using hl.symm
    | cons r l => exact .inr ⟨.int .i64 r.id, rfl, hno _⟩)
  exact k1.and fun w2 g1 g2 r hr => ⟨vls_apartI (h.imp fun w2 h2 => (h2.2 r hr).1) hg hno w2 g1 g2, vls_apartI (h.imp fun w2 h2 => (h2.2 r hr).2) hg hno w2 g1 g2⟩
theorem el_apart {w : World} {Q : Nat → Prop} {x : El} (h : Ro w Q (ElIn x)) {ga : Nat} {t : TypeId} {cs : Array Value} (hg : w.heap[ga]? = some (.cells cs t (0, 0))) (hno : NoInt cs) : Ro w (fun b => b = ga ∨ Q b) (ElIn x) :=
  (rws_apartI (h.imp fun w h => h.1) hg hno).and ((rws_apartI (h.imp fun w h => h.2.1) hg hno).and (prs_apartI (h.imp fun w h => h.2.2) hg hno))
theorem mut_app {M : Nat → Prop} {P L : List Hp} (h : ∀ k ∈ P, k.foot = none) {b : Nat} (hb : Mut M (P ++ L) b) : Mut M L b := by
  rcases hb with hb | ⟨k, hk, hf⟩
  · exact .inl hb
  · rcases List.mem_append.1 hk with hk | hk
    · rw [h k hk] at hf; cases hf
    · exact .inr ⟨k, hk, hf⟩
theorem noInt_delta : NoInt #[.string ⟨#[]⟩, .slice none 0 0, .slice none 0 0, .slice none 0 0] := fun x h => by simp at h
/-- the elements of a slice of three -/
def ElAt (g k : Nat) (x : El) (w : World) : Prop := w.cell? ⟨g, k * 4, none⟩ = some (.string x.nm) ∧ w.cell? ⟨g, k * 4 + 1, none⟩ = some (.slice x.I x.ni x.ci) ∧ w.cell? ⟨g, k * 4 + 2, none⟩ = some (.slice x.D x.nd x.cd) ∧ w.cell? ⟨g, k * 4 + 3, none⟩ = some (.slice x.U x.nu x.cu)
def el3 (x y z : El) (k : Nat) : El := if k = 0 then x else if k = 1 then y else z
theorem el3_at {x y z : El} {w : World} {g : Nat} {t : TypeId} (h : w.heap[g]? = some (.cells #[.string x.nm, .slice x.I x.ni x.ci, .slice x.D x.nd x.cd, .slice x.U x.nu x.cu, .string y.nm, .slice y.I y.ni y.ci, .slice y.D y.nd y.cd, .slice y.U y.nu y.cu, .string z.nm, .slice z.I z.ni z.ci, .slice z.D z.nd z.cd, .slice z.U z.nu z.cu] t (0, 0))) {k : Nat} (hk : k < 3) : ElAt g k (el3 x y z k) w := by
  have c := fun i => cell_of_row w g i _ t (0, 0) h
  obtain rfl | rfl | rfl : k = 0 ∨ k = 1 ∨ k = 2 := by omega
  · exact ⟨c 0, c 1, c 2, c 3⟩
  · exact ⟨c 4, c 5, c 6, c 7⟩
  · exact ⟨c 8, c 9, c 10, c 11⟩
end Go.Proofs.YtljmclbedpceoaaGreatDoor

namespace Go.Proofs.YtljmclbedpceoaaGreatDoor
open Go.RowKit
set_option linter.unusedVariables false
set_option linter.unusedSimpArgs false
set_option linter.unusedSectionVars false

def betD (a b : Tb) : Dl := ⟨a.nm, offR a.rs b.rs, offR b.rs a.rs, turnR a.rs b.rs⟩
section
variable {a b : Tb} (ha : tabB a.nm a.cs a.nx a.rs = true) (hb : tabB b.nm b.cs b.nx b.rs = true) (hl : LaterOk a b)
include ha hb hl
theorem betC_later : betweenC a b = (true, betD a b) := by
  obtain ⟨h1, h2, h3, h4⟩ := hl
  have : betB a b = true := by
    unfold betB
    rw [ha, hb, decide_eq_true (show a.nm = b.nm ∧ a.cs = b.cs from ⟨h1.symm, h2.symm⟩), decide_eq_true h3]
    simp only [Bool.and_self, Bool.true_and, List.all_eq_true, Bool.or_eq_true, decide_eq_true_eq]
    exact h4
  unfold betweenC
  rw [this]; rfl
end
end Go.Proofs.YtljmclbedpceoaaGreatDoor

namespace Go.Proofs.YtljmclbedpceoaaGreatDoor
open Go.RowKit
set_option linter.unusedVariables false
set_option linter.unusedSimpArgs false

theorem sametuple_any (w : World) (A : Option Addr) (n c : Nat) (xs : List Vl) (B : Option Addr) (m d : Nat) (ys : List Vl) (hD : VlsIn A n xs w) (hE : VlsIn B m ys w) (hn : n ≤ 4398046511104) :
    Calls Tryz.prog 61 #[.slice A n c, .slice B m d] w fun e w' => e = .returned (.bool (decide (xs = ys))) ∧ ∃ q, w' = w.drewN q := by
  have HE := hid (eqVls_any w A n c xs B m d ys hD hE hn)
  clear hD hE
  go_enter Tryz.func61, Tryz.ntmps61
  go_wp2_with fail
  refine HE.out.mono ?_
  rintro e w1 ⟨rfl, q, rfl⟩
  obtain ⟨r, hr0⟩ : ∃ r, r = decide (xs = ys) := ⟨_, rfl⟩
  rw [← hr0]
  have HRR := hid hr0
  clear hr0
  go_wp2_with fail
  go_ret
  exact ⟨by rw [← HRR.out] <;> rfl, q, rfl⟩
set_option maxHeartbeats 2000000 in
set_option maxRecDepth 100000 in
theorem eqTps_any (M : Nat → Prop) (w : World) (hM : ∀ b, M b → b < w.heap.size) (A : Option Addr) (n c : Nat) (xs : List Sl) (B : Option Addr) (m d : Nat) (ys : List Sl) (hD : Ro w M (SlsIn A n xs)) (hE : Ro w M (SlsIn B m ys)) (hn : n ≤ 4398046511204) (hr : ∀ r ∈ xs, r.n ≤ 4398046511104) :
    Calls Tryz.prog 60 #[.slice A n c, .slice B m d, .func (.func 61) #[] #[]] w fun e w' => e = .returned (.bool (decide (xs.map Sl.vs = ys.map Sl.vs))) ∧ Below w.heap.size w w' := by
  have HL := hid hD.now.len
  have HK := hid hE.now.len
  by_cases hnm : n = m
  · subst hnm
    have hb : ((n : Int) != (n : Int)) = false := by simp
    have K0 := ((Hold.start M w hM).add (hE.less (by simp [Mut]))).add (hD.less (by simp [Mut, Hp.foot]))
    clear hD hE
    go_enter Tryz.func60, Tryz.ntmps60
    go_wp2_with fail
    go_loopw [17] (fun i wr => ∃ (k : Nat), k ≤ n ∧ i = .int .i64 k ∧ Hid ((xs.map Sl.vs).take k = (ys.map Sl.vs).take k) ∧ Hold M none w wr [.ro (SlsIn A n xs), .ro (SlsIn B n ys)]) (fun i _ => n - (intOf i).toNat)
    case atStart => exact ⟨0, by omega, rfl, hid (by simp), K0⟩
    case round =>
      clear K0
      obtain ⟨k, hk, rfl, HTK, H⟩ := hrel
      by_cases hlt : k < n
      · have hd : decide ((k : Int) < (n : Int)) = true := by simp; omega
        have i0 : (0 : Int) ≤ (k : Int) := by omega
        have i1 : (k : Int) < (n : Int) := by omega
        obtain ⟨x, hx⟩ := get_of HL.out hlt
        obtain ⟨y, hy⟩ := get_of HK.out hlt
        have hxn := hr x (List.mem_of_getElem? hx)
        have HX := hid (show (xs.map Sl.vs)[k]? = some x.vs by simp [hx])
        have HY := hid (show (ys.map Sl.vs)[k]? = some y.vs by simp [hy])
        obtain ⟨g, o, rfl, hbx, x0, hvx⟩ := (H.ro 0 rfl).now.at_ hx
        obtain ⟨g', o', rfl, hby, y0, hvy⟩ := (H.ro 1 rfl).now.at_ hy
        have HVX := hid hvx
        have HVY := hid hvy
        clear hx hy hvx hvy
        go_wp2_with fail
        refine (sametuple_any _ x.A x.n x.c x.vs y.A y.n y.c y.vs HVX.out HVY.out hxn).mono ?_
        rintro e w3 ⟨rfl, q3, rfl⟩
        have K3 := H.drewN q3
        clear H
        by_cases hb : x.vs = y.vs
        · have HB := hid (takeEq_succ HX.out HY.out HTK.out hb)
          rw [decide_eq_true hb]
          clear hb
          go_wp2_with fail
          go_roundw
          case rel => exact ⟨k + 1, by omega, by go_num, HB, K3⟩
          case measure => simp [intOf]; omega
        · have HB := hid (beqL_no HX.out HY.out hb)
          rw [decide_eq_false hb]
          clear hb
          go_wp2_with fail
          go_ret
          exact ⟨by rw [HB.out] <;> rfl, K3.below⟩
      · obtain rfl : n = k := by omega
        have hd : decide ((n : Int) < (n : Int)) = false := by simp
        have HB := hid (show decide (xs.map Sl.vs = ys.map Sl.vs) = true by
          have h := HTK.out
          rw [List.take_of_length_le (by rw [List.length_map, HL.out]; exact Nat.le_refl _), List.take_of_length_le (by rw [List.length_map, HK.out]; exact Nat.le_refl _)] at h
          simp [h])
        go_wp2_with fail
        go_ret
        exact ⟨by rw [HB.out] <;> rfl, H.below⟩
  · have hb : ((n : Int) != (m : Int)) = true := by simp; omega
    have HB := hid (show decide (xs.map Sl.vs = ys.map Sl.vs) = false by
      rw [decide_eq_false_iff_not]; intro h; have h1 := congrArg List.length h; rw [List.length_map, List.length_map, HL.out, HK.out] at h1; exact hnm h1)
    go_enter Tryz.func60, Tryz.ntmps60
    go_wp2_with fail
    go_ret
    exact ⟨by rw [HB.out] <;> rfl, Below.refl _ _⟩

theorem sametuples_any (M : Nat → Prop) (w : World) (hM : ∀ b, M b → b < w.heap.size) (A : Option Addr) (n c : Nat) (xs : List Sl) (B : Option Addr) (m d : Nat) (ys : List Sl) (hD : Ro w M (SlsIn A n xs)) (hE : Ro w M (SlsIn B m ys)) (hn : n ≤ 4398046511204) (hr : ∀ r ∈ xs, r.n ≤ 4398046511104) :
    Calls Tryz.prog 22 #[.slice A n c, .slice B m d] w fun e w' => e = .returned (.bool (decide (xs.map Sl.vs = ys.map Sl.vs))) ∧ Below w.heap.size w w' := by
  have HE := hid (eqTps_any M w hM A n c xs B m d ys hD hE hn hr)
  clear hD hE
  go_enter Tryz.func22, Tryz.ntmps22
  go_wp2_with fail
  refine HE.out.mono ?_
  rintro e w1 ⟨rfl, b1⟩
  have HB := hid b1
  clear b1
  obtain ⟨r, hr0⟩ : ∃ r, r = decide (xs.map Sl.vs = ys.map Sl.vs) := ⟨_, rfl⟩
  rw [← hr0]
  have HRR := hid hr0
  clear hr0
  go_wp2_with fail
  go_ret
  exact ⟨by rw [← HRR.out] <;> rfl, HB.out⟩
end Go.Proofs.YtljmclbedpceoaaGreatDoor

namespace Go.Proofs.YtljmclbedpceoaaGreatDoor
open Go.RowKit
set_option linter.unusedVariables false
set_option linter.unusedSimpArgs false

section
variable {a b : List (List Vl)} {k p : Nat} {t s : List Vl}
end
end Go.Proofs.YtljmclbedpceoaaGreatDoor

namespace Go.Proofs.YtljmclbedpceoaaGreatDoor
open Go.RowKit
set_option linter.unusedVariables false
set_option linter.unusedSimpArgs false

end Go.Proofs.YtljmclbedpceoaaGreatDoor

namespace Go.Proofs.YtljmclbedpceoaaGreatDoor
open Go.RowKit
set_option linter.unusedVariables false
set_option linter.unusedSimpArgs false

end Go.Proofs.YtljmclbedpceoaaGreatDoor

namespace Go.Proofs.YtljmclbedpceoaaGreatDoor
open Go.RowKit
set_option linter.unusedVariables false
set_option linter.unusedSimpArgs false

end Go.Proofs.YtljmclbedpceoaaGreatDoor

namespace Go.Proofs.YtljmclbedpceoaaGreatDoor
open Go.RowKit
set_option linter.unusedVariables false
set_option linter.unusedSimpArgs false

end Go.Proofs.YtljmclbedpceoaaGreatDoor

namespace Go.Proofs.YtljmclbedpceoaaGreatDoor
open Go.RowKit
set_option linter.unusedVariables false
set_option linter.unusedSimpArgs false

end Go.Proofs.YtljmclbedpceoaaGreatDoor

namespace Go.Proofs.YtljmclbedpceoaaGreatDoor
open Go.RowKit
set_option linter.unusedVariables false
set_option linter.unusedSimpArgs false

end Go.Proofs.YtljmclbedpceoaaGreatDoor

namespace Go.Proofs.YtljmclbedpceoaaGreatDoor
open Go.RowKit
set_option linter.unusedVariables false
set_option linter.unusedSimpArgs false

def rowsN (ni nd nu : Nat) (e : Int) : Int := if e = 1 then ni else if e = 2 then nu else if e = 3 then nd else 0
set_option maxHeartbeats 1000000 in
theorem drows_any (w : World) (s : ByteArray) (I : Option Addr) (ni ci : Nat) (D : Option Addr) (nd cd : Nat) (U : Option Addr) (nu cu : Nat) (e : Int) : Calls Tryz.prog 19 #[.agg #[.string s, .slice I ni ci, .slice D nd cd, .slice U nu cu], .int .i64 e] w fun e' w' => e' = .returned (.int .i64 (rowsN ni nd nu e)) ∧ Below w.heap.size w w' := by
  have K0 := (Hold.begin_ w).alloc_cst #[.string s, .slice I ni ci, .slice D nd cd, .slice U nu cu] 25
  have F0 := K0.facts
  simp only [World.size_alloc, World.size_drew, factsL, cellsF, Nat.reduceAdd, List.toList_toArray, List.set_cons_zero, List.set_cons_succ, List.setIfInBounds_toArray, and_true, true_and] at F0
  by_cases h1 : e = 1
  · subst h1
    have HN := hid (show rowsN ni nd nu 1 = ni from rfl)
    go_enter Tryz.func19, Tryz.ntmps19
    go_wp2_with fail
    go_ret
    exact ⟨by rw [HN.out] <;> rfl, K0.below⟩
  · have e1 : (e == 1) = false := by simpa using h1
    by_cases h2 : e = 2
    · subst h2
      have HN := hid (show rowsN ni nd nu 2 = nu from rfl)
      clear h1
      go_enter Tryz.func19, Tryz.ntmps19
      go_wp2_with fail
      go_ret
      exact ⟨by rw [HN.out] <;> rfl, K0.below⟩
    · have e2 : (e == 2) = false := by simpa using h2
      by_cases h3 : e = 3
      · subst h3
        have HN := hid (show rowsN ni nd nu 3 = nd from rfl)
        clear h1 h2
        go_enter Tryz.func19, Tryz.ntmps19
        go_wp2_with fail
        go_ret
        exact ⟨by rw [HN.out] <;> rfl, K0.below⟩
      · have e3 : (e == 3) = false := by simpa using h3
        have HN := hid (show rowsN ni nd nu e = 0 by unfold rowsN; rw [if_neg h1, if_neg h2, if_neg h3])
        clear h1 h2 h3
        go_enter Tryz.func19, Tryz.ntmps19
        go_wp2_with fail
        go_ret
        exact ⟨by rw [HN.out] <;> rfl, K0.below⟩
set_option maxHeartbeats 1000000 in
theorem dempty_any (w : World) (s : ByteArray) (I : Option Addr) (ni ci : Nat) (D : Option Addr) (nd cd : Nat) (U : Option Addr) (nu cu : Nat) : Calls Tryz.prog 17 #[.agg #[.string s, .slice I ni ci, .slice D nd cd, .slice U nu cu]] w fun e' w' => e' = .returned (.bool (decide (ni = 0 ∧ nd = 0 ∧ nu = 0))) ∧ Below w.heap.size w w' := by
  have K0 := (Hold.begin_ w).alloc_cst #[.string s, .slice I ni ci, .slice D nd cd, .slice U nu cu] 25
  have F0 := K0.facts
  simp only [World.size_alloc, World.size_drew, factsL, cellsF, Nat.reduceAdd, List.toList_toArray, List.set_cons_zero, List.set_cons_succ, List.setIfInBounds_toArray, and_true, true_and] at F0
  by_cases h1 : ni = 0
  · have e1 : ((ni : Int) == 0) = true := by simp [h1]
    have HN1 := hid h1
    clear h1
    by_cases h2 : nd = 0
    · have e2 : ((nd : Int) == 0) = true := by simp [h2]
      have HN2 := hid h2
      clear h2
      by_cases h3 : nu = 0
      · have e3 : ((nu : Int) == 0) = true := by simp [h3]
        have HN := hid (show decide (ni = 0 ∧ nd = 0 ∧ nu = 0) = true by simp [HN1.out, HN2.out, h3])
        clear h3
        go_enter Tryz.func17, Tryz.ntmps17
        go_wp2_with fail
        go_ret
        exact ⟨by rw [HN.out] <;> first | rfl | simp, K0.below⟩
      · have e3 : ((nu : Int) == 0) = false := by simp; omega
        have HN := hid (show decide (ni = 0 ∧ nd = 0 ∧ nu = 0) = false by simp [h3])
        clear h3
        go_enter Tryz.func17, Tryz.ntmps17
        go_wp2_with fail
        go_ret
        exact ⟨by rw [HN.out] <;> first | rfl | simp, K0.below⟩
    · have e2 : ((nd : Int) == 0) = false := by simp; omega
      have HN := hid (show decide (ni = 0 ∧ nd = 0 ∧ nu = 0) = false by simp [h2])
      clear h2
      go_enter Tryz.func17, Tryz.ntmps17
      go_wp2_with fail
      go_ret
      exact ⟨by rw [HN.out] <;> first | rfl | simp, K0.below⟩
  · have e1 : ((ni : Int) == 0) = false := by simp; omega
    have HN := hid (show decide (ni = 0 ∧ nd = 0 ∧ nu = 0) = false by simp [h1])
    clear h1
    go_enter Tryz.func17, Tryz.ntmps17
    go_wp2_with fail
    go_ret
    exact ⟨by rw [HN.out] <;> first | rfl | simp, K0.below⟩
theorem k8_bet : betweenC ⟨nmLog, logCols, 2, [(1, [vNil, vNil])]⟩ ⟨nmLog, logCols, 3, [(2, [vNil, vNil])]⟩ = (true, ⟨nmLog, [(2, [vNil, vNil])], [(1, [vNil, vNil])], []⟩) := by decide +kernel
set_option maxHeartbeats 4000000 in
set_option maxRecDepth 100000 in
theorem known8 : Gives 7 #[] (.bool true) := by
  intro w
  have K0 := Hold.begin_ w
  have HS := hid small_u
  have HB := hid k8_bet
  go_enter Tryz.func7, Tryz.ntmps7
  go_wp2_with fail
  refine (schema_log _ _ K0.mutLt).mono ?_
  rintro e w1 ⟨A, n, c, rfl, h1, h2, r1, b1⟩
  have K1 := (K0.call b1).add r1
  clear K0 r1 b1
  generalize hU : nmLog = nl at *
  generalize hC : logCols = lc at *
  have HU := hid hU
  have HC := hid hC
  clear hU hC
  have hn2 : lc.length = n := cols_n (K1.ro 0 rfl).now
  have K2 := (((K1.alloc_cst #[.string nl, .slice A n c] 28).alloc_cst #[.int .i64 0, .int .i64 0, .string ⟨#[]⟩, .int .i64 0, .int .i64 0, .string ⟨#[]⟩] 86).alloc_cst #[.int .i64 1, .slice (some ⟨w1.heap.size + 1, 0, none⟩) 2 2] 89).alloc_cst #[.int .i64 2, .slice (some ⟨w1.heap.size + 1, 0, none⟩) 2 2] 89
  simp only [World.size_alloc] at K2
  have q1 : Ro _ _ (VlsIn (some ⟨w1.heap.size + 1, 0, none⟩) 2 [vNil, vNil]) := ro_block (t := 86) (cs := #[.int .i64 0, .int .i64 0, .string ⟨#[]⟩, .int .i64 0, .int .i64 0, .string ⟨#[]⟩]) (K2.get 2 rfl) rfl
  have q2 : Ro _ _ (SlR 2 (some ⟨w1.heap.size + 1 + 1, 0, none⟩) 1 (rwCells [⟨1, some ⟨w1.heap.size + 1, 0, none⟩, 2, 2, [vNil, vNil]⟩])) := ro_block (t := 89) (cs := #[.int .i64 1, .slice (some ⟨w1.heap.size + 1, 0, none⟩) 2 2]) (K2.get 1 rfl) rfl
  have q3 : Ro _ _ (SlR 2 (some ⟨w1.heap.size + 1 + 1 + 1, 0, none⟩) 1 (rwCells [⟨2, some ⟨w1.heap.size + 1, 0, none⟩, 2, 2, [vNil, vNil]⟩])) := ro_block (t := 89) (cs := #[.int .i64 2, .slice (some ⟨w1.heap.size + 1, 0, none⟩) 2 2]) (K2.get 0 rfl) rfl
  have q4 : Ro _ _ (RwsIn (some ⟨w1.heap.size + 1 + 1, 0, none⟩) 1 [⟨1, some ⟨w1.heap.size + 1, 0, none⟩, 2, 2, [vNil, vNil]⟩]) := q2.and (fun w2 h1 h2 r hr => by
    simp only [List.mem_cons, List.not_mem_nil, or_false] at hr
    subst hr
    exact q1 w2 h1 h2)
  have q5 : Ro _ _ (RwsIn (some ⟨w1.heap.size + 1 + 1 + 1, 0, none⟩) 1 [⟨2, some ⟨w1.heap.size + 1, 0, none⟩, 2, 2, [vNil, vNil]⟩]) := q3.and (fun w2 h1 h2 r hr => by
    simp only [List.mem_cons, List.not_mem_nil, or_false] at hr
    subst hr
    exact q1 w2 h1 h2)
  have F2 := K2.facts
  simp only [World.size_alloc, World.size_drew, factsL, cellsF, Nat.reduceAdd, List.toList_toArray, List.set_cons_zero, List.set_cons_succ, List.setIfInBounds_toArray, and_true, true_and] at F2
  have hok : ∀ (i : Int) (hi : I64 i), (Rw.ok ⟨i, some ⟨w1.heap.size + 1, 0, none⟩, 2, 2, [vNil, vNil]⟩) := fun i hi => ⟨hi, by simp, by simp, fun v hv => by
    simp only [List.mem_cons, List.not_mem_nil, or_false] at hv
    rcases hv with rfl | rfl <;> exact vNil_ok⟩
  have ha : TbAt _ (Mut None_ _) (.agg #[.string nl, .slice A n c, .int .i64 2, .slice (some ⟨w1.heap.size + 1 + 1, 0, none⟩) 1 1]) ⟨nl, lc, 2, [(1, [vNil, vNil])]⟩ := ⟨A, n, c, _, 1, 1, _, rfl, h1, by omega, by omega, by omega, K2.ro 4 rfl, q4, fun r hr => by simp only [List.mem_cons, List.not_mem_nil, or_false] at hr; subst hr; exact hok 1 (by unfold I64; omega), rfl⟩
  have hb : TbAt _ (Mut None_ _) (.agg #[.string nl, .slice A n c, .int .i64 3, .slice (some ⟨w1.heap.size + 1 + 1 + 1, 0, none⟩) 1 1]) ⟨nl, lc, 3, [(2, [vNil, vNil])]⟩ := ⟨A, n, c, _, 1, 1, _, rfl, h1, by omega, by omega, by omega, K2.ro 4 rfl, q5, fun r hr => by simp only [List.mem_cons, List.not_mem_nil, or_false] at hr; subst hr; exact hok 2 (by unfold I64; omega), rfl⟩
  go_wp2_with fail
  have hk := dbetw_any _ _ K2.mutLt _ _ _ _ ha hb HS.out.2.2.1 HS.out.2.2.2 (by show (1 : Nat) ≤ _; omega) HS.out.2.2.1 HS.out.2.2.2 (by show (1 : Nat) ≤ _; omega)
  rw [HB.out] at hk
  refine hk.mono ?_
  clear hk ha hb q1 q2 q3 q4 q5 hok F2
  rintro e w2 ⟨v, rfl, ⟨I, ni, ci, D, nd, cd, U, nu, cu, li, ld, lu, rfl, -, -, -, r1, r2, r3, -, -, -, e1, e2, e3⟩, b2⟩
  dsimp only at e1 e2 e3 ⊢
  obtain rfl : 1 = ni := by have h := r1.now.len; have h2 := congrArg List.length e1; rw [List.length_map] at h2; simp at h2; omega
  obtain rfl : 1 = nd := by have h := r2.now.len; have h2 := congrArg List.length e2; rw [List.length_map] at h2; simp at h2; omega
  obtain rfl : 0 = nu := by have h := r3.now.len; have h2 := congrArg List.length e3; rw [List.length_map] at h2; have h3 : lu.length = 0 := h2; omega
  have K3 := (K2.call b2).alloc_cst #[.string nl, .slice I 1 ci, .slice D 1 cd, .slice U 0 cu] 25
  clear K2 b2 r1 r2 r3 e1 e2 e3
  have F3 := K3.facts
  simp only [World.size_alloc, World.size_drew, factsL, cellsF, Nat.reduceAdd, List.toList_toArray, List.set_cons_zero, List.set_cons_succ, List.setIfInBounds_toArray, and_true, true_and] at F3
  go_wp2_with fail
  refine (drows_any _ nl I 1 ci D 1 cd U 0 cu 1).mono ?_
  rintro e w3 ⟨rfl, b3⟩
  have K4 := K3.call b3
  have F4 := K4.facts
  simp only [World.size_alloc, World.size_drew, factsL, cellsF, Nat.reduceAdd, List.toList_toArray, List.set_cons_zero, List.set_cons_succ, List.setIfInBounds_toArray, and_true, true_and] at F4
  rw [show rowsN 1 1 0 1 = 1 from rfl]
  clear K3 F3 b3
  go_wp2_with fail
  refine (drows_any _ nl I 1 ci D 1 cd U 0 cu 3).mono ?_
  rintro e w4 ⟨rfl, b3⟩
  have K5 := K4.call b3
  have F5 := K5.facts
  simp only [World.size_alloc, World.size_drew, factsL, cellsF, Nat.reduceAdd, List.toList_toArray, List.set_cons_zero, List.set_cons_succ, List.setIfInBounds_toArray, and_true, true_and] at F5
  rw [show rowsN 1 1 0 3 = 1 from rfl]
  clear K4 F4 b3
  go_wp2_with fail
  refine (drows_any _ nl I 1 ci D 1 cd U 0 cu 2).mono ?_
  rintro e w5 ⟨rfl, b3⟩
  have K6 := K5.call b3
  have F6 := K6.facts
  simp only [World.size_alloc, World.size_drew, factsL, cellsF, Nat.reduceAdd, List.toList_toArray, List.set_cons_zero, List.set_cons_succ, List.setIfInBounds_toArray, and_true, true_and] at F6
  rw [show rowsN 1 1 0 2 = 0 from rfl]
  clear K5 F5 b3
  go_wp2_with fail
  refine (dempty_any _ nl I 1 ci D 1 cd U 0 cu).mono ?_
  rintro e w6 ⟨rfl, b3⟩
  have K7 := K6.call b3
  rw [show decide (1 = 0 ∧ 1 = 0 ∧ 0 = 0) = false from rfl]
  clear K6 F6 b3
  go_wp2_with fail
  go_ret
  exact ⟨by first | rfl | simp, K7.below⟩
end Go.Proofs.YtljmclbedpceoaaGreatDoor

namespace Go.Proofs.YtljmclbedpceoaaGreatDoor
open Go.RowKit
set_option linter.unusedVariables false
set_option linter.unusedSimpArgs false

theorem betD_lens {a b : Tb} (ha : VTab a) (hb : VTab b) : (betD a b).ins.length ≤ 100 ∧ (betD a b).del.length ≤ 100 ∧ (betD a b).upd.length ≤ 100 ∧ (∀ r ∈ (betD a b).ins, r.2.length ≤ 4) ∧ (∀ r ∈ (betD a b).del, r.2.length ≤ 4) ∧ ∀ u ∈ (betD a b).upd, u.2.1.length ≤ 4 ∧ u.2.2.length ≤ 4 := by
  have h1 := ha.rows
  have h2 := hb.rows
  refine ⟨?_, ?_, ?_, fun r hr => hb.len r (List.mem_filter.1 hr).1, fun r hr => ha.len r (List.mem_filter.1 hr).1, fun u hu => ?_⟩
  · have := List.length_filter_le (fun r : Row => (getR a.rs r.1).isNone) b.rs
    show (offR a.rs b.rs).length ≤ _
    unfold offR
    omega
  · have := List.length_filter_le (fun r : Row => (getR b.rs r.1).isNone) a.rs
    show (offR b.rs a.rs).length ≤ _
    unfold offR
    omega
  · have : (turnR a.rs b.rs).length ≤ b.rs.length := List.length_filterMap_le _ _
    show (turnR a.rs b.rs).length ≤ _
    omega
  · obtain ⟨r, hr, h3⟩ := List.mem_filterMap.1 hu
    cases hg : getR a.rs r.1 with
    | none => rw [hg] at h3; cases h3
    | some o =>
      rw [hg] at h3
      dsimp only at h3
      split at h3
      · cases h3
      · injection h3 with h3
        rw [← h3]
        exact ⟨ha.len _ (getR_out hg), hb.len r hr⟩
theorem VTab.asc {t : Tb} (h : VTab t) : (t.rs.map (·.1)).Pairwise (· < ·) := (okR_asc (tabB_ok h.val).2.2.2.2.1).1
end Go.Proofs.YtljmclbedpceoaaGreatDoor

namespace Go.Proofs.YtljmclbedpceoaaGreatDoor
open Go.RowKit
set_option linter.unusedVariables false
set_option linter.unusedSimpArgs false

set_option maxHeartbeats 1000000 in
theorem rrows_any (w : World) (s : ByteArray) (I : Option Addr) (ni ci : Nat) (D : Option Addr) (nd cd : Nat) (U : Option Addr) (nu cu : Nat) (e : Int) : Calls Tryz.prog 20 #[.agg #[.string s, .slice I ni ci, .slice D nd cd, .slice U nu cu], .int .i64 e] w fun e' w' => e' = .returned (.int .i64 (rowsN ni nd nu e)) ∧ Below w.heap.size w w' := by
  have K0 := (Hold.begin_ w).alloc_cst #[.string s, .slice I ni ci, .slice D nd cd, .slice U nu cu] 25
  have F0 := K0.facts
  simp only [World.size_alloc, World.size_drew, factsL, cellsF, Nat.reduceAdd, List.toList_toArray, List.set_cons_zero, List.set_cons_succ, List.setIfInBounds_toArray, and_true, true_and] at F0
  by_cases h1 : e = 1
  · subst h1
    have HN := hid (show rowsN ni nd nu 1 = ni from rfl)
    go_enter Tryz.func20, Tryz.ntmps20
    go_wp2_with fail
    go_ret
    exact ⟨by rw [HN.out] <;> rfl, K0.below⟩
  · have e1 : (e == 1) = false := by simpa using h1
    by_cases h2 : e = 2
    · subst h2
      have HN := hid (show rowsN ni nd nu 2 = nu from rfl)
      clear h1
      go_enter Tryz.func20, Tryz.ntmps20
      go_wp2_with fail
      go_ret
      exact ⟨by rw [HN.out] <;> rfl, K0.below⟩
    · have e2 : (e == 2) = false := by simpa using h2
      by_cases h3 : e = 3
      · subst h3
        have HN := hid (show rowsN ni nd nu 3 = nd from rfl)
        clear h1 h2
        go_enter Tryz.func20, Tryz.ntmps20
        go_wp2_with fail
        go_ret
        exact ⟨by rw [HN.out] <;> rfl, K0.below⟩
      · have e3 : (e == 3) = false := by simpa using h3
        have HN := hid (show rowsN ni nd nu e = 0 by unfold rowsN; rw [if_neg h1, if_neg h2, if_neg h3])
        clear h1 h2 h3
        go_enter Tryz.func20, Tryz.ntmps20
        go_wp2_with fail
        go_ret
        exact ⟨by rw [HN.out] <;> rfl, K0.below⟩
set_option maxHeartbeats 1000000 in
theorem rempty_any (w : World) (s : ByteArray) (I : Option Addr) (ni ci : Nat) (D : Option Addr) (nd cd : Nat) (U : Option Addr) (nu cu : Nat) (b1 : ni ≤ 2000) (b2 : nd ≤ 2000) (b3 : nu ≤ 2000) : Calls Tryz.prog 18 #[.agg #[.string s, .slice I ni ci, .slice D nd cd, .slice U nu cu]] w fun e' w' => e' = .returned (.bool (decide (ni = 0 ∧ nd = 0 ∧ nu = 0))) ∧ Below w.heap.size w w' := by
  have K0 := (Hold.begin_ w).alloc_cst #[.string s, .slice I ni ci, .slice D nd cd, .slice U nu cu] 25
  have F0 := K0.facts
  simp only [World.size_alloc, World.size_drew, factsL, cellsF, Nat.reduceAdd, List.toList_toArray, List.set_cons_zero, List.set_cons_succ, List.setIfInBounds_toArray, and_true, true_and] at F0
  cases hE : decide (ni = 0 ∧ nd = 0 ∧ nu = 0) with
  | true =>
    have h := of_decide_eq_true hE
    have e1 : ((ni : Int) + (nd : Int) + (nu : Int) == 0) = true := by simp; omega
    clear hE h
    go_enter Tryz.func18, Tryz.ntmps18
    go_wp2_with fail
    go_ret
    exact ⟨by first | rfl | simp, K0.below⟩
  | false =>
    have h := of_decide_eq_false hE
    have e1 : ((ni : Int) + (nd : Int) + (nu : Int) == 0) = false := by rw [beq_eq_false_iff_ne]; omega
    clear hE h
    go_enter Tryz.func18, Tryz.ntmps18
    go_wp2_with fail
    go_ret
    exact ⟨by first | rfl | simp, K0.below⟩
def LatSl (M : Nat → Prop) (t : Tb) (u : Value) (w : World) : Prop := ∃ tb : Tb, TbAt w M u tb ∧ VTab tb ∧ LaterOk t tb
theorem latSl_mono {M : Nat → Prop} {t : Tb} (u : Value) (w w' : World) (hr : RM M w w') (h : LatSl M t u w) : LatSl M t u w' := by
  obtain ⟨tb, h1, h2⟩ := h
  exact ⟨tb, tbAt_mono hr h1, h2⟩
def BetE (M : Nat → Prop) (t : Tb) (u : Value) (w : World) : Prop := ∃ x : El, u = .tuple #[x.val, .bool true] ∧ x.good 100 4 ∧ Ro w M (ElIn x)
theorem betE_mono {M : Nat → Prop} {t : Tb} (u : Value) (w w' : World) (hr : RM M w w') (h : BetE M t u w) : BetE M t u w' := by
  obtain ⟨x, h1, h2, h3⟩ := h
  exact ⟨x, h1, h2, hr.ro h3⟩
def SomeEl (M : Nat → Prop) (u : Value) (w : World) : Prop := ∃ x : El, u = x.val ∧ x.good 2000 1000 ∧ Ro w M (ElIn x)
theorem someEl_mono {M : Nat → Prop} (u : Value) (w w' : World) (hr : RM M w w') (h : SomeEl M u w) : SomeEl M u w' := by
  obtain ⟨x, h1, h2, h3⟩ := h
  exact ⟨x, h1, h2, hr.ro h3⟩
def TelSl (M : Nat → Prop) (t : TypeId) (a b : El) (u : Value) (w : World) : Prop := ∃ (g : Nat) (x : El), u = .slice (some ⟨g, 0, none⟩) 3 3 ∧ x.good 2000 1000 ∧ Ro w M (ElIn x) ∧ Ro w M (fun w => w.heap[g]? = some (.cells #[.string a.nm, .slice a.I a.ni a.ci, .slice a.D a.nd a.cd, .slice a.U a.nu a.cu, .string b.nm, .slice b.I b.ni b.ci, .slice b.D b.nd b.cd, .slice b.U b.nu b.cu, .string x.nm, .slice x.I x.ni x.ci, .slice x.D x.nd x.cd, .slice x.U x.nu x.cu] t (0, 0)))
theorem telSl_mono {M : Nat → Prop} {t : TypeId} {a b : El} (u : Value) (w w' : World) (hr : RM M w w') (h : TelSl M t a b u w) : TelSl M t a b u w' := by
  obtain ⟨g, x, h1, h2, h3, h4⟩ := h
  exact ⟨g, x, h1, h2, hr.ro h3, hr.ro h4⟩
def StrSl (M : Nat → Prop) (ss : List ByteArray) (u : Value) (w : World) : Prop := ∃ (A : Option Addr) (n c : Nat), u = .slice A n c ∧ n = ss.length ∧ Ro w M (StrsIn A n ss)
theorem strSl_mono {M : Nat → Prop} {ss : List ByteArray} (u : Value) (w w' : World) (hr : RM M w w') (h : StrSl M ss u w) : StrSl M ss u w' := by
  obtain ⟨A, n, c, h1, h2, h3⟩ := h
  exact ⟨A, n, c, h1, h2, hr.ro h3⟩
theorem el_cells {x y : El} {a b : El} (h : x.val = y.val) : (#[.string a.nm, .slice a.I a.ni a.ci, .slice a.D a.nd a.cd, .slice a.U a.nu a.cu, .string b.nm, .slice b.I b.ni b.ci, .slice b.D b.nd b.cd, .slice b.U b.nu b.cu, .string x.nm, .slice x.I x.ni x.ci, .slice x.D x.nd x.cd, .slice x.U x.nu x.cu] : Array Value) = #[.string a.nm, .slice a.I a.ni a.ci, .slice a.D a.nd a.cd, .slice a.U a.nu a.cu, .string b.nm, .slice b.I b.ni b.ci, .slice b.D b.nd b.cd, .slice b.U b.nu b.cu, .string y.nm, .slice y.I y.ni y.ci, .slice y.D y.nd y.cd, .slice y.U y.nu y.cu] := by
  simp only [El.val, Value.agg.injEq, Array.mk.injEq, List.cons.injEq, Value.string.injEq, Value.slice.injEq, and_true] at h
  obtain ⟨h1, ⟨h2, h3, h4⟩, ⟨h5, h6, h7⟩, h8, h9, h10⟩ := h
  rw [h1, h2, h3, h4, h5, h6, h7, h8, h9, h10]
set_option maxHeartbeats 16000000 in
set_option maxRecDepth 100000 in
theorem dtells_walk (v0 : Value) (dq : Dl) (nm : ByteArray) (A1 : Option Addr) (n1 c1 : Nat) (cs1 : List Col) (A : Option Addr) (n c : Nat) (zs : List Int) (ev : Int) (w : World) (hQ0 : DlAt w None_ v0 dq) (hC1 : Ro w None_ (ColsIn A1 n1 cs1)) (hn1 : n1 ≤ 4398046511104) (hev : I64 ev)
    (hin : dq.ins.length ≤ 4398046511104) (hde : dq.del.length ≤ 4398046511104) (hup : dq.upd.length ≤ 4398046511104) (hvi : ∀ r ∈ dq.ins, r.2.length ≤ 4398046511104) (hvd : ∀ r ∈ dq.del, r.2.length ≤ 4398046511104) (hvu : ∀ u ∈ dq.upd, u.2.1.length ≤ 4398046511104 ∧ u.2.2.length ≤ 4398046511104)
    (hr : Rd w w.heap.size 1 A n (zs.map (Value.int .i64))) (hz : Ints zs) (hn : n ≤ c) (hc : c ≤ 9223372036854775807) (hw : Wds w) :
    Calls Tryz.prog 3 #[v0, .agg #[.string nm, .slice A1 n1 c1], .slice A n c, .int .i64 ev] w fun e w' => e = .returned (.bool true) ∧ Below w.heap.size w w' := by
  obtain ⟨x0, rfl, -, gx0, rx0⟩ := dl_el (N := 4398046511104) (K := 4398046511104) hQ0 hin hde hup hvi hvd hvu
  have hwl := hw.lt
  clear hQ0 hin hde hup hvi hvd hvu
  have K0 := ((((Hold.begin_ w).add (rx0.less (by simp [Mut]))).add (hC1.less (by simp [Mut, Hp.foot]))).alloc_cst #[.string x0.nm, .slice x0.I x0.ni x0.ci, .slice x0.D x0.nd x0.cd, .slice x0.U x0.nu x0.cu] 25).alloc_cst #[.string nm, .slice A1 n1 c1] 28
  rw [World.size_alloc] at K0
  have F0 := K0.facts
  simp only [World.size_alloc, World.size_drew, factsL, cellsF, Nat.reduceAdd, List.toList_toArray, List.set_cons_zero, List.set_cons_succ, List.setIfInBounds_toArray, and_true, true_and] at F0
  have b0i : x0.ni ≤ 4398046511104 := gx0.i
  have b0d : x0.nd ≤ 4398046511104 := gx0.d
  have b0u : x0.nu ≤ 4398046511104 := gx0.u
  clear hC1 rx0
  unfold El.val
  go_enter Tryz.func3, Tryz.ntmps3
  obtain ⟨g3, hg3⟩ : ∃ g3, g3 = w.heap.size := ⟨_, rfl⟩
  obtain ⟨g4, hg4⟩ : ∃ g4, g4 = g3 + 1 := ⟨_, rfl⟩
  by_cases h40 : 40 < x0.ni + x0.nd + x0.nu
  · have hb1 : decide ((x0.ni : Int) + (x0.nd : Int) + (x0.nu : Int) > 40) = true := by simp; omega
    go_wp2_with fail
    refine (known8 _).mono ?_
    rintro e w9 ⟨rfl, b9⟩
    have K9 := K0.call b9
    go_wp2_with fail
    go_ret
    exact ⟨by first | rfl | simp, K9.below⟩
  have hb1 : decide ((x0.ni : Int) + (x0.nd : Int) + (x0.nu : Int) > 40) = false := by simp; omega
  have HG0 := hid (show x0.good 40 4398046511104 from gx0.more (by omega) (by omega) (by omega) (Nat.le_refl _))
  go_wp2_with fail
  rw [← hg3, ← hg4] at K0 ⊢
  clear F0 hb1 h40 b0i b0d b0u gx0
  generalize (w.alloc _).alloc _ = w1 at K0 ⊢
  have hr1 : Rd w1 w1.heap.size 1 A n (zs.map (Value.int .i64)) := (hr.keep fun p hp => World.cell?_of_block (w := w) (K0.below.block p.block hp)).more K0.grow.size
  have wd1 : Wds w1 := hw.below K0.below hwl
  have hle1 : w.heap.size ≤ w1.heap.size := K0.grow.size
  clear hr hw
  refine (new_any A n c zs _ hr1 hz hn hc).mono ?_
  rintro e w2 ⟨T, rfl, hT, t1, b1⟩
  have K1 := Hold.newTape K0 b1 t1 hT (by simp [Mut, None_, Hp.foot])
  have hT1 : 1 < T := by omega
  have wd0 : Wds w2 := wd1.below b1 (by omega)
  have K2 := K1.add (wd0.ro2 (show ¬ Mut None_ _ 1 from fun h => by simp [Mut, None_, Hp.foot] at h; omega))
  clear K1 K0 wd0 wd1 t1 b1 hr1 hT
  have HGX := hid (And.intro hg3 hg4)
  clear hg3 hg4
  go_wp2_with fail
  refine (tname_any (Mut None_ _) T _ K2.mutLt (K2.tp_ 1 rfl) (K2.get 1 rfl).2).mono ?_
  rintro e w3 ⟨s, rfl, hs, t2, g2⟩
  have K3 := Hold.callT K2 1 rfl g2 t2
  clear K2 t2 g2
  have HSO0 := hid (schOk_name hs)
  clear hs
  go_wp2_with fail
  refine (schema_any (Mut None_ _) _ K3.mutLt s).mono ?_
  rintro e w4 ⟨A2, n2, c2, rfl, hc1, hc2, r3, b3⟩
  have K4 := (K3.call b3).add r3
  clear K3 b3 r3
  go_wp2_with fail
  have hn2 : (schemaOf s).2.length = n2 := cols_n (K4.ro 0 rfl).now
  have hl2 := HSO0.out.len
  refine (tof_slot (Mut None_ _) T _ K4.mutLt (K4.tp_ 2 rfl) (K4.get 2 rfl).2 _ A2 n2 c2 _ 6 ((K4.ro 0 rfl).less (mut_tp (i := 2) rfl)) hc1 (by omega) HSO0.out ((K4.ro 1 rfl).less (mut_tp (i := 2) rfl)) hT1 (by omega)).mono ?_
  clear hn2 hl2
  rintro e w5 ⟨v, t, rfl, ⟨A3, n3, c3, B, m, d, l, rfl, h31, h32, hmd, hd2, r4c, r4, hlk, hlr⟩, htv, -, -, hrl, t4, g4'⟩
  dsimp only at r4c hlr ⊢
  have K5 := ((Hold.callT K4 2 rfl g4' t4).add r4).add (r4c.less (mut_none rfl))
  have HVT := hid htv
  have HT3 := hid (And.intro h31 (And.intro h32 (And.intro hmd (And.intro hd2 (And.intro hlk hlr)))))
  have HBA := hid (show t.nm.size ≤ maxLen ∧ (∀ x ∈ t.cs, x.name.size ≤ maxLen) ∧ t.rs.length ≤ 4398046511104 from ⟨htv.sch.nm, htv.sch.cs, by omega⟩)
  have hn3 : n3 ≤ 4398046511104 := by have h1 := cols_n r4c.now; have h2 := htv.sch.len; omega
  clear K4 t4 g4' hc1 hc2 r4 r4c hlk hlr htv hrl hmd hd2 h31 h32
  have K6 := K5.alloc_cst #[.string t.nm, .slice A3 n3 c3, .int .i64 t.nx, .slice B m d] 34
  clear K5
  obtain ⟨g8, hg8⟩ : ∃ g8, g8 = w5.heap.size := ⟨_, rfl⟩
  rw [← hg8] at K6
  have FA := K6.facts
  simp only [World.size_alloc, World.size_drew, factsL, cellsF, Nat.reduceAdd, List.toList_toArray, List.set_cons_zero, List.set_cons_succ, List.setIfInBounds_toArray, and_true, true_and] at FA
  go_wp2_with fail
  rw [← hg8]
  have HG8 := hid hg8
  clear hg8 FA
  generalize World.alloc w5 _ = w6 at K6 ⊢
  obtain ⟨KL, hKL, KN⟩ := K6.name
  have HF : Hid (∀ wv, Hold None_ none w wv KL → wv.cell? ⟨g8, 0, none⟩ = some (.string t.nm) ∧ wv.cell? ⟨g8, 1, none⟩ = some (.slice A3 n3 c3) ∧ wv.cell? ⟨g8, 2, none⟩ = some (.int .i64 t.nx) ∧ wv.cell? ⟨g8, 3, none⟩ = some (.slice B m d) ∧ g8 < wv.heap.size) := hid fun wv HC => by
    rw [hKL] at HC
    have y0 := HC.cst_ 0 rfl
    exact ⟨cell_of_row _ _ 0 _ _ _ y0, cell_of_row _ _ 1 _ _ _ y0, cell_of_row _ _ 2 _ _ _ y0, cell_of_row _ _ 3 _ _ _ y0, Blk.lt y0⟩
  have HX : Hid (∀ wv, Hold None_ none w wv KL → TbAt wv (Mut None_ KL) (.agg #[.string t.nm, .slice A3 n3 c3, .int .i64 t.nx, .slice B m d]) t ∧ Tp wv T ∧ (∀ b, (Mut None_ KL) b → T ≤ b) ∧ Ro wv (Mut None_ KL) Wds) := hid fun wv HC => by
    rw [hKL] at HC ⊢
    obtain ⟨h31, h32, h33, h34, h37, h38⟩ := HT3.out
    exact ⟨⟨A3, n3, c3, B, m, d, l, rfl, h31, h32, h33, h34, HC.ro 1 rfl, HC.ro 2 rfl, h37, h38⟩, HC.tp_ 5 rfl, (HC.get 5 rfl).2, HC.ro 4 rfl⟩
  have HKL := hid hKL
  clear hKL K6
  obtain ⟨Hb, hHb⟩ : ∃ Hb, Hb = w6.drew.heap.size := ⟨_, rfl⟩
  have HHb := hid hHb
  clear hHb
  refine wp_region_any (by kernel_rfl) ?_
  refine wpAny_holdE [7] 9 129 (KL) (spL [(43, LatSl (Mut None_ KL) t), (44, BetE (Mut None_ KL) t), (39, BetE (Mut None_ KL) t), (11, NewSlot (Mut None_ KL) Hb 25 #[.string ⟨#[]⟩, .slice none 0 0, .slice none 0 0, .slice none 0 0])]) (by kernel_rfl) (fun _ d _ _ _ h => by cases d <;> exact h) (by kernel_rfl) (by kernel_rfl) rfl ?_ (KN.drew) ?_
  · exact stays_cons latSl_mono (stays_cons betE_mono (stays_cons betE_mono (stays_cons newSlot_mono (stays_nil _))))
  simp only [List.take_succ_cons, List.take_zero, List.drop_succ_cons, List.drop_zero, Act.put, List.getElem_toArray, List.getElem_cons_zero, List.getElem_cons_succ, List.setIfInBounds_toArray, List.set_cons_succ, List.set_cons_zero]
  refine dw_val rfl rfl rfl ?_; apply Exists.intro; refine ⟨fun wv HC => ?_, ?_⟩
  · obtain ⟨f0, f1, f2, f3, f4⟩ := HF.out _ HC; go_simp <;> rfl
  simp only [Act.put, List.setIfInBounds_toArray, List.set_cons_succ, List.set_cons_zero]
  refine dw_val rfl rfl rfl ?_; apply Exists.intro; refine ⟨fun wv HC => ?_, ?_⟩
  ·  go_simp <;> rfl
  simp only [Act.put, List.setIfInBounds_toArray, List.set_cons_succ, List.set_cons_zero]
  refine dw_val rfl rfl rfl ?_; apply Exists.intro; refine ⟨fun wv HC => ?_, ?_⟩
  · obtain ⟨f0, f1, f2, f3, f4⟩ := HF.out _ HC; go_simp <;> rfl
  simp only [Act.put, List.setIfInBounds_toArray, List.set_cons_succ, List.set_cons_zero]
  refine dw_callR 43 (LatSl (Mut None_ KL) t) (f := 13) (args := #[.pointer (some ⟨T, 0, none⟩), .agg #[.string t.nm, .slice A3 n3 c3, .int .i64 t.nx, .slice B m d]]) rfl rfl rfl rfl (fun wv => ?_) (fun wv HC hrm hD => ?_) ?_
  · go_simp <;> rfl
  · obtain ⟨X0, X1, X2, X3⟩ := HX.out _ HC
    refine (later_any (Mut None_ KL) T wv HC.mutLt X1 X2 _ t (tbAt_less X0 (mut_tp (i := 5) (by rw [HKL.out]; rfl))) HVT.out (X3.less (mut_tp (i := 5) (by rw [HKL.out]; rfl))) hT1).mono ?_
    rintro e w5 ⟨v5, u5, rfl, hu5, hv5, hl5, t5, g5'⟩
    exact ⟨_, rfl, ⟨u5, hu5, hv5, hl5⟩, Hold.callT HC 5 (by rw [HKL.out]; rfl) g5' t5, RM.grown g5' (.inr ⟨_, List.mem_of_getElem? (i := 5) (by rw [HKL.out]; rfl), rfl⟩)⟩
  rintro s43 wx HCx hs43
  clear HCx hs43
  simp only [Act.put, List.setIfInBounds_toArray, List.set_cons_succ, List.set_cons_zero]
  refine dw_callR 44 (BetE (Mut None_ KL) t) (f := 12) (args := #[.agg #[.string t.nm, .slice A3 n3 c3, .int .i64 t.nx, .slice B m d], s43]) rfl rfl rfl rfl (fun wv => ?_) (fun wv HC hrm hD => ?_) ?_
  · go_simp <;> rfl
  · have hsl : LatSl (Mut None_ KL) t s43 wv := deps_at hD 3 rfl (by kernel_rfl) rfl rfl
    obtain ⟨u5, hu5, hv5, hl5⟩ := hsl
    have hk := rbetw_any _ wv HC.mutLt _ _ t u5 (HX.out _ HC).1 hu5 HBA.out.1 HBA.out.2.1 HBA.out.2.2 hv5.sch.nm hv5.sch.cs (by have := hv5.rows; omega)
    rw [betC_later HVT.out.val hv5.val hl5] at hk
    refine hk.mono ?_
    rintro e w6 ⟨v, rfl, hd6, b6⟩
    have hbl := betD_lens HVT.out hv5
    obtain ⟨x, rfl, hxd, hxg, hxr⟩ := dl_el (N := 100) (K := 4) hd6 hbl.1 hbl.2.1 hbl.2.2.1 hbl.2.2.2.1 hbl.2.2.2.2.1 hbl.2.2.2.2.2
    exact ⟨_, rfl, ⟨x, rfl, hxg, hxr⟩, HC.call b6, RM.below b6⟩
  rintro u wx HCx ⟨x1, rfl, -, -⟩
  clear HCx
  simp only [Act.put, List.setIfInBounds_toArray, List.set_cons_succ, List.set_cons_zero]
  refine dw_valC 39 (BetE (Mut None_ KL) t) rfl rfl rfl rfl (.tuple #[x1.val, .bool true]) (fun wv HC => ?_) (fun wv HC hD => ?_) ?_
  · go_simp <;> rfl
  · exact deps_at hD 4 rfl (by kernel_rfl) rfl rfl
  simp only [Act.put, List.setIfInBounds_toArray, List.set_cons_succ, List.set_cons_zero]
  refine dw_val rfl rfl rfl ?_; apply Exists.intro; refine ⟨fun wv HC => ?_, ?_⟩
  ·  go_simp <;> rfl
  simp only [Act.put, List.setIfInBounds_toArray, List.set_cons_succ, List.set_cons_zero]
  refine dw_val rfl rfl rfl ?_; apply Exists.intro; refine ⟨fun wv HC => ?_, ?_⟩
  ·  go_simp <;> rfl
  simp only [Act.put, List.setIfInBounds_toArray, List.set_cons_succ, List.set_cons_zero]
  refine dw_new #[.string ⟨#[]⟩, .slice none 0 0, .slice none 0 0, .slice none 0 0] 25 11 (NewSlot (Mut None_ KL) Hb 25 #[.string ⟨#[]⟩, .slice none 0 0, .slice none 0 0, .slice none 0 0]) (fun g => .pointer (some ⟨g, 0, none⟩)) rfl rfl rfl rfl (fun wv => ?_) (fun wv HC hrm hD hro => ?_) ?_
  · go_simp <;> rfl
  · exact ⟨_, rfl, by have := hrm.1; rw [HHb.out]; exact this, hro _ HC.mutLt⟩
  rintro gb wg HCg hsl
  simp only [Act.put, List.setIfInBounds_toArray, List.set_cons_succ, List.set_cons_zero]
  clear hsl HCg
  refine rel_nil ?_
  rintro wxb HY
  rintro _hrm HGW
  have hap : BetE (Mut None_ KL) t (.tuple #[x1.val, .bool true]) wxb := (GW_on (d := 39) rfl).1 (HGW 5 _ rfl (by omega))
  have hns : NewSlot (Mut None_ KL) Hb 25 #[.string ⟨#[]⟩, .slice none 0 0, .slice none 0 0, .slice none 0 0] (.pointer (some ⟨gb, 0, none⟩)) wxb := (GW_on (d := 11) rfl).1 (HGW 8 _ rfl (by omega))
  clear HGW
  obtain ⟨g7, hg7, hgH, hgB⟩ := hns
  obtain rfl : gb = g7 := by injection hg7 with hg7; injection hg7 with hg7; injection hg7
  clear hg7
  rw [HHb.out] at hgH
  have HB := Hold.addFreshBlk KN.drew HY _hrm hgH hgB.now
  have hgn := hgB.now
  obtain ⟨x2, hx2, hxg, hxr⟩ := hap
  obtain ⟨rv, hrv⟩ : ∃ r, r = x1.val := ⟨_, rfl⟩
  have hx3 : x1.val = x2.val := by injection hx2 with hx2; simpa using hx2
  rw [hx3]
  clear hx2 hx3 hrv rv x1
  have HXG := hid hxg
  have K3 := HB.add ((el_apart hxr hgn noInt_delta).less fun b hb => (mut_cons.1 hb).elim (fun hf => Or.inl (by have hf : some gb = some b := hf; injection hf with hf; exact hf.symm)) Or.inr)
  clear hgn hgB hgH HY _hrm HHb KN HF HX hxg hxr
  rw [HKL.out] at K3
  clear HB HKL
  have FB := K3.facts
  simp only [World.size_alloc, World.size_drew, factsL, cellsF, Nat.reduceAdd, List.toList_toArray, List.set_cons_zero, List.set_cons_succ, List.setIfInBounds_toArray, and_true, true_and] at FB
  have K6 := ((((K3.store 1 rfl 0 (.string x2.nm)).store 1 rfl 1 (.slice x2.I x2.ni x2.ci)).store 1 rfl 2 (.slice x2.D x2.nd x2.cd)).store 1 rfl 3 (.slice x2.U x2.nu x2.cu)).fix_ 1 rfl
  simp only [List.set_cons_zero, List.set_cons_succ, List.setIfInBounds_toArray] at K6
  unfold El.val
  go_wp2_with fail
  clear FB K3
  generalize World.setCell _ _ _ = w7 at K6 ⊢
  obtain ⟨KL, hKL, KN⟩ := K6.name
  have HF : Hid (∀ wv, Hold None_ none w wv KL → (wv.cell? ⟨g3, 0, none⟩ = some (.string x0.nm) ∧ wv.cell? ⟨g3, 1, none⟩ = some (.slice x0.I x0.ni x0.ci) ∧ wv.cell? ⟨g3, 2, none⟩ = some (.slice x0.D x0.nd x0.cd) ∧ wv.cell? ⟨g3, 3, none⟩ = some (.slice x0.U x0.nu x0.cu) ∧ g3 < wv.heap.size) ∧ (wv.cell? ⟨gb, 0, none⟩ = some (.string x2.nm) ∧ wv.cell? ⟨gb, 1, none⟩ = some (.slice x2.I x2.ni x2.ci) ∧ wv.cell? ⟨gb, 2, none⟩ = some (.slice x2.D x2.nd x2.cd) ∧ wv.cell? ⟨gb, 3, none⟩ = some (.slice x2.U x2.nu x2.cu) ∧ gb < wv.heap.size)) := hid fun wv HC => by
    rw [hKL] at HC
    have y0 := HC.cst_ 9 rfl
    have y1 := HC.cst_ 1 rfl
    exact ⟨⟨cell_of_row _ _ 0 _ _ _ y0, cell_of_row _ _ 1 _ _ _ y0, cell_of_row _ _ 2 _ _ _ y0, cell_of_row _ _ 3 _ _ _ y0, Blk.lt y0⟩, ⟨cell_of_row _ _ 0 _ _ _ y1, cell_of_row _ _ 1 _ _ _ y1, cell_of_row _ _ 2 _ _ _ y1, cell_of_row _ _ 3 _ _ _ y1, Blk.lt y1⟩⟩
  have HX : Hid (∀ wv, Hold None_ none w wv KL → Ro wv (Mut None_ KL) (ElIn x2) ∧ Tp wv T ∧ (∀ b, (Mut None_ KL) b → T ≤ b)) := hid fun wv HC => by
    rw [hKL] at HC ⊢
    exact ⟨HC.ro 0 rfl, HC.tp_ 7 rfl, (HC.get 7 rfl).2⟩
  have HKL := hid hKL
  clear hKL K6
  refine wp_region_any (by kernel_rfl) ?_
  refine wpAny_hold 8 129 (KL) (spL [(51, SomeEl (Mut None_ KL)), (52, TelSl (Mut None_ KL) 25 x0 x2)]) (by kernel_rfl) (by kernel_rfl) (by kernel_rfl) rfl ?_ (KN.drew) ?_
  · exact stays_cons someEl_mono (stays_cons telSl_mono (stays_nil _))
  simp only [List.take_succ_cons, List.take_zero, List.drop_succ_cons, List.drop_zero, Act.put, List.getElem_toArray, List.getElem_cons_zero, List.getElem_cons_succ, List.setIfInBounds_toArray, List.set_cons_succ, List.set_cons_zero]
  refine dw_val rfl rfl rfl ?_; apply Exists.intro; refine ⟨fun wv HC => ?_, ?_⟩
  · obtain ⟨⟨f0, f1, f2, f3, f4⟩, ⟨f5, f6, f7, f8, f9⟩⟩ := HF.out _ HC; go_simp <;> rfl
  simp only [Act.put, List.setIfInBounds_toArray, List.set_cons_succ, List.set_cons_zero]
  refine dw_val rfl rfl rfl ?_; apply Exists.intro; refine ⟨fun wv HC => ?_, ?_⟩
  · obtain ⟨⟨f0, f1, f2, f3, f4⟩, ⟨f5, f6, f7, f8, f9⟩⟩ := HF.out _ HC; go_simp <;> rfl
  simp only [Act.put, List.setIfInBounds_toArray, List.set_cons_succ, List.set_cons_zero]
  refine dw_val rfl rfl rfl ?_; apply Exists.intro; refine ⟨fun wv HC => ?_, ?_⟩
  ·  go_simp <;> rfl
  simp only [Act.put, List.setIfInBounds_toArray, List.set_cons_succ, List.set_cons_zero]
  refine dw_val rfl rfl rfl ?_; apply Exists.intro; refine ⟨fun wv HC => ?_, ?_⟩
  · obtain ⟨⟨f0, f1, f2, f3, f4⟩, ⟨f5, f6, f7, f8, f9⟩⟩ := HF.out _ HC; go_simp <;> rfl
  simp only [Act.put, List.setIfInBounds_toArray, List.set_cons_succ, List.set_cons_zero]
  refine dw_callR 51 (SomeEl (Mut None_ KL)) (f := 14) (args := #[.pointer (some ⟨T, 0, none⟩), .agg #[.string x2.nm, .slice x2.I x2.ni x2.ci, .slice x2.D x2.nd x2.cd, .slice x2.U x2.nu x2.cu]]) rfl rfl rfl rfl (fun wv => ?_) (fun wv HC hrm hD => ?_) ?_
  · go_simp <;> rfl
  · obtain ⟨X0, X1, X2⟩ := HX.out _ HC
    have hll := el_lens HXG.out X0.now
    refine (dspoil_any (Mut None_ KL) T wv HC.mutLt X1 X2 _ _ (dlAt_lessM (el_dl HXG.out X0) (mut_tp (i := 7) (by rw [HKL.out]; rfl))) (by omega) (by omega) (by omega) (fun r hr => by have := hll.2.2.2.1 r hr; omega) (fun r hr => by have := hll.2.2.2.2.1 r hr; omega) (fun r hr => by have := hll.2.2.2.2.2 r hr; omega)).mono ?_
    rintro e w5 ⟨v5, d5', rfl, hc5, hb5, hb6, hb7, t5, g5', hpo⟩
    have hq := hpo (fun r hr => by have := hll.2.2.2.2.2 r hr; omega)
    obtain ⟨x, rfl, -, hxg, hxr⟩ := dl_el (N := 2000) (K := 1000) hc5 hb5.1 hb5.2.1 hb5.2.2 hb6 hq.1 (fun u hu => ⟨hq.2 u hu, hb7 u hu⟩)
    exact ⟨_, rfl, ⟨x, rfl, hxg, hxr⟩, Hold.callT HC 7 (by rw [HKL.out]; rfl) g5' t5, RM.grown g5' (.inr ⟨_, List.mem_of_getElem? (i := 7) (by rw [HKL.out]; rfl), rfl⟩)⟩
  rintro s51 wx HCx ⟨x4, rfl, -, -⟩
  clear HCx
  simp only [Act.put, List.setIfInBounds_toArray, List.set_cons_succ, List.set_cons_zero]
  refine dw_new #[.string x0.nm, .slice x0.I x0.ni x0.ci, .slice x0.D x0.nd x0.cd, .slice x0.U x0.nu x0.cu, .string x2.nm, .slice x2.I x2.ni x2.ci, .slice x2.D x2.nd x2.cd, .slice x2.U x2.nu x2.cu, .string x4.nm, .slice x4.I x4.ni x4.ci, .slice x4.D x4.nd x4.cd, .slice x4.U x4.nu x4.cu] 25 52 (TelSl (Mut None_ KL) 25 x0 x2) (fun g => .slice (some ⟨g, 0, none⟩) 3 3) rfl rfl rfl rfl (fun wv => ?_) (fun wv HC hrm hD hro => ?_) ?_
  · unfold El.val
    go_simp <;> rfl
  · have hsl : SomeEl (Mut None_ KL) x4.val wv := deps_at hD 4 rfl (by kernel_rfl) rfl rfl
    obtain ⟨x5, h5, hg5, hr5⟩ := hsl
    refine ⟨wv.heap.size, x5, rfl, hg5, RM.ro (RM.alloc _ _ _) hr5, ?_⟩
    rw [← el_cells h5]
    exact hro _ HC.mutLt
  rintro gs wx HCx hsl
  clear HCx hsl
  simp only [Act.put, List.setIfInBounds_toArray, List.set_cons_succ, List.set_cons_zero]
  refine dw_val rfl rfl rfl ?_; apply Exists.intro; refine ⟨fun wv HC => ?_, ?_⟩
  ·  go_simp <;> rfl
  simp only [Act.put, List.setIfInBounds_toArray, List.set_cons_succ, List.set_cons_zero]
  refine dw_val rfl rfl rfl ?_; apply Exists.intro; refine ⟨fun wv HC => ?_, ?_⟩
  ·  go_simp <;> rfl
  simp only [Act.put, List.setIfInBounds_toArray, List.set_cons_succ, List.set_cons_zero]
  refine rel_nil ?_
  rintro wxb HY
  rintro _hrm HGW
  have hts : TelSl (Mut None_ KL) 25 x0 x2 (.slice (some ⟨gs, 0, none⟩) 3 3) wxb := (GW_on (d := 52) rfl).1 (HGW 5 _ rfl (by omega))
  obtain ⟨gs', x5, hgs, hg5, hr5, hbs⟩ := hts
  obtain rfl : gs = gs' := by injection hgs with hgs; injection hgs with hgs; injection hgs
  clear hgs HGW
  have K7 := (HY.add hr5).addCst (hbs.less (mut_none rfl))
  have HG5 := hid hg5
  clear hr5 hbs hg5 HY _hrm KN HF HX
  rw [HKL.out] at K7
  clear HKL
  obtain ⟨KL, hKL, KN⟩ := K7.name
  have HE : Hid (∀ k < 3, (el3 x0 x2 x5 k).good 2000 4398046511104 ∧ ∀ wv, Hold None_ none w wv KL → ElAt gs k (el3 x0 x2 x5 k) wv ∧ gs < wv.heap.size ∧ Ro wv (Mut None_ KL) (ElIn (el3 x0 x2 x5 k))) := hid fun k hk => by
    refine ⟨?_, fun wv HC => ?_⟩
    · obtain rfl | rfl | rfl : k = 0 ∨ k = 1 ∨ k = 2 := by omega
      · have h := HG0.out; exact h.more (Nat.le_trans h.i (by omega)) (Nat.le_trans h.d (by omega)) (Nat.le_trans h.u (by omega)) (Nat.le_refl _)
      · have h := HXG.out; exact h.more (Nat.le_trans h.i (by omega)) (Nat.le_trans h.d (by omega)) (Nat.le_trans h.u (by omega)) (by omega)
      · have h := HG5.out; exact h.more h.i h.d h.u (by omega)
    · rw [hKL] at HC ⊢
      refine ⟨el3_at (HC.cst_ 0 rfl) hk, Blk.lt (HC.cst_ 0 rfl), ?_⟩
      obtain rfl | rfl | rfl : k = 0 ∨ k = 1 ∨ k = 2 := by omega
      · exact HC.ro 13 rfl
      · exact HC.ro 2 rfl
      · exact HC.ro 1 rfl
  have HZ : Hid (∀ wv, Hold None_ none w wv KL → (wv.cell? ⟨g4, 0, none⟩ = some (.string nm) ∧ wv.cell? ⟨g4, 1, none⟩ = some (.slice A1 n1 c1) ∧ g4 < wv.heap.size) ∧ (wv.cell? ⟨g8, 0, none⟩ = some (.string t.nm) ∧ wv.cell? ⟨g8, 1, none⟩ = some (.slice A3 n3 c3) ∧ g8 < wv.heap.size) ∧ Ro wv (Mut None_ KL) (ColsIn A1 n1 cs1) ∧ Ro wv (Mut None_ KL) (ColsIn A3 n3 t.cs)) := hid fun wv HC => by
    rw [hKL] at HC ⊢
    have y0 := HC.cst_ 10 rfl
    have y1 := HC.cst_ 4 rfl
    exact ⟨⟨cell_of_row _ _ 0 _ _ _ y0, cell_of_row _ _ 1 _ _ _ y0, Blk.lt y0⟩, ⟨cell_of_row _ _ 0 _ _ _ y1, cell_of_row _ _ 1 _ _ _ y1, Blk.lt y1⟩, HC.ro 12 rfl, HC.ro 5 rfl⟩
  clear hKL K7
  go_wp2_with fail
  go_loopw [54] (fun iv wr => ∃ (k : Nat), k ≤ 3 ∧ iv = .int .i64 k ∧ Hold None_ none w wr KL) (fun iv _ => 3 - (intOf iv).toNat)
  case atStart => exact ⟨0, by omega, rfl, KN⟩
  case round =>
    clear KN
    obtain ⟨k, hk, rfl, H⟩ := hrel
    by_cases hlt : k < 3
    · have hd3 : decide ((k : Int) < 3) = true := by simp; omega
      have i0 : (0 : Int) ≤ (k : Int) := by omega
      have i3 : (k : Int) < 3 := by omega
      obtain ⟨hxg, hxa⟩ := HE.out k hlt
      obtain ⟨⟨y0, y1, y2, y3⟩, hgs, hxr⟩ := hxa _ H
      generalize el3 x0 x2 x5 k = x at hxg hxa hxr y0 y1 y2 y3
      clear hxa
      have HXX := hid hxg
      have b1 : x.ni ≤ 2000 := hxg.i
      have b2 : x.nd ≤ 2000 := hxg.d
      have b3 : x.nu ≤ 2000 := hxg.u
      clear hxg
      have K2 := (H.add hxr).alloc_cst #[.string x.nm, .slice x.I x.ni x.ci, .slice x.D x.nd x.cd, .slice x.U x.nu x.cu] 25
      clear H hxr
      have FA := K2.facts
      simp only [World.size_alloc, World.size_drew, factsL, cellsF, Nat.reduceAdd, List.toList_toArray, List.set_cons_zero, List.set_cons_succ, List.setIfInBounds_toArray, and_true, true_and] at FA
      go_wp2_with fail
      obtain ⟨gx, hgx⟩ : ∃ gx, gx = wr.heap.size := ⟨_, rfl⟩
      rw [← hgx] at K2 FA ⊢
      have HGX := hid hgx
      clear hgx y0 y1 y2 y3 hgs
      generalize World.alloc wr _ = w8 at K2 FA ⊢
      refine (dbags_any _ _ K2.mutLt x.nm x.I x.ni x.ci x.D x.nd x.cd x.U x.nu x.cu x.li x.ld x.lu ((K2.ro 1 rfl).imp fun w h => h.1) ((K2.ro 1 rfl).imp fun w h => h.2.1) ((K2.ro 1 rfl).imp fun w h => h.2.2) (by omega) (by omega) (by omega) HXX.out.li HXX.out.ld HXX.out.lu).mono ?_
      rintro e w9 ⟨F1, nf, cf, lf, G1, ng, cg, lg, rfl, ⟨z1, z2⟩, ⟨z3, z4⟩, rf, rg, of_, og_, nf_, ng_, ef, eg, b9⟩
      have hnf : nf ≤ 1000000 := by
        have h1 := rf.now.len
        have h2 := congrArg List.length ef
        rw [sortV_len, List.length_append, List.length_map, List.length_map, List.length_map] at h2
        have h3 : x.ld.length = x.nd := (K2.ro 1 rfl).now.2.1.len
        have h4 : x.lu.length = x.nu := (K2.ro 1 rfl).now.2.2.len
        omega
      have hng : ng ≤ 1000000 := by
        have h1 := rg.now.len
        have h2 := congrArg List.length eg
        rw [sortV_len, List.length_append, List.length_map, List.length_map, List.length_map] at h2
        have h3 : x.li.length = x.ni := (K2.ro 1 rfl).now.1.len
        have h4 : x.lu.length = x.nu := (K2.ro 1 rfl).now.2.2.len
        omega
      have K3 := ((K2.call b9).add rf).add (rg.less (mut_none rfl))
      have HFG := hid (And.intro nf_ (And.intro ng_ (And.intro ef eg)))
      clear K2 FA rf rg of_ og_ nf_ ng_ ef eg b9 z1 z2 z3 z4
      have FA := K3.facts
      simp only [World.size_alloc, World.size_drew, factsL, cellsF, Nat.reduceAdd, List.toList_toArray, List.set_cons_zero, List.set_cons_succ, List.setIfInBounds_toArray, and_true, true_and] at FA
      go_wp2_with fail
      refine (rbags_any _ _ K3.mutLt x.nm x.I x.ni x.ci x.D x.nd x.cd x.U x.nu x.cu x.li x.ld x.lu ((K3.ro 3 rfl).imp fun w h => h.1) ((K3.ro 3 rfl).imp fun w h => h.2.1) ((K3.ro 3 rfl).imp fun w h => h.2.2) (by omega) (by omega) (by omega) HXX.out.li HXX.out.ld HXX.out.lu).mono ?_
      rintro e w10 ⟨F2, nf2, cf2, lf2, G2, ng2, cg2, lg2, rfl, -, -, rf2, rg2, -, -, -, -, ef2, eg2, b10⟩
      have K4 := ((K3.call b10).add rf2).add (rg2.less (mut_none rfl))
      have HF2 := hid (And.intro ef2 eg2)
      clear K3 FA rf2 rg2 ef2 eg2 b10
      have FA := K4.facts
      simp only [World.size_alloc, World.size_drew, factsL, cellsF, Nat.reduceAdd, List.toList_toArray, List.set_cons_zero, List.set_cons_succ, List.setIfInBounds_toArray, and_true, true_and] at FA
      go_wp2_with fail
      clear FA
      obtain ⟨KX, hKX, KN⟩ := K4.name
      have HFX : Hid (∀ wv, Hold None_ none w wv KX → (wv.cell? ⟨gx, 0, none⟩ = some (.string x.nm) ∧ wv.cell? ⟨gx, 1, none⟩ = some (.slice x.I x.ni x.ci) ∧ wv.cell? ⟨gx, 2, none⟩ = some (.slice x.D x.nd x.cd) ∧ wv.cell? ⟨gx, 3, none⟩ = some (.slice x.U x.nu x.cu) ∧ gx < wv.heap.size) ∧ (wv.cell? ⟨g4, 0, none⟩ = some (.string nm) ∧ wv.cell? ⟨g4, 1, none⟩ = some (.slice A1 n1 c1) ∧ g4 < wv.heap.size) ∧ (wv.cell? ⟨g8, 0, none⟩ = some (.string t.nm) ∧ wv.cell? ⟨g8, 1, none⟩ = some (.slice A3 n3 c3) ∧ g8 < wv.heap.size)) := hid fun wv HC => by
        rw [hKX] at HC
        have y0 := HC.cst_ 4 rfl
        have HD := HC.drop (List.sublist_append_right [_, _, _, _, _, _] KL)
        obtain ⟨a, b, -, -⟩ := HZ.out _ HD
        exact ⟨⟨cell_of_row _ _ 0 _ _ _ y0, cell_of_row _ _ 1 _ _ _ y0, cell_of_row _ _ 2 _ _ _ y0, cell_of_row _ _ 3 _ _ _ y0, Blk.lt y0⟩, a, b⟩
      have HXR : Hid (∀ wv, Hold None_ none w wv KX → Ro wv (Mut None_ KX) (SlsIn F1 nf lf) ∧ Ro wv (Mut None_ KX) (SlsIn G1 ng lg) ∧ Ro wv (Mut None_ KX) (SlsIn F2 nf2 lf2) ∧ Ro wv (Mut None_ KX) (SlsIn G2 ng2 lg2) ∧ Ro wv (Mut None_ KX) (PrsIn x.U x.nu x.lu) ∧ Ro wv (Mut None_ KX) (ColsIn A1 n1 cs1) ∧ Ro wv (Mut None_ KX) (ColsIn A3 n3 t.cs)) := hid fun wv HC => by
        rw [hKX] at HC ⊢
        have HD := HC.drop (List.sublist_append_right [_, _, _, _, _, _] KL)
        obtain ⟨-, -, c, d⟩ := HZ.out _ HD
        have hmm : ∀ b, Mut None_ ([.ro (SlsIn G2 ng2 lg2), .ro (SlsIn F2 nf2 lf2), .ro (SlsIn G1 ng lg), .ro (SlsIn F1 nf lf), .cst gx 25 #[.string x.nm, .slice x.I x.ni x.ci, .slice x.D x.nd x.cd, .slice x.U x.nu x.cu], .ro (ElIn x)] ++ KL) b → Mut None_ KL b := fun b hb => mut_app (fun k hk => by simp only [List.mem_cons, List.not_mem_nil, or_false] at hk; rcases hk with rfl | rfl | rfl | rfl | rfl | rfl <;> rfl) hb
        exact ⟨HC.ro 3 rfl, HC.ro 2 rfl, HC.ro 1 rfl, HC.ro 0 rfl, (HC.ro 5 rfl).imp fun w h => h.2.2, c.less hmm, d.less hmm⟩
      have HKX := hid hKX
      clear hKX K4
      obtain ⟨E, hE⟩ : ∃ E, decide (x.ni = 0 ∧ x.nd = 0 ∧ x.nu = 0) = E := ⟨_, rfl⟩
      have HEE := hid hE
      obtain ⟨R1, hR1⟩ : ∃ R, rowsN x.ni x.nd x.nu ev = R := ⟨_, rfl⟩
      have HR1 := hid hR1
      obtain ⟨m3, hm3⟩ : ∃ m3, ev % 3 = m3 := ⟨_, rfl⟩
      have mb0 : 0 ≤ m3 := by omega
      have mb1 : m3 < 3 := by omega
      have HM3 := hid hm3
      obtain ⟨R2, hR2⟩ : ∃ R, rowsN x.ni x.nd x.nu (1 + m3) = R := ⟨_, rfl⟩
      have HR2 := hid hR2
      clear hE hR1 hm3 hR2
      have hsum : IntKind.i64.wrap (1 + m3) = 1 + m3 := by rw [IntKind.wrap_i64]; omega
      have n1_ : (E != E) = false := by simp
      have n2_ : (R1 != R1) = false := by simp
      have n3_ : (R2 != R2) = false := by simp
      clear mb0 mb1
      refine wp_region_any (by kernel_rfl) ?_
      refine wpAny_hold 39 129 (KX) (spL [(69, IsV (.bool E)), (71, IsV (.bool E)), (76, IsV (.int .i64 R1)), (79, IsV (.int .i64 R1)), (85, IsV (.int .i64 m3)), (87, IsV (.int .i64 R2)), (90, IsV (.int .i64 m3)), (92, IsV (.int .i64 R2)), (98, IsV (.bool true)), (104, IsV (.bool true))]) (by kernel_rfl) (by kernel_rfl) (by kernel_rfl) rfl ?_ (KN.drew) ?_
      · exact stays_cons isV_mono (stays_cons isV_mono (stays_cons isV_mono (stays_cons isV_mono (stays_cons isV_mono (stays_cons isV_mono (stays_cons isV_mono (stays_cons isV_mono (stays_cons isV_mono (stays_cons isV_mono (stays_nil _))))))))))
      simp only [List.take_succ_cons, List.take_zero, List.drop_succ_cons, List.drop_zero, Act.put, List.getElem_toArray, List.getElem_cons_zero, List.getElem_cons_succ, List.setIfInBounds_toArray, List.set_cons_succ, List.set_cons_zero]
      refine dw_val rfl rfl rfl ?_; apply Exists.intro; refine ⟨fun wv HC => ?_, ?_⟩
      · obtain ⟨⟨f0, f1, f2, f3, f4⟩, ⟨f5, f6, f7⟩, ⟨f8, f9, f10⟩⟩ := HFX.out _ HC; go_simp <;> rfl
      simp only [Act.put, List.setIfInBounds_toArray, List.set_cons_succ, List.set_cons_zero]
      refine dw_callR 69 (IsV (.bool E)) (f := 17) (args := #[.agg #[.string x.nm, .slice x.I x.ni x.ci, .slice x.D x.nd x.cd, .slice x.U x.nu x.cu]]) rfl rfl rfl rfl (fun wv => ?_) (fun wv HC hrm hD => ?_) ?_
      · go_simp <;> rfl
      · refine (dempty_any wv x.nm x.I x.ni x.ci x.D x.nd x.cd x.U x.nu x.cu).mono ?_
        rintro e w5 ⟨rfl, b5⟩
        rw [HEE.out]
        exact ⟨_, rfl, rfl, HC.call b5, RM.below b5⟩
      rintro u_ wx HCx rfl
      clear HCx
      simp only [Act.put, List.setIfInBounds_toArray, List.set_cons_succ, List.set_cons_zero]
      refine dw_val rfl rfl rfl ?_; apply Exists.intro; refine ⟨fun wv HC => ?_, ?_⟩
      · obtain ⟨⟨f0, f1, f2, f3, f4⟩, ⟨f5, f6, f7⟩, ⟨f8, f9, f10⟩⟩ := HFX.out _ HC; go_simp <;> rfl
      simp only [Act.put, List.setIfInBounds_toArray, List.set_cons_succ, List.set_cons_zero]
      refine dw_callR 71 (IsV (.bool E)) (f := 18) (args := #[.agg #[.string x.nm, .slice x.I x.ni x.ci, .slice x.D x.nd x.cd, .slice x.U x.nu x.cu]]) rfl rfl rfl rfl (fun wv => ?_) (fun wv HC hrm hD => ?_) ?_
      · go_simp <;> rfl
      · refine (rempty_any wv x.nm x.I x.ni x.ci x.D x.nd x.cd x.U x.nu x.cu b1 b2 b3).mono ?_
        rintro e w5 ⟨rfl, b5⟩
        rw [HEE.out]
        exact ⟨_, rfl, rfl, HC.call b5, RM.below b5⟩
      rintro u_ wx HCx rfl
      clear HCx
      simp only [Act.put, List.setIfInBounds_toArray, List.set_cons_succ, List.set_cons_zero]
      refine dw_val rfl rfl rfl ?_; apply Exists.intro; refine ⟨fun wv HC => ?_, ?_⟩
      ·  go_simp <;> rfl
      simp only [Act.put, List.setIfInBounds_toArray, List.set_cons_succ, List.set_cons_zero]
      refine dw_val rfl rfl rfl ?_; apply Exists.intro; refine ⟨fun wv HC => ?_, ?_⟩
      ·  go_simp <;> rfl
      simp only [Act.put, List.setIfInBounds_toArray, List.set_cons_succ, List.set_cons_zero]
      refine dw_val rfl rfl rfl ?_; apply Exists.intro; refine ⟨fun wv HC => ?_, ?_⟩
      · obtain ⟨⟨f0, f1, f2, f3, f4⟩, ⟨f5, f6, f7⟩, ⟨f8, f9, f10⟩⟩ := HFX.out _ HC; go_simp <;> rfl
      simp only [Act.put, List.setIfInBounds_toArray, List.set_cons_succ, List.set_cons_zero]
      refine dw_val rfl rfl rfl ?_; apply Exists.intro; refine ⟨fun wv HC => ?_, ?_⟩
      ·  go_simp <;> rfl
      simp only [Act.put, List.setIfInBounds_toArray, List.set_cons_succ, List.set_cons_zero]
      refine dw_callR 76 (IsV (.int .i64 R1)) (f := 19) (args := #[.agg #[.string x.nm, .slice x.I x.ni x.ci, .slice x.D x.nd x.cd, .slice x.U x.nu x.cu], .int .i64 ev]) rfl rfl rfl rfl (fun wv => ?_) (fun wv HC hrm hD => ?_) ?_
      · go_simp <;> rfl
      · refine (drows_any wv x.nm x.I x.ni x.ci x.D x.nd x.cd x.U x.nu x.cu ev).mono ?_
        rintro e w5 ⟨rfl, b5⟩
        rw [HR1.out]
        exact ⟨_, rfl, rfl, HC.call b5, RM.below b5⟩
      rintro u_ wx HCx rfl
      clear HCx
      simp only [Act.put, List.setIfInBounds_toArray, List.set_cons_succ, List.set_cons_zero]
      refine dw_val rfl rfl rfl ?_; apply Exists.intro; refine ⟨fun wv HC => ?_, ?_⟩
      · obtain ⟨⟨f0, f1, f2, f3, f4⟩, ⟨f5, f6, f7⟩, ⟨f8, f9, f10⟩⟩ := HFX.out _ HC; go_simp <;> rfl
      simp only [Act.put, List.setIfInBounds_toArray, List.set_cons_succ, List.set_cons_zero]
      refine dw_val rfl rfl rfl ?_; apply Exists.intro; refine ⟨fun wv HC => ?_, ?_⟩
      ·  go_simp <;> rfl
      simp only [Act.put, List.setIfInBounds_toArray, List.set_cons_succ, List.set_cons_zero]
      refine dw_callR 79 (IsV (.int .i64 R1)) (f := 20) (args := #[.agg #[.string x.nm, .slice x.I x.ni x.ci, .slice x.D x.nd x.cd, .slice x.U x.nu x.cu], .int .i64 ev]) rfl rfl rfl rfl (fun wv => ?_) (fun wv HC hrm hD => ?_) ?_
      · go_simp <;> rfl
      · refine (rrows_any wv x.nm x.I x.ni x.ci x.D x.nd x.cd x.U x.nu x.cu ev).mono ?_
        rintro e w5 ⟨rfl, b5⟩
        rw [HR1.out]
        exact ⟨_, rfl, rfl, HC.call b5, RM.below b5⟩
      rintro u_ wx HCx rfl
      clear HCx
      simp only [Act.put, List.setIfInBounds_toArray, List.set_cons_succ, List.set_cons_zero]
      refine dw_val rfl rfl rfl ?_; apply Exists.intro; refine ⟨fun wv HC => ?_, ?_⟩
      ·  go_simp <;> rfl
      simp only [Act.put, List.setIfInBounds_toArray, List.set_cons_succ, List.set_cons_zero]
      refine dw_val rfl rfl rfl ?_; apply Exists.intro; refine ⟨fun wv HC => ?_, ?_⟩
      ·  go_simp <;> rfl
      simp only [Act.put, List.setIfInBounds_toArray, List.set_cons_succ, List.set_cons_zero]
      refine dw_val rfl rfl rfl ?_; apply Exists.intro; refine ⟨fun wv HC => ?_, ?_⟩
      ·  go_simp <;> rfl
      simp only [Act.put, List.setIfInBounds_toArray, List.set_cons_succ, List.set_cons_zero]
      refine dw_val rfl rfl rfl ?_; apply Exists.intro; refine ⟨fun wv HC => ?_, ?_⟩
      · obtain ⟨⟨f0, f1, f2, f3, f4⟩, ⟨f5, f6, f7⟩, ⟨f8, f9, f10⟩⟩ := HFX.out _ HC; go_simp <;> rfl
      simp only [Act.put, List.setIfInBounds_toArray, List.set_cons_succ, List.set_cons_zero]
      refine dw_val rfl rfl rfl ?_; apply Exists.intro; refine ⟨fun wv HC => ?_, ?_⟩
      ·  go_simp <;> rfl
      simp only [Act.put, List.setIfInBounds_toArray, List.set_cons_succ, List.set_cons_zero]
      refine dw_callR 85 (IsV (.int .i64 m3)) (f := 21) (args := #[.int .i64 ev, .int .i64 3]) rfl rfl rfl rfl (fun wv => ?_) (fun wv HC hrm hD => ?_) ?_
      · go_simp <;> rfl
      · refine (wmod_any ev 3 wv hev (by omega) (by omega)).mono ?_
        rintro e w5 ⟨rfl, rfl⟩
        rw [HM3.out]
        exact ⟨_, rfl, rfl, HC, RM.refl _ _⟩
      rintro u_ wx HCx rfl
      clear HCx
      simp only [Act.put, List.setIfInBounds_toArray, List.set_cons_succ, List.set_cons_zero]
      refine dw_val rfl rfl rfl ?_; apply Exists.intro; refine ⟨fun wv HC => ?_, ?_⟩
      ·  go_simp <;> rfl
      simp only [Act.put, List.setIfInBounds_toArray, List.set_cons_succ, List.set_cons_zero]
      refine dw_callR 87 (IsV (.int .i64 R2)) (f := 19) (args := #[.agg #[.string x.nm, .slice x.I x.ni x.ci, .slice x.D x.nd x.cd, .slice x.U x.nu x.cu], .int .i64 (1 + m3)]) rfl rfl rfl rfl (fun wv => ?_) (fun wv HC hrm hD => ?_) ?_
      · go_simp <;> rfl
      · refine (drows_any wv x.nm x.I x.ni x.ci x.D x.nd x.cd x.U x.nu x.cu ((1 + m3))).mono ?_
        rintro e w5 ⟨rfl, b5⟩
        rw [HR2.out]
        exact ⟨_, rfl, rfl, HC.call b5, RM.below b5⟩
      rintro u_ wx HCx rfl
      clear HCx
      simp only [Act.put, List.setIfInBounds_toArray, List.set_cons_succ, List.set_cons_zero]
      refine dw_val rfl rfl rfl ?_; apply Exists.intro; refine ⟨fun wv HC => ?_, ?_⟩
      · obtain ⟨⟨f0, f1, f2, f3, f4⟩, ⟨f5, f6, f7⟩, ⟨f8, f9, f10⟩⟩ := HFX.out _ HC; go_simp <;> rfl
      simp only [Act.put, List.setIfInBounds_toArray, List.set_cons_succ, List.set_cons_zero]
      refine dw_val rfl rfl rfl ?_; apply Exists.intro; refine ⟨fun wv HC => ?_, ?_⟩
      ·  go_simp <;> rfl
      simp only [Act.put, List.setIfInBounds_toArray, List.set_cons_succ, List.set_cons_zero]
      refine dw_callR 90 (IsV (.int .i64 m3)) (f := 21) (args := #[.int .i64 ev, .int .i64 3]) rfl rfl rfl rfl (fun wv => ?_) (fun wv HC hrm hD => ?_) ?_
      · go_simp <;> rfl
      · refine (wmod_any ev 3 wv hev (by omega) (by omega)).mono ?_
        rintro e w5 ⟨rfl, rfl⟩
        rw [HM3.out]
        exact ⟨_, rfl, rfl, HC, RM.refl _ _⟩
      rintro u_ wx HCx rfl
      clear HCx
      simp only [Act.put, List.setIfInBounds_toArray, List.set_cons_succ, List.set_cons_zero]
      refine dw_val rfl rfl rfl ?_; apply Exists.intro; refine ⟨fun wv HC => ?_, ?_⟩
      ·  go_simp <;> rfl
      simp only [Act.put, List.setIfInBounds_toArray, List.set_cons_succ, List.set_cons_zero]
      refine dw_callR 92 (IsV (.int .i64 R2)) (f := 20) (args := #[.agg #[.string x.nm, .slice x.I x.ni x.ci, .slice x.D x.nd x.cd, .slice x.U x.nu x.cu], .int .i64 (1 + m3)]) rfl rfl rfl rfl (fun wv => ?_) (fun wv HC hrm hD => ?_) ?_
      · go_simp <;> rfl
      · refine (rrows_any wv x.nm x.I x.ni x.ci x.D x.nd x.cd x.U x.nu x.cu ((1 + m3))).mono ?_
        rintro e w5 ⟨rfl, b5⟩
        rw [HR2.out]
        exact ⟨_, rfl, rfl, HC.call b5, RM.below b5⟩
      rintro u_ wx HCx rfl
      clear HCx
      simp only [Act.put, List.setIfInBounds_toArray, List.set_cons_succ, List.set_cons_zero]
      refine dw_val rfl rfl rfl ?_; apply Exists.intro; refine ⟨fun wv HC => ?_, ?_⟩
      ·  go_simp <;> rfl
      simp only [Act.put, List.setIfInBounds_toArray, List.set_cons_succ, List.set_cons_zero]
      refine dw_val rfl rfl rfl ?_; apply Exists.intro; refine ⟨fun wv HC => ?_, ?_⟩
      ·  go_simp <;> rfl
      simp only [Act.put, List.setIfInBounds_toArray, List.set_cons_succ, List.set_cons_zero]
      refine dw_val rfl rfl rfl ?_; apply Exists.intro; refine ⟨fun wv HC => ?_, ?_⟩
      ·  go_simp <;> rfl
      simp only [Act.put, List.setIfInBounds_toArray, List.set_cons_succ, List.set_cons_zero]
      refine dw_val rfl rfl rfl ?_; apply Exists.intro; refine ⟨fun wv HC => ?_, ?_⟩
      ·  go_simp <;> rfl
      simp only [Act.put, List.setIfInBounds_toArray, List.set_cons_succ, List.set_cons_zero]
      refine dw_val rfl rfl rfl ?_; apply Exists.intro; refine ⟨fun wv HC => ?_, ?_⟩
      ·  go_simp <;> rfl
      simp only [Act.put, List.setIfInBounds_toArray, List.set_cons_succ, List.set_cons_zero]
      refine dw_callR 98 (IsV (.bool true)) (f := 22) (args := #[.slice F1 nf cf, .slice F2 nf2 cf2]) rfl rfl rfl rfl (fun wv => ?_) (fun wv HC hrm hD => ?_) ?_
      · go_simp <;> rfl
      · obtain ⟨Y0, Y1, Y2, Y3, -, -, -⟩ := HXR.out _ HC
        have hq : lf.map Sl.vs = lf2.map Sl.vs := HFG.out.2.2.1.trans HF2.out.1.symm
        have hk := sametuples_any _ wv HC.mutLt F1 nf cf lf F2 nf2 cf2 lf2 Y0 Y2 (by omega) HFG.out.1
        rw [decide_eq_true hq] at hk
        refine hk.mono ?_
        rintro e w5 ⟨rfl, b5⟩
        exact ⟨_, rfl, rfl, HC.call b5, RM.below b5⟩
      rintro u_ wx HCx rfl
      clear HCx
      simp only [Act.put, List.setIfInBounds_toArray, List.set_cons_succ, List.set_cons_zero]
      refine dw_val rfl rfl rfl ?_; apply Exists.intro; refine ⟨fun wv HC => ?_, ?_⟩
      ·  go_simp <;> rfl
      simp only [Act.put, List.setIfInBounds_toArray, List.set_cons_succ, List.set_cons_zero]
      refine dw_val rfl rfl rfl ?_; apply Exists.intro; refine ⟨fun wv HC => ?_, ?_⟩
      ·  go_simp <;> rfl
      simp only [Act.put, List.setIfInBounds_toArray, List.set_cons_succ, List.set_cons_zero]
      refine dw_val rfl rfl rfl ?_; apply Exists.intro; refine ⟨fun wv HC => ?_, ?_⟩
      ·  go_simp <;> rfl
      simp only [Act.put, List.setIfInBounds_toArray, List.set_cons_succ, List.set_cons_zero]
      refine dw_val rfl rfl rfl ?_; apply Exists.intro; refine ⟨fun wv HC => ?_, ?_⟩
      ·  go_simp <;> rfl
      simp only [Act.put, List.setIfInBounds_toArray, List.set_cons_succ, List.set_cons_zero]
      refine dw_val rfl rfl rfl ?_; apply Exists.intro; refine ⟨fun wv HC => ?_, ?_⟩
      ·  go_simp <;> rfl
      simp only [Act.put, List.setIfInBounds_toArray, List.set_cons_succ, List.set_cons_zero]
      refine dw_callR 104 (IsV (.bool true)) (f := 22) (args := #[.slice G1 ng cg, .slice G2 ng2 cg2]) rfl rfl rfl rfl (fun wv => ?_) (fun wv HC hrm hD => ?_) ?_
      · go_simp <;> rfl
      · obtain ⟨Y0, Y1, Y2, Y3, -, -, -⟩ := HXR.out _ HC
        have hq : lg.map Sl.vs = lg2.map Sl.vs := HFG.out.2.2.2.trans HF2.out.2.symm
        have hk := sametuples_any _ wv HC.mutLt G1 ng cg lg G2 ng2 cg2 lg2 Y1 Y3 (by omega) HFG.out.2.1
        rw [decide_eq_true hq] at hk
        refine hk.mono ?_
        rintro e w5 ⟨rfl, b5⟩
        exact ⟨_, rfl, rfl, HC.call b5, RM.below b5⟩
      rintro u_ wx HCx rfl
      clear HCx
      simp only [Act.put, List.setIfInBounds_toArray, List.set_cons_succ, List.set_cons_zero]
      refine dw_val rfl rfl rfl ?_; apply Exists.intro; refine ⟨fun wv HC => ?_, ?_⟩
      ·  go_simp <;> rfl
      simp only [Act.put, List.setIfInBounds_toArray, List.set_cons_succ, List.set_cons_zero]
      refine dw_val rfl rfl rfl ?_; apply Exists.intro; refine ⟨fun wv HC => ?_, ?_⟩
      ·  go_simp <;> rfl
      simp only [Act.put, List.setIfInBounds_toArray, List.set_cons_succ, List.set_cons_zero]
      refine rel_nil ?_
      rintro wxc HY
      rintro _hrm _HG
      clear _hrm _HG n1_ n2_ n3_ hsum
      have KM := HY
      go_wp2_with fail
      refine wp_region_any (by kernel_rfl) ?_
      refine wpAny_hold 20 129 (KX) (spL [(109, StrSl (Mut None_ KX) (chgF (x.lu.map Pr.upd) 0 cs1)), (112, StrSl (Mut None_ KX) (chgF (x.lu.map Pr.upd) 0 cs1)), (113, IsV (.bool true)), (119, StrSl (Mut None_ KX) (chgF (x.lu.map Pr.upd) 0 t.cs)), (123, StrSl (Mut None_ KX) (chgF (x.lu.map Pr.upd) 0 t.cs)), (124, IsV (.bool true))]) (by kernel_rfl) (by kernel_rfl) (by kernel_rfl) rfl ?_ (KM.drew) ?_
      · exact stays_cons strSl_mono (stays_cons strSl_mono (stays_cons isV_mono (stays_cons strSl_mono (stays_cons strSl_mono (stays_cons isV_mono (stays_nil _))))))
      simp only [List.take_succ_cons, List.take_zero, List.drop_succ_cons, List.drop_zero, Act.put, List.getElem_toArray, List.getElem_cons_zero, List.getElem_cons_succ, List.setIfInBounds_toArray, List.set_cons_succ, List.set_cons_zero]
      refine dw_val rfl rfl rfl ?_; apply Exists.intro; refine ⟨fun wv HC => ?_, ?_⟩
      · obtain ⟨⟨f0, f1, f2, f3, f4⟩, ⟨f5, f6, f7⟩, ⟨f8, f9, f10⟩⟩ := HFX.out _ HC; go_simp <;> rfl
      simp only [Act.put, List.setIfInBounds_toArray, List.set_cons_succ, List.set_cons_zero]
      refine dw_val rfl rfl rfl ?_; apply Exists.intro; refine ⟨fun wv HC => ?_, ?_⟩
      · obtain ⟨⟨f0, f1, f2, f3, f4⟩, ⟨f5, f6, f7⟩, ⟨f8, f9, f10⟩⟩ := HFX.out _ HC; go_simp <;> rfl
      simp only [Act.put, List.setIfInBounds_toArray, List.set_cons_succ, List.set_cons_zero]
      refine dw_callR 109 (StrSl (Mut None_ KX) (chgF (x.lu.map Pr.upd) 0 cs1)) (f := 24) (args := #[.agg #[.string x.nm, .slice x.I x.ni x.ci, .slice x.D x.nd x.cd, .slice x.U x.nu x.cu], .agg #[.string nm, .slice A1 n1 c1]]) rfl rfl rfl rfl (fun wv => ?_) (fun wv HC hrm hD => ?_) ?_
      · go_simp <;> rfl
      · obtain ⟨-, -, -, -, Y4, Y5, Y6⟩ := HXR.out _ HC
        refine (dchanged_any _ wv HC.mutLt x.nm x.I x.ni x.ci x.D x.nd x.cd x.U x.nu x.cu x.lu nm A1 n1 c1 cs1 Y4 Y5 (by omega) hn1).mono ?_
        rintro e w5 ⟨A5, n5, c5, rfl, h1, h2, h3, h4, b5⟩
        exact ⟨_, rfl, ⟨A5, n5, c5, rfl, h1, h4⟩, HC.call b5, RM.below b5⟩
      rintro u_ wx HCx ⟨A109, m109, d109, rfl, hl109, -⟩
      clear HCx
      simp only [Act.put, List.setIfInBounds_toArray, List.set_cons_succ, List.set_cons_zero]
      refine dw_val rfl rfl rfl ?_; apply Exists.intro; refine ⟨fun wv HC => ?_, ?_⟩
      · obtain ⟨⟨f0, f1, f2, f3, f4⟩, ⟨f5, f6, f7⟩, ⟨f8, f9, f10⟩⟩ := HFX.out _ HC; go_simp <;> rfl
      simp only [Act.put, List.setIfInBounds_toArray, List.set_cons_succ, List.set_cons_zero]
      refine dw_val rfl rfl rfl ?_; apply Exists.intro; refine ⟨fun wv HC => ?_, ?_⟩
      · obtain ⟨⟨f0, f1, f2, f3, f4⟩, ⟨f5, f6, f7⟩, ⟨f8, f9, f10⟩⟩ := HFX.out _ HC; go_simp <;> rfl
      simp only [Act.put, List.setIfInBounds_toArray, List.set_cons_succ, List.set_cons_zero]
      refine dw_callR 112 (StrSl (Mut None_ KX) (chgF (x.lu.map Pr.upd) 0 cs1)) (f := 25) (args := #[.agg #[.string x.nm, .slice x.I x.ni x.ci, .slice x.D x.nd x.cd, .slice x.U x.nu x.cu], .agg #[.string nm, .slice A1 n1 c1]]) rfl rfl rfl rfl (fun wv => ?_) (fun wv HC hrm hD => ?_) ?_
      · go_simp <;> rfl
      · obtain ⟨-, -, -, -, Y4, Y5, Y6⟩ := HXR.out _ HC
        refine (rchanged_any _ wv HC.mutLt x.nm x.I x.ni x.ci x.D x.nd x.cd x.U x.nu x.cu x.lu nm A1 n1 c1 cs1 Y4 Y5 (by omega) hn1).mono ?_
        rintro e w5 ⟨A5, n5, c5, rfl, h1, h2, h3, h4, b5⟩
        exact ⟨_, rfl, ⟨A5, n5, c5, rfl, h1, h4⟩, HC.call b5, RM.below b5⟩
      rintro u_ wx HCx ⟨A112, m112, d112, rfl, hl112, -⟩
      clear HCx
      simp only [Act.put, List.setIfInBounds_toArray, List.set_cons_succ, List.set_cons_zero]
      refine dw_callR 113 (IsV (.bool true)) (f := 23) (args := #[.slice A109 m109 d109, .slice A112 m112 d112]) rfl rfl rfl rfl (fun wv => ?_) (fun wv HC hrm hD => ?_) ?_
      · go_simp <;> rfl
      · have q1 : StrSl (Mut None_ KX) (chgF (x.lu.map Pr.upd) 0 cs1) (.slice A109 m109 d109) wv := deps_at hD 2 rfl (by kernel_rfl) rfl rfl
        have q2 : StrSl (Mut None_ KX) (chgF (x.lu.map Pr.upd) 0 cs1) (.slice A112 m112 d112) wv := deps_at hD 5 rfl (by kernel_rfl) rfl rfl
        obtain ⟨_, _, _, e1, -, r1⟩ := q1
        obtain ⟨_, _, _, e2, -, r2⟩ := q2
        injection e1 with a1 a2 a3
        injection e2 with a4 a5 a6
        subst a1 a2 a3 a4 a5 a6
        have hcl := chgF_len (x.lu.map Pr.upd) cs1 0
        have hcn : (cs1).length = n1 := cols_n ((HXR.out _ HC).2.2.2.2.2.1).now
        have hk := eqStrs_any wv _ m109 d109 _ _ m112 d112 _ r1.now r2.now (by omega)
        simp only [decide_true] at hk
        refine hk.mono ?_
        rintro e w5 ⟨rfl, q, rfl⟩
        exact ⟨_, rfl, rfl, HC.drewN q, Nat.le_refl _, fun _ _ _ => rfl⟩
      rintro u_ wx HCx rfl
      clear HCx
      simp only [Act.put, List.setIfInBounds_toArray, List.set_cons_succ, List.set_cons_zero]
      refine dw_val rfl rfl rfl ?_; apply Exists.intro; refine ⟨fun wv HC => ?_, ?_⟩
      ·  go_simp <;> rfl
      simp only [Act.put, List.setIfInBounds_toArray, List.set_cons_succ, List.set_cons_zero]
      refine dw_val rfl rfl rfl ?_; apply Exists.intro; refine ⟨fun wv HC => ?_, ?_⟩
      ·  go_simp <;> rfl
      simp only [Act.put, List.setIfInBounds_toArray, List.set_cons_succ, List.set_cons_zero]
      refine dw_val rfl rfl rfl ?_; apply Exists.intro; refine ⟨fun wv HC => ?_, ?_⟩
      · obtain ⟨⟨f0, f1, f2, f3, f4⟩, ⟨f5, f6, f7⟩, ⟨f8, f9, f10⟩⟩ := HFX.out _ HC; go_simp <;> rfl
      simp only [Act.put, List.setIfInBounds_toArray, List.set_cons_succ, List.set_cons_zero]
      refine dw_val rfl rfl rfl ?_; apply Exists.intro; refine ⟨fun wv HC => ?_, ?_⟩
      · obtain ⟨⟨f0, f1, f2, f3, f4⟩, ⟨f5, f6, f7⟩, ⟨f8, f9, f10⟩⟩ := HFX.out _ HC; go_simp <;> rfl
      simp only [Act.put, List.setIfInBounds_toArray, List.set_cons_succ, List.set_cons_zero]
      refine dw_val rfl rfl rfl ?_; apply Exists.intro; refine ⟨fun wv HC => ?_, ?_⟩
      · obtain ⟨⟨f0, f1, f2, f3, f4⟩, ⟨f5, f6, f7⟩, ⟨f8, f9, f10⟩⟩ := HFX.out _ HC; go_simp <;> rfl
      simp only [Act.put, List.setIfInBounds_toArray, List.set_cons_succ, List.set_cons_zero]
      refine dw_callR 119 (StrSl (Mut None_ KX) (chgF (x.lu.map Pr.upd) 0 t.cs)) (f := 24) (args := #[.agg #[.string x.nm, .slice x.I x.ni x.ci, .slice x.D x.nd x.cd, .slice x.U x.nu x.cu], .agg #[.string t.nm, .slice A3 n3 c3]]) rfl rfl rfl rfl (fun wv => ?_) (fun wv HC hrm hD => ?_) ?_
      · go_simp <;> rfl
      · obtain ⟨-, -, -, -, Y4, Y5, Y6⟩ := HXR.out _ HC
        refine (dchanged_any _ wv HC.mutLt x.nm x.I x.ni x.ci x.D x.nd x.cd x.U x.nu x.cu x.lu t.nm A3 n3 c3 t.cs Y4 Y6 (by omega) hn3).mono ?_
        rintro e w5 ⟨A5, n5, c5, rfl, h1, h2, h3, h4, b5⟩
        exact ⟨_, rfl, ⟨A5, n5, c5, rfl, h1, h4⟩, HC.call b5, RM.below b5⟩
      rintro u_ wx HCx ⟨A119, m119, d119, rfl, hl119, -⟩
      clear HCx
      simp only [Act.put, List.setIfInBounds_toArray, List.set_cons_succ, List.set_cons_zero]
      refine dw_val rfl rfl rfl ?_; apply Exists.intro; refine ⟨fun wv HC => ?_, ?_⟩
      · obtain ⟨⟨f0, f1, f2, f3, f4⟩, ⟨f5, f6, f7⟩, ⟨f8, f9, f10⟩⟩ := HFX.out _ HC; go_simp <;> rfl
      simp only [Act.put, List.setIfInBounds_toArray, List.set_cons_succ, List.set_cons_zero]
      refine dw_val rfl rfl rfl ?_; apply Exists.intro; refine ⟨fun wv HC => ?_, ?_⟩
      · obtain ⟨⟨f0, f1, f2, f3, f4⟩, ⟨f5, f6, f7⟩, ⟨f8, f9, f10⟩⟩ := HFX.out _ HC; go_simp <;> rfl
      simp only [Act.put, List.setIfInBounds_toArray, List.set_cons_succ, List.set_cons_zero]
      refine dw_val rfl rfl rfl ?_; apply Exists.intro; refine ⟨fun wv HC => ?_, ?_⟩
      · obtain ⟨⟨f0, f1, f2, f3, f4⟩, ⟨f5, f6, f7⟩, ⟨f8, f9, f10⟩⟩ := HFX.out _ HC; go_simp <;> rfl
      simp only [Act.put, List.setIfInBounds_toArray, List.set_cons_succ, List.set_cons_zero]
      refine dw_callR 123 (StrSl (Mut None_ KX) (chgF (x.lu.map Pr.upd) 0 t.cs)) (f := 25) (args := #[.agg #[.string x.nm, .slice x.I x.ni x.ci, .slice x.D x.nd x.cd, .slice x.U x.nu x.cu], .agg #[.string t.nm, .slice A3 n3 c3]]) rfl rfl rfl rfl (fun wv => ?_) (fun wv HC hrm hD => ?_) ?_
      · go_simp <;> rfl
      · obtain ⟨-, -, -, -, Y4, Y5, Y6⟩ := HXR.out _ HC
        refine (rchanged_any _ wv HC.mutLt x.nm x.I x.ni x.ci x.D x.nd x.cd x.U x.nu x.cu x.lu t.nm A3 n3 c3 t.cs Y4 Y6 (by omega) hn3).mono ?_
        rintro e w5 ⟨A5, n5, c5, rfl, h1, h2, h3, h4, b5⟩
        exact ⟨_, rfl, ⟨A5, n5, c5, rfl, h1, h4⟩, HC.call b5, RM.below b5⟩
      rintro u_ wx HCx ⟨A123, m123, d123, rfl, hl123, -⟩
      clear HCx
      simp only [Act.put, List.setIfInBounds_toArray, List.set_cons_succ, List.set_cons_zero]
      refine dw_callR 124 (IsV (.bool true)) (f := 23) (args := #[.slice A119 m119 d119, .slice A123 m123 d123]) rfl rfl rfl rfl (fun wv => ?_) (fun wv HC hrm hD => ?_) ?_
      · go_simp <;> rfl
      · have q1 : StrSl (Mut None_ KX) (chgF (x.lu.map Pr.upd) 0 t.cs) (.slice A119 m119 d119) wv := deps_at hD 12 rfl (by kernel_rfl) rfl rfl
        have q2 : StrSl (Mut None_ KX) (chgF (x.lu.map Pr.upd) 0 t.cs) (.slice A123 m123 d123) wv := deps_at hD 16 rfl (by kernel_rfl) rfl rfl
        obtain ⟨_, _, _, e1, -, r1⟩ := q1
        obtain ⟨_, _, _, e2, -, r2⟩ := q2
        injection e1 with a1 a2 a3
        injection e2 with a4 a5 a6
        subst a1 a2 a3 a4 a5 a6
        have hcl := chgF_len (x.lu.map Pr.upd) t.cs 0
        have hcn : (t.cs).length = n3 := cols_n ((HXR.out _ HC).2.2.2.2.2.2).now
        have hk := eqStrs_any wv _ m119 d119 _ _ m123 d123 _ r1.now r2.now (by omega)
        simp only [decide_true] at hk
        refine hk.mono ?_
        rintro e w5 ⟨rfl, q, rfl⟩
        exact ⟨_, rfl, rfl, HC.drewN q, Nat.le_refl _, fun _ _ _ => rfl⟩
      rintro u_ wx HCx rfl
      clear HCx
      simp only [Act.put, List.setIfInBounds_toArray, List.set_cons_succ, List.set_cons_zero]
      refine dw_val rfl rfl rfl ?_; apply Exists.intro; refine ⟨fun wv HC => ?_, ?_⟩
      ·  go_simp <;> rfl
      simp only [Act.put, List.setIfInBounds_toArray, List.set_cons_succ, List.set_cons_zero]
      refine dw_val rfl rfl rfl ?_; apply Exists.intro; refine ⟨fun wv HC => ?_, ?_⟩
      ·  go_simp <;> rfl
      simp only [Act.put, List.setIfInBounds_toArray, List.set_cons_succ, List.set_cons_zero]
      refine rel_nil ?_
      rintro wxd HZ9
      rintro _hrm _HG
      clear _hrm _HG KM HY KN
      rw [HKX.out] at HZ9
      have KE := HZ9.drop (List.sublist_append_right [_, _, _, _, _, _] KL)
      clear HZ9
      go_wp2_with fail
      go_roundw
      case rel => exact ⟨k + 1, by omega, by go_num, KE⟩
      case measure => simp [intOf]; omega
    · obtain rfl : k = 3 := by omega
      have hd3 : decide (((3 : Nat) : Int) < 3) = false := by decide
      go_wp2_with fail
      refine (known8 _).mono ?_
      rintro e w5 ⟨rfl, b5⟩
      have K9 := H.call b5
      go_wp2_with fail
      go_ret
      exact ⟨by first | rfl | simp, K9.below⟩
end Go.Proofs.YtljmclbedpceoaaGreatDoor

namespace Go.Proofs.YtljmclbedpceoaaGreatDoor
open Go.ChangeShapes Go.WideShapes Go.ChangeAt Go.RowKit
set_option linter.unusedVariables false
set_option linter.unusedSimpArgs false

namespace LawDeltaTells
set_option maxRecDepth 100000 in
theorem contract (H : Type) (enc : TypeId × Value → H) (W : World) (base : Nat) (args : Array Value) (ds gs : List (DataW H)) (before : List MemPlace)
    (hval0 : ∀ (j : Nat) t v, Tryz.f3.params[j]? = some t → args[j]? = some v → Value.okWide Tryz.prog W .any base t v)
    (hsz0 : (DataW.weightsEach Tryz.prog (Tryz.f3.params.toList ++ Rows.deltaTellsSpec.plain.varTypes Tryz.prog) (ds ++ gs)).all (· ≤ reachBytes) = true)
    (hW : DataW.Whole enc Tryz.prog Tryz.f3.params.toList Rows.deltaTellsSpec.vars false W args.toList ds gs before) (hL : laidMetH Tryz.prog Rows.deltaTellsRow.laid W) (hsh : W.ShapedOpen Tryz.prog) :
    Calls Tryz.prog 3 args W fun e W' => ∃ v, e = .returned v ∧ Rows.deltaTellsSpec.post enc Tryz.prog Tryz.f3 false true false false W args v W' := by
  have hsz : (DataW.weightsEach Tryz.prog (Tryz.f3.params.toList ++ Rows.deltaTellsSpec.plain.varTypes Tryz.prog) (ds ++ gs)).all (· ≤ reachBytes) = true := hsz0
  have hval : ∀ (j : Nat) t v, Tryz.f3.params[j]? = some t → args[j]? = some v → Value.okWide Tryz.prog W .any base t v := hval0
  have hW' := hW
  obtain ⟨p, q, hA0, hV, rfl, hfz, hnd⟩ := hW
  have hA : DataW.TrodAll enc Tryz.prog W 0 (fun _ => true) true Tryz.f3.params.toList args.toList ds p := hA0
  rw [Tryz.params3] at hA hval hsz
  obtain ⟨v0, vs0, d0, ds0, p0, q0, hargs, rfl, rfl, h0, r0⟩ := trodAll_cons hA
  obtain ⟨v1, vs1, d1, ds1, p1, q1, rfl, rfl, rfl, h1, r1⟩ := trodAll_cons r0
  obtain ⟨v2, vs2, d2, ds2, p2, q2, rfl, rfl, rfl, h2, r2⟩ := trodAll_cons r1
  obtain ⟨v3, vs3, d3, ds3, p3, q3, rfl, rfl, rfl, h3, r3⟩ := trodAll_cons r2
  obtain ⟨rfl, rfl, rfl⟩ := trodAll_nil r3
  obtain rfl : args = #[v0, v1, v2, v3] := by cases args; simp_all
  obtain ⟨rfl, rfl⟩ := trodVars_none hV
  obtain ⟨tb0, ok0, rfl⟩ := opens_dl.agg Tryz.underlying25 (hval 0 25 v0 rfl rfl) h0 (sz_arg hsz (j := 0) rfl rfl)
  obtain ⟨tb1, ok1, rfl⟩ := opens_sch.agg Tryz.underlying28 (hval 1 28 v1 rfl rfl) h1 (sz_arg hsz (j := 1) rfl rfl)
  obtain ⟨A2, n2, c2, zs2, rfl, k2, z2, l2, m2, e2⟩ := open_i64s Tryz.underlying29 Tryz.underlying3 (by kernel_rfl) (hval 2 29 v2 rfl rfl) h2
  obtain ⟨a3, rfl, rfl, rfl, w3⟩ := open_int Tryz.underlying3 (hval 3 3 v3 rfl rfl) h3
  refine (dtells_walk _ _ _ _ _ _ _ A2 n2 c2 zs2 a3 W (dlAt_arg ok0 fun _ _ h => h) (ro_cols ok1.2 fun _ _ h => h) (schArg_n ok1.2) (i64_of_wf w3) (dlArg_ni ok0) (dlArg_nd ok0) (dlArg_nu ok0) (dlArg_ins ok0) (dlArg_del ok0) (dlArg_both ok0) k2 z2 l2 (by unfold maxLen at m2; omega) (wds_of_laid (rest := []) hL)).mono fun e W' ⟨he, hb⟩ => ?_
  exact ⟨_, he, law_post rfl laidOut (by kernel_rfl) (by kernel_rfl) Tryz.underlying4 rfl hW' hb⟩

theorem laid_met (os : Os) : laidMet Tryz.prog Rows.deltaTellsRow.laid ((wordsWorld os).forCall (fun _ _ => 0) ⟨#[], #[.agg #[.string ⟨#[]⟩, .slice none 0 0, .slice none 0 0, .slice none 0 0], .agg #[.string ⟨#[]⟩, .slice none 0 0], .slice none 0 0, .int .i64 0], []⟩).memory :=
  laidMet_of_run' 16 (by kernel_rfl) (by kernel_rfl)
theorem reads (os : Os) {H : Type} (enc : TypeId × Value → H) : ∃ places, DataW.whole enc Tryz.prog ((wordsWorld os).forCall (fun _ _ => 0) ⟨#[], #[.agg #[.string ⟨#[]⟩, .slice none 0 0, .slice none 0 0, .slice none 0 0], .agg #[.string ⟨#[]⟩, .slice none 0 0], .slice none 0 0, .int .i64 0], []⟩).memory Tryz.f3.params.toList Rows.deltaTellsSpec.vars false #[.agg #[.string ⟨#[]⟩, .slice none 0 0, .slice none 0 0, .slice none 0 0], .agg #[.string ⟨#[]⟩, .slice none 0 0], .slice none 0 0, .int .i64 0].toList 8 = some ([.agg [.lit (.string []), .nil, .nil, .nil], .agg [.lit (.string []), .nil], .nil, .lit (.int .i64 0)], [], places) :=
  ⟨[], by kernel_rfl⟩

set_option maxRecDepth 100000 in
theorem lifted (os : Os) (started : os.Started) (H : Type) (enc : TypeId × Value → H) (F : Stop.Interp) :
    ReturnsInHanded {} Tryz.checked os 3 .any ((OpenSpec.ofChange Rows.deltaTellsSpec).preRow enc Tryz.prog Tryz.f3 Rows.deltaTellsRow.domain false Rows.deltaTellsRow.laid) (((OpenSpec.ofChange Rows.deltaTellsSpec).at F).post enc Tryz.prog Tryz.f3 false true false false) := by
  obtain ⟨places, hx⟩ := reads os enc
  refine returnsInHanded_of_row (C := Tryz.checked) (s := OpenSpec.ofChange Rows.deltaTellsSpec) own started (by kernel_rfl) Tryz.func3
    (witness_row_at (enc := enc) (C := Tryz.checked) false (wordsWorld os) #[.agg #[.string ⟨#[]⟩, .slice none 0 0, .slice none 0 0, .slice none 0 0], .agg #[.string ⟨#[]⟩, .slice none 0 0], .slice none 0 0, .int .i64 0] rfl (by kernel_rfl) (by kernel_rfl) (by kernel_rfl)
      (OpenSpec.preRow_of_cond 8 hx (by kernel_rfl) (fun k hk => by cases hk) (by kernel_rfl) (laid_met os))) ?_
  intro W base args ds gs before hval hW _ _ hsz0 hL hsh _
  exact contract H enc W base args ds gs before hval hsz0 hW hL hsh

theorem said : Rows.DeltaTellsSaid :=
  OpenClaim.holds_of_cond 3 Tryz.f3 rfl rfl rfl rfl rfl rfl rfl ⟨rfl, rfl, rfl, rfl, rfl⟩ rfl rfl rfl rfl rfl (by kernel_rfl) Tryz.func3 (by kernel_rfl)
    (of_decide_eq_true (by kernel_rfl)) (by unfold Func.isWrapper; first | (rw [if_pos (by decide +kernel)]; kernel_rfl) | (rw [if_neg (by decide +kernel)]; exact ⟨rfl, rfl⟩))
    (fun os started H enc _ F => by rw [OpenClaim.pre_eq_preRow]; exact lifted os started H enc F)

theorem plain (f : FuncId) (fn : Func) (hf : Tryz.pinned.checked.prog.funcNamed "triggerstore/triggerstorelaw8.DeltaTells" = some f) (hfn : Tryz.pinned.checked.prog.funcs[f]? = some fn) :
    false = Tryz.pinned.checked.prog.looks [] ∧ ∀ (j : Nat) t, fn.params[j]? = some t → Tryz.pinned.checked.prog.wantsStandIn t = false := by
  obtain rfl : f = 3 := Option.some.inj ((show Tryz.prog.funcNamed "triggerstore/triggerstorelaw8.DeltaTells" = some 3 by kernel_rfl).symm.trans hf) |>.symm
  obtain rfl : fn = Tryz.f3 := (Option.some.inj (Tryz.func3.symm.trans hfn)).symm
  refine ⟨by kernel_rfl, fun j t ht => ?_⟩
  rw [Tryz.params3] at ht
  have hm := Array.mem_of_getElem? ht
  simp only [List.mem_toArray, List.mem_cons, List.not_mem_nil, or_false] at hm
  rcases hm with rfl | rfl | rfl | rfl
  · exact (show Tryz.prog.wantsStandIn 25 = false by kernel_rfl)
  · exact (show Tryz.prog.wantsStandIn 28 = false by kernel_rfl)
  · exact (show Tryz.prog.wantsStandIn 29 = false by kernel_rfl)
  · exact (show Tryz.prog.wantsStandIn 3 = false by kernel_rfl)
end LawDeltaTells

theorem deltaTells_holds : Rows.DeltaTellsCardSaid :=
  Claim7.holds_tied_plain_at .later [] _ _ _ _ LawDeltaTells.said (fun _ h => by cases h) (by kernel_rfl) (fun _ h => by cases h) deltaTells_row_tie rfl ⟨rfl, rfl⟩ (by kernel_rfl) rfl LawDeltaTells.plain (by kernel_rfl)
#print axioms deltaTells_holds
end Go.Proofs.YtljmclbedpceoaaGreatDoor

/- CmpExR: the reference's comparisons, to the number. -/
import Derived.Test.YtljmclbedpceoaaDoorTFormsSaidMC
import Derived.Test.YtljmclbedpceoaaDoorTFormsSaidMA
import Derived.Test.YtljmclbedpceoaaDoorTFormsSaidMB
import Derived.StillTailTactics
import Derived.IntWalk
import Derived.Shelf.SlGeneric
import Derived.Shelf.SlSortCmp.NoneTotal
import Derived.Ground.SlsfProg
import Derived.Test.YtljmclbedpceoaaDoorProg
import Derived.Deep.RegionHeld3
import Derived.Shelf.SlSortCmp.QuietGrown
import Derived.WalkSpells
import Derived.Sort.Statements
import Derived.Shelf.SlSortCmp.Insertion
import Derived.Laws.CopyOwn
import Derived.Shelf.Small.Strs
import Derived.Ground.NamesProg
namespace Go.Proofs.YtljmclbedpceoaaDoor
open Go.RowKit
set_option linter.unusedVariables false
set_option linter.unusedSimpArgs false

/-- Some table in memory. -/
def SomeTab (w : World) (T : Nat) (M : Nat → Prop) (e : Ending) (w' : World) : Prop :=
  ∃ (v : Value) (t : Tb), e = .returned v ∧ TbAt w' M v t ∧ (t.nm.size ≤ maxLen ∧ (∀ x ∈ t.cs, x.name.size ≤ maxLen) ∧ t.cs.length ≤ 1001 ∧ t.rs.length ≤ 1000 ∧ ∀ r ∈ t.rs, r.2.length ≤ 1000) ∧ Tp w' T ∧ w.grownBy w' (some T)
theorem someTab_of {M : Nat → Prop} {T : Nat} {w w' : World} {nm : ByteArray} {A : Option Addr} {n c : Nat} {cs : List Col} {nx : Int} {O : Option Addr} {j cap : Nat} {outs : List Rw} (h1 : nm.size ≤ maxLen) (h2 : ∀ x ∈ cs, x.name.size ≤ maxLen) (h3 : cs.length ≤ 1001) (h4 : n ≤ c) (h5 : c ≤ 9223372036854775807) (h6 : j ≤ cap) (h7 : cap ≤ 9223372036854775807) (h8 : outs.length ≤ 1000)
    (h9 : ∀ r ∈ outs, r.ok ∧ r.vs.length ≤ 1000) (r1 : Ro w' M (ColsIn A n cs)) (r2 : Ro w' M (RwsIn O j outs)) (ht : Tp w' T) (hg : w.grownBy w' (some T)) : SomeTab w T M (.returned (.agg #[.string nm, .slice A n c, .int .i64 nx, .slice O j cap])) w' := by
  refine ⟨_, ⟨nm, cs, nx, outs.map Rw.row⟩, rfl, ⟨A, n, c, O, j, cap, outs, rfl, h4, h5, h6, h7, r1, r2, fun r hr => (h9 r hr).1, rfl⟩, ⟨h1, h2, h3, by rw [List.length_map]; exact h8, fun r hr => ?_⟩, ht, hg⟩
  obtain ⟨x, hx, rfl⟩ := List.mem_map.1 hr
  exact (h9 x hx).2
/-- what is known of a row that came from the copies -/
def ROk (n : Nat) (r : Rw) : Prop := r.ok ∧ r.vs.length = n ∧ r.n = n
theorem rOk_snoc {n : Nat} {l : List Rw} {x : Rw} (h : ∀ r ∈ l, ROk n r) (k : ROk n x) : ∀ r ∈ l ++ [x], ROk n r := fun r hr => by
  rcases List.mem_append.1 hr with hr | hr
  · exact h r hr
  · simp at hr; subst hr; exact k
theorem rOk_set {P : Rw → Prop} {l : List Rw} {k : Nat} {x : Rw} (h : ∀ r ∈ l, P r) (hx : P x) : ∀ r ∈ l.set k x, P r := fun r hr => (List.mem_or_eq_of_mem_set hr).elim (h r) (fun e => e ▸ hx)
theorem rOut {n : Nat} {r : Rw} (h : ROk n r) (hn : n ≤ 1000) : r.ok ∧ r.vs.length ≤ 1000 := ⟨h.1, by rw [h.2.1]; exact hn⟩
theorem Ro.colsAt {w : World} {M : Nat → Prop} {A : Option Addr} {n : Nat} {l : List Col} (h : Ro w M (ColsIn A n l)) {k : Nat} {x : Col} (hx : l[k]? = some x) :
    ∃ b o, A = some ⟨b, o, none⟩ ∧ Ro w M (fun w => b < w.heap.size ∧ w.cell? ⟨b, o + k * 4, none⟩ = some (.string x.name) ∧ w.cell? ⟨b, o + k * 4 + 1, none⟩ = some (.int .i64 x.ty) ∧ w.cell? ⟨b, o + k * 4 + 2, none⟩ = some (.bool x.nn) ∧ w.cell? ⟨b, o + k * 4 + 3, none⟩ = some (.bool x.key)) := by
  obtain ⟨b, o, e, _⟩ := (RdC.of_sl h.now).at_ hx
  refine ⟨b, o, e, fun w2 h1 h2 => ?_⟩
  obtain ⟨b', o', e', h3, h4⟩ := (RdC.of_sl (h w2 h1 h2)).at_ hx
  rw [e] at e'
  injection e' with e'
  injection e' with e1 e2
  subst e1; subst e2
  exact ⟨h3, h4⟩
theorem colCells_one (l : List Col) : ∀ u ∈ colCells l, u.oneCell' = true := by
  intro u hu
  simp only [colCells, List.mem_flatMap, Col.cells, List.mem_cons, List.not_mem_nil, or_false] at hu
  obtain ⟨c, _, rfl | rfl | rfl | rfl⟩ := hu <;> rfl
theorem Tryd.elCl : ElemT Tryd.prog 35 70 4 32 (.agg #[.string ⟨#[]⟩, .int .i64 0, .bool false, .bool false]) := ⟨Tryd.underlying35, by kernel_rfl, rfl, by omega⟩
theorem tail_vls0 {A : Option Addr} {n : Nat} {vs : List Vl} {w : World} (hn : n = 1) (hl : vs.length = n) : VlsIn A (n - 1) vs.tail w := by
  subst hn
  obtain ⟨v, rfl⟩ := List.length_eq_one_iff.1 hl
  exact ⟨rfl, fun h => absurd h (by omega)⟩
def OddSlot (u : Value) (_ : World) : Prop := ∃ v : Vl, u = .agg #[.int .i64 v.k, .int .i64 v.i, .string v.s] ∧ v.ok
theorem oddSlot_mono {M : Nat → Prop} (u : Value) (w w' : World) (_ : RM M w w') (h : OddSlot u w) : OddSlot u w' := h
theorem ownVals_set {VT : TypeId} {b0 : Nat} {w : World} {l : List Rw} {k : Nat} {x : Rw} (h : OwnVals VT b0 l w) (hx : w.ownsRow b0 VT 3 (.slice x.A x.n x.c) x.n (vlCells x.vs)) : OwnVals VT b0 (l.set k x) w := fun r hr => (List.mem_or_eq_of_mem_set hr).elim (h r) (fun e => e ▸ hx)
theorem tail_vls {g n : Nat} {vs : List Vl} {w : World} (h : VlsIn (some ⟨g, 0, none⟩) n vs w) (hn : 0 < n) : VlsIn (some ⟨g, 3, none⟩) (n - 1) vs.tail w := by
  have hl := VlsIn.len h
  obtain ⟨b, o, e, hb, hc⟩ := (show Rd w w.heap.size 3 (some ⟨g, 0, none⟩) n (vlCells vs) from h).2 hn
  injection e with e
  injection e with e1 e2
  subst e1; subst e2
  refine ⟨by rw [vlCells_len, List.length_tail]; omega, fun _ => ⟨g, 3, rfl, hb, fun j u hu => ?_⟩⟩
  cases vs with
  | nil => simp at hl; omega
  | cons v vs =>
    have h2 := hc (j + 3) u (by
      have e0 : vlCells (v :: vs) = v.cells ++ vlCells vs := by simp [vlCells]
      rw [e0, List.getElem?_append_right (by simp [Vl.cells])]
      simpa [Vl.cells] using hu)
    rw [← h2]
    congr 2
    omega
set_option maxHeartbeats 8000000 in
set_option maxRecDepth 100000 in
theorem tspoil_any (M : Nat → Prop) (T : Nat) (w : World) (hM : ∀ b, M b → b < w.heap.size) (ht : Tp w T) (hMT : ∀ b, M b → T ≤ b) (nm : ByteArray) (A : Option Addr) (n c : Nat) (cs : List Col) (nx : Int) (B : Option Addr) (m d : Nat) (l : List Rw) (hD : Ro w (Mut M [.tp T]) (ColsIn A n cs)) (hE : Ro w (Mut M [.tp T]) (RwsIn B m l)) (hW : Ro w (Mut M [.tp T]) Wds) (hT : 1 < T)
    (hn1 : 1 ≤ n) (hn : n ≤ 1000) (hnc : n ≤ c) (hc : c ≤ 9223372036854775807) (hm : m ≤ 1000) (hfit : ∀ r ∈ l, r.vs.length = n) (hrok : ∀ r ∈ l, r.ok) (hnm : nm.size ≤ maxLen) (hcs : ∀ x ∈ cs, x.name.size ≤ maxLen) : Calls Tryd.prog 31 #[.pointer (some ⟨T, 0, none⟩), .agg #[.string nm, .slice A n c, .int .i64 nx, .slice B m d]] w fun e w' => SomeTab w T M e w' := by
  have HL := hid (cols_n hD.now)
  have HLM := hid hE.now.len
  have HFIT := hid hfit
  have HROK := hid hrok
  have HNM := hid hnm
  have HCS := hid hcs
  have HTL := hid ht.lt
  have HMM := hid hM
  have HD := hid hD
  clear hfit hrok hnm hcs
  have K0 := (((((((Hold.startT M w T hM ht hMT).add hE).add (hD.less (mut_none rfl))).add ((hW.less (mut_none rfl)).less (mut_none rfl))).alloc_cst #[.string nm, .slice A n c, .int .i64 nx, .slice B m d] 40).alloc #[.string ⟨#[]⟩, .slice none 0 0, .int .i64 0, .slice none 0 0] 40).alloc #[.string nm, .slice A n c, .int .i64 nx, .slice none 0 0] 40)
  simp only [World.size_alloc] at K0
  have F0 := K0.facts
  simp only [World.size_alloc, World.size_drew, factsL, cellsF, Nat.reduceAdd, List.toList_toArray, List.set_cons_zero, List.set_cons_succ, List.setIfInBounds_toArray, and_true, true_and] at F0
  clear hD hE hW
  go_enter Tryd.func31, Tryd.ntmps31
  go_wp2_with fail
  clear F0
  obtain ⟨g3, hg3⟩ : ∃ g3, g3 = w.heap.size := ⟨_, rfl⟩
  obtain ⟨g4, hg4⟩ : ∃ g4, g4 = g3 + 1 := ⟨_, rfl⟩
  obtain ⟨g5, hg5⟩ : ∃ g5, g5 = g4 + 1 := ⟨_, rfl⟩
  rw [← hg3, ← hg4, ← hg5] at K0 ⊢
  generalize ((w.alloc _).alloc _).alloc _ = w1 at K0 ⊢
  have HGX := hid hg3
  clear hg3 hg4 hg5
  have K1 := (K0.add (show Ro _ _ (OwnVals 66 w.heap.size []) from ownVals_nil)).nil 61 2
  clear K0
  go_loopw [18] (fun iv wr => ∃ (j cap : Nat) (O : Option Addr) (outs : List Rw), j ≤ m ∧ iv = .int .i64 j ∧ Hid (∀ r ∈ outs, ROk n r) ∧ Hold M (some T) w wr [.own 61 2 (.slice O j cap) j (rwCells outs), .ro (OwnVals 66 w.heap.size outs), .blk g5 40 #[.string nm, .slice A n c, .int .i64 nx, .slice O j cap], .blk g4 40 #[.string ⟨#[]⟩, .slice none 0 0, .int .i64 0, .slice none 0 0], .cst g3 40 #[.string nm, .slice A n c, .int .i64 nx, .slice B m d], .ro Wds, .ro (ColsIn A n cs), .ro (RwsIn B m l), .tp T]) (fun iv _ => m - (intOf iv).toNat)
  case atStart => exact ⟨0, 0, none, [], by omega, rfl, hid (fun r hr => nomatch hr), K1⟩
  case round =>
    clear K1
    obtain ⟨j, cap, O, outs, hj, rfl, HRK, H⟩ := hrel
    by_cases hlt : j < m
    · have hd : decide ((j : Int) < (m : Int)) = true := by simp; omega
      have j0 : (0 : Int) ≤ (j : Int) := by omega
      have j1 : (j : Int) < (m : Int) := by omega
      obtain ⟨x, hx⟩ := get_of HLM.out hlt
      obtain ⟨b, o, rfl, hb, c0, c1, hxv⟩ := (H.ro 7 rfl).now.at_ hx
      have HXO := hid (HROK.out x (List.mem_of_getElem? hx))
      have HXL := hid (HFIT.out x (List.mem_of_getElem? hx))
      have hxr : Ro wr _ (VlsIn x.A x.n x.vs) := (H.ro 7 rfl).imp fun w2 h2 => h2.2 x (List.mem_of_getElem? hx)
      obtain ⟨xid, xA, xn, xc, xvs⟩ := x
      dsimp only at *
      obtain rfl : n = xn := by have h1 := hxv.len; have h2 := HXL.out; omega
      clear hx hxv
      have K1 := (H.add hxr).alloc_cst #[.int .i64 xid, .slice xA n xc] 61
      clear H hxr
      obtain ⟨gr, hgr⟩ : ∃ gr, gr = wr.heap.size := ⟨_, rfl⟩
      rw [← hgr] at K1
      go_wp2_with fail
      rw [← hgr]
      clear hgr c0 c1
      obtain ⟨KL, hKL, KN⟩ := K1.name
      have HF : Hid (∀ wv, Hold M (some T) w wv KL → (wv.cell? ⟨g5, 3, none⟩ = some (.slice O j cap) ∧ g5 < wv.heap.size) ∧ wv.cell? ⟨gr, 0, none⟩ = some (.int .i64 xid) ∧ wv.cell? ⟨gr, 1, none⟩ = some (.slice xA n xc) ∧ gr < wv.heap.size) := hid fun wv HC => by
        rw [hKL] at HC
        have y1 := HC.blk_ 4 rfl
        have y2 := HC.cst_ 0 rfl
        exact ⟨⟨cell_of_row _ _ 3 _ _ _ y1, Blk.lt y1⟩, cell_of_row _ _ 0 _ _ _ y2, cell_of_row _ _ 1 _ _ _ y2, Blk.lt y2⟩
      have HRX : Hid (∀ wv, Hold M (some T) w wv KL → VlsIn xA n xvs wv) := hid fun wv HC => by
        rw [hKL] at HC
        exact (HC.ro 1 rfl).now
      have HKL := hid hKL
      clear hKL K1
      refine wp_region_any (by kernel_rfl) ?_
      refine wpAny_hold 9 125 (KL) (spL [(28, OVls 66 (Mut M KL) w.heap.size xvs), (29, ORow 66 (Mut M KL) w.heap.size xid xvs), (30, ORBox 66 (Mut M KL) w.heap.size xid xvs)]) (by kernel_rfl) (by kernel_rfl) (by kernel_rfl) rfl ?_ (KN.drew) ?_
      · exact stays_cons oVls_mono (stays_cons oRow_mono (stays_cons oRBox_mono (stays_nil _)))
      simp only [List.take_succ_cons, List.take_zero, List.drop_succ_cons, List.drop_zero, Act.put, List.getElem_toArray, List.getElem_cons_zero, List.getElem_cons_succ, List.setIfInBounds_toArray, List.set_cons_succ, List.set_cons_zero]
      refine dw_val rfl rfl rfl ?_; apply Exists.intro; refine ⟨fun wv HC => ?_, ?_⟩
      ·  go_simp <;> rfl
      simp only [Act.put, List.setIfInBounds_toArray, List.set_cons_succ, List.set_cons_zero]
      refine dw_val rfl rfl rfl ?_; apply Exists.intro; refine ⟨fun wv HC => ?_, ?_⟩
      · obtain ⟨⟨f0, f1⟩, f2, f3, f4⟩ := HF.out _ HC; go_simp <;> rfl
      simp only [Act.put, List.setIfInBounds_toArray, List.set_cons_succ, List.set_cons_zero]
      refine dw_val rfl rfl rfl ?_; apply Exists.intro; refine ⟨fun wv HC => ?_, ?_⟩
      ·  go_simp <;> rfl
      simp only [Act.put, List.setIfInBounds_toArray, List.set_cons_succ, List.set_cons_zero]
      refine dw_val rfl rfl rfl ?_; apply Exists.intro; refine ⟨fun wv HC => ?_, ?_⟩
      · obtain ⟨⟨f0, f1⟩, f2, f3, f4⟩ := HF.out _ HC; go_simp <;> rfl
      simp only [Act.put, List.setIfInBounds_toArray, List.set_cons_succ, List.set_cons_zero]
      refine dw_val rfl rfl rfl ?_; apply Exists.intro; refine ⟨fun wv HC => ?_, ?_⟩
      ·  go_simp <;> rfl
      simp only [Act.put, List.setIfInBounds_toArray, List.set_cons_succ, List.set_cons_zero]
      refine dw_val rfl rfl rfl ?_; apply Exists.intro; refine ⟨fun wv HC => ?_, ?_⟩
      · obtain ⟨⟨f0, f1⟩, f2, f3, f4⟩ := HF.out _ HC; go_simp <;> rfl
      simp only [Act.put, List.setIfInBounds_toArray, List.set_cons_succ, List.set_cons_zero]
      refine dw_cloneO Tryd.elVl 28 (OVls 66 (Mut M KL) w.heap.size xvs) rfl rfl rfl rfl (.const (.slice none 0 0)) (.tmp 27) rfl rfl (A := xA) (m := n) (c := xc) (ys := vlCells xvs) rfl (one_vls _) (by omega) (by omega) (fun wv HC hD => HRX.out _ HC) (fun C9 c9 wv wv' HC hrm HC' q1 q2 ho => ⟨C9, n, c9, rfl, HXL.out.symm, q1, q2, Ro.own (fun b hb => HC.mutLt b hb) HC.grow.size ho⟩) ?_
      rintro u wx HCx ⟨A28, n28, c28, rfl, hn28, -, -, -⟩
      have HN28 := hid hn28
      clear HCx hn28
      simp only [Act.put, List.setIfInBounds_toArray, List.set_cons_succ, List.set_cons_zero]
      refine dw_valC 29 (ORow 66 (Mut M KL) w.heap.size xid xvs) rfl rfl rfl rfl (.agg #[.int .i64 xid, .slice A28 n28 c28]) (fun wv HC => ?_) (fun wv HC hD => ?_) ?_
      · go_simp <;> rfl
      · have hsl : OVls 66 (Mut M KL) w.heap.size xvs (.slice A28 n28 c28) wv := deps_at hD 6 rfl (by kernel_rfl) rfl rfl
        obtain ⟨A6, n6, c6, e6, h1, h2, h3, h4⟩ := hsl
        exact ⟨A6, n6, c6, by rw [e6], h1, h2, h3, h4⟩
      simp only [Act.put, List.setIfInBounds_toArray, List.set_cons_succ, List.set_cons_zero]
      refine dw_new #[.int .i64 xid, .slice A28 n28 c28] 61 30 (ORBox 66 (Mut M KL) w.heap.size xid xvs) (fun g => .slice (some ⟨g, 0, none⟩) 1 1) rfl rfl rfl rfl (fun wv => ?_) (fun wv HC _hrm hD hro => ?_) ?_
      · go_simp <;> rfl
      · have hsl : ORow 66 (Mut M KL) w.heap.size xid xvs (.agg #[.int .i64 xid, .slice A28 n28 c28]) wv := deps_at hD 7 rfl (by kernel_rfl) rfl rfl
        obtain ⟨A6, n6, c6, e6, h1, h2, h3, h4⟩ := hsl
        obtain ⟨rfl, rfl, rfl⟩ : A28 = A6 ∧ n28 = n6 ∧ c28 = c6 := by
          injection e6 with e6
          simp at e6
          exact e6
        exact ⟨_, A28, n28, c28, rfl, h1, h2, h3, h4.step (by simp) (fun b hb _ => Below.heap_alloc wv _ b hb) (fun _ _ h => h), ro_block (hro _ HC.mutLt) rfl⟩
      rintro g2 wg HCg hsl
      simp only [Act.put, List.setIfInBounds_toArray, List.set_cons_succ, List.set_cons_zero]
      clear hsl HCg
      refine rel_nil ?_
      rintro wx2 HX
      rintro _hrm HGW
      have hb2 : ORBox 66 (Mut M KL) w.heap.size xid xvs (.slice (some ⟨g2, 0, none⟩) 1 1) wx2 := (GW_on (d := 30) rfl).1 (HGW 8 _ rfl (by omega))
      clear HGW _hrm
      obtain ⟨gq, A6, n6, c6, e6, k0_, k1_, k2_, k3_, k4_⟩ := hb2
      obtain rfl : g2 = gq := by injection e6 with e6; injection e6 with e6; injection e6
      clear e6
      rw [HKL.out] at HX k3_
      have k5 := hid k4_.now
      have HRN := hid (show ROk n ⟨xid, A6, n6, c6, xvs⟩ from ⟨⟨HXO.out.id, k1_, k2_, HXO.out.vs⟩, HXL.out, by show n6 = n; rw [k0_]; exact HXL.out⟩)
      clear k4_ k0_ k1_ k2_ HF HRX KN
      have HRS := hid (show rwCells outs ++ [.int .i64 xid, .slice A6 n6 c6] = rwCells (outs ++ [⟨xid, A6, n6, c6, xvs⟩]) from rwCells_snoc1 _ _ _ _ _ _)
      have KA := HX.add k3_
      clear HX k3_
      have FKA := KA.facts
      simp only [World.size_alloc, World.size_drew, factsL, cellsF, Nat.reduceAdd, List.toList_toArray, List.set_cons_zero, List.set_cons_succ, List.setIfInBounds_toArray, and_true, true_and] at FKA
      go_wp2_with (at_builtin; go_must (refine wpList_appAllH KA 3 rfl Tryd.elRw k5.out rfl (.tmp 23) (.tmp 30) rfl rfl rfl (by intro z hz; simp at hz; rcases hz with rfl | rfl <;> rfl) (by omega) (by omega) ?_); intro C' cap' w6 hc6 hm6 KB; rw [HRS.out] at KB; simp only [List.set_cons_zero, List.set_cons_succ] at KB; (have F3 := KB.facts); simp only [World.size_alloc, World.size_drew, factsL, cellsF, Nat.reduceAdd, List.toList_toArray, List.set_cons_zero, List.set_cons_succ, List.setIfInBounds_toArray, and_true, true_and] at F3)
      have KD := KB.store 5 rfl 3 (.slice C' (j + 1) cap')
      have KE := (KD.swapRo 4 rfl (ownVals_snoc (r := ⟨xid, A6, n6, c6, xvs⟩) (KD.ro 4 rfl) (KD.ro 0 rfl))).drop (List.Sublist.cons _ (List.Sublist.cons _ (List.Sublist.cons _ (List.Sublist.refl _))))
      have HSN := hid (rOk_snoc HRK.out HRN.out)
      go_roundw
      case rel => exact ⟨j + 1, cap', C', outs ++ [Rw.mk xid A6 n6 c6 xvs], by omega, by first | rfl | go_num, HSN, KE⟩
      case measure => simp [intOf]; omega
    · obtain rfl : m = j := by omega
      have hd : decide ((m : Int) < (m : Int)) = false := by simp
      clear hlt
      have HOL := hid (show outs.length = m by have h := (H.get 0 rfl).1; rw [rwCells_len] at h; omega)
      have FH := H.facts
      simp only [World.size_alloc, World.size_drew, factsL, cellsF, Nat.reduceAdd, List.toList_toArray, List.set_cons_zero, List.set_cons_succ, List.setIfInBounds_toArray, and_true, true_and] at FH
      go_wp2_with fail
      refine (next_any T 7 _ (H.tp_ 8 rfl) (by omega) (by omega)).mono ?_
      rintro e w2 ⟨z, rfl, z0, z1, t2, g2⟩
      have K2 := Hold.callT H 8 rfl g2 t2
      clear H g2 t2 FH
      have F2 := K2.facts
      simp only [World.size_alloc, World.size_drew, factsL, cellsF, Nat.reduceAdd, List.toList_toArray, List.set_cons_zero, List.set_cons_succ, List.setIfInBounds_toArray, and_true, true_and] at F2
      have hcap := own_caps (K2.get 0 rfl)
      have NK := K2.nes
      simp only [nesL, neF, and_true, true_and] at NK
      obtain rfl | rfl | rfl | rfl | rfl | rfl | rfl : z = 0 ∨ z = 1 ∨ z = 2 ∨ z = 3 ∨ z = 4 ∨ z = 5 ∨ z = 6 := by omega
      · skip
        go_wp2_with fail
        refine (next_any T 3 _ (K2.tp_ 8 rfl) (by omega) (by omega)).mono ?_
        rintro e w3 ⟨y, rfl, y0, y1, t3, g3'⟩
        have K3 := Hold.callT K2 8 rfl g3' t3
        clear K2 g3' t3 F2
        have F3 := K3.facts
        simp only [World.size_alloc, World.size_drew, factsL, cellsF, Nat.reduceAdd, List.toList_toArray, List.set_cons_zero, List.set_cons_succ, List.setIfInBounds_toArray, and_true, true_and] at F3
        have KS := (K3.store 2 rfl 2 (.int .i64 (y - 1))).sealRow 0 rfl
        simp only [List.set_cons_zero, List.set_cons_succ, List.setIfInBounds_toArray] at KS
        have KN := (((KS.store 3 rfl 0 (.string nm)).store 3 rfl 1 (.slice A n c)).store 3 rfl 2 (.int .i64 (y - 1))).store 3 rfl 3 (.slice O m cap)
        have r2 := KN.roOut 0 rfl
        have r3 := KN.roOut 1 rfl
        go_wp2_with fail
        exact bodyPost_ret (v := .agg #[.string nm, .slice A n c, .int .i64 (y - 1), .slice O m cap]) (by simp [results, Tryd.results31, go_sem, F3, NK]) rfl (someTab_of HNM.out HCS.out (by have := HL.out; omega) hnc hc hcap.1 hcap.2.1 (by have := HOL.out; omega) (fun r hr => rOut (HRK.out r hr) hn) (KN.roOut 6 rfl) (r2.and (r3.imp fun w h => h.vals)) (KN.tp_ 8 rfl) KN.grow)
      · skip
        have KS := (K2.store 2 rfl 0 (.string ⟨#[84]⟩)).sealRow 0 rfl
        simp only [List.set_cons_zero, List.set_cons_succ, List.setIfInBounds_toArray] at KS
        have KN := (((KS.store 3 rfl 0 (.string ⟨#[84]⟩)).store 3 rfl 1 (.slice A n c)).store 3 rfl 2 (.int .i64 nx)).store 3 rfl 3 (.slice O m cap)
        have r2 := KN.roOut 0 rfl
        have r3 := KN.roOut 1 rfl
        go_wp2_with fail
        exact bodyPost_ret (v := .agg #[.string ⟨#[84]⟩, .slice A n c, .int .i64 nx, .slice O m cap]) (by simp [results, Tryd.results31, go_sem, F2, NK]) rfl (someTab_of (by show (1 : Nat) ≤ maxLen; unfold maxLen; omega) HCS.out (by have := HL.out; omega) hnc hc hcap.1 hcap.2.1 (by have := HOL.out; omega) (fun r hr => rOut (HRK.out r hr) hn) (KN.roOut 6 rfl) (r2.and (r3.imp fun w h => h.vals)) (KN.tp_ 8 rfl) KN.grow)
      · skip
        obtain ⟨c0, hc0⟩ := get_of HL.out (show 0 < n by omega)
        obtain ⟨ba, oa, hA, hco⟩ := (K2.ro 6 rfl).colsAt hc0
        have HC0 := hid (HCS.out c0 (List.mem_of_getElem? hc0))
        subst hA
        simp only [Nat.zero_mul, Nat.add_zero] at hco
        have K3 := K2.add hco
        clear hco K2
        go_wp2_with fail
        obtain ⟨KL, hKL, KN⟩ := K3.name
        have HF : Hid (∀ wv, Hold M (some T) w wv KL → (wv.cell? ⟨g3, 1, none⟩ = some (.slice (some ⟨ba, oa, none⟩) n c) ∧ g3 < wv.heap.size) ∧ (ba < wv.heap.size ∧ wv.cell? ⟨ba, oa, none⟩ = some (.string c0.name) ∧ wv.cell? ⟨ba, oa + 1, none⟩ = some (.int .i64 c0.ty) ∧ wv.cell? ⟨ba, oa + 2, none⟩ = some (.bool c0.nn) ∧ wv.cell? ⟨ba, oa + 3, none⟩ = some (.bool c0.key)) ∧ SlR 4 (some ⟨ba, oa, none⟩) n (colCells cs) wv) := hid fun wv HC => by
          rw [hKL] at HC
          have y1 := HC.cst_ 5 rfl
          exact ⟨⟨cell_of_row _ _ 1 _ _ _ y1, Blk.lt y1⟩, (HC.ro 0 rfl).now, (HC.ro 7 rfl).now⟩
        have HKL := hid hKL
        clear hKL K3
        obtain ⟨Hs, hHs⟩ : ∃ Hs, Hs = w2.drew.heap.size := ⟨_, rfl⟩
        have HHS := hid hHs
        have hMH : ∀ b, Mut M KL b → b < Hs := by rw [hHs]; exact KN.drew.mutLt
        clear hHs
        have hn0 : 0 < n := by omega
        refine wp_region_any (by kernel_rfl) ?_
        refine wpAny_hold 10 125 (KL) (spL [(70, OwnSl 70 4 Hs (colCells cs)), (76, fun u w => ∃ g : Nat, u = .slice (some ⟨g, 0, none⟩) 1 1 ∧ Ro w (Mut M KL) (SlR 4 (some ⟨g, 0, none⟩) 1 (colCells [c0])))]) (by kernel_rfl) (by kernel_rfl) (by kernel_rfl) rfl ?_ (KN.drew) ?_
        · exact stays_cons (ownSl_mono hMH) (stays_cons (fun u w w' hr h => by obtain ⟨g, h1, h2⟩ := h; exact ⟨g, h1, hr.ro h2⟩) (stays_nil _))
        simp only [List.take_succ_cons, List.take_zero, List.drop_succ_cons, List.drop_zero, Act.put, List.getElem_toArray, List.getElem_cons_zero, List.getElem_cons_succ, List.setIfInBounds_toArray, List.set_cons_succ, List.set_cons_zero]
        refine dw_val rfl rfl rfl ?_; apply Exists.intro; refine ⟨fun wv HC => ?_, ?_⟩
        ·  go_simp <;> rfl
        simp only [Act.put, List.setIfInBounds_toArray, List.set_cons_succ, List.set_cons_zero]
        refine dw_val rfl rfl rfl ?_; apply Exists.intro; refine ⟨fun wv HC => ?_, ?_⟩
        ·  go_simp <;> rfl
        simp only [Act.put, List.setIfInBounds_toArray, List.set_cons_succ, List.set_cons_zero]
        refine dw_val rfl rfl rfl ?_; apply Exists.intro; refine ⟨fun wv HC => ?_, ?_⟩
        · obtain ⟨⟨f0, f1⟩, ⟨q0, q1, q2, q3, q4⟩, _⟩ := HF.out _ HC; go_simp <;> rfl
        simp only [Act.put, List.setIfInBounds_toArray, List.set_cons_succ, List.set_cons_zero]
        refine dw_cloneO Tryd.elCl 70 (OwnSl 70 4 Hs (colCells cs)) rfl rfl rfl rfl (.const (.slice none 0 0)) (.tmp 69) rfl rfl (A := some ⟨ba, oa, none⟩) (m := n) (c := c) (ys := colCells cs) rfl (colCells_one _) (by omega) (by omega) (fun wv HC hD => (HF.out _ HC).2.2) (fun C9 c9 wv wv' HC hrm HC' q1 q2 ho => ⟨C9, n, c9, rfl, by rw [colCells_len, HL.out], q1, q2, own_base (by rw [HHS.out]; exact hrm.1) ho⟩) ?_
        rintro u wx HCx ⟨A70, n70, c70, rfl, hn70, -, -, -⟩
        obtain rfl : n70 = n := by rw [colCells_len, HL.out] at hn70; omega
        clear HCx hn70
        simp only [Act.put, List.setIfInBounds_toArray, List.set_cons_succ, List.set_cons_zero]
        refine dw_val rfl rfl rfl ?_; apply Exists.intro; refine ⟨fun wv HC => ?_, ?_⟩
        ·  go_simp <;> rfl
        simp only [Act.put, List.setIfInBounds_toArray, List.set_cons_succ, List.set_cons_zero]
        refine dw_val rfl rfl rfl ?_; apply Exists.intro; refine ⟨fun wv HC => ?_, ?_⟩
        ·  go_simp <;> rfl
        simp only [Act.put, List.setIfInBounds_toArray, List.set_cons_succ, List.set_cons_zero]
        refine dw_val rfl rfl rfl ?_; apply Exists.intro; refine ⟨fun wv HC => ?_, ?_⟩
        · obtain ⟨⟨f0, f1⟩, ⟨q0, q1, q2, q3, q4⟩, _⟩ := HF.out _ HC; go_simp <;> rfl
        simp only [Act.put, List.setIfInBounds_toArray, List.set_cons_succ, List.set_cons_zero]
        refine dw_val rfl rfl rfl ?_; apply Exists.intro; refine ⟨fun wv HC => ?_, ?_⟩
        ·  go_simp <;> rfl
        simp only [Act.put, List.setIfInBounds_toArray, List.set_cons_succ, List.set_cons_zero]
        refine dw_val rfl rfl rfl ?_; apply Exists.intro; refine ⟨fun wv HC => ?_, ?_⟩
        · obtain ⟨⟨f0, f1⟩, ⟨q0, q1, q2, q3, q4⟩, _⟩ := HF.out _ HC; go_simp <;> rfl
        simp only [Act.put, List.setIfInBounds_toArray, List.set_cons_succ, List.set_cons_zero]
        refine dw_new #[.string c0.name, .int .i64 c0.ty, .bool c0.nn, .bool c0.key] 70 76 (fun u w => ∃ g : Nat, u = .slice (some ⟨g, 0, none⟩) 1 1 ∧ Ro w (Mut M KL) (SlR 4 (some ⟨g, 0, none⟩) 1 (colCells [c0]))) (fun g => .slice (some ⟨g, 0, none⟩) 1 1) rfl rfl rfl rfl (fun wv => ?_) (fun wv HC _hrm hD hro => ?_) ?_
        · go_simp <;> rfl
        · exact ⟨_, rfl, ro_block (hro _ HC.mutLt) rfl⟩
        rintro g76 wg HCg hsl
        simp only [Act.put, List.setIfInBounds_toArray, List.set_cons_succ, List.set_cons_zero]
        clear hsl HCg
        refine rel_nil ?_
        rintro wx2 HX
        rintro _hrm HGW
        have ho70 : OwnSl 70 4 Hs (colCells cs) (.slice A70 n70 c70) wx2 := (GW_on (d := 70) rfl).1 (HGW 3 _ rfl (by omega))
        have hb76 : ∃ g : Nat, Value.slice (some ⟨g76, 0, none⟩) 1 1 = .slice (some ⟨g, 0, none⟩) 1 1 ∧ Ro wx2 (Mut M KL) (SlR 4 (some ⟨g, 0, none⟩) 1 (colCells [c0])) := (GW_on (d := 76) rfl).1 (HGW 9 _ rfl (by omega))
        clear HGW
        obtain ⟨gq, e6, k4_⟩ := hb76
        obtain rfl : g76 = gq := by injection e6 with e6; injection e6 with e6; injection e6
        obtain ⟨A6, n6, c6, e7, hn6, hc61, hc62, ho6⟩ := ho70
        obtain ⟨rfl, rfl, rfl⟩ : A70 = A6 ∧ n70 = n6 ∧ c70 = c6 := by injection e7 with h1 h2 h3; exact ⟨h1, h2, h3⟩
        clear e6 e7 hn6
        have k5 := hid k4_.now
        rw [HHS.out] at ho6
        have KA := Hold.addOwn KN.drew HX _hrm ho6
        rw [HKL.out] at KA
        clear HX _hrm ho6 k4_ HF KN hMH HHS
        have FKA := KA.facts
        simp only [World.size_alloc, World.size_drew, factsL, cellsF, Nat.reduceAdd, List.toList_toArray, List.set_cons_zero, List.set_cons_succ, List.setIfInBounds_toArray, and_true, true_and] at FKA
        have HCE := hid (show colCells cs ++ colCells [c0] = colCells (cs ++ [c0]) by simp [colCells])
        go_wp2_with (at_builtin; go_must (refine wpList_appAllH KA 0 rfl Tryd.elCl k5.out rfl (.tmp 70) (.tmp 76) rfl rfl rfl (colCells_one _) (by omega) (by omega) ?_); intro C' cap' w6 hc6 hm6 KB; rw [HCE.out] at KB; simp only [List.set_cons_zero, List.set_cons_succ] at KB; (have F3 := KB.facts); simp only [World.size_alloc, World.size_drew, factsL, cellsF, Nat.reduceAdd, List.toList_toArray, List.set_cons_zero, List.set_cons_succ, List.setIfInBounds_toArray, and_true, true_and] at F3)
        have KC := (KB.sealRow 0 rfl).drop (L' := [.ro (SlR 4 C' (n70 + 1) (colCells (cs ++ [c0]))), .own 61 2 (.slice O m cap) m (rwCells outs), .ro (OwnVals 66 w.heap.size outs), .blk g5 40 #[.string nm, .slice (some ⟨ba, oa, none⟩) n70 c, .int .i64 nx, .slice O m cap], .blk g4 40 #[.string ⟨#[]⟩, .slice none 0 0, .int .i64 0, .slice none 0 0], .cst g3 40 #[.string nm, .slice (some ⟨ba, oa, none⟩) n70 c, .int .i64 nx, .slice B m d], .ro Wds, .ro (ColsIn (some ⟨ba, oa, none⟩) n70 cs), .ro (RwsIn B m l), .tp T]) (List.Sublist.cons_cons _ (List.Sublist.cons _ (List.Sublist.refl _)))
        have KD := KC.store 3 rfl 1 (.slice C' (n70 + 1) cap')
        have KS := KD.sealRow 1 rfl
        simp only [List.set_cons_zero, List.set_cons_succ, List.setIfInBounds_toArray] at KS
        have KN := (((KS.store 4 rfl 0 (.string nm)).store 4 rfl 1 (.slice C' (n70 + 1) cap')).store 4 rfl 2 (.int .i64 nx)).store 4 rfl 3 (.slice O m cap)
        have r1 := KN.roOut 0 rfl
        have r2 := KN.roOut 1 rfl
        have r3 := KN.roOut 2 rfl
        have hnm2 : ∀ x ∈ cs ++ [c0], x.name.size ≤ maxLen := fun x hx => by
          rcases List.mem_append.1 hx with hx | hx
          · exact HCS.out x hx
          · simp at hx; subst hx; exact HC0.out
        have hcl2 : (cs ++ [c0]).length ≤ 1001 := by have := HL.out; simp; omega
        go_wp2_with fail
        exact bodyPost_ret (v := .agg #[.string nm, .slice C' (n70 + 1) cap', .int .i64 nx, .slice O m cap]) (by simp [results, Tryd.results31, go_sem, F3, NK]) rfl (someTab_of HNM.out hnm2 hcl2 hc6 hm6 hcap.1 hcap.2.1 (by have := HOL.out; omega) (fun r hr => rOut (HRK.out r hr) hn) r1 (r2.and (r3.imp fun w h => h.vals)) (KN.tp_ 9 rfl) KN.grow)
      · skip
        by_cases hm0 : 0 < m
        · have hg0 : decide ((m : Int) > 0) = true := by simp; omega
          obtain ⟨go, rfl⟩ : ∃ g, O = some ⟨g, 0, none⟩ := by
            rcases own_addr (K2.get 0 rfl) with ⟨_, h, _⟩ | ⟨g, h, _⟩
            · omega
            · exact ⟨g, h⟩
          go_wp2_with fail
          obtain ⟨KL, hKL, KN⟩ := K2.name
          have HF : Hid (∀ wv, Hold M (some T) w wv KL → (wv.cell? ⟨g5, 3, none⟩ = some (.slice (some ⟨go, 0, none⟩) m cap) ∧ g5 < wv.heap.size) ∧ ∀ (k : Nat) (x : Rw), outs[k]? = some x → (wv.cell? ⟨go, k * 2, none⟩ = some (.int .i64 x.id) ∧ wv.cell? ⟨go, k * 2 + 1, none⟩ = some (.slice x.A x.n x.c)) ∧ (wv.frozen? ⟨go, k * 2, none⟩ = false ∧ wv.frozen? ⟨go, k * 2 + 1, none⟩ = false) ∧ go < wv.heap.size) := hid fun wv HC => by
            rw [hKL] at HC
            have y1 := HC.blk_ 2 rfl
            exact ⟨⟨cell_of_row _ _ 3 _ _ _ y1, Blk.lt y1⟩, fun k x hx => own_rw (HC.get 0 rfl) hx⟩
          have HKL := hid hKL
          clear hKL K2
          refine wp_region_any (by kernel_rfl) ?_
          refine wpAny_hold 9 125 (KL) (spL [(88, fun u _ => NatB m u), (90, fun u _ => NatB 3 u)]) (by kernel_rfl) (by kernel_rfl) (by kernel_rfl) rfl ?_ (KN.drew) ?_
          · exact stays_cons (fun _ _ _ _ h => h) (stays_cons (fun _ _ _ _ h => h) (stays_nil _))
          simp only [List.take_succ_cons, List.take_zero, List.drop_succ_cons, List.drop_zero, Act.put, List.getElem_toArray, List.getElem_cons_zero, List.getElem_cons_succ, List.setIfInBounds_toArray, List.set_cons_succ, List.set_cons_zero]
          refine dw_val rfl rfl rfl ?_; apply Exists.intro; refine ⟨fun wv HC => ?_, ?_⟩
          ·  go_simp <;> rfl
          simp only [Act.put, List.setIfInBounds_toArray, List.set_cons_succ, List.set_cons_zero]
          refine dw_val rfl rfl rfl ?_; apply Exists.intro; refine ⟨fun wv HC => ?_, ?_⟩
          · obtain ⟨⟨f0, f1⟩, _⟩ := HF.out _ HC; go_simp <;> rfl
          simp only [Act.put, List.setIfInBounds_toArray, List.set_cons_succ, List.set_cons_zero]
          refine dw_val rfl rfl rfl ?_; apply Exists.intro; refine ⟨fun wv HC => ?_, ?_⟩
          ·  go_simp <;> rfl
          simp only [Act.put, List.setIfInBounds_toArray, List.set_cons_succ, List.set_cons_zero]
          refine dw_val rfl rfl rfl ?_; apply Exists.intro; refine ⟨fun wv HC => ?_, ?_⟩
          ·  go_simp <;> rfl
          simp only [Act.put, List.setIfInBounds_toArray, List.set_cons_succ, List.set_cons_zero]
          refine dw_next (T := T) m 8 (by rw [HKL.out]; rfl) 88 rfl rfl rfl rfl (fun wv => ?_) ?_
          · go_simp <;> rfl
          rintro r hr
          simp only [Act.put, List.setIfInBounds_toArray, List.set_cons_succ, List.set_cons_zero]
          have hr1 : decide ((r : Int) < (m : Int)) = true := by simp; omega
          have hr0 : decide ((0 : Int) ≤ (r : Int)) = true := by simp
          obtain ⟨x, hx⟩ := get_of HOL.out hr
          have HXX := hid hx
          have HXR := hid (HRK.out x (List.mem_of_getElem? hx))
          clear hx
          refine dw_val rfl rfl rfl ?_; apply Exists.intro; refine ⟨fun wv HC => ?_, ?_⟩
          ·  go_simp <;> rfl
          simp only [Act.put, List.setIfInBounds_toArray, List.set_cons_succ, List.set_cons_zero]
          refine dw_next (T := T) 3 8 (by rw [HKL.out]; rfl) 90 rfl rfl rfl rfl (fun wv => ?_) ?_
          · go_simp <;> rfl
          rintro y hy
          simp only [Act.put, List.setIfInBounds_toArray, List.set_cons_succ, List.set_cons_zero]
          refine dw_val rfl rfl rfl ?_; apply Exists.intro; refine ⟨fun wv HC => ?_, ?_⟩
          ·  go_simp <;> rfl
          simp only [Act.put, List.setIfInBounds_toArray, List.set_cons_succ, List.set_cons_zero]
          refine dw_val rfl rfl rfl ?_; apply Exists.intro; refine ⟨fun wv HC => ?_, ?_⟩
          ·  go_simp <;> rfl
          simp only [Act.put, List.setIfInBounds_toArray, List.set_cons_succ, List.set_cons_zero]
          refine rel_nil ?_
          rintro wx2 HX
          rintro _hrm HGW
          clear HGW _hrm
          rw [HKL.out] at HX
          clear HF KN HKL
          have N4 := HX.apart_ 0 3 rfl rfl (by omega) rfl rfl
          have N5 := HX.apart_ 0 2 rfl rfl (by omega) rfl rfl
          have N6 := N4.symm
          have N7 := N5.symm
          obtain ⟨⟨q0, q1⟩, ⟨q2, q3⟩, q4⟩ := own_rw (HX.get 0 rfl) HXX.out
          have FX_ := HX.facts
          simp only [World.size_alloc, World.size_drew, factsL, cellsF, Nat.reduceAdd, List.toList_toArray, List.set_cons_zero, List.set_cons_succ, List.setIfInBounds_toArray, and_true, true_and] at FX_
          have KP := HX.put_ 0 rfl (r * 2) (.int .i64 y)
          rw [rwCells_setId HXX.out] at KP
          simp only [List.set_cons_zero, List.set_cons_succ] at KP
          have KQ := KP.swapRo 1 rfl ((KP.ro 1 rfl).imp fun w2 h2 => ownVals_set (k := r) (x := { x with id := (y : Int) }) h2 (h2 x (List.mem_of_getElem? HXX.out)))
          simp only [List.set_cons_zero, List.set_cons_succ] at KQ
          have HOK3 := hid (show ∀ z ∈ outs.set r { x with id := (y : Int) }, ROk n z from rOk_set HRK.out ⟨⟨by unfold I64; show _ ≤ (y : Int) ∧ (y : Int) ≤ _; omega, HXR.out.1.nc, HXR.out.1.c, HXR.out.1.vs⟩, HXR.out.2⟩)
          have KS := KQ.sealRow 0 rfl
          simp only [List.set_cons_zero, List.set_cons_succ, List.setIfInBounds_toArray] at KS
          have KN := (((KS.store 3 rfl 0 (.string nm)).store 3 rfl 1 (.slice A n c)).store 3 rfl 2 (.int .i64 nx)).store 3 rfl 3 (.slice (some ⟨go, 0, none⟩) m cap)
          have r2 := KN.roOut 0 rfl
          have r3 := KN.roOut 1 rfl
          go_wp2_with fail
          exact bodyPost_ret (v := .agg #[.string nm, .slice A n c, .int .i64 nx, .slice (some ⟨go, 0, none⟩) m cap]) (by simp [results, Tryd.results31, go_sem, FX_, NK, q0, q1, q2, q3, q4, N4, N5, N6, N7]) rfl (someTab_of HNM.out HCS.out (by have := HL.out; omega) hnc hc hcap.1 hcap.2.1 (by rw [List.length_set]; have := HOL.out; omega) (fun r hr => rOut (HOK3.out r hr) hn) (KN.roOut 6 rfl) (r2.and (r3.imp fun w h => h.vals)) (KN.tp_ 8 rfl) KN.grow)
        · have hg0 : decide ((m : Int) > 0) = false := by simp; omega
          have hg1 : decide (0 < m) = false := by simp; omega
          have KS := K2.sealRow 0 rfl
          simp only [List.set_cons_zero, List.set_cons_succ, List.setIfInBounds_toArray] at KS
          have KN := (((KS.store 3 rfl 0 (.string nm)).store 3 rfl 1 (.slice A n c)).store 3 rfl 2 (.int .i64 nx)).store 3 rfl 3 (.slice O m cap)
          have r2 := KN.roOut 0 rfl
          have r3 := KN.roOut 1 rfl
          go_wp2_with fail
          exact bodyPost_ret (v := .agg #[.string nm, .slice A n c, .int .i64 nx, .slice O m cap]) (by simp [results, Tryd.results31, go_sem, F2, NK]) rfl (someTab_of HNM.out HCS.out (by have := HL.out; omega) hnc hc hcap.1 hcap.2.1 (by have := HOL.out; omega) (fun r hr => rOut (HRK.out r hr) hn) (KN.roOut 6 rfl) (r2.and (r3.imp fun w h => h.vals)) (KN.tp_ 8 rfl) KN.grow)
      · skip
        by_cases hm0 : 0 < m
        · have hg0 : decide ((m : Int) > 0) = true := by simp; omega
          obtain ⟨go, rfl⟩ : ∃ g, O = some ⟨g, 0, none⟩ := by
            rcases own_addr (K2.get 0 rfl) with ⟨_, h, _⟩ | ⟨g, h, _⟩
            · omega
            · exact ⟨g, h⟩
          go_wp2_with fail
          obtain ⟨KL, hKL, KN⟩ := K2.name
          have HF : Hid (∀ wv, Hold M (some T) w wv KL → (wv.cell? ⟨g5, 3, none⟩ = some (.slice (some ⟨go, 0, none⟩) m cap) ∧ g5 < wv.heap.size) ∧ ∀ (k : Nat) (x : Rw), outs[k]? = some x → (wv.cell? ⟨go, k * 2, none⟩ = some (.int .i64 x.id) ∧ wv.cell? ⟨go, k * 2 + 1, none⟩ = some (.slice x.A x.n x.c)) ∧ (wv.frozen? ⟨go, k * 2, none⟩ = false ∧ wv.frozen? ⟨go, k * 2 + 1, none⟩ = false) ∧ go < wv.heap.size) := hid fun wv HC => by
            rw [hKL] at HC
            have y1 := HC.blk_ 2 rfl
            exact ⟨⟨cell_of_row _ _ 3 _ _ _ y1, Blk.lt y1⟩, fun k x hx => own_rw (HC.get 0 rfl) hx⟩
          have HKL := hid hKL
          clear hKL K2
          have HRX : Hid (∀ wv, Hold M (some T) w wv KL → Tp wv T ∧ Wds wv) := hid fun wv HC => by
            rw [HKL.out] at HC
            exact ⟨HC.tp_ 8 rfl, (HC.ro 5 rfl).now⟩
          have HOV := hid (show OwnVals 66 w.heap.size outs w2 by have h := KN; rw [HKL.out] at h; exact (h.ro 1 rfl).now)
          have hn0 : 0 < n := by omega
          refine wp_region_any (by kernel_rfl) ?_
          refine wpAny_hold 11 125 (KL) (spL [(101, fun u _ => NatB m u), (106, OddSlot)]) (by kernel_rfl) (by kernel_rfl) (by kernel_rfl) rfl ?_ (KN.drew) ?_
          · exact stays_cons (fun _ _ _ _ h => h) (stays_cons oddSlot_mono (stays_nil _))
          simp only [List.take_succ_cons, List.take_zero, List.drop_succ_cons, List.drop_zero, Act.put, List.getElem_toArray, List.getElem_cons_zero, List.getElem_cons_succ, List.setIfInBounds_toArray, List.set_cons_succ, List.set_cons_zero]
          refine dw_val rfl rfl rfl ?_; apply Exists.intro; refine ⟨fun wv HC => ?_, ?_⟩
          ·  go_simp <;> rfl
          simp only [Act.put, List.setIfInBounds_toArray, List.set_cons_succ, List.set_cons_zero]
          refine dw_val rfl rfl rfl ?_; apply Exists.intro; refine ⟨fun wv HC => ?_, ?_⟩
          · obtain ⟨⟨f0, f1⟩, _⟩ := HF.out _ HC; go_simp <;> rfl
          simp only [Act.put, List.setIfInBounds_toArray, List.set_cons_succ, List.set_cons_zero]
          refine dw_val rfl rfl rfl ?_; apply Exists.intro; refine ⟨fun wv HC => ?_, ?_⟩
          ·  go_simp <;> rfl
          simp only [Act.put, List.setIfInBounds_toArray, List.set_cons_succ, List.set_cons_zero]
          refine dw_val rfl rfl rfl ?_; apply Exists.intro; refine ⟨fun wv HC => ?_, ?_⟩
          ·  go_simp <;> rfl
          simp only [Act.put, List.setIfInBounds_toArray, List.set_cons_succ, List.set_cons_zero]
          refine dw_next (T := T) m 8 (by rw [HKL.out]; rfl) 101 rfl rfl rfl rfl (fun wv => ?_) ?_
          · go_simp <;> rfl
          rintro r hr
          simp only [Act.put, List.setIfInBounds_toArray, List.set_cons_succ, List.set_cons_zero]
          have hr1 : decide ((r : Int) < (m : Int)) = true := by simp; omega
          have hr0 : decide ((0 : Int) ≤ (r : Int)) = true := by simp
          obtain ⟨x, hx⟩ := get_of HOL.out hr
          have HXX := hid hx
          have HXR := hid (HRK.out x (List.mem_of_getElem? hx))
          clear hx
          obtain ⟨xid, xA, xn, xc, xvs⟩ := x
          (try dsimp only at *)
          obtain rfl : n = xn := HXR.out.2.2.symm
          obtain ⟨gx, rfl⟩ : ∃ g, xA = some ⟨g, 0, none⟩ := by
            rcases own_addr (HOV.out _ (List.mem_of_getElem? HXX.out)) with ⟨_, h, _⟩ | ⟨g, h, _⟩
            · (try dsimp only at h); omega
            · exact ⟨g, h⟩
          refine dw_val rfl rfl rfl ?_; apply Exists.intro; refine ⟨fun wv HC => ?_, ?_⟩
          ·  go_simp <;> rfl
          simp only [Act.put, List.setIfInBounds_toArray, List.set_cons_succ, List.set_cons_zero]
          refine dw_val rfl rfl rfl ?_; apply Exists.intro; refine ⟨fun wv HC => ?_, ?_⟩
          ·  go_simp <;> rfl
          simp only [Act.put, List.setIfInBounds_toArray, List.set_cons_succ, List.set_cons_zero]
          refine dw_val rfl rfl rfl ⟨.slice (some ⟨gx, 0, none⟩) n xc, fun wv HC => ?_, ?_⟩
          · obtain ⟨_, fo⟩ := HF.out _ HC
            obtain ⟨⟨y0, y1⟩, _, y2⟩ := fo r _ HXX.out
            dsimp only at y0 y1
            go_simp <;> rfl
          simp only [Act.put, List.setIfInBounds_toArray, List.set_cons_succ, List.set_cons_zero]
          refine dw_val rfl rfl rfl ?_; apply Exists.intro; refine ⟨fun wv HC => ?_, ?_⟩
          ·  go_simp <;> rfl
          simp only [Act.put, List.setIfInBounds_toArray, List.set_cons_succ, List.set_cons_zero]
          refine dw_callR 106 OddSlot (f := 68) (args := #[.pointer (some ⟨T, 0, none⟩)]) rfl rfl rfl rfl (fun wv => ?_) (fun wv HC hrm hD => ?_) ?_
          · go_simp <;> rfl
          · refine (odd2_any T wv (HRX.out _ HC).1 (HRX.out _ HC).2 hT).mono ?_
            rintro e w5 ⟨k, i, s, rfl, ⟨h1, h2, h3⟩, t5, g5'⟩
            exact ⟨_, rfl, ⟨⟨k, i, s⟩, rfl, ⟨h2, h3, by show s.size ≤ maxLen; unfold maxLen; omega⟩⟩, Hold.callT HC 8 (by rw [HKL.out]; rfl) g5' t5, RM.grown g5' (.inr ⟨_, List.mem_of_getElem? (i := 8) (by rw [HKL.out]; rfl), rfl⟩)⟩
          rintro u wx HCx ⟨v, rfl, hvo⟩
          have HVO := hid hvo
          clear HCx hvo
          simp only [Act.put, List.setIfInBounds_toArray, List.set_cons_succ, List.set_cons_zero]
          refine dw_val rfl rfl rfl ?_; apply Exists.intro; refine ⟨fun wv HC => ?_, ?_⟩
          ·  go_simp <;> rfl
          simp only [Act.put, List.setIfInBounds_toArray, List.set_cons_succ, List.set_cons_zero]
          refine rel_nil ?_
          rintro wx2 HX
          rintro _hrm HGW
          clear HGW _hrm
          rw [HKL.out] at HX
          clear HF KN HKL HRX HOV
          have hov := (HX.ro 1 rfl).now
          have hox := hov _ (List.mem_of_getElem? HXX.out)
          dsimp only at hox
          obtain ⟨uq, huq⟩ : ∃ uq, xvs[0]? = some uq := ⟨_, List.getElem?_eq_getElem (by have h := HXR.out.2.1; (try dsimp only at h); omega)⟩
          obtain ⟨⟨y0, y1, y2⟩, ⟨y3, y4, y5⟩, y6⟩ := own_vl hox huq
          simp only [Nat.zero_mul, Nat.zero_add] at y0 y1 y2 y3 y4 y5
          have hgx : w.heap.size ≤ gx := (hox.lt gx rfl).1
          have N4 : ¬ go = gx := own_ne_ty (HX.get 0 rfl) hox (by decide)
          have N5 : ¬ g5 = gx := blk_ne_ty (HX.blk_ 2 rfl) hox (by decide)
          have N6 : ¬ g4 = gx := blk_ne_ty (HX.blk_ 3 rfl) hox (by decide)
          have N7 : ¬ gx = g5 := fun e => N5 e.symm
          have N8 : ¬ gx = g4 := fun e => N6 e.symm
          have hb4 := HX.blk_ 3 rfl
          have FX_ := HX.facts
          simp only [World.size_alloc, World.size_drew, factsL, cellsF, Nat.reduceAdd, List.toList_toArray, List.set_cons_zero, List.set_cons_succ, List.setIfInBounds_toArray, and_true, true_and] at FX_
          have KF := HX.drop (L' := [.own 61 2 (.slice (some ⟨go, 0, none⟩) m cap) m (rwCells outs), .blk g5 40 #[.string nm, .slice A n c, .int .i64 nx, .slice (some ⟨go, 0, none⟩) m cap], .blk g4 40 #[.string ⟨#[]⟩, .slice none 0 0, .int .i64 0, .slice none 0 0], .tp T]) (List.Sublist.cons_cons _ (List.Sublist.cons _ (List.Sublist.cons_cons _ (List.Sublist.cons_cons _ (List.Sublist.cons _ (List.Sublist.cons _ (List.Sublist.cons _ (List.Sublist.cons _ (List.Sublist.refl _)))))))))
          have hfo : ∀ k ∈ ([.own 61 2 (.slice (some ⟨go, 0, none⟩) m cap) m (rwCells outs), .blk g5 40 #[.string nm, .slice A n c, .int .i64 nx, .slice (some ⟨go, 0, none⟩) m cap], .blk g4 40 #[.string ⟨#[]⟩, .slice none 0 0, .int .i64 0, .slice none 0 0], .tp T] : List Hp), ∃ b, k.foot = some b ∧ b ≠ gx := fun k hk => by
            simp only [List.mem_cons, List.not_mem_nil, or_false] at hk
            rcases hk with rfl | rfl | rfl | rfl
            · exact ⟨go, rfl, N4⟩
            · exact ⟨g5, rfl, N5⟩
            · exact ⟨g4, rfl, N6⟩
            · exact ⟨T, rfl, by have := HTL.out; omega⟩
          have hfT : ∀ T', Hp.tp T' ∈ ([.own 61 2 (.slice (some ⟨go, 0, none⟩) m cap) m (rwCells outs), .blk g5 40 #[.string nm, .slice A n c, .int .i64 nx, .slice (some ⟨go, 0, none⟩) m cap], .blk g4 40 #[.string ⟨#[]⟩, .slice none 0 0, .int .i64 0, .slice none 0 0], .tp T] : List Hp) → T' < gx := fun T' hT' => by
            simp only [List.mem_cons, List.not_mem_nil, or_false, reduceCtorEq, false_or, Hp.tp.injEq] at hT'
            subst hT'
            have := HTL.out; omega
          have KP := ((KF.poke hgx hfo hfT 0 (.int .i64 v.k)).poke hgx hfo hfT 1 (.int .i64 v.i)).poke hgx hfo hfT 2 (.string v.s)
          have hp := hov.poke (g := gx) v (fun z hz => by rw [(HRK.out z hz).2.1]; omega)
          have hb5 := Blk.far (p := ⟨gx, 2, none⟩) (Blk.far (p := ⟨gx, 1, none⟩) (Blk.far (p := ⟨gx, 0, none⟩) hb4 N6 (.int .i64 v.k)) N6 (.int .i64 v.i)) N6 (.string v.s)
          have hq := hid (hp.far4 hb5 (by decide) (.string nm) (.slice A n c) (.int .i64 nx) (.slice (some ⟨go, 0, none⟩) m cap))
          have HOK3 := hid (show ∀ z ∈ outs.map (pokeRw gx v), z.ok ∧ z.vs.length ≤ 1000 from fun z hz => by
            obtain ⟨y, hy, rfl⟩ := List.mem_map.1 hz
            have h1 := HRK.out y hy
            have h2 := rOut h1 hn
            unfold pokeRw
            split
            · exact ⟨⟨h1.1.id, h1.1.nc, h1.1.c, oks_set h1.1.vs HVO.out⟩, by show (y.vs.set 0 v).length ≤ 1000; rw [List.length_set]; exact h2.2⟩
            · exact h2)
          clear hov hox hp hb4 hb5 hfo hfT KF HX
          have KS := KP.sealRow 0 rfl
          simp only [List.set_cons_zero, List.set_cons_succ, List.setIfInBounds_toArray] at KS
          have KN := (((KS.store 2 rfl 0 (.string nm)).store 2 rfl 1 (.slice A n c)).store 2 rfl 2 (.int .i64 nx)).store 2 rfl 3 (.slice (some ⟨go, 0, none⟩) m cap)
          have r2 := KN.roOut 0 rfl
          rw [← pokeRw_cells gx v outs] at r2
          have r1 : Ro _ M (ColsIn A n cs) := (Ro.grown HD.out KN.grow (.inr ⟨_, List.mem_singleton.2 rfl, rfl⟩)).less fun b hb => .inl hb
          have r3 := OwnVals.ro HMM.out hq.out
          clear KS KP
          go_wp2_with fail
          exact bodyPost_ret (v := .agg #[.string nm, .slice A n c, .int .i64 nx, .slice (some ⟨go, 0, none⟩) m cap]) (by simp [results, Tryd.results31, go_sem, FX_, NK, y0, y1, y2, y3, y4, y5, y6, N5, N6, N7, N8]) rfl (someTab_of HNM.out HCS.out (by have := HL.out; omega) hnc hc hcap.1 hcap.2.1 (by rw [List.length_map]; have := HOL.out; omega) HOK3.out r1 (r2.and r3) (KN.tp_ 3 rfl) KN.grow)
        · have hg0 : decide ((m : Int) > 0) = false := by simp; omega
          have hg1 : decide (0 < m) = false := by simp; omega
          have KS := K2.sealRow 0 rfl
          simp only [List.set_cons_zero, List.set_cons_succ, List.setIfInBounds_toArray] at KS
          have KN := (((KS.store 3 rfl 0 (.string nm)).store 3 rfl 1 (.slice A n c)).store 3 rfl 2 (.int .i64 nx)).store 3 rfl 3 (.slice O m cap)
          have r2 := KN.roOut 0 rfl
          have r3 := KN.roOut 1 rfl
          go_wp2_with fail
          exact bodyPost_ret (v := .agg #[.string nm, .slice A n c, .int .i64 nx, .slice O m cap]) (by simp [results, Tryd.results31, go_sem, F2, NK]) rfl (someTab_of HNM.out HCS.out (by have := HL.out; omega) hnc hc hcap.1 hcap.2.1 (by have := HOL.out; omega) (fun r hr => rOut (HRK.out r hr) hn) (KN.roOut 6 rfl) (r2.and (r3.imp fun w h => h.vals)) (KN.tp_ 8 rfl) KN.grow)
      · skip
        by_cases hm0 : 1 < m
        · have hg0 : decide ((m : Int) > 1) = true := by simp; omega
          obtain ⟨go, rfl⟩ : ∃ g, O = some ⟨g, 0, none⟩ := by
            rcases own_addr (K2.get 0 rfl) with ⟨_, h, _⟩ | ⟨g, h, _⟩
            · omega
            · exact ⟨g, h⟩
          go_wp2_with fail
          obtain ⟨KL, hKL, KN⟩ := K2.name
          have HF : Hid (∀ wv, Hold M (some T) w wv KL → (wv.cell? ⟨g5, 3, none⟩ = some (.slice (some ⟨go, 0, none⟩) m cap) ∧ g5 < wv.heap.size) ∧ ∀ (k : Nat) (x : Rw), outs[k]? = some x → (wv.cell? ⟨go, k * 2, none⟩ = some (.int .i64 x.id) ∧ wv.cell? ⟨go, k * 2 + 1, none⟩ = some (.slice x.A x.n x.c)) ∧ (wv.frozen? ⟨go, k * 2, none⟩ = false ∧ wv.frozen? ⟨go, k * 2 + 1, none⟩ = false) ∧ go < wv.heap.size) := hid fun wv HC => by
            rw [hKL] at HC
            have y1 := HC.blk_ 2 rfl
            exact ⟨⟨cell_of_row _ _ 3 _ _ _ y1, Blk.lt y1⟩, fun k x hx => own_rw (HC.get 0 rfl) hx⟩
          have HKL := hid hKL
          clear hKL K2
          obtain ⟨x0, hx0⟩ := get_of HOL.out (show 0 < m by omega)
          obtain ⟨x, hx⟩ := get_of HOL.out (show m - 1 < m by omega)
          have HX0 := hid hx0
          have HXX := hid hx
          have HXR := hid (HRK.out x (List.mem_of_getElem? hx))
          have HR0 := hid (HRK.out x0 (List.mem_of_getElem? hx0))
          have hxn : x0.n = n := HR0.out.2.2
          have hm1 : 0 < m := by omega
          have hm2 : (0 : Int) ≤ (m : Int) - 1 := by omega
          have hm3 : (m : Int) - 1 < (m : Int) := by omega
          have hm4 : ((m : Int) - 1).toNat = m - 1 := by omega
          have hm5 : (1 : Int) ≤ (m : Int) := by omega
          have s1 : IntKind.i64.wrap ((m : Int) - 1) = (m : Int) - 1 := by rw [IntKind.wrap_i64]; omega
          have HRX : Hid (∀ wv, Hold M (some T) w wv KL → VlsIn x0.A x0.n x0.vs wv) := hid fun wv HC => by
            rw [HKL.out] at HC
            exact (HC.ro 1 rfl).now.vals x0 (List.mem_of_getElem? HX0.out)
          clear hx hx0
          refine wp_region_any (by kernel_rfl) ?_
          refine wpAny_hold 12 125 (KL) (spL [(121, OVls 66 (Mut M KL) w.heap.size x0.vs)]) (by kernel_rfl) (by kernel_rfl) (by kernel_rfl) rfl ?_ (KN.drew) ?_
          · exact stays_cons oVls_mono (stays_nil _)
          simp only [List.take_succ_cons, List.take_zero, List.drop_succ_cons, List.drop_zero, Act.put, List.getElem_toArray, List.getElem_cons_zero, List.getElem_cons_succ, List.setIfInBounds_toArray, List.set_cons_succ, List.set_cons_zero]
          refine dw_val rfl rfl rfl ?_; apply Exists.intro; refine ⟨fun wv HC => ?_, ?_⟩
          ·  go_simp <;> rfl
          simp only [Act.put, List.setIfInBounds_toArray, List.set_cons_succ, List.set_cons_zero]
          refine dw_val rfl rfl rfl ?_; apply Exists.intro; refine ⟨fun wv HC => ?_, ?_⟩
          · obtain ⟨⟨f0, f1⟩, _⟩ := HF.out _ HC; go_simp <;> rfl
          simp only [Act.put, List.setIfInBounds_toArray, List.set_cons_succ, List.set_cons_zero]
          refine dw_val rfl rfl rfl ?_; apply Exists.intro; refine ⟨fun wv HC => ?_, ?_⟩
          ·  go_simp <;> rfl
          simp only [Act.put, List.setIfInBounds_toArray, List.set_cons_succ, List.set_cons_zero]
          refine dw_val rfl rfl rfl ?_; apply Exists.intro; refine ⟨fun wv HC => ?_, ?_⟩
          ·  go_simp <;> rfl
          simp only [Act.put, List.setIfInBounds_toArray, List.set_cons_succ, List.set_cons_zero]
          refine dw_val rfl rfl rfl ?_; apply Exists.intro; refine ⟨fun wv HC => ?_, ?_⟩
          ·  go_simp <;> rfl
          simp only [Act.put, List.setIfInBounds_toArray, List.set_cons_succ, List.set_cons_zero]
          refine dw_val rfl rfl rfl ?_; apply Exists.intro; refine ⟨fun wv HC => ?_, ?_⟩
          · obtain ⟨⟨f0, f1⟩, _⟩ := HF.out _ HC; go_simp <;> rfl
          simp only [Act.put, List.setIfInBounds_toArray, List.set_cons_succ, List.set_cons_zero]
          refine dw_val rfl rfl rfl ?_; apply Exists.intro; refine ⟨fun wv HC => ?_, ?_⟩
          ·  go_simp <;> rfl
          simp only [Act.put, List.setIfInBounds_toArray, List.set_cons_succ, List.set_cons_zero]
          refine dw_val rfl rfl rfl ?_; apply Exists.intro; refine ⟨fun wv HC => ?_, ?_⟩
          ·  go_simp <;> rfl
          simp only [Act.put, List.setIfInBounds_toArray, List.set_cons_succ, List.set_cons_zero]
          refine dw_val rfl rfl rfl ⟨.slice x0.A x0.n x0.c, fun wv HC => ?_, ?_⟩
          · obtain ⟨_, fo⟩ := HF.out _ HC
            obtain ⟨⟨y0, y1⟩, _, y2⟩ := fo 0 x0 HX0.out
            simp only [Nat.zero_mul, Nat.zero_add] at y0 y1
            go_simp <;> rfl
          simp only [Act.put, List.setIfInBounds_toArray, List.set_cons_succ, List.set_cons_zero]
          refine dw_cloneO Tryd.elVl 121 (OVls 66 (Mut M KL) w.heap.size x0.vs) rfl rfl rfl rfl (.const (.slice none 0 0)) (.tmp 120) rfl rfl (A := x0.A) (m := x0.n) (c := x0.c) (ys := vlCells x0.vs) rfl (one_vls _) (by omega) (by omega) (fun wv HC hD => HRX.out _ HC) (fun C9 c9 wv wv' HC hrm HC' q1 q2 ho => ⟨C9, x0.n, c9, rfl, by rw [HR0.out.2.1, HR0.out.2.2], q1, q2, Ro.own (fun b hb => HC.mutLt b hb) HC.grow.size ho⟩) ?_
          rintro u wx HCx ⟨A28, n28, c28, rfl, hn28, hc1, hc2, -⟩
          have HN28 := hid (And.intro hn28 (And.intro hc1 hc2))
          clear HCx hn28 hc1 hc2
          simp only [Act.put, List.setIfInBounds_toArray, List.set_cons_succ, List.set_cons_zero]
          refine dw_val rfl rfl rfl ?_; apply Exists.intro; refine ⟨fun wv HC => ?_, ?_⟩
          ·  go_simp <;> rfl
          simp only [Act.put, List.setIfInBounds_toArray, List.set_cons_succ, List.set_cons_zero]
          refine dw_val rfl rfl rfl ?_; apply Exists.intro; refine ⟨fun wv HC => ?_, ?_⟩
          ·  go_simp <;> rfl
          simp only [Act.put, List.setIfInBounds_toArray, List.set_cons_succ, List.set_cons_zero]
          refine rel_nil ?_
          rintro wx2 HX
          rintro _hrm HGW
          have hb2 : OVls 66 (Mut M KL) w.heap.size x0.vs (.slice A28 n28 c28) wx2 := (GW_on (d := 121) rfl).1 (HGW 9 _ rfl (by omega))
          clear HGW _hrm
          obtain ⟨A6, n6, c6, e6, -, -, -, k3_⟩ := hb2
          obtain ⟨rfl, rfl, rfl⟩ : A28 = A6 ∧ n28 = n6 ∧ c28 = c6 := by injection e6 with h1 h2 h3; exact ⟨h1, h2, h3⟩
          clear e6
          rw [HKL.out] at HX k3_
          clear HF KN HKL HRX
          have N4 := HX.apart_ 0 3 rfl rfl (by omega) rfl rfl
          have N5 := HX.apart_ 0 2 rfl rfl (by omega) rfl rfl
          have N6 := N4.symm
          have N7 := N5.symm
          obtain ⟨⟨q0, q1⟩, ⟨q2, q3⟩, q4⟩ := own_rw (HX.get 0 rfl) HXX.out
          have FX_ := HX.facts
          simp only [World.size_alloc, World.size_drew, factsL, cellsF, Nat.reduceAdd, List.toList_toArray, List.set_cons_zero, List.set_cons_succ, List.setIfInBounds_toArray, and_true, true_and] at FX_
          have KP := (HX.add k3_).put_ 1 rfl ((m - 1) * 2 + 1) (.slice A28 n28 c28)
          rw [rwCells_setVs HXX.out A28 n28 c28 x0.vs] at KP
          simp only [List.set_cons_zero, List.set_cons_succ] at KP
          have KQ := (KP.swapRo 2 rfl (((KP.ro 0 rfl).and (KP.ro 2 rfl)).imp fun w2 h2 => ownVals_set (k := m - 1) (x := Rw.mk x.id A28 n28 c28 x0.vs) h2.2 h2.1)).drop (List.sublist_cons_self _ _)
          simp only [List.set_cons_zero, List.set_cons_succ] at KQ
          have HOK3 := hid (show ∀ z ∈ outs.set (m - 1) (Rw.mk x.id A28 n28 c28 x0.vs), ROk n z from rOk_set HRK.out ⟨⟨HXR.out.1.id, HN28.out.2.1, HN28.out.2.2, HR0.out.1.vs⟩, HR0.out.2.1, by show n28 = n; rw [HN28.out.1]; exact HR0.out.2.1⟩)
          clear hxn
          have KS := KQ.sealRow 0 rfl
          simp only [List.set_cons_zero, List.set_cons_succ, List.setIfInBounds_toArray] at KS
          have KN := (((KS.store 3 rfl 0 (.string nm)).store 3 rfl 1 (.slice A n c)).store 3 rfl 2 (.int .i64 nx)).store 3 rfl 3 (.slice (some ⟨go, 0, none⟩) m cap)
          have r2 := KN.roOut 0 rfl
          have r3 := KN.roOut 1 rfl
          go_wp2_with fail
          exact bodyPost_ret (v := .agg #[.string nm, .slice A n c, .int .i64 nx, .slice (some ⟨go, 0, none⟩) m cap]) (by simp [results, Tryd.results31, go_sem, FX_, NK, q0, q1, q2, q3, q4, N4, N5, N6, N7, hm4]) rfl (someTab_of HNM.out HCS.out (by have := HL.out; omega) hnc hc hcap.1 hcap.2.1 (by rw [List.length_set]; have := HOL.out; omega) (fun r hr => rOut (HOK3.out r hr) hn) (KN.roOut 6 rfl) (r2.and (r3.imp fun w h => h.vals)) (KN.tp_ 8 rfl) KN.grow)
        · have hg0 : decide ((m : Int) > 1) = false := by simp; omega
          have hg1 : decide (1 < m) = false := by simp; omega
          have KS := K2.sealRow 0 rfl
          simp only [List.set_cons_zero, List.set_cons_succ, List.setIfInBounds_toArray] at KS
          have KN := (((KS.store 3 rfl 0 (.string nm)).store 3 rfl 1 (.slice A n c)).store 3 rfl 2 (.int .i64 nx)).store 3 rfl 3 (.slice O m cap)
          have r2 := KN.roOut 0 rfl
          have r3 := KN.roOut 1 rfl
          go_wp2_with fail
          exact bodyPost_ret (v := .agg #[.string nm, .slice A n c, .int .i64 nx, .slice O m cap]) (by simp [results, Tryd.results31, go_sem, F2, NK]) rfl (someTab_of HNM.out HCS.out (by have := HL.out; omega) hnc hc hcap.1 hcap.2.1 (by have := HOL.out; omega) (fun r hr => rOut (HRK.out r hr) hn) (KN.roOut 6 rfl) (r2.and (r3.imp fun w h => h.vals)) (KN.tp_ 8 rfl) KN.grow)
      · skip
        by_cases hm0 : 0 < m
        · have hg0 : decide ((m : Int) > 0) = true := by simp; omega
          obtain ⟨go, rfl⟩ : ∃ g, O = some ⟨g, 0, none⟩ := by
            rcases own_addr (K2.get 0 rfl) with ⟨_, h, _⟩ | ⟨g, h, _⟩
            · omega
            · exact ⟨g, h⟩
          go_wp2_with fail
          obtain ⟨KL, hKL, KN⟩ := K2.name
          have HF : Hid (∀ wv, Hold M (some T) w wv KL → (wv.cell? ⟨g5, 3, none⟩ = some (.slice (some ⟨go, 0, none⟩) m cap) ∧ g5 < wv.heap.size) ∧ ∀ (k : Nat) (x : Rw), outs[k]? = some x → (wv.cell? ⟨go, k * 2, none⟩ = some (.int .i64 x.id) ∧ wv.cell? ⟨go, k * 2 + 1, none⟩ = some (.slice x.A x.n x.c)) ∧ (wv.frozen? ⟨go, k * 2, none⟩ = false ∧ wv.frozen? ⟨go, k * 2 + 1, none⟩ = false) ∧ go < wv.heap.size) := hid fun wv HC => by
            rw [hKL] at HC
            have y1 := HC.blk_ 2 rfl
            exact ⟨⟨cell_of_row _ _ 3 _ _ _ y1, Blk.lt y1⟩, fun k x hx => own_rw (HC.get 0 rfl) hx⟩
          have HKL := hid hKL
          clear hKL K2
          refine wp_region_any (by kernel_rfl) ?_
          refine wpAny_hold 6 125 (KL) (spL [(45, fun u _ => NatB m u)]) (by kernel_rfl) (by kernel_rfl) (by kernel_rfl) rfl ?_ (KN.drew) ?_
          · exact stays_cons (fun _ _ _ _ h => h) (stays_nil _)
          simp only [List.take_succ_cons, List.take_zero, List.drop_succ_cons, List.drop_zero, Act.put, List.getElem_toArray, List.getElem_cons_zero, List.getElem_cons_succ, List.setIfInBounds_toArray, List.set_cons_succ, List.set_cons_zero]
          refine dw_val rfl rfl rfl ?_; apply Exists.intro; refine ⟨fun wv HC => ?_, ?_⟩
          ·  go_simp <;> rfl
          simp only [Act.put, List.setIfInBounds_toArray, List.set_cons_succ, List.set_cons_zero]
          refine dw_val rfl rfl rfl ?_; apply Exists.intro; refine ⟨fun wv HC => ?_, ?_⟩
          · obtain ⟨⟨f0, f1⟩, _⟩ := HF.out _ HC; go_simp <;> rfl
          simp only [Act.put, List.setIfInBounds_toArray, List.set_cons_succ, List.set_cons_zero]
          refine dw_val rfl rfl rfl ?_; apply Exists.intro; refine ⟨fun wv HC => ?_, ?_⟩
          ·  go_simp <;> rfl
          simp only [Act.put, List.setIfInBounds_toArray, List.set_cons_succ, List.set_cons_zero]
          refine dw_val rfl rfl rfl ?_; apply Exists.intro; refine ⟨fun wv HC => ?_, ?_⟩
          ·  go_simp <;> rfl
          simp only [Act.put, List.setIfInBounds_toArray, List.set_cons_succ, List.set_cons_zero]
          refine dw_next (T := T) m 8 (by rw [HKL.out]; rfl) 45 rfl rfl rfl rfl (fun wv => ?_) ?_
          · go_simp <;> rfl
          rintro r hr
          simp only [Act.put, List.setIfInBounds_toArray, List.set_cons_succ, List.set_cons_zero]
          have hr1 : decide ((r : Int) < (m : Int)) = true := by simp; omega
          have hr0 : decide ((0 : Int) ≤ (r : Int)) = true := by simp
          obtain ⟨x, hx⟩ := get_of HOL.out hr
          have HXX := hid hx
          have HXR := hid (HRK.out x (List.mem_of_getElem? hx))
          clear hx
          refine dw_val rfl rfl rfl ?_; apply Exists.intro; refine ⟨fun wv HC => ?_, ?_⟩
          ·  go_simp <;> rfl
          simp only [Act.put, List.setIfInBounds_toArray, List.set_cons_succ, List.set_cons_zero]
          refine rel_nil ?_
          rintro wx2 HX
          rintro _hrm HGW
          clear HGW _hrm
          rw [HKL.out] at HX
          clear HF KN HKL
          obtain ⟨xid, xA, xn, xc, xvs⟩ := x
          (try dsimp only at *)
          obtain rfl : n = xn := HXR.out.2.2.symm
          obtain ⟨gx, rfl⟩ : ∃ g, xA = some ⟨g, 0, none⟩ := by
            rcases own_addr ((HX.ro 1 rfl).now _ (List.mem_of_getElem? HXX.out)) with ⟨_, h, _⟩ | ⟨g, h, _⟩
            · (try dsimp only at h); omega
            · exact ⟨g, h⟩
          have N4 := HX.apart_ 0 3 rfl rfl (by omega) rfl rfl
          have N5 := HX.apart_ 0 2 rfl rfl (by omega) rfl rfl
          have N6 := N4.symm
          have N7 := N5.symm
          obtain ⟨⟨q0, q1⟩, ⟨q2, q3⟩, q4⟩ := own_rw (HX.get 0 rfl) HXX.out
          dsimp only at q0 q1
          have FX_ := HX.facts
          simp only [World.size_alloc, World.size_drew, factsL, cellsF, Nat.reduceAdd, List.toList_toArray, List.set_cons_zero, List.set_cons_succ, List.setIfInBounds_toArray, and_true, true_and] at FX_
          have HCN0 := hid (And.intro HXR.out.1.nc HXR.out.1.c)
          have HCN1 := hid (show xvs.length = n from HXR.out.2.1)
          by_cases hx1 : xc = 1
          · have hn1' : n = 1 := by have h := HCN0.out.1; (try dsimp only at h); omega
            have HCN := hid (show n - 1 ≤ 0 ∧ 0 ≤ 9223372036854775807 from ⟨by omega, by omega⟩)
            have HTV := hid (show ∀ (A : Option Addr) (w : World), VlsIn A (n - 1) xvs.tail w from fun A w => tail_vls0 hn1' HCN1.out)
            clear hn1'
            have hv : Ro wx2 _ (ValsIn (outs.set r (Rw.mk xid (some ⟨gx, 0, none⟩) (n - 1) 0 xvs.tail))) := (HX.ro 1 rfl).imp fun w2 h2 z hz => (List.mem_or_eq_of_mem_set hz).elim (fun h => h2.vals z h) (fun h => by subst h; exact HTV.out _ _)
            have KP := (HX.add hv).put_ 1 rfl (r * 2 + 1) (.slice (some ⟨gx, 0, none⟩) (n - 1) 0)
            rw [rwCells_setVs HXX.out (some ⟨gx, 0, none⟩) (n - 1) 0 xvs.tail] at KP
            simp only [List.set_cons_zero, List.set_cons_succ] at KP
            have KQ := (KP.swapRo 2 rfl (KP.ro 0 rfl)).drop (List.sublist_cons_self _ _)
            simp only [List.set_cons_zero, List.set_cons_succ] at KQ
            have HOK3 := hid (show ∀ z ∈ outs.set r (Rw.mk xid (some ⟨gx, 0, none⟩) (n - 1) 0 xvs.tail), z.ok ∧ z.vs.length ≤ 1000 from rOk_set (fun z hz => rOut (HRK.out z hz) hn) ⟨⟨HXR.out.1.id, HCN.out.1, HCN.out.2, fun v hv => HXR.out.1.vs v (List.mem_of_mem_tail hv)⟩, by show xvs.tail.length ≤ 1000; rw [List.length_tail]; have := HCN1.out; omega⟩)
            clear hv
            have KS := KQ.sealRow 0 rfl
            simp only [List.set_cons_zero, List.set_cons_succ, List.setIfInBounds_toArray] at KS
            have KN := (((KS.store 3 rfl 0 (.string nm)).store 3 rfl 1 (.slice A n c)).store 3 rfl 2 (.int .i64 nx)).store 3 rfl 3 (.slice (some ⟨go, 0, none⟩) m cap)
            have r2 := KN.roOut 0 rfl
            have r3 := KN.roOut 1 rfl
            go_wp2_with fail
            exact bodyPost_ret (v := .agg #[.string nm, .slice A n c, .int .i64 nx, .slice (some ⟨go, 0, none⟩) m cap]) (by simp [results, Tryd.results31, go_sem, FX_, NK, q0, q1, q2, q3, q4, N4, N5, N6, N7]) rfl (someTab_of HNM.out HCS.out (by have := HL.out; omega) hnc hc hcap.1 hcap.2.1 (by rw [List.length_set]; have := HOL.out; omega) HOK3.out (KN.roOut 6 rfl) (r2.and r3) (KN.tp_ 8 rfl) KN.grow)
          · have HCN := hid (show n - 1 ≤ xc - 1 ∧ xc - 1 ≤ 9223372036854775807 by have h1 := HCN0.out.1; have h2 := HCN0.out.2; (try dsimp only at h1 h2); omega)
            have hv : Ro wx2 _ (ValsIn (outs.set r (Rw.mk xid (some ⟨gx, 3, none⟩) (n - 1) (xc - 1) xvs.tail))) := (HX.ro 1 rfl).imp fun w2 h2 z hz => (List.mem_or_eq_of_mem_set hz).elim (fun h => h2.vals z h) (fun h => by subst h; exact tail_vls (h2.vals _ (List.mem_of_getElem? HXX.out)) (by omega))
            have KP := (HX.add hv).put_ 1 rfl (r * 2 + 1) (.slice (some ⟨gx, 3, none⟩) (n - 1) (xc - 1))
            rw [rwCells_setVs HXX.out (some ⟨gx, 3, none⟩) (n - 1) (xc - 1) xvs.tail] at KP
            simp only [List.set_cons_zero, List.set_cons_succ] at KP
            have KQ := (KP.swapRo 2 rfl (KP.ro 0 rfl)).drop (List.sublist_cons_self _ _)
            simp only [List.set_cons_zero, List.set_cons_succ] at KQ
            have HOK3 := hid (show ∀ z ∈ outs.set r (Rw.mk xid (some ⟨gx, 3, none⟩) (n - 1) (xc - 1) xvs.tail), z.ok ∧ z.vs.length ≤ 1000 from rOk_set (fun z hz => rOut (HRK.out z hz) hn) ⟨⟨HXR.out.1.id, HCN.out.1, HCN.out.2, fun v hv => HXR.out.1.vs v (List.mem_of_mem_tail hv)⟩, by show xvs.tail.length ≤ 1000; rw [List.length_tail]; have := HCN1.out; omega⟩)
            clear hv
            have KS := KQ.sealRow 0 rfl
            simp only [List.set_cons_zero, List.set_cons_succ, List.setIfInBounds_toArray] at KS
            have KN := (((KS.store 3 rfl 0 (.string nm)).store 3 rfl 1 (.slice A n c)).store 3 rfl 2 (.int .i64 nx)).store 3 rfl 3 (.slice (some ⟨go, 0, none⟩) m cap)
            have r2 := KN.roOut 0 rfl
            have r3 := KN.roOut 1 rfl
            go_wp2_with fail
            exact bodyPost_ret (v := .agg #[.string nm, .slice A n c, .int .i64 nx, .slice (some ⟨go, 0, none⟩) m cap]) (by simp [results, Tryd.results31, go_sem, FX_, NK, q0, q1, q2, q3, q4, N4, N5, N6, N7]) rfl (someTab_of HNM.out HCS.out (by have := HL.out; omega) hnc hc hcap.1 hcap.2.1 (by rw [List.length_set]; have := HOL.out; omega) HOK3.out (KN.roOut 6 rfl) (r2.and r3) (KN.tp_ 8 rfl) KN.grow)
        · have hg0 : decide ((m : Int) > 0) = false := by simp; omega
          have hg1 : decide (0 < m) = false := by simp; omega
          have KS := K2.sealRow 0 rfl
          simp only [List.set_cons_zero, List.set_cons_succ, List.setIfInBounds_toArray] at KS
          have KN := (((KS.store 3 rfl 0 (.string nm)).store 3 rfl 1 (.slice A n c)).store 3 rfl 2 (.int .i64 nx)).store 3 rfl 3 (.slice O m cap)
          have r2 := KN.roOut 0 rfl
          have r3 := KN.roOut 1 rfl
          go_wp2_with fail
          exact bodyPost_ret (v := .agg #[.string nm, .slice A n c, .int .i64 nx, .slice O m cap]) (by simp [results, Tryd.results31, go_sem, F2, NK]) rfl (someTab_of HNM.out HCS.out (by have := HL.out; omega) hnc hc hcap.1 hcap.2.1 (by have := HOL.out; omega) (fun r hr => rOut (HRK.out r hr) hn) (KN.roOut 6 rfl) (r2.and (r3.imp fun w h => h.vals)) (KN.tp_ 8 rfl) KN.grow)

end Go.Proofs.YtljmclbedpceoaaDoor

namespace Go.Proofs.YtljmclbedpceoaaDoor
open Go.RowKit
set_option linter.unusedVariables false
set_option linter.unusedSimpArgs false

def OneName (s : ByteArray) : Prop := s = ⟨#[116]⟩ ∨ s = ⟨#[117]⟩ ∨ s = ⟨#[108, 111, 103]⟩
def DrawnName (w : World) (T : Nat) (e : Ending) (w' : World) : Prop := ∃ s : ByteArray, e = .returned (.string s) ∧ OneName s ∧ Tp w' T ∧ w.grownBy w' (some T)
set_option maxHeartbeats 1000000 in
theorem tname_any (M : Nat → Prop) (T : Nat) (w : World) (hM : ∀ b, M b → b < w.heap.size) (ht : Tp w T) (hMT : ∀ b, M b → T ≤ b) : Calls Tryd.prog 20 #[.pointer (some ⟨T, 0, none⟩)] w fun e w' => DrawnName w T e w' := by
  have K0 := (Hold.startT M w T hM ht hMT).alloc_cst #[.string ⟨#[116]⟩, .string ⟨#[117]⟩, .string ⟨#[108, 111, 103]⟩] 9
  go_enter Tryd.func20, Tryd.ntmps20
  go_wp2_with fail
  refine (next_any T 3 _ (K0.tp_ 1 rfl) (by omega) (by omega)).mono ?_
  rintro e w1 ⟨r, rfl, r0, r1, t1, g1⟩
  have K1 := Hold.callT K0 1 rfl g1 t1
  have F1 := K1.facts
  simp only [World.size_alloc, World.size_drew, factsL, cellsF, Nat.reduceAdd, List.toList_toArray, List.set_cons_zero, List.set_cons_succ, List.setIfInBounds_toArray, and_true, true_and] at F1
  clear K0 g1 t1
  obtain ⟨r, rfl⟩ := Int.eq_ofNat_of_zero_le r0
  obtain rfl | rfl | rfl : r = 0 ∨ r = 1 ∨ r = 2 := by omega
  · go_wp2_with fail
    go_ret
    exact ⟨_, rfl, .inl rfl, K1.tp_ 1 rfl, K1.grow⟩
  · go_wp2_with fail
    go_ret
    exact ⟨_, rfl, .inr (.inl rfl), K1.tp_ 1 rfl, K1.grow⟩
  · go_wp2_with fail
    go_ret
    exact ⟨_, rfl, .inr (.inr rfl), K1.tp_ 1 rfl, K1.grow⟩
/-- what is known of a schema of the three -/
structure SchOk (nm : ByteArray) (cs : List Col) : Prop where
  val : schemaB nm cs = true
  col : ∀ x ∈ cs, ColOk x
  key : KeyOne cs
  len : 1 ≤ cs.length ∧ cs.length ≤ 4
  nm : nm.size ≤ maxLen
  cs : ∀ x ∈ cs, x.name.size ≤ maxLen
def keyOneB (cs : List Col) : Bool := (List.range cs.length).all fun i => match cs[i]? with | some c => !c.key || findB Col.key cs == (i : Int) | none => true
theorem keyOne_of {cs : List Col} (h : keyOneB cs = true) : KeyOne cs := fun i c hc hk => by
  have h1 := List.all_eq_true.1 h i (List.mem_range.2 (List.getElem?_eq_some_iff.1 hc).1)
  simp only [hc, hk, Bool.not_true, Bool.false_or, beq_iff_eq] at h1
  exact h1
def colOkB (c : Col) : Bool := c.ty == 1 || c.ty == 2 || c.ty == 3
def schOkB (nm : ByteArray) (cs : List Col) : Bool := schemaB nm cs && cs.all colOkB && keyOneB cs && decide (1 ≤ cs.length) && decide (cs.length ≤ 4) && decide (nm.size ≤ 100) && cs.all fun x => decide (x.name.size ≤ 100)
theorem schOk_of {nm : ByteArray} {cs : List Col} (h : schOkB nm cs = true) : SchOk nm cs := by
  unfold schOkB at h
  simp only [Bool.and_eq_true, decide_eq_true_eq] at h
  obtain ⟨⟨⟨⟨⟨⟨h1, h2⟩, h3⟩, h4⟩, h5⟩, h6⟩, h7⟩ := h
  refine ⟨h1, fun x hx => ?_, keyOne_of h3, ⟨h4, h5⟩, by unfold maxLen; omega, fun x hx => ?_⟩
  · have := List.all_eq_true.1 h2 x hx
    simpa [colOkB, ColOk, or_assoc] using this
  · have := List.all_eq_true.1 h7 x hx
    simp only [decide_eq_true_eq] at this
    unfold maxLen; omega
theorem schOk_t : schOkB (schemaOf ⟨#[116]⟩).1 (schemaOf ⟨#[116]⟩).2 = true := by decide +kernel
theorem schOk_u : schOkB (schemaOf ⟨#[117]⟩).1 (schemaOf ⟨#[117]⟩).2 = true := by decide +kernel
theorem schOk_log : schOkB (schemaOf ⟨#[108, 111, 103]⟩).1 (schemaOf ⟨#[108, 111, 103]⟩).2 = true := by decide +kernel
theorem schOk_name {s : ByteArray} (h : OneName s) : SchOk (schemaOf s).1 (schemaOf s).2 := by
  rcases h with rfl | rfl | rfl
  · exact schOk_of schOk_t
  · exact schOk_of schOk_u
  · exact schOk_of schOk_log
end Go.Proofs.YtljmclbedpceoaaDoor

namespace Go.Proofs.YtljmclbedpceoaaDoor
open Go.RowKit
set_option linter.unusedVariables false
set_option linter.unusedSimpArgs false

end Go.Proofs.YtljmclbedpceoaaDoor

namespace Go.Proofs.YtljmclbedpceoaaDoor
open Go.RowKit
set_option linter.unusedVariables false
set_option linter.unusedSimpArgs false

/-- the new rows -/
def insR (nx : Int) (ins : List (List Vl)) : List Row := ins.zipIdx.map fun p => (nx + (p.2 : Int), p.1)
theorem PrsIn.tail {w : World} {b o k : Nat} {u : Pr} {us : List Pr} (h : PrsIn (some ⟨b, o, none⟩) (k + 1) (u :: us) w) : PrsIn (some ⟨b, o + 3, none⟩) k us w := by
  refine ⟨?_, fun r hr => h.2 r (List.mem_cons_of_mem _ hr)⟩
  have h1 : Rd w w.heap.size 3 (some ⟨b, o, none⟩) (k + 1) (prCells (u :: us)) := h.1
  have hl := h1.1
  refine ⟨by simp [prCells, Pr.cells] at hl ⊢; omega, fun hk => ?_⟩
  obtain ⟨b', o', e, hb, hc⟩ := h1.2 (by omega)
  obtain ⟨rfl, rfl⟩ : b = b' ∧ o = o' := by injection e with e; injection e with a1 a2; exact ⟨a1, a2⟩
  refine ⟨b, o + 3, rfl, hb, fun j v hv => ?_⟩
  have := hc (3 + j) v (by
    show (prCells (u :: us))[3 + j]? = some v
    unfold prCells
    rw [List.flatMap_cons, List.getElem?_append_right (by simp [Pr.cells])]
    simpa [Pr.cells, prCells] using hv)
  rwa [show o + (3 + j) = o + 3 + j by omega] at this
theorem PrsIn.zero {w : World} (A : Option Addr) : PrsIn A 0 [] w := ⟨⟨by simp [prCells], fun h => absurd h (by omega)⟩, fun r hr => nomatch hr⟩
end Go.Proofs.YtljmclbedpceoaaDoor

namespace Go.Proofs.YtljmclbedpceoaaDoor
open Go.RowKit
set_option linter.unusedVariables false
set_option linter.unusedSimpArgs false

/-- the values that the updates ask for -/
def wantR (us : List Upd) (id : Int) (v : List Vl) : List Vl := us.foldl (fun acc p => if p.1 = id then p.2.2 else acc) v
def keepR (dels : List Int) (us : List Upd) (rs : List Row) : List Row := (rs.filter fun r => !dels.contains r.1).map fun r => (r.1, wantR us r.1 r.2)
theorem okR_asc {cs : List Col} {nx : Int} : ∀ {lst : Int} {rs : List Row}, okR cs nx lst rs = true → (rs.map (·.1)).Pairwise (· < ·) ∧ ∀ r ∈ rs, lst < r.1 ∧ r.1 < nx
  | _, [], _ => ⟨List.Pairwise.nil, fun _ h => nomatch h⟩
  | lst, r :: rs, h => by
    rw [okR] at h
    simp only [Bool.and_eq_true, decide_eq_true_eq] at h
    obtain ⟨h1, h2⟩ := okR_asc h.2
    refine ⟨?_, fun x hx => ?_⟩
    · rw [List.map_cons, List.pairwise_cons]
      refine ⟨fun a ha => ?_, h1⟩
      obtain ⟨x, hx, rfl⟩ := List.mem_map.1 ha
      exact (h2 x hx).1
    · rcases List.mem_cons.1 hx with rfl | hx
      · exact ⟨h.1.1.1, h.1.1.2⟩
      · exact ⟨Int.lt_trans h.1.1.1 (h2 x hx).1, (h2 x hx).2⟩
/-- What is known of a change that succeeds. -/
structure ApOk (nm : ByteArray) (cs : List Col) (nx : Int) (rs : List Row) (ins : List (List Vl)) (dels : List Int) (us : List Upd) (T : Tb) : Prop where
  tab : tabB nm cs nx rs = true
  tb : T = ⟨nm, cs, nx + ins.length, keepR dels us rs ++ insR nx ins⟩
  asc : (rs.map (·.1)).Pairwise (· < ·)
  low : ∀ r ∈ rs, 0 < r.1 ∧ r.1 < nx
  dasc : dels.Pairwise (· < ·)
  din : ∀ id ∈ dels, id ∈ rs.map (·.1)
  uasc : (us.map (·.1)).Pairwise (· < ·)
  uin : ∀ u ∈ us, u.1 ∈ rs.map (·.1) ∧ dels.contains u.1 = false
  dup : dupB cs (keepR dels us rs ++ insR nx ins) = false
  fits : (∀ u ∈ us, fitsT cs u.2.2 = 0) ∧ ∀ v ∈ ins, fitsT cs v = 0
  lim : (rs.length : Int) - dels.length + ins.length ≤ 100
  nlim : (ins.length : Int) ≤ 2147483648 - nx
theorem tabB_ok {nm : ByteArray} {cs : List Col} {nx : Int} {rs : List Row} (h : tabB nm cs nx rs = true) : schemaB nm cs = true ∧ rs.length ≤ 100 ∧ 1 ≤ nx ∧ nx ≤ 2147483648 ∧ okR cs nx 0 rs = true ∧ dupB cs rs = false := by
  unfold tabB at h
  simp only [Bool.and_eq_true, decide_eq_true_eq, Bool.not_eq_true'] at h
  obtain ⟨⟨⟨⟨⟨h1, h2⟩, h3⟩, h4⟩, h5⟩, h6⟩ := h
  exact ⟨h1, h2, h3, h4, h5, h6⟩
theorem find_uniq {l : List Row} (h : (l.map (·.1)).Pairwise (· < ·)) {r : Row} (hr : r ∈ l) : l.find? (fun x => x.1 == r.1) = some r := by
  induction l with
  | nil => cases hr
  | cons x l ih =>
    obtain ⟨h1, h2⟩ := List.pairwise_cons.1 h
    rcases List.mem_cons.1 hr with rfl | hr
    · simp
    · have : x.1 < r.1 := h1 r.1 (List.mem_map_of_mem (f := fun x : Row => x.1) hr)
      rw [List.find?_cons, show (x.1 == r.1) = false by rw [beq_eq_false_iff_ne]; omega]
      exact ih h2 hr
theorem getR_none {l : List Row} {id : Int} (h : ∀ r ∈ l, r.1 ≠ id) : getR l id = none := by
  unfold getR
  rw [List.find?_eq_none.2 fun x hx => by simpa using h x hx]; rfl
theorem getR_app (a b : List Row) (id : Int) : getR (a ++ b) id = (getR a id).or (getR b id) := by
  unfold getR
  rw [List.find?_append]
  cases a.find? (fun r => r.1 == id) <;> simp
theorem insR_at : ∀ (ins : List (List Vl)) (nx : Int) (i : Nat), getR (insR nx ins) (nx + (i : Int)) = ins[i]? := by
  intro ins nx i
  have key : ∀ (l : List (List Vl)) (k : Nat) (i : Nat), k ≤ i → getR ((l.zipIdx k).map fun p => (nx + (p.2 : Int), p.1)) (nx + (i : Int)) = l[i - k]? := by
    intro l
    induction l with
    | nil => intro k i _; simp [getR]
    | cons v l ih =>
      intro k i hki
      rw [List.zipIdx_cons, List.map_cons]
      by_cases h : k = i
      · subst h
        simp [getR]
      · have h2 := ih (k + 1) i (by omega)
        have e : i - k = (i - (k + 1)) + 1 := by omega
        rw [e, List.getElem?_cons_succ, ← h2]
        unfold getR
        rw [List.find?_cons, show ((nx + (k : Int), v).1 == nx + (i : Int)) = false by rw [beq_eq_false_iff_ne]; show nx + (k : Int) ≠ _; omega]
  have := key ins 0 i (by omega)
  simpa [insR] using this
theorem insR_ge {ins : List (List Vl)} {nx : Int} : ∀ r ∈ insR nx ins, nx ≤ r.1 := fun r hr => by
  unfold insR at hr
  obtain ⟨p, _, rfl⟩ := List.mem_map.1 hr
  show nx ≤ nx + (p.2 : Int)
  omega
section
variable {nm : ByteArray} {cs : List Col} {nx : Int} {rs : List Row} {ins : List (List Vl)} {dels : List Int} {us : List Upd} {T : Tb}
theorem ApOk.asc2 (h : ApOk nm cs nx rs ins dels us T) : ((keepR dels us rs).map (·.1)).Pairwise (· < ·) := by
  have e : (keepR dels us rs).map (·.1) = (rs.filter fun r => !dels.contains r.1).map (·.1) := by simp [keepR]
  rw [e]
  exact List.Pairwise.sublist (List.Sublist.map _ List.filter_sublist) h.asc
/-- a row of before -/
theorem ApOk.old (h : ApOk nm cs nx rs ins dels us T) {r : Row} (hr : r ∈ rs) : getR T.rs r.1 = if dels.contains r.1 then none else some (wantR us r.1 r.2) := by
  rw [h.tb]
  show getR (keepR dels us rs ++ insR nx ins) r.1 = _
  rw [getR_app, getR_none (l := insR nx ins) fun x hx => by have := insR_ge x hx; have := (h.low r hr).2; omega, Option.or_none]
  cases hd : dels.contains r.1
  · have hm : (r.1, wantR us r.1 r.2) ∈ keepR dels us rs := List.mem_map.2 ⟨r, List.mem_filter.2 ⟨hr, by simp only [hd]; rfl⟩, rfl⟩
    have := find_uniq h.asc2 hm
    unfold getR
    rw [this]; simp
  · rw [getR_none fun x hx => ?_]
    · simp
    · obtain ⟨y, hy, rfl⟩ := List.mem_map.1 hx
      have := (List.mem_filter.1 hy).2
      intro e
      have e : y.1 = r.1 := e
      rw [e, hd] at this
      cases this
/-- a new row -/
theorem ApOk.new (h : ApOk nm cs nx rs ins dels us T) (i : Nat) : getR T.rs (nx + (i : Int)) = ins[i]? := by
  rw [h.tb]
  show getR (keepR dels us rs ++ insR nx ins) _ = _
  rw [getR_app, getR_none (l := keepR dels us rs) fun x hx => ?_, Option.none_or, insR_at]
  obtain ⟨y, hy, rfl⟩ := List.mem_map.1 hx
  have := (h.low y (List.mem_filter.1 hy).1).2
  show y.1 ≠ _
  omega
theorem ApOk.len (h : ApOk nm cs nx rs ins dels us T) : (T.rs.length : Int) = rs.length - dels.length + ins.length := by
  rw [h.tb]
  show ((keepR dels us rs ++ insR nx ins).length : Int) = _
  have h1 : (insR nx ins).length = ins.length := by simp [insR]
  have h2 : (keepR dels us rs).length = (rs.filter fun r => !dels.contains r.1).length := by simp [keepR]
  have hnd : (rs.map (·.1)).Nodup := h.asc.imp fun h => by omega
  have hdn : dels.Nodup := h.dasc.imp fun h => by omega
  have hp : ((rs.map (·.1)).filter fun id => dels.contains id).Perm dels := (List.perm_ext_iff_of_nodup (hnd.sublist List.filter_sublist) hdn).2 fun a => by
    simp only [List.mem_filter, List.contains_iff_mem]
    exact ⟨fun k => k.2, fun k => ⟨h.din a k, k⟩⟩
  have h3 : (rs.filter fun r => dels.contains r.1).length = dels.length := by
    rw [← hp.length_eq, List.filter_map, List.length_map]; rfl
  have h4 : (rs.filter fun r => dels.contains r.1).length + (rs.filter fun r => !dels.contains r.1).length = rs.length := by
    have : ∀ l : List Row, (l.filter fun r => dels.contains r.1).length + (l.filter fun r => !dels.contains r.1).length = l.length := by
      intro l
      induction l with
      | nil => rfl
      | cons x l ih => cases hx : dels.contains x.1 <;> simp only [List.filter_cons, hx, if_true, if_false, Bool.not_true, Bool.not_false, List.length_cons, Bool.false_eq_true] <;> omega
    exact this rs
  rw [List.length_append, h1, h2]
  omega
end
end Go.Proofs.YtljmclbedpceoaaDoor

namespace Go.Proofs.YtljmclbedpceoaaDoor
open Go.RowKit
set_option linter.unusedVariables false
set_option linter.unusedSimpArgs false

def SlVals (l : List Sl) (w : World) : Prop := ∀ r ∈ l, VlsIn r.A r.n r.vs w
theorem sls_snoc {M : Nat → Prop} {w : World} {rs : List Sl} {r : Sl} (h : Ro w M (SlVals rs)) (k : Ro w M (VlsIn r.A r.n r.vs)) : Ro w M (SlVals (rs ++ [r])) := fun w2 h1 h2 x hx => by
  rcases List.mem_append.1 hx with hx | hx
  · exact h w2 h1 h2 x hx
  · simp at hx; subst hx; exact k w2 h1 h2
theorem Tryd.elSlc : ElemT Tryd.prog 25 27 1 24 (.slice none 0 0) := ⟨Tryd.underlying25, by kernel_rfl, rfl, by omega⟩
end Go.Proofs.YtljmclbedpceoaaDoor

namespace Go.Proofs.YtljmclbedpceoaaDoor
open Go.RowKit
set_option linter.unusedVariables false
set_option linter.unusedSimpArgs false

/-- a valid table of a schema of the three -/
structure VTab (t : Tb) : Prop where
  sch : SchOk t.nm t.cs
  val : tabB t.nm t.cs t.nx t.rs = true
theorem VTab.fit {t : Tb} (h : VTab t) {l : List Rw} (hl : l.map Rw.row = t.rs) : ∀ r ∈ l, r.vs.length = t.cs.length := fun r hr => by
  obtain ⟨_, _, _, _, hok, _⟩ := tabB_ok h.val
  exact fitsT_len (okR_fits hok r.row (by rw [← hl]; exact List.mem_map_of_mem hr))
theorem VTab.rows {t : Tb} (h : VTab t) : t.rs.length ≤ 100 := (tabB_ok h.val).2.1
theorem VTab.len {t : Tb} (h : VTab t) : ∀ r ∈ t.rs, r.2.length ≤ 4 := fun r hr => by
  obtain ⟨_, _, _, _, hok, _⟩ := tabB_ok h.val
  have h1 := fitsT_len (okR_fits hok r hr)
  have h2 := h.sch.len
  omega
theorem tof_slot (M : Nat → Prop) (T : Nat) (w : World) (hM : ∀ b, M b → b < w.heap.size) (ht : Tp w T) (hMT : ∀ b, M b → T ≤ b) (nm : ByteArray) (A : Option Addr) (n c : Nat) (cs : List Col) (N : Nat) (hD : Ro w (Mut M [.tp T]) (ColsIn A n cs)) (hc1 : n ≤ c) (hc2 : c ≤ 9223372036854775807) (hs : SchOk nm cs) (hW : Ro w (Mut M [.tp T]) Wds) (hw : 1 < T) (hN : N ≤ 50) :
    Calls Tryd.prog 18 #[.pointer (some ⟨T, 0, none⟩), .agg #[.string nm, .slice A n c], .int .i64 N] w fun e w' => ∃ (v : Value) (t : Tb), e = .returned v ∧ TbAt w' M v t ∧ VTab t ∧ t.nm = nm ∧ t.cs = cs ∧ t.rs.length ≤ N ∧ Tp w' T ∧ w.grownBy w' (some T) := by
  have hn : cs.length = n := cols_n hD.now
  have hl := hs.len
  refine (tof_any M T w hM ht hMT nm A n c cs N hD hW hw (by omega) hc1 hc2 hs.col hs.val hs.key hN).mono ?_
  rintro e w' ⟨v, nx, rs, rfl, hT, hv, hr, t1, g1⟩
  exact ⟨v, _, rfl, hT, ⟨hs, hv⟩, rfl, rfl, hr, t1, g1⟩
end Go.Proofs.YtljmclbedpceoaaDoor

namespace Go.Proofs.YtljmclbedpceoaaDoor
open Go.RowKit
set_option linter.unusedVariables false
theorem tbAt_arg {W : World} {t : TbV} (h : TbV.Ok W t) {M : Nat → Prop} (hM : ∀ b, b < W.heap.size → ¬ M b) : TbAt W M (.agg t.cells.toArray) ⟨t.nm, t.cs.l, t.nx, t.rs.l.map Rw.row⟩ :=
  ⟨t.cs.A, t.cs.n, t.cs.c, t.rs.A, t.rs.n, t.rs.c, t.rs.l, rfl, h.cs.nc, Nat.le_trans h.cs.max maxLen_le, h.rs.nc, Nat.le_trans h.rs.max maxLen_le, ro_cols h.cs hM, ro_rows h.rs hM, fun r hr => (h.rs.ok r hr).ok, rfl⟩
theorem tbArg_rows {W : World} {t : TbV} (h : TbV.Ok W t) : ∀ r ∈ t.rs.l.map Rw.row, r.2.length ≤ 4398046511104 := fun r hr => by
  obtain ⟨x, hx, rfl⟩ := List.mem_map.1 hr
  have h1 := h.rs.ok x hx
  have h2 : x.vs.length = x.n := VlsIn.len h1.vs
  have h3 := h1.n
  show x.vs.length ≤ _
  omega
theorem tbArg_cs {W : World} {t : TbV} (h : TbV.Ok W t) : ∀ x ∈ t.cs.l, x.name.size ≤ maxLen := fun x hx => (h.cs.ok x hx).2
end Go.Proofs.YtljmclbedpceoaaDoor

namespace Go.Proofs.YtljmclbedpceoaaDoor
open Go.RowKit
set_option linter.unusedVariables false
set_option linter.unusedSimpArgs false

structure Te where
  nm : ByteArray
  A : Option Addr
  n : Nat
  c : Nat
  cs : List Col
  nx : Int
  B : Option Addr
  m : Nat
  d : Nat
  l : List Rw
def Te.cells (x : Te) : List Value := [.string x.nm, .slice x.A x.n x.c, .int .i64 x.nx, .slice x.B x.m x.d]
def Te.val (x : Te) : Value := .agg #[.string x.nm, .slice x.A x.n x.c, .int .i64 x.nx, .slice x.B x.m x.d]
def Te.tb (x : Te) : Tb := ⟨x.nm, x.cs, x.nx, x.l.map Rw.row⟩
def TeIn (x : Te) (w : World) : Prop := ColsIn x.A x.n x.cs w ∧ RwsIn x.B x.m x.l w
structure Te.ok (x : Te) : Prop where
  nc : x.n ≤ x.c
  c : x.c ≤ 9223372036854775807
  md : x.m ≤ x.d
  d : x.d ≤ 9223372036854775807
  l : ∀ r ∈ x.l, r.ok
theorem tb_te {w : World} {M : Nat → Prop} {v : Value} {t : Tb} (h : TbAt w M v t) : ∃ x : Te, v = x.val ∧ x.tb = t ∧ x.ok ∧ Ro w M (TeIn x) := by
  obtain ⟨A, n, c, B, m, d, l, rfl, h1, h2, h3, h4, h5, h6, h7, h8⟩ := h
  exact ⟨⟨t.nm, A, n, c, t.cs, t.nx, B, m, d, l⟩, rfl, by simp only [Te.tb, h8], ⟨h1, h2, h3, h4, h7⟩, h5.and h6⟩
theorem te_tb {w : World} {M : Nat → Prop} {x : Te} (h : x.ok) (r : Ro w M (TeIn x)) : TbAt w M x.val x.tb :=
  ⟨x.A, x.n, x.c, x.B, x.m, x.d, x.l, rfl, h.nc, h.c, h.md, h.d, r.imp fun w h => h.1, r.imp fun w h => h.2, h.l, rfl⟩
/-- a table within the limits that the contracts ask -/
structure TbM (t : Tb) : Prop where
  nm : t.nm.size ≤ maxLen
  cs : ∀ x ∈ t.cs, x.name.size ≤ maxLen
  rs : t.rs.length ≤ 4398046511104
  row : ∀ r ∈ t.rs, r.2.length ≤ 4398046511104
def teCells (l : List Te) : List Value := l.flatMap Te.cells
theorem teCells_len (l : List Te) : (teCells l).length = l.length * 4 := flat_len _ 4 (fun _ => rfl) l
def TesIn (A : Option Addr) (n : Nat) (l : List Te) (w : World) : Prop := SlR 4 A n (teCells l) w ∧ ∀ x ∈ l, TeIn x w
theorem TesIn.len {w : World} {A : Option Addr} {n : Nat} {l : List Te} (h : TesIn A n l w) : l.length = n := by
  have := (show Rd w w.heap.size 4 A n (teCells l) from h.1).1
  rw [teCells_len] at this
  omega
theorem TesIn.at_ {w : World} {A : Option Addr} {n : Nat} {l : List Te} (h : TesIn A n l w) {k : Nat} {x : Te} (hx : l[k]? = some x) :
    ∃ b o, A = some ⟨b, o, none⟩ ∧ b < w.heap.size ∧ w.cell? ⟨b, o + k * 4, none⟩ = some (.string x.nm) ∧ w.cell? ⟨b, o + k * 4 + 1, none⟩ = some (.slice x.A x.n x.c) ∧ w.cell? ⟨b, o + k * 4 + 2, none⟩ = some (.int .i64 x.nx) ∧ w.cell? ⟨b, o + k * 4 + 3, none⟩ = some (.slice x.B x.m x.d) ∧ TeIn x w := by
  have hk : k < n := by rw [← h.len]; exact (List.getElem?_eq_some_iff.1 hx).1
  obtain ⟨b, o, e, hb, hc⟩ := (show Rd w w.heap.size 4 A n (teCells l) from h.1).2 (by omega)
  exact ⟨b, o, e, hb, hc _ _ (flat_get Te.cells 4 (fun _ => rfl) l k 0 x (by omega) hx), hc _ _ (flat_get Te.cells 4 (fun _ => rfl) l k 1 x (by omega) hx), hc _ _ (flat_get Te.cells 4 (fun _ => rfl) l k 2 x (by omega) hx), hc _ _ (flat_get Te.cells 4 (fun _ => rfl) l k 3 x (by omega) hx), h.2 x (List.mem_of_getElem? hx)⟩
/-- a literal list of tables in a new block -/
theorem tes_block {w : World} {M : Nat → Prop} {g : Nat} {t : TypeId} {cs : Array Value} {l : List Te} (h : Ro w M (fun w => w.heap[g]? = some (.cells cs t (0, 0)))) (hl : cs.toList = teCells l) (hr : ∀ x ∈ l, Ro w M (TeIn x)) : Ro w M (TesIn (some ⟨g, 0, none⟩) l.length l) := by
  have h1 : Ro w M (SlR 4 (some ⟨g, 0, none⟩) l.length cs.toList) := ro_block h (by rw [hl, teCells_len])
  rw [hl] at h1
  exact h1.and fun w2 a b x hx => hr x hx w2 a b
/-- what a valid schema says of its columns -/
theorem okFrom_mem {α : Type} {t : Nat → α → Bool} : ∀ {l : List α} {k : Nat}, okFrom t k l = true → ∀ x ∈ l, ∃ j, t j x = true
  | [], _, _, x, hx => nomatch hx
  | c :: r, k, h, x, hx => by
    rw [okFrom, Bool.and_eq_true] at h
    rcases List.mem_cons.1 hx with rfl | hx
    · exact ⟨k, h.1⟩
    · exact okFrom_mem h.2 x hx
theorem key_first : ∀ {l : List Col} {k i : Nat} {c : Col}, (l.filter Col.key).length ≤ 1 → l[i]? = some c → c.key = true → findFrom Col.key k l = ((k + i : Nat) : Int)
  | x :: r, k, 0, c, _, hc, hk => by
    simp only [List.getElem?_cons_zero, Option.some.injEq] at hc
    subst hc
    rw [findFrom, if_pos hk]; rfl
  | x :: r, k, i + 1, c, hf, hc, hk => by
    simp only [List.getElem?_cons_succ] at hc
    have hm : c ∈ r.filter Col.key := List.mem_filter.2 ⟨List.mem_of_getElem? hc, hk⟩
    have hp := List.length_pos_of_mem hm
    cases hx : x.key with
    | true => simp only [List.filter_cons, hx, if_true, List.length_cons] at hf; omega
    | false =>
      simp only [List.filter_cons, hx, Bool.false_eq_true, if_false] at hf
      rw [findFrom, hx, if_neg (by simp), key_first hf hc hk]
      congr 1; omega
theorem schemaB_says {nm : ByteArray} {l : List Col} (h : schemaB nm l = true) : (∀ x ∈ l, ColOk x) ∧ KeyOne l ∧ 1 ≤ l.length ∧ l.length ≤ 6 := by
  unfold schemaB at h
  simp only [Bool.and_eq_true, decide_eq_true_eq] at h
  obtain ⟨⟨⟨⟨_, h1⟩, h2⟩, h3⟩, h4⟩ := h
  refine ⟨fun x hx => ?_, fun i c hc hk => ?_, h1, h2⟩
  · obtain ⟨j, hj⟩ := okFrom_mem h3 x hx
    unfold colOk at hj
    simp only [Bool.and_eq_true, decide_eq_true_eq] at hj
    unfold ColOk
    omega
  · have := key_first (k := 0) h4 hc hk
    rw [Nat.zero_add] at this
    exact this
end Go.Proofs.YtljmclbedpceoaaDoor

namespace Go.Proofs.YtljmclbedpceoaaDoor
open Go.RowKit
set_option linter.unusedVariables false
theorem tbM_arg {W : World} {t : TbV} (h : TbV.Ok W t) : TbM ⟨t.nm, t.cs.l, t.nx, t.rs.l.map Rw.row⟩ := by
  refine ⟨h.nm, tbArg_cs h, ?_, tbArg_rows h⟩
  have h1 : (rwCells t.rs.l).length = t.rs.n * 2 := h.rs.rd.1
  rw [rwCells_len] at h1
  have h2 := h.rs.reach
  have h3 := h.rs.nc
  show (t.rs.l.map Rw.row).length ≤ _
  rw [List.length_map]
  omega
end Go.Proofs.YtljmclbedpceoaaDoor

namespace Go.Proofs
open Go.Shelf
def Tryd.sortRows_ren : Go.Shelf.Ren := ⟨fun | 6 => 46 | 15 => 80 | 14 => 79 | 28 => 116 | 29 => 117 | 20 => 108 | 21 => 109 | 22 => 110 | 23 => 111 | 24 => 112 | 25 => 113 | 26 => 114 | 27 => 115 | 46 => 130 | 47 => 131 | 48 => 132 | 49 => 133 | 50 => 134 | 57 => 142 | n => n, fun | 22 => 25 | 24 => 27 | 25 => 30 | 3 => 3 | 39 => 114 | 0 => 0 | 53 => 143 | 55 => 145 | 4 => 4 | 46 => 137 | 45 => 136 | 50 => 67 | 5 => 5 | 9 => 9 | 66 => 152 | 70 => 156 | 76 => 160 | 77 => 161 | n => n, fun | n => n⟩
theorem Tryd.sortRows : Go.Proofs.SlLaysF.n6 Tryd.prog Tryd.sortRows_ren := {
  mixed := by kernel_rfl
  f6 := ⟨Tryd.f46.name, by decide, Tryd.func46.trans (congrArg some (by kernel_rfl))⟩
  f14 := ⟨Tryd.f79.name, by decide, Tryd.func79.trans (congrArg some (by kernel_rfl))⟩
  f15 := Tryd.func80.trans (congrArg some (by kernel_rfl))
  f20 := ⟨Tryd.f108.name, by decide, Tryd.func108.trans (congrArg some (by kernel_rfl))⟩
  f21 := ⟨Tryd.f109.name, by decide, Tryd.func109.trans (congrArg some (by kernel_rfl))⟩
  f22 := ⟨Tryd.f110.name, by decide, Tryd.func110.trans (congrArg some (by kernel_rfl))⟩
  f23 := ⟨Tryd.f111.name, by decide, Tryd.func111.trans (congrArg some (by kernel_rfl))⟩
  f24 := ⟨Tryd.f112.name, by decide, Tryd.func112.trans (congrArg some (by kernel_rfl))⟩
  f25 := ⟨Tryd.f113.name, by decide, Tryd.func113.trans (congrArg some (by kernel_rfl))⟩
  f26 := ⟨Tryd.f114.name, by decide, Tryd.func114.trans (congrArg some (by kernel_rfl))⟩
  f27 := ⟨Tryd.f115.name, by decide, Tryd.func115.trans (congrArg some (by kernel_rfl))⟩
  f28 := Tryd.func116.trans (congrArg some (by kernel_rfl))
  f29 := Tryd.func117.trans (congrArg some (by kernel_rfl))
  f46 := ⟨Tryd.f130.name, by decide, Tryd.func130.trans (congrArg some (by kernel_rfl))⟩
  f47 := Tryd.func131.trans (congrArg some (by kernel_rfl))
  f48 := Tryd.func132.trans (congrArg some (by kernel_rfl))
  f49 := ⟨Tryd.f133.name, by decide, Tryd.func133.trans (congrArg some (by kernel_rfl))⟩
  f50 := ⟨Tryd.f134.name, by decide, Tryd.func134.trans (congrArg some (by kernel_rfl))⟩
  f57 := ⟨Tryd.f142.name, by decide, Tryd.func142.trans (congrArg some (by kernel_rfl))⟩
  t0 := Tryd.underlying0
  a0 := Tryd.isAgg0
  z0 := Tryd.sizeOf0
  v0 := Tryd.zeroValue0
  t3 := Tryd.underlying3
  a3 := Tryd.isAgg3
  z3 := Tryd.sizeOf3
  v3 := Tryd.zeroValue3
  t4 := Tryd.underlying4
  a4 := Tryd.isAgg4
  z4 := Tryd.sizeOf4
  v4 := Tryd.zeroValue4
  t5 := Tryd.underlying5
  a5 := Tryd.isAgg5
  z5 := Tryd.sizeOf5
  v5 := Tryd.zeroValue5
  t9 := Tryd.underlying9
  a9 := Tryd.isAgg9
  z9 := Tryd.sizeOf9
  v9 := Tryd.zeroValue9
  t22 := Tryd.underlying25
  a22 := Tryd.isAgg25
  z22 := Tryd.sizeOf25
  v22 := Tryd.zeroValue25
  a24 := Tryd.isAgg27
  z24 := Tryd.sizeOf27
  t25 := Tryd.underlying30
  a25 := Tryd.isAgg30
  z25 := Tryd.sizeOf30
  v25 := Tryd.zeroValue30
  t39 := Tryd.underlying114
  a39 := Tryd.isAgg114
  z39 := Tryd.sizeOf114
  v39 := Tryd.zeroValue114
  t45 := Tryd.underlying136
  a45 := Tryd.isAgg136
  z45 := Tryd.sizeOf136
  v45 := Tryd.zeroValue136
  t46 := Tryd.underlying137
  a46 := Tryd.isAgg137
  z46 := Tryd.sizeOf137
  v46 := Tryd.zeroValue137
  t50 := Tryd.underlying67
  a50 := Tryd.isAgg67
  z50 := Tryd.sizeOf67
  v50 := Tryd.zeroValue67
  t53 := Tryd.underlying143
  a53 := Tryd.isAgg143
  z53 := Tryd.sizeOf143
  v53 := Tryd.zeroValue143
  t55 := Tryd.underlying145
  a55 := Tryd.isAgg145
  z55 := Tryd.sizeOf145
  v55 := Tryd.zeroValue145
  t66 := Tryd.underlying152
  a66 := Tryd.isAgg152
  z66 := Tryd.sizeOf152
  v66 := Tryd.zeroValue152
  t70 := Tryd.underlying156
  a70 := Tryd.isAgg156
  z70 := Tryd.sizeOf156
  v70 := Tryd.zeroValue156
  t76 := Tryd.underlying160
  a76 := Tryd.isAgg160
  z76 := Tryd.sizeOf160
  v76 := Tryd.zeroValue160
  t77 := Tryd.underlying161
  a77 := Tryd.isAgg161
  z77 := Tryd.sizeOf161
  v77 := Tryd.zeroValue161 }
end Go.Proofs

namespace Go.Proofs.YtljmclbedpceoaaDoor
open Go.RowKit
set_option linter.unusedVariables false

def cmpI (a b : Int) : Int := if a < b then -1 else if b < a then 1 else 0
def cmpS (a b : ByteArray) : Int := if Op.bytesLess a.toList b.toList then -1 else if a.toList == b.toList then 0 else 1

theorem cmp_int (a b : Int) (w : World) :
    Calls Tryd.prog 82 #[.int .i64 a, .int .i64 b] w fun e w' => e = .returned (.int .i64 (cmpI a b)) ∧ w = w' := by
  by_cases h1 : a < b
  · go_enter Tryd.func82, Tryd.ntmps82
    go_wp2
    go_ret
    exact ⟨by simp [cmpI, h1], rfl⟩
  · by_cases h2 : b < a
    · go_enter Tryd.func82, Tryd.ntmps82
      go_wp2
      go_ret
      exact ⟨by simp [cmpI, h1, h2], rfl⟩
    · go_enter Tryd.func82, Tryd.ntmps82
      go_wp2
      go_ret
      exact ⟨by rw [show cmpI a b = 0 from by unfold cmpI; rw [if_neg (by omega), if_neg (by omega)]]; rfl, rfl⟩

theorem cmp_int64 (a b : Int) (w : World) :
    Calls Tryd.prog 119 #[.int .i64 a, .int .i64 b] w fun e w' => e = .returned (.int .i64 (cmpI a b)) ∧ w = w' := by
  by_cases h1 : a < b
  · go_enter Tryd.func119, Tryd.ntmps119
    go_wp2
    go_ret
    exact ⟨by simp [cmpI, h1], rfl⟩
  · by_cases h2 : b < a
    · go_enter Tryd.func119, Tryd.ntmps119
      go_wp2
      go_ret
      exact ⟨by simp [cmpI, h1, h2], rfl⟩
    · go_enter Tryd.func119, Tryd.ntmps119
      go_wp2
      go_ret
      exact ⟨by rw [show cmpI a b = 0 from by unfold cmpI; rw [if_neg (by omega), if_neg (by omega)]]; rfl, rfl⟩

theorem cmp_string (a b : ByteArray) (w : World) :
    Calls Tryd.prog 120 #[.string a, .string b] w fun e w' => e = .returned (.int .i64 (cmpS a b)) ∧ w = w' := by
  cases h1 : Op.bytesLess a.toList b.toList
  · cases h2 : (a.toList == b.toList)
    · go_enter Tryd.func120, Tryd.ntmps120
      go_wp2
      go_ret
      exact ⟨by simp [cmpS, h1, h2], rfl⟩
    · go_enter Tryd.func120, Tryd.ntmps120
      go_wp2
      go_ret
      exact ⟨by simp [cmpS, h1, h2], rfl⟩
  · go_enter Tryd.func120, Tryd.ntmps120
    go_wp2
    go_ret
    exact ⟨by simp [cmpS, h1], rfl⟩

/-- The first number that is not 0, or 0. -/
def firstNZ : List Int → Int
  | [] => 0
  | x :: r => if x = 0 then firstNZ r else x

theorem firstNZ_skip (l : List Int) (k : Nat) (h : ∀ j, j < k → l.getD j 0 = 0) : firstNZ l = firstNZ (l.drop k) := by
  induction k generalizing l with
  | zero => simp
  | succ k ih =>
    cases l with
    | nil => simp
    | cons x r =>
      have h0 : x = 0 := by simpa using h 0 (by omega)
      simp only [firstNZ, h0, if_true, List.drop_succ_cons]
      exact ih r (fun j hj => by simpa using h (j + 1) (by omega))

set_option maxHeartbeats 1000000 in
theorem or_int (A : Option Addr) (n c : Nat) (zs : List Int) (w : World) (B : Nat) (hr : Rd w B 1 A n (zs.map (Value.int .i64))) (hn : n ≤ 9223372036854775807) :
    Calls Tryd.prog 118 #[.slice A n c] w fun e w' => e = .returned (.int .i64 (firstNZ zs)) ∧ w = w' := by
  have hl : zs.length = n := by simpa using hr.1
  have HL := hid hl; clear hl
  go_enter Tryd.func118, Tryd.ntmps118
  go_wp2_with fail
  go_loop [8] (fun i => ∃ k : Nat, k ≤ n ∧ i = .int .i64 k ∧ ∀ j, j < k → zs.getD j 0 = 0) (fun i => n - (intOf i).toNat)
  case atStart => exact ⟨0, by omega, rfl, fun j hj => absurd hj (by omega)⟩
  case round =>
    obtain ⟨k, hk, rfl, hz⟩ := hrel
    have HZ := hid hz; clear hz
    by_cases hlt : k < n
    · obtain ⟨b, o, rfl, hb, hc⟩ := hr.at1 hlt
      rw [ints_get _ _ _ (by rw [HL.out]; omega)] at hc
      obtain ⟨x, hx⟩ : ∃ x, x = zs.getD k 0 := ⟨_, rfl⟩
      rw [← hx] at hc
      have HX := hid hx; clear hx
      by_cases h0 : x = 0
      · have k0 : (x != 0) = false := by simpa using h0
        have H0 := hid h0; clear h0
        go_wp2_with fail
        go_round
        case rel =>
          refine ⟨k + 1, by omega, by go_num, fun j hj => ?_⟩
          by_cases e : j = k
          · subst e; rw [← HX.out]; exact H0.out
          · exact HZ.out j (by omega)
        case measure => simp [intOf]; omega
      · have k0 : (x != 0) = true := by simpa using h0
        have HF : Hid (firstNZ zs = x) := by
          unfold Hid
          rw [firstNZ_skip zs k HZ.out, List.drop_eq_getElem_cons (by rw [HL.out]; omega)]
          have : zs[k]'(by rw [HL.out]; omega) = x := by rw [HX.out]; simp [List.getD, show k < zs.length by rw [HL.out]; omega]
          rw [this, firstNZ, if_neg h0]
        clear h0
        go_wp2_with fail
        go_ret
        exact ⟨by rw [HF.out]; rfl, rfl⟩
    · obtain rfl : k = n := by omega
      have HF : Hid (firstNZ zs = 0) := by
        unfold Hid
        rw [firstNZ_skip zs k HZ.out, List.drop_of_length_le (by rw [HL.out]; omega)]; rfl
      go_wp2
      go_ret
      exact ⟨by rw [HF.out]; rfl, rfl⟩

theorem six {w : World} {g g' : Nat} {t : TypeId} {x y z x' y' z' : Value} (h : Blk w g t #[x, y, z]) (h' : Blk w g' t #[x', y', z']) :
    w.cell? ⟨g, 0, none⟩ = some x ∧ w.cell? ⟨g, 1, none⟩ = some y ∧ w.cell? ⟨g, 2, none⟩ = some z ∧ w.cell? ⟨g', 0, none⟩ = some x' ∧ w.cell? ⟨g', 1, none⟩ = some y' ∧ w.cell? ⟨g', 2, none⟩ = some z' := ⟨h.cell 0, h.cell 1, h.cell 2, h'.cell 0, h'.cell 1, h'.cell 2⟩

/-- The comparison of two values. -/
def cmpV (k1 i1 : Int) (s1 : ByteArray) (k2 i2 : Int) (s2 : ByteArray) : Int := firstNZ [cmpI k1 k2, cmpI i1 i2, cmpS s1 s2]

end Go.Proofs.YtljmclbedpceoaaDoor

namespace Go.Proofs.YtljmclbedpceoaaDoor
open Go.RowKit Go.Sort
set_option linter.unusedVariables false

/-- from w to w' nothing but draws and new blocks -/
def Gr (w w' : World) : Prop := ∃ (q : Nat) (os : Array Obj), w' = grow (w.drewN q) os
theorem Gr.refl (w : World) : Gr w w := ⟨0, #[], by rw [grow_empty]; rfl⟩
theorem Gr.trans {a b c : World} (h : Gr a b) (k : Gr b c) : Gr a c := by
  obtain ⟨q, os, rfl⟩ := h
  obtain ⟨q2, os2, rfl⟩ := k
  exact ⟨q + q2, os ++ os2, by show grow (grow ((a.drewN q).drewN q2) os) os2 = _; rw [grow_grow, World.drewN_drewN]⟩
theorem Gr.alloc (w : World) (o : Obj) : Gr w (w.alloc o) := ⟨0, #[o], by rw [alloc_eq_grow]; rfl⟩
theorem Gr.drew (w : World) : Gr w w.drew := ⟨1, #[], by rw [grow_empty]; rfl⟩
theorem Gr.drewN (w : World) (n : Nat) : Gr w (w.drewN n) := ⟨n, #[], by rw [grow_empty]⟩
theorem Gr.size {w w' : World} (h : Gr w w') : w.heap.size ≤ w'.heap.size := by
  obtain ⟨q, os, rfl⟩ := h
  rw [size_grow]
  exact Nat.le_add_right _ _
theorem Gr.block {w w' : World} (h : Gr w w') {k : Nat} (hk : k < w.heap.size) : w'.heap[k]? = w.heap[k]? := by
  obtain ⟨q, os, rfl⟩ := h
  exact heap_grow_old (w.drewN q) os hk
theorem Gr.below {w w' : World} (h : Gr w w') : Below w.heap.size w w' := by
  have h1 := h.size
  have h2 := fun k (hk : k < w.heap.size) => h.block hk
  obtain ⟨q, os, rfl⟩ := h
  exact ⟨rfl, rfl, rfl, h1, h2⟩
theorem Gr.ro {w w' : World} {M : Nat → Prop} {S : World → Prop} (h : Gr w w') (hs : Ro w M S) : Ro w' M S := hs.below h.below
end Go.Proofs.YtljmclbedpceoaaDoor

namespace Go.Proofs.YtljmclbedpceoaaDoor
open Go.RowKit Go.Sort
set_option linter.unusedVariables false
set_option linter.unusedSimpArgs false

set_option maxHeartbeats 1000000 in
theorem vcompare_gr (k1 i1 : Int) (s1 : ByteArray) (k2 i2 : Int) (s2 : ByteArray) (w : World) :
    Calls Tryd.prog 81 #[.agg #[.int .i64 k1, .int .i64 i1, .string s1], .agg #[.int .i64 k2, .int .i64 i2, .string s2]] w fun e w' => e = .returned (.int .i64 (cmpV k1 i1 s1 k2 i2 s2)) ∧ Gr w w' := by
  obtain ⟨x, hx⟩ : ∃ x, x = cmpI k1 k2 := ⟨_, rfl⟩
  obtain ⟨y, hy⟩ : ∃ y, y = cmpI i1 i2 := ⟨_, rfl⟩
  obtain ⟨z, hz⟩ : ∃ z, z = cmpS s1 s2 := ⟨_, rfl⟩
  have c1 := fun w => cmp_int k1 k2 w
  have c2 := fun w => cmp_int64 i1 i2 w
  have c3 := fun w => cmp_string s1 s2 w
  rw [← hx] at c1
  rw [← hy] at c2
  rw [← hz] at c3
  have HF : Hid (cmpV k1 i1 s1 k2 i2 s2 = firstNZ [x, y, z]) := by unfold Hid cmpV; rw [hx, hy, hz]
  have C1 := hid c1; have C2 := hid c2; have C3 := hid c3
  clear c1 c2 c3 hx hy hz
  have B0 := (Blk.new w 66 #[.int .i64 k1, .int .i64 i1, .string s1]).alloc (.cells #[.int .i64 k2, .int .i64 i2, .string s2] 66)
  have B1 : Blk ((w.alloc (.cells #[.int .i64 k1, .int .i64 i1, .string s1] 66)).alloc (.cells #[.int .i64 k2, .int .i64 i2, .string s2] 66)) (w.heap.size + 1) 66 #[.int .i64 k2, .int .i64 i2, .string s2] := by
    have := Blk.new (w.alloc (.cells #[.int .i64 k1, .int .i64 i1, .string s1] 66)) 66 #[.int .i64 k2, .int .i64 i2, .string s2]
    simpa using this
  have RO : Rd (((w.alloc (.cells #[.int .i64 k1, .int .i64 i1, .string s1] 66)).alloc (.cells #[.int .i64 k2, .int .i64 i2, .string s2] 66)).alloc (.cells #[.int .i64 x, .int .i64 y, .int .i64 z] 3)) (w.heap.size + 1 + 1 + 1) 1 (some ⟨w.heap.size + 1 + 1, 0, none⟩) 3 ([x, y, z].map (Value.int .i64)) := by
    have := Rd.lit ((w.alloc (.cells #[.int .i64 k1, .int .i64 i1, .string s1] 66)).alloc (.cells #[.int .i64 k2, .int .i64 i2, .string s2] 66)) #[.int .i64 x, .int .i64 y, .int .i64 z] 3 (size := 1) (n := 3) (xs := [x, y, z].map (Value.int .i64)) rfl rfl
    simpa using this
  go_enter Tryd.func81, Tryd.ntmps81
  go_wp2_with fail
  go_region_held3 (fun w' => w'.cell? ⟨w.heap.size, 0, none⟩ = some (.int .i64 k1) ∧ w'.cell? ⟨w.heap.size, 1, none⟩ = some (.int .i64 i1) ∧ w'.cell? ⟨w.heap.size, 2, none⟩ = some (.string s1) ∧ w'.cell? ⟨w.heap.size + 1, 0, none⟩ = some (.int .i64 k2) ∧ w'.cell? ⟨w.heap.size + 1, 1, none⟩ = some (.int .i64 i2) ∧ w'.cell? ⟨w.heap.size + 1, 2, none⟩ = some (.string s2))
    (first | exact six B0 B1 | exact six (B0.alloc _) (B1.alloc _))
    (first
      | (go_at_call 82; ((with_reducible refine (C1.out _).mono ?_); rintro e w3 ⟨rfl, rfl⟩))
      | (go_at_call 119; ((with_reducible refine (C2.out _).mono ?_); rintro e w3 ⟨rfl, rfl⟩))
      | (go_at_call 120; ((with_reducible refine (C3.out _).mono ?_); rintro e w3 ⟨rfl, rfl⟩))
      | (go_at_call 118; ((with_reducible refine (or_int _ 3 3 [x, y, z] _ _ (Rd.drew RO) (by omega)).mono ?_); rintro e w4 ⟨rfl, rfl⟩)))
  go_wp2_with fail
  go_ret
  exact ⟨by rw [HF.out]; rfl, (((Gr.alloc _ _).trans (Gr.alloc _ _)).trans (Gr.alloc _ _)).trans (Gr.drew _)⟩

/-- the order of values, of rows -/
def cmpVl (x y : Vl) : Int := cmpV x.k x.i x.s y.k y.i y.s
def rowC : List Vl → List Vl → Int
  | [], [] => 0
  | [], _ :: _ => -1
  | _ :: _, [] => 1
  | x :: xs, y :: ys => if cmpVl x y = 0 then rowC xs ys else cmpVl x y
theorem rowC_go {xs ys : List Vl} {k : Nat} {x y : Vl} (hx : xs[k]? = some x) (hy : ys[k]? = some y) (h : cmpVl x y = 0) : rowC (xs.drop k) (ys.drop k) = rowC (xs.drop (k + 1)) (ys.drop (k + 1)) := by
  rw [drop_cons hx, drop_cons hy, rowC, if_pos h]
theorem rowC_stop {xs ys : List Vl} {k : Nat} {x y : Vl} (hx : xs[k]? = some x) (hy : ys[k]? = some y) (h : cmpVl x y ≠ 0) : rowC (xs.drop k) (ys.drop k) = cmpVl x y := by
  rw [drop_cons hx, drop_cons hy, rowC, if_neg h]
theorem rowC_end {xs ys : List Vl} {k n m : Nat} (hn : xs.length = n) (hm : ys.length = m) (hk : k = min n m) : rowC (xs.drop k) (ys.drop k) = cmpI n m := by
  unfold cmpI
  rcases Nat.lt_trichotomy n m with h | h | h
  · have hk2 : k < ys.length := by omega
    rw [List.drop_of_length_le (show xs.length ≤ k by omega), List.drop_eq_getElem_cons hk2, rowC, if_pos (by omega)]
  · rw [List.drop_of_length_le (show xs.length ≤ k by omega), List.drop_of_length_le (show ys.length ≤ k by omega), rowC, if_neg (by omega), if_neg (by omega)]
  · have hk2 : k < xs.length := by omega
    rw [List.drop_of_length_le (show ys.length ≤ k by omega), List.drop_eq_getElem_cons hk2, rowC, if_neg (by omega), if_pos (by omega)]
set_option maxHeartbeats 4000000 in
set_option maxRecDepth 100000 in
theorem vcmprows_gr (w : World) (A : Option Addr) (n c : Nat) (xs : List Vl) (B : Option Addr) (m d : Nat) (ys : List Vl) (hD : Ro w None_ (VlsIn A n xs)) (hE : Ro w None_ (VlsIn B m ys)) (hn : n ≤ 9223372036854775807) (hm : m ≤ 9223372036854775807) :
    Calls Tryd.prog 47 #[.slice A n c, .slice B m d] w fun e w' => e = .returned (.int .i64 (rowC xs ys)) ∧ Gr w w' := by
  have HX := hid (show xs.length = n from hD.now.len)
  have HY := hid (show ys.length = m from hE.now.len)
  have HD := hid hD
  have HE := hid hE
  have mixed : Tryd.prog.follows .mixedOrders = true := by kernel_rfl
  clear hD hE
  obtain ⟨r, hr⟩ : ∃ r, r = rowC xs ys := ⟨_, rfl⟩
  rw [← hr]
  have HR := hid hr
  clear hr
  by_cases hnm : n ≤ m
  · have z1 : (n : Int) ≤ (m : Int) := by omega
    go_enter Tryd.func47, Tryd.ntmps47
    go_wp2_with fail
    go_loopw [12] (fun iv wr => ∃ k : Nat, k ≤ n ∧ iv = .int .i64 k ∧ Hid (r = rowC (xs.drop k) (ys.drop k)) ∧ Hid (Gr w wr)) (fun iv _ => n - (intOf iv).toNat)
    case atStart => exact ⟨0, by omega, rfl, hid (by rw [HR.out]; rfl), hid (Gr.refl w)⟩
    case round =>
      obtain ⟨k, hk, rfl, HK, HG⟩ := hrel
      by_cases hlt : k < n
      · have hd : decide ((k : Int) < (n : Int)) = true := by simp; omega
        have i0 : (0 : Int) ≤ (k : Int) := by omega
        have i1 : (k : Int) < (n : Int) := by omega
        have i2 : (k : Int) < (m : Int) := by omega
        obtain ⟨x, hx⟩ := get_of HX.out (show k < n by omega)
        obtain ⟨y, hy⟩ := get_of HY.out (show k < m by omega)
        have h1 := (HG.out.ro HD.out).now
        have h2 := (HG.out.ro HE.out).now
        obtain ⟨b, o, rfl, hb, c0, c1, c2⟩ := h1.at_ hx
        obtain ⟨b', o', rfl, hb', e0, e1, e2⟩ := h2.at_ hy
        clear h1 h2
        have g0 := fun p os => cell_grown (a := ⟨b, o + k * 3, none⟩) hb c0 p os
        have g1 := fun p os => cell_grown (a := ⟨b, o + k * 3 + 1, none⟩) hb c1 p os
        have g2 := fun p os => cell_grown (a := ⟨b, o + k * 3 + 2, none⟩) hb c2 p os
        have g3 := fun p os => cell_grown (a := ⟨b', o' + k * 3, none⟩) hb' e0 p os
        have g4 := fun p os => cell_grown (a := ⟨b', o' + k * 3 + 1, none⟩) hb' e1 p os
        have g5 := fun p os => cell_grown (a := ⟨b', o' + k * 3 + 2, none⟩) hb' e2 p os
        have HV := hid (fun W => vcompare_gr x.k x.i x.s y.k y.i y.s W)
        obtain ⟨cv, hcv⟩ : ∃ cv, cv = cmpVl x y := ⟨_, rfl⟩
        have HV2 : Hid (∀ W, Calls Tryd.prog 81 #[.agg #[.int .i64 x.k, .int .i64 x.i, .string x.s], .agg #[.int .i64 y.k, .int .i64 y.i, .string y.s]] W fun e w' => e = .returned (.int .i64 cv) ∧ ∃ q os', w' = grow (W.drewN q) os') := hid fun W => by rw [hcv]; exact HV.out W
        have HXK := hid hx
        have HYK := hid hy
        have HCV := hid hcv
        clear hx hy hcv HV c0 c1 c2 e0 e1 e2
        go_wp2_with fail
        go_quiet_grown (first | (go_at_call 81; refine Calls.grown_of (HV2.out _)))
        have HG2 := hid (HG.out.trans (show Gr wr (grow (wr.drewN nq) osq) from ⟨nq, osq, rfl⟩))
        clear g0 g1 g2 g3 g4 g5
        by_cases hz : cv = 0
        · have hb0 : (cv != 0) = false := by simp [hz]
          have HN := hid (show r = rowC (xs.drop (k + 1)) (ys.drop (k + 1)) by rw [HK.out]; exact rowC_go HXK.out HYK.out (by rw [← HCV.out, hz]))
          clear hz
          go_wp2_with fail
          go_roundw
          case rel => exact ⟨k + 1, by omega, by go_num, HN, HG2⟩
          case measure => simp [intOf]; omega
        · have hb0 : (cv != 0) = true := by simpa using hz
          have HN := hid (show r = cv by rw [HK.out, rowC_stop HXK.out HYK.out (by rw [← HCV.out]; exact hz), HCV.out])
          clear hz
          go_wp2_with fail
          go_ret
          exact ⟨by rw [HN.out] <;> rfl, HG2.out⟩
      · obtain rfl : n = k := by omega
        have hd : decide ((n : Int) < (n : Int)) = false := by simp
        have HN := hid (show r = cmpI n m by rw [HK.out]; exact rowC_end HX.out HY.out (by omega))
        go_wp2_with fail
        refine (cmp_int _ _ _).mono ?_
        rintro e w1 ⟨rfl, rfl⟩
        go_wp2_with fail
        go_ret
        exact ⟨by rw [HN.out] <;> rfl, HG.out⟩
  · have z1 : ¬ (n : Int) ≤ (m : Int) := by omega
    have z2 : (m : Int) ≤ (n : Int) := by omega
    have z3 : (m : Int) < (n : Int) := by omega
    go_enter Tryd.func47, Tryd.ntmps47
    go_wp2_with fail
    go_loopw [12] (fun iv wr => ∃ k : Nat, k ≤ m ∧ iv = .int .i64 k ∧ Hid (r = rowC (xs.drop k) (ys.drop k)) ∧ Hid (Gr w wr)) (fun iv _ => m - (intOf iv).toNat)
    case atStart => exact ⟨0, by omega, rfl, hid (by rw [HR.out]; rfl), hid (Gr.refl w)⟩
    case round =>
      obtain ⟨k, hk, rfl, HK, HG⟩ := hrel
      by_cases hlt : k < m
      · have hd : decide ((k : Int) < (m : Int)) = true := by simp; omega
        have i0 : (0 : Int) ≤ (k : Int) := by omega
        have i1 : (k : Int) < (n : Int) := by omega
        have i2 : (k : Int) < (m : Int) := by omega
        obtain ⟨x, hx⟩ := get_of HX.out (show k < n by omega)
        obtain ⟨y, hy⟩ := get_of HY.out (show k < m by omega)
        have h1 := (HG.out.ro HD.out).now
        have h2 := (HG.out.ro HE.out).now
        obtain ⟨b, o, rfl, hb, c0, c1, c2⟩ := h1.at_ hx
        obtain ⟨b', o', rfl, hb', e0, e1, e2⟩ := h2.at_ hy
        clear h1 h2
        have g0 := fun p os => cell_grown (a := ⟨b, o + k * 3, none⟩) hb c0 p os
        have g1 := fun p os => cell_grown (a := ⟨b, o + k * 3 + 1, none⟩) hb c1 p os
        have g2 := fun p os => cell_grown (a := ⟨b, o + k * 3 + 2, none⟩) hb c2 p os
        have g3 := fun p os => cell_grown (a := ⟨b', o' + k * 3, none⟩) hb' e0 p os
        have g4 := fun p os => cell_grown (a := ⟨b', o' + k * 3 + 1, none⟩) hb' e1 p os
        have g5 := fun p os => cell_grown (a := ⟨b', o' + k * 3 + 2, none⟩) hb' e2 p os
        have HV := hid (fun W => vcompare_gr x.k x.i x.s y.k y.i y.s W)
        obtain ⟨cv, hcv⟩ : ∃ cv, cv = cmpVl x y := ⟨_, rfl⟩
        have HV2 : Hid (∀ W, Calls Tryd.prog 81 #[.agg #[.int .i64 x.k, .int .i64 x.i, .string x.s], .agg #[.int .i64 y.k, .int .i64 y.i, .string y.s]] W fun e w' => e = .returned (.int .i64 cv) ∧ ∃ q os', w' = grow (W.drewN q) os') := hid fun W => by rw [hcv]; exact HV.out W
        have HXK := hid hx
        have HYK := hid hy
        have HCV := hid hcv
        clear hx hy hcv HV c0 c1 c2 e0 e1 e2
        go_wp2_with fail
        go_quiet_grown (first | (go_at_call 81; refine Calls.grown_of (HV2.out _)))
        have HG2 := hid (HG.out.trans (show Gr wr (grow (wr.drewN nq) osq) from ⟨nq, osq, rfl⟩))
        clear g0 g1 g2 g3 g4 g5
        by_cases hz : cv = 0
        · have hb0 : (cv != 0) = false := by simp [hz]
          have HN := hid (show r = rowC (xs.drop (k + 1)) (ys.drop (k + 1)) by rw [HK.out]; exact rowC_go HXK.out HYK.out (by rw [← HCV.out, hz]))
          clear hz
          go_wp2_with fail
          go_roundw
          case rel => exact ⟨k + 1, by omega, by go_num, HN, HG2⟩
          case measure => simp [intOf]; omega
        · have hb0 : (cv != 0) = true := by simpa using hz
          have HN := hid (show r = cv by rw [HK.out, rowC_stop HXK.out HYK.out (by rw [← HCV.out]; exact hz), HCV.out])
          clear hz
          go_wp2_with fail
          go_ret
          exact ⟨by rw [HN.out] <;> rfl, HG2.out⟩
      · obtain rfl : m = k := by omega
        have hd : decide ((m : Int) < (m : Int)) = false := by simp
        have HN := hid (show r = cmpI n m by rw [HK.out]; exact rowC_end HX.out HY.out (by omega))
        go_wp2_with fail
        refine (cmp_int _ _ _).mono ?_
        rintro e w1 ⟨rfl, rfl⟩
        go_wp2_with fail
        go_ret
        exact ⟨by rw [HN.out] <;> rfl, HG.out⟩
end Go.Proofs.YtljmclbedpceoaaDoor

namespace Go.Proofs.YtljmclbedpceoaaDoor
open Go.RowKit
set_option linter.unusedVariables false
set_option linter.unusedSimpArgs false

theorem less_asymm : ∀ x y : List UInt8, Op.bytesLess x y = true → Op.bytesLess y x = false ∧ x ≠ y
  | _, [], h => by simp [Op.bytesLess] at h
  | [], b :: y, _ => ⟨by simp [Op.bytesLess], by simp⟩
  | a :: x, b :: y, h => by
    simp only [Op.bytesLess, Bool.or_eq_true, decide_eq_true_eq, Bool.and_eq_true, beq_iff_eq] at h
    rcases h with h | ⟨rfl, h⟩
    · have h1 : ¬ (b < a) := by
        intro k
        have h' : a.toNat < b.toNat := h
        have k' : b.toNat < a.toNat := k
        omega
      have h2 : a ≠ b := by
        rintro rfl
        have h' : a.toNat < a.toNat := h
        omega
      refine ⟨?_, fun e => h2 (by injection e)⟩
      simp only [Op.bytesLess, Bool.or_eq_false_iff, decide_eq_false_iff_not, Bool.and_eq_false_imp, beq_iff_eq]
      exact ⟨h1, fun e => absurd e.symm h2⟩
    · obtain ⟨i1, i2⟩ := less_asymm x y h
      have h1 : ¬ (a < a) := by
        intro k
        have k' : a.toNat < a.toNat := k
        omega
      refine ⟨?_, fun e => i2 (by injection e)⟩
      simp only [Op.bytesLess, Bool.or_eq_false_iff, decide_eq_false_iff_not, Bool.and_eq_false_imp, beq_iff_eq]
      exact ⟨h1, fun _ => i1⟩
theorem less_tri : ∀ x y : List UInt8, Op.bytesLess x y = false → Op.bytesLess y x = false → x = y
  | [], [], _, _ => rfl
  | [], b :: y, h, _ => by simp [Op.bytesLess] at h
  | a :: x, [], _, h => by simp [Op.bytesLess] at h
  | a :: x, b :: y, h, k => by
    simp only [Op.bytesLess, Bool.or_eq_false_iff, decide_eq_false_iff_not, Bool.and_eq_false_imp, beq_iff_eq] at h k
    have hab : a = b := by
      have h' : ¬ a.toNat < b.toNat := h.1
      have k' : ¬ b.toNat < a.toNat := k.1
      exact UInt8.toNat_inj.1 (by omega)
    subst hab
    rw [less_tri x y (h.2 rfl) (k.2 rfl)]

end Go.Proofs.YtljmclbedpceoaaDoor

namespace Go.Proofs.YtljmclbedpceoaaDoor
open Go.RowKit
set_option linter.unusedVariables false
set_option linter.unusedSimpArgs false

theorem less_trans_ : ∀ x y z : List UInt8, Op.bytesLess x y = true → Op.bytesLess y z = true → Op.bytesLess x z = true
  | [], [], _, h, _ => by simp [Op.bytesLess] at h
  | [], _ :: _, [], _, h => by simp [Op.bytesLess] at h
  | [], _ :: _, _ :: _, _, _ => by simp [Op.bytesLess]
  | _ :: _, [], _, h, _ => by simp [Op.bytesLess] at h
  | _ :: _, _ :: _, [], _, h => by simp [Op.bytesLess] at h
  | a :: x, b :: y, c :: z, h1, h2 => by
    simp only [Op.bytesLess, Bool.or_eq_true, Bool.and_eq_true, decide_eq_true_eq, beq_iff_eq] at h1 h2 ⊢
    rcases h1 with h1 | ⟨rfl, h1⟩ <;> rcases h2 with h2 | ⟨rfl, h2⟩
    · exact .inl (by rw [UInt8.lt_iff_toNat_lt] at *; omega)
    · exact .inl h1
    · exact .inl h2
    · exact .inr ⟨rfl, less_trans_ x y z h1 h2⟩
end Go.Proofs.YtljmclbedpceoaaDoor

namespace Go.Proofs.YtljmclbedpceoaaDoor
open Go.RowKit
set_option linter.unusedVariables false
set_option linter.unusedSimpArgs false

/-- a comparison that is a linear order -/
structure LinC {α : Type} (c : α → α → Int) : Prop where
  eq : ∀ x y, c x y = 0 ↔ x = y
  flip : ∀ x y, c x y < 0 ↔ 0 < c y x
  trans : ∀ x y z, c x y < 0 → c y z < 0 → c x z < 0
theorem cmpI_cases (x y : Int) : (x < y ∧ cmpI x y = -1) ∨ (x = y ∧ cmpI x y = 0) ∨ (y < x ∧ cmpI x y = 1) := by
  unfold cmpI
  rcases Int.lt_trichotomy x y with h | h | h
  · exact .inl ⟨h, if_pos h⟩
  · exact .inr (.inl ⟨h, by rw [if_neg (by omega), if_neg (by omega)]⟩)
  · exact .inr (.inr ⟨h, by rw [if_neg (by omega), if_pos h]⟩)
theorem linI : LinC cmpI where
  eq x y := by rcases cmpI_cases x y with h | h | h <;> omega
  flip x y := by rcases cmpI_cases x y with h | h | h <;> rcases cmpI_cases y x with k | k | k <;> omega
  trans x y z h k := by rcases cmpI_cases x y with a | a | a <;> rcases cmpI_cases y z with b | b | b <;> rcases cmpI_cases x z with c | c | c <;> omega
theorem linS : LinC cmpS where
  eq x y := by
    unfold cmpS
    cases h1 : Op.bytesLess x.toList y.toList
    · by_cases h2 : x = y
      · subst h2; simp
      · have h3 : (x.toList == y.toList) = false := by rw [beq_eq_false_iff_ne]; exact fun h => h2 (bytesEq h)
        simp [h3, h2]
    · have h2 := (less_asymm _ _ h1).2
      have : x ≠ y := fun e => h2 (by rw [e])
      simp [this]
  flip x y := by
    unfold cmpS
    cases h1 : Op.bytesLess x.toList y.toList
    · cases h2 : Op.bytesLess y.toList x.toList
      · have h3 := less_tri _ _ h1 h2
        simp [h3]
      · have h3 := (less_asymm _ _ h2).2
        have h4 : (x.toList == y.toList) = false := by rw [beq_eq_false_iff_ne]; exact fun h => h3 h.symm
        simp [h4]
    · have h2 := less_asymm _ _ h1
      have h4 : (y.toList == x.toList) = false := by rw [beq_eq_false_iff_ne]; exact fun h => h2.2 h.symm
      simp [h2.1, h4]
  trans x y z h k := by
    have lt : ∀ a b : ByteArray, cmpS a b < 0 ↔ Op.bytesLess a.toList b.toList = true := fun a b => by
      unfold cmpS
      cases h1 : Op.bytesLess a.toList b.toList
      · simp only [Bool.false_eq_true, if_false, iff_false]
        split <;> omega
      · simp
    rw [lt] at h k ⊢
    exact less_trans_ _ _ _ h k
/-- the first decides, else the second -/
def thenC (a b : Int) : Int := if a = 0 then b else a
theorem linThen {α β γ : Type} {c : β → β → Int} {e : γ → γ → Int} (hc : LinC c) (he : LinC e) (f : α → β) (g : α → γ) (hi : ∀ x y, f x = f y → g x = g y → x = y) : LinC fun x y : α => thenC (c (f x) (f y)) (e (g x) (g y)) where
  eq x y := by
    show thenC _ _ = 0 ↔ _
    unfold thenC
    constructor
    · intro h
      by_cases h1 : c (f x) (f y) = 0
      · rw [if_pos h1] at h
        exact hi x y ((hc.eq _ _).1 h1) ((he.eq _ _).1 h)
      · rw [if_neg h1] at h; exact absurd h h1
    · rintro rfl
      rw [if_pos ((hc.eq _ _).2 rfl)]
      exact (he.eq _ _).2 rfl
  flip x y := by
    show thenC _ _ < 0 ↔ 0 < thenC _ _
    unfold thenC
    by_cases h1 : f x = f y
    · rw [if_pos ((hc.eq _ _).2 h1), if_pos ((hc.eq _ _).2 h1.symm)]
      exact he.flip _ _
    · rw [if_neg (fun h => h1 ((hc.eq _ _).1 h)), if_neg (fun h => h1 ((hc.eq _ _).1 h).symm)]
      exact hc.flip _ _
  trans x y z h k := by
    replace h : thenC (c (f x) (f y)) (e (g x) (g y)) < 0 := h
    replace k : thenC (c (f y) (f z)) (e (g y) (g z)) < 0 := k
    show thenC (c (f x) (f z)) (e (g x) (g z)) < 0
    unfold thenC at h k ⊢
    by_cases h1 : f x = f y
    · rw [if_pos ((hc.eq _ _).2 h1)] at h
      rw [h1]
      by_cases h2 : f y = f z
      · rw [if_pos ((hc.eq _ _).2 h2)] at k ⊢
        exact he.trans _ _ _ h k
      · rw [if_neg (fun h => h2 ((hc.eq _ _).1 h))] at k ⊢
        exact k
    · rw [if_neg (fun h => h1 ((hc.eq _ _).1 h))] at h
      by_cases h2 : f y = f z
      · rw [← h2, if_neg (fun h => h1 ((hc.eq _ _).1 h))]
        exact h
      · rw [if_neg (fun h => h2 ((hc.eq _ _).1 h))] at k
        have h3 := hc.trans _ _ _ h k
        rw [if_neg (by omega)]
        exact h3
theorem linVl : LinC cmpVl := by
  have h2 := linThen (α := Vl) linI linS Vl.i Vl.s
  have h3 : LinC fun x y : Int × ByteArray => thenC (cmpI x.1 y.1) (cmpS x.2 y.2) := linThen linI linS Prod.fst Prod.snd fun x y h k => Prod.ext h k
  have h4 := linThen (α := Vl) linI h3 Vl.k (fun v => (v.i, v.s)) fun x y h k => by
    cases x; cases y
    simp only [Prod.mk.injEq] at k
    simp only at h
    rw [h, k.1, k.2]
  have : cmpVl = fun x y : Vl => thenC (cmpI x.k y.k) (thenC (cmpI x.i y.i) (cmpS x.s y.s)) := by
    funext x y
    unfold cmpVl cmpV thenC
    simp only [firstNZ]
    by_cases h1 : cmpI x.k y.k = 0 <;> by_cases h2 : cmpI x.i y.i = 0 <;> by_cases h3 : cmpS x.s y.s = 0 <;> simp [h1, h2, h3]
  rw [this]
  exact h4
theorem rowC_eq : ∀ xs ys : List Vl, rowC xs ys = 0 ↔ xs = ys
  | [], [] => by simp [rowC]
  | [], y :: ys => by simp [rowC]
  | x :: xs, [] => by simp [rowC]
  | x :: xs, y :: ys => by
    rw [rowC]
    by_cases h : cmpVl x y = 0
    · rw [if_pos h, rowC_eq xs ys, (linVl.eq _ _).1 h]; simp
    · rw [if_neg h]
      have : x ≠ y := fun e => h ((linVl.eq _ _).2 e)
      simp [h, this]
theorem rowC_flip : ∀ xs ys : List Vl, rowC xs ys < 0 ↔ 0 < rowC ys xs
  | [], [] => by simp [rowC]
  | [], y :: ys => by simp [rowC]
  | x :: xs, [] => by simp [rowC]
  | x :: xs, y :: ys => by
    rw [rowC, rowC]
    by_cases h : x = y
    · subst h
      rw [if_pos ((linVl.eq _ _).2 rfl), if_pos ((linVl.eq _ _).2 rfl)]
      exact rowC_flip xs ys
    · rw [if_neg (fun e => h ((linVl.eq _ _).1 e)), if_neg (fun e => h ((linVl.eq _ _).1 e).symm)]
      exact linVl.flip _ _
theorem rowC_trans : ∀ xs ys zs : List Vl, rowC xs ys < 0 → rowC ys zs < 0 → rowC xs zs < 0
  | [], [], zs, h, k => by simp [rowC] at h
  | [], y :: ys, [], h, k => by simp [rowC] at k
  | [], y :: ys, z :: zs, h, k => by simp [rowC]
  | x :: xs, [], zs, h, k => by simp [rowC] at h
  | x :: xs, y :: ys, [], h, k => by simp [rowC] at k
  | x :: xs, y :: ys, z :: zs, h, k => by
    rw [rowC] at h k ⊢
    by_cases h1 : x = y
    · subst h1
      rw [if_pos ((linVl.eq _ _).2 rfl)] at h
      by_cases h2 : x = z
      · subst h2
        rw [if_pos ((linVl.eq _ _).2 rfl)] at k ⊢
        exact rowC_trans xs ys zs h k
      · rw [if_neg (fun e => h2 ((linVl.eq _ _).1 e))] at k ⊢
        exact k
    · rw [if_neg (fun e => h1 ((linVl.eq _ _).1 e))] at h
      by_cases h2 : y = z
      · subst h2
        rw [if_neg (fun e => h1 ((linVl.eq _ _).1 e))]
        exact h
      · rw [if_neg (fun e => h2 ((linVl.eq _ _).1 e))] at k
        have h3 := linVl.trans _ _ _ h k
        rw [if_neg (by omega)]
        exact h3
theorem swoRow {α : Type} (f : α → List Vl) : Go.Sort.SWO (ltOf fun x y : α => rowC (f x) (f y)) where
  irrefl x := by
    have := (rowC_eq (f x) (f x)).2 rfl
    simp [ltOf, this]
  trans x y z h k := by
    simp only [ltOf, decide_eq_true_eq] at h k ⊢
    exact rowC_trans _ _ _ h k
  ntrans x y z h k := by
    simp only [ltOf, decide_eq_false_iff_not] at h k ⊢
    intro hxz
    by_cases e : f x = f y
    · rw [e] at hxz; exact k hxz
    · have h1 : rowC (f x) (f y) ≠ 0 := fun h => e ((rowC_eq _ _).1 h)
      have h2 : rowC (f y) (f x) < 0 := (rowC_flip _ _).2 (by omega)
      exact k (rowC_trans _ _ _ h2 hxz)
end Go.Proofs.YtljmclbedpceoaaDoor

namespace Go.Proofs.YtljmclbedpceoaaDoor
open Go.RowKit
set_option linter.unusedVariables false
set_option linter.unusedSimpArgs false

/-- rows that stand whatever becomes of block g -/
abbrev RowsAt (w : World) (g : Nat) : Type := { s : Sl // Ro w (fun b => b = g) (VlsIn s.A s.n s.vs) ∧ s.n ≤ 9223372036854775807 }
instance rowsAtInh (w : World) (g : Nat) : Inhabited (RowsAt w g) := ⟨⟨⟨none, 0, 0, []⟩, fun _ _ _ => Rd.none_, Nat.zero_le _⟩⟩
def encRow {w : World} {g : Nat} (x : RowsAt w g) : Value := .slice x.1.A x.1.n x.1.c
theorem slCells_at {l : List Sl} {j : Nat} {s : Sl} (h : l[j]? = some s) : (slCells l)[j]? = some (.slice s.A s.n s.c) := by
  have := flat_get Sl.cells 1 (fun _ => rfl) l j 0 s (by omega) h
  unfold slCells
  simpa [Sl.cells] using this
theorem sortWorld_heap {α : Type} [Inhabited α] (enc : α → Value) (w : World) (g m : Nat) (d : Array α) (os : Array Obj) {b : Nat} (hb : b < w.heap.size) (hne : b ≠ g) : (sortWorld enc w g 0 m d os).heap[b]? = w.heap[b]? := by
  show ((w.heap.modify g _) ++ os)[b]? = _
  rw [Array.getElem?_append, if_pos (by simpa using hb), Array.getElem?_modify, if_neg (fun e => hne e.symm)]
theorem sortWorld_size {α : Type} [Inhabited α] (enc : α → Value) (w : World) (g m : Nat) (d : Array α) (os : Array Obj) : w.heap.size ≤ (sortWorld enc w g 0 m d os).heap.size := by
  show _ ≤ ((w.heap.modify g _) ++ os).size
  simp
theorem sortWorld_at {α : Type} [Inhabited α] (enc : α → Value) (w : World) (g m : Nat) (d : Array α) (os : Array Obj) {cs : Array Value} {t : TypeId} (h : w.heap[g]? = some (.cells cs t (0, 0))) : (sortWorld enc w g 0 m d os).heap[g]? = some (.cells (Go.Sort.putCells enc 0 d cs) t (0, 0)) := by
  have hb : g < w.heap.size := (Array.getElem?_eq_some_iff.1 h).1
  show ((w.heap.modify g _) ++ os)[g]? = _
  rw [Array.getElem?_append, if_pos (by simpa using hb), Array.getElem?_modify, if_pos rfl, h]
  rfl
set_option maxHeartbeats 2000000 in
theorem sortfn_any {M : Nat → Prop} {row : Option Nat} {w0 w : World} {L : List Hp} (K : Hold M row w0 w L) (i : Nat) {g q cap : Nat} {lo : List Sl} (hi : L[i]? = some (.own 27 1 (.slice (some ⟨g, 0, none⟩) q cap) q (slCells lo))) (hv : Ro w (Mut M L) (SlVals lo)) (hn : ∀ s ∈ lo, s.n ≤ 9223372036854775807) (hq : q < 4611686018427387904) :
    Calls Tryd.prog 46 #[.slice (some ⟨g, 0, none⟩) q cap, .func (.func 47) #[] #[]] w fun e w' => e = .returned (.tuple #[]) ∧ ∃ lo' : List Sl, lo'.Perm lo ∧ lo'.Pairwise (fun a b => ¬ rowC b.vs a.vs < 0) ∧ Hold M row w0 w' (L.set i (.own 27 1 (.slice (some ⟨g, 0, none⟩) q cap) q (slCells lo'))) := by
  have ho : w.ownsRow w0.heap.size 27 1 (.slice (some ⟨g, 0, none⟩) q cap) q (slCells lo) := K.get i hi
  have hg : g < w.heap.size := (K.fresh _ (List.mem_of_getElem? hi) g rfl).2
  have hgM : Mut M L g := .inr ⟨_, List.mem_of_getElem? hi, rfl⟩
  have hlen : lo.length = q := by have := ho.1; rw [slCells_len] at this; omega
  have hgood : ∀ s ∈ lo, Ro w (fun b => b = g) (VlsIn s.A s.n s.vs) ∧ s.n ≤ 9223372036854775807 := fun s hs => ⟨(hv.imp fun w2 h2 => h2 s hs).less fun b hb => by rw [hb]; exact hgM, hn s hs⟩
  obtain ⟨dl, hdl⟩ : ∃ dl : List (RowsAt w g), dl.map (·.1) = lo := ⟨lo.attach.map fun s => ⟨s.1, hgood s.1 s.2⟩, by rw [List.map_map]; exact List.attach_map_subtype_val lo⟩
  have hdn : dl.toArray.size = q := by rw [← hlen, ← hdl]; simp
  have hget : ∀ j, j < q → ∃ x : RowsAt w g, dl.toArray[j]! = x ∧ lo[j]? = some x.1 := fun j hj => by
    have hj2 : j < dl.length := by have := hdn; simp at this; omega
    exact ⟨dl[j], by rw [getElem!_pos _ _ (by simpa using hj2)]; rfl, by rw [← hdl, List.getElem?_map, List.getElem?_eq_getElem hj2]; rfl⟩
  have hH : Go.Sort.Holds encRow w g 0 dl.toArray := fun j hj => by
    rw [hdn] at hj
    obtain ⟨x, h1, h2⟩ := hget j hj
    rw [h1, Nat.zero_add]
    exact ⟨(ho.cellAt j (by omega)).trans (slCells_at h2), ho.frozenAt j⟩
  have hcmp : CmpLays1 Tryd.prog 47 #[] encRow (fun x y : RowsAt w g => rowC x.1.vs y.1.vs) g 0 dl.toArray.size w := fun m os dk hs x y => by
    have hx : ∀ z : RowsAt w g, Ro (sortWorld encRow w g 0 m dk os) None_ (VlsIn z.1.A z.1.n z.1.vs) := fun z w2 h1 h2 => z.2.1 w2 (Nat.le_trans (sortWorld_size _ _ _ _ _ _) h1) fun b hb hne => (h2 b (Nat.lt_of_lt_of_le hb (sortWorld_size _ _ _ _ _ _)) (by simp [None_])).trans (sortWorld_heap _ _ _ _ _ _ hb hne)
    exact vcmprows_gr _ x.1.A x.1.n x.1.c x.1.vs y.1.A y.1.n y.1.c y.1.vs (hx x) (hx y) x.2.2 y.2.2
  have hcon := Any.slices_SortFunc Tryd.sortRows encRow (fun _ => rfl) (fun x y : RowsAt w g => rowC x.1.vs y.1.vs) (swoRow fun x : RowsAt w g => x.1.vs) 47 #[] g 0 cap dl.toArray w (enters_of Tryd.func47 (by kernel_rfl) rfl) hcmp hH hg (by omega)
  rw [hdn] at hcon
  change Calls Tryd.prog 46 _ _ _ at hcon
  refine hcon.mono ?_
  rintro e w' ⟨rfl, d', n, os, ⟨p1, p2, p3⟩, hs, rfl⟩
  rw [hdn] at p1
  have hall : d'.extract 0 q = d' := by rw [← p1]; simp
  have hall2 : dl.toArray.extract 0 q = dl.toArray := by rw [← hdn]; simp
  rw [hall, hall2] at p3
  have hl' : (d'.toList.map (·.1)).length = q := by simp [p1]
  have hat : ∀ j, j < q → (d'.toList.map (·.1))[j]? = some ((d'[j]!).1) := fun j hj => by
    have hj2 : j < d'.size := by omega
    rw [List.getElem?_map, getElem!_pos d' j hj2, Array.getElem?_toList, Array.getElem?_eq_getElem hj2]
    rfl
  refine ⟨rfl, d'.toList.map (·.1), ?_, ?_, ?_⟩
  · have := p3.map (·.1)
    rwa [show (dl.toArray.toList.map (·.1)) = lo by simpa using hdl] at this
  · rw [List.pairwise_iff_getElem]
    intro a b ha hb hab
    have ha2 := hat a (by omega)
    have hb2 := hat b (by omega)
    rw [List.getElem?_eq_getElem ha] at ha2
    rw [List.getElem?_eq_getElem hb] at hb2
    injection ha2 with ha2
    injection hb2 with hb2
    have h1 := hs a b (Nat.zero_le _) hab (by omega)
    unfold ltOf at h1
    rw [decide_eq_false_iff_not] at h1
    rw [ha2, hb2]
    exact h1
  · refine K.append (w' := sortWorld encRow w g 0 n d' os) i hi (ys := slCells (d'.toList.map (·.1))) ?_ ⟨rfl, rfl, rfl, sortWorld_size _ _ _ _ _ _, fun b hb hne => sortWorld_heap _ _ _ _ _ _ hb fun e => hne (by rw [e]; rfl)⟩ (.inl rfl) (Nat.lt_of_lt_of_le hg (sortWorld_size _ _ _ _ _ _))
    obtain ⟨hlen2, ⟨hv0, _⟩ | ⟨g', cap', cur, hveq, hbase, hcell, hqc, hcm, hcs, htk⟩⟩ := ho
    · cases hv0
    · injection hveq with e1 e2 e3
      injection e1 with e1
      injection e1 with e1
      subst e1; subst e3
      refine ⟨by rw [slCells_len, hl']; omega, .inr ⟨g, cap, _, rfl, hbase, sortWorld_at _ _ _ _ _ _ hcell, hqc, hcm, ?_, ?_⟩⟩
      · rw [← hcs]
        show (cur.mapIdx _).size = _
        simp
      · refine List.ext_getElem? fun j => ?_
        by_cases hj : j < q
        · rw [List.getElem?_take, if_pos (by omega), slCells_at (hat j hj)]
          have hjc : j < cur.size := by omega
          show ((cur.mapIdx fun k x => if 0 ≤ k ∧ k < 0 + d'.size then encRow d'[k - 0]! else x).toList)[j]? = _
          rw [Array.getElem?_toList, Array.getElem?_mapIdx, Array.getElem?_eq_getElem hjc]
          simp only [Option.map_some, Nat.zero_add, Nat.sub_zero, Nat.zero_le, true_and]
          rw [if_pos (by omega)]
          rfl
        · rw [List.getElem?_eq_none (by rw [List.length_take]; omega), List.getElem?_eq_none (by rw [slCells_len, hl']; omega)]
end Go.Proofs.YtljmclbedpceoaaDoor

namespace Go.Proofs.YtljmclbedpceoaaDoor
open Go.RowKit
set_option linter.unusedVariables false
set_option linter.unusedSimpArgs false

def SortedV (l : List (List Vl)) : Prop := l.Pairwise fun a b => ¬ rowC b a < 0
def insV (x : List Vl) : List (List Vl) → List (List Vl)
  | [] => [x]
  | y :: l => if rowC x y < 0 then x :: y :: l else y :: insV x l
def sortV (l : List (List Vl)) : List (List Vl) := l.foldr insV []
theorem rowC_le_trans {a b c : List Vl} (h : ¬ rowC b a < 0) (k : ¬ rowC c b < 0) : ¬ rowC c a < 0 := (swoRow (α := List Vl) id).ntrans c b a (by simpa [ltOf] using k) (by simpa [ltOf] using h) |> fun h => by simpa [ltOf] using h
theorem insV_perm (x : List Vl) : ∀ l, (insV x l).Perm (x :: l)
  | [] => List.Perm.refl _
  | y :: l => by
    rw [insV]
    split
    · exact List.Perm.refl _
    · exact ((insV_perm x l).cons y).trans (List.Perm.swap x y l)
theorem insV_sorted (x : List Vl) : ∀ {l}, SortedV l → SortedV (insV x l)
  | [], _ => List.pairwise_singleton _ _
  | y :: l, h => by
    have h2 := h
    unfold SortedV at h2
    rw [List.pairwise_cons] at h2
    rw [insV]
    split
    · rename_i hlt
      unfold SortedV
      rw [List.pairwise_cons]
      refine ⟨fun z hz => ?_, h⟩
      have h3 : ¬ rowC y x < 0 := fun e => by have := (rowC_flip _ _).1 hlt; omega
      rcases List.mem_cons.1 hz with rfl | hz
      · exact h3
      · exact rowC_le_trans h3 (h2.1 z hz)
    · rename_i hlt
      unfold SortedV
      rw [List.pairwise_cons]
      refine ⟨fun z hz => ?_, insV_sorted x h2.2⟩
      rcases List.mem_cons.1 ((insV_perm x l).mem_iff.1 hz) with rfl | hz
      · exact hlt
      · exact h2.1 z hz
theorem sortV_perm : ∀ l, (sortV l).Perm l
  | [] => List.Perm.refl _
  | x :: l => (insV_perm x (sortV l)).trans ((sortV_perm l).cons x)
theorem sortV_sorted : ∀ l, SortedV (sortV l)
  | [] => List.Pairwise.nil
  | x :: l => insV_sorted x (sortV_sorted l)
theorem sorted_uniq : ∀ {l l' : List (List Vl)}, l.Perm l' → SortedV l → SortedV l' → l = l'
  | [], l', h, _, _ => (List.Perm.nil_eq h)
  | a :: l, [], h, _, _ => absurd h.length_eq (by simp)
  | a :: l, b :: l', h, h1, h2 => by
    unfold SortedV at h1 h2
    rw [List.pairwise_cons] at h1 h2
    have hab : a = b := by
      have ha := h.mem_iff.1 (List.mem_cons_self (a := a) (l := l))
      have hb := h.mem_iff.2 (List.mem_cons_self (a := b) (l := l'))
      rcases List.mem_cons.1 ha with e | ha
      · exact e
      · rcases List.mem_cons.1 hb with e | hb
        · exact e.symm
        · have k1 := h2.1 a ha
          have k2 := h1.1 b hb
          have k3 : ¬ 0 < rowC b a := fun h => k1 ((rowC_flip _ _).2 h)
          exact ((rowC_eq b a).1 (by omega)).symm
    subst hab
    rw [sorted_uniq ((List.perm_cons a).1 h) h1.2 h2.2]
theorem sortV_of {l l' : List (List Vl)} (h : l'.Perm l) (hs : SortedV l') : l' = sortV l := sorted_uniq (h.trans (sortV_perm l).symm) hs (sortV_sorted l)
theorem sortV_len (l : List (List Vl)) : (sortV l).length = l.length := (sortV_perm l).length_eq
end Go.Proofs.YtljmclbedpceoaaDoor

namespace Go.Proofs.YtljmclbedpceoaaDoor
open Go.RowKit
set_option linter.unusedVariables false
set_option linter.unusedSimpArgs false

/-- A difference: the table's name, the rows that came, those that left, the updates. -/
structure Dl where
  nm : ByteArray
  ins : List Row
  del : List Row
  upd : List Upd
deriving DecidableEq
/-- the rows of l that rs does not have -/
def offR (rs l : List Row) : List Row := l.filter fun r => (getR rs r.1).isNone
/-- the rows of l that rs has with other values -/
def turnR (rs l : List Row) : List Upd := l.filterMap fun r => match getR rs r.1 with
  | some o => if o = r.2 then none else some (r.1, o, r.2)
  | none => none
theorem offR_hit {rs l : List Row} {j : Nat} {r : Row} (hr : l[j]? = some r) (h : getR rs r.1 = none) : offR rs (l.take (j + 1)) = offR rs (l.take j) ++ [r] := by
  unfold offR
  rw [List.take_add_one, hr, Option.toList_some, List.filter_append]
  simp [List.filter_cons, h]
theorem offR_miss {rs l : List Row} {j : Nat} {r : Row} {v : List Vl} (hr : l[j]? = some r) (h : getR rs r.1 = some v) : offR rs (l.take (j + 1)) = offR rs (l.take j) := by
  unfold offR
  rw [List.take_add_one, hr, Option.toList_some, List.filter_append]
  simp [List.filter_cons, h]
theorem turnR_none {rs l : List Row} {j : Nat} {r : Row} (hr : l[j]? = some r) (h : getR rs r.1 = none) : turnR rs (l.take (j + 1)) = turnR rs (l.take j) := by
  unfold turnR
  rw [List.take_add_one, hr, Option.toList_some, List.filterMap_append]
  simp [h]
theorem turnR_same {rs l : List Row} {j : Nat} {r : Row} (hr : l[j]? = some r) (h : getR rs r.1 = some r.2) : turnR rs (l.take (j + 1)) = turnR rs (l.take j) := by
  unfold turnR
  rw [List.take_add_one, hr, Option.toList_some, List.filterMap_append]
  simp [h]
theorem turnR_turn {rs l : List Row} {j : Nat} {r : Row} {o : List Vl} (hr : l[j]? = some r) (h : getR rs r.1 = some o) (hne : o ≠ r.2) : turnR rs (l.take (j + 1)) = turnR rs (l.take j) ++ [(r.1, o, r.2)] := by
  unfold turnR
  rw [List.take_add_one, hr, Option.toList_some, List.filterMap_append]
  simp [h, hne]
theorem getR_of_mem : ∀ {rs : List Row} {r : Row}, (rs.map (·.1)).Pairwise (· < ·) → r ∈ rs → getR rs r.1 = some r.2
  | x :: rs, r, ha, hr => by
    rw [List.map_cons, List.pairwise_cons] at ha
    rcases List.mem_cons.1 hr with rfl | hr
    · simp [getR]
    · have h1 := ha.1 r.1 (List.mem_map_of_mem hr)
      have h2 := getR_of_mem ha.2 hr
      unfold getR at h2 ⊢
      rw [List.find?_cons, show (x.1 == r.1) = false by rw [beq_eq_false_iff_ne]; omega]
      exact h2
/-- the merge's state: the rows of a ahead of p lie below all rows of b from j on, the others above all rows of b ahead of j -/
structure Mg (a b : List Row) (j p : Nat) : Prop where
  aasc : (a.map (·.1)).Pairwise (· < ·)
  basc : (b.map (·.1)).Pairwise (· < ·)
  low : ∀ x ∈ a.take p, ∀ y ∈ b.drop j, x.1 < y.1
  up : ∀ x ∈ a.drop p, ∀ y ∈ b.take j, y.1 < x.1
theorem asc_at {l : List Row} (h : (l.map (·.1)).Pairwise (· < ·)) {i j : Nat} {x y : Row} (hx : l[i]? = some x) (hy : l[j]? = some y) (hij : i < j) : x.1 < y.1 := by
  rw [List.pairwise_iff_getElem] at h
  obtain ⟨hi, rfl⟩ := List.getElem?_eq_some_iff.1 hx
  obtain ⟨hj, rfl⟩ := List.getElem?_eq_some_iff.1 hy
  have := h i j (by simpa using hi) (by simpa using hj) hij
  simpa using this
theorem mem_drop_at {α : Type} {l : List α} {k : Nat} {x : α} (h : x ∈ l.drop k) : ∃ i, k ≤ i ∧ l[i]? = some x := by
  obtain ⟨i, hi⟩ := List.getElem?_of_mem h
  rw [List.getElem?_drop] at hi
  exact ⟨k + i, by omega, hi⟩
theorem mem_take_at {α : Type} {l : List α} {k : Nat} {x : α} (h : x ∈ l.take k) : ∃ i, i < k ∧ l[i]? = some x := by
  obtain ⟨i, hi⟩ := List.getElem?_of_mem h
  rw [List.getElem?_take] at hi
  split at hi
  · exact ⟨i, by assumption, hi⟩
  · cases hi
theorem mem_of_drop_at {α : Type} {l : List α} {k i : Nat} {x : α} (hk : k ≤ i) (h : l[i]? = some x) : x ∈ l.drop k := List.mem_of_getElem? (i := i - k) (by rw [List.getElem?_drop, show k + (i - k) = i by omega]; exact h)
theorem mem_of_take_at {α : Type} {l : List α} {k i : Nat} {x : α} (hk : i < k) (h : l[i]? = some x) : x ∈ l.take k := List.mem_of_getElem? (i := i) (by rw [List.getElem?_take, if_pos hk]; exact h)
theorem Mg.zero {a b : List Row} (ha : (a.map (·.1)).Pairwise (· < ·)) (hb : (b.map (·.1)).Pairwise (· < ·)) : Mg a b 0 0 := ⟨ha, hb, fun x hx => by simp at hx, fun x _ y hy => by simp at hy⟩
/-- a row of a that b lacks -/
theorem Mg.left {a b : List Row} {j p : Nat} (h : Mg a b j p) {x r : Row} (hx : a[p]? = some x) (hr : b[j]? = some r) (hlt : x.1 < r.1) : Mg a b j (p + 1) ∧ getR b x.1 = none := by
  refine ⟨⟨h.aasc, h.basc, fun z hz y hy => ?_, fun z hz y hy => ?_⟩, getR_none fun y hy e => ?_⟩
  · obtain ⟨i, hi, hzi⟩ := mem_take_at hz
    rcases Nat.lt_or_ge i p with hip | hip
    · exact h.low z (mem_of_take_at hip hzi) y hy
    · obtain rfl : i = p := by omega
      rw [hx] at hzi; injection hzi with hzi; subst hzi
      obtain ⟨k, hk, hyk⟩ := mem_drop_at hy
      rcases Nat.eq_or_lt_of_le hk with e | e
      · subst e; rw [hr] at hyk; injection hyk with hyk; subst hyk; exact hlt
      · have := asc_at h.basc hr hyk e; omega
  · obtain ⟨i, hi, hzi⟩ := mem_drop_at hz
    exact h.up z (mem_of_drop_at (by omega) hzi) y hy
  · obtain ⟨k, hk⟩ := List.getElem?_of_mem hy
    rcases Nat.lt_or_ge k j with hkj | hkj
    · have := h.up x (mem_of_drop_at (Nat.le_refl _) hx) y (mem_of_take_at hkj hk); omega
    · rcases Nat.eq_or_lt_of_le hkj with e2 | e2
      · subst e2; rw [hr] at hk; injection hk with hk; subst hk; omega
      · have := asc_at h.basc hr hk e2; omega
/-- a row of both -/
theorem Mg.both {a b : List Row} {j p : Nat} (h : Mg a b j p) {x r : Row} (hx : a[p]? = some x) (hr : b[j]? = some r) (he : x.1 = r.1) : Mg a b (j + 1) (p + 1) ∧ getR b x.1 = some r.2 ∧ getR a r.1 = some x.2 := by
  refine ⟨⟨h.aasc, h.basc, fun z hz y hy => ?_, fun z hz y hy => ?_⟩, ?_, ?_⟩
  · obtain ⟨i, hi, hzi⟩ := mem_take_at hz
    obtain ⟨k, hk, hyk⟩ := mem_drop_at hy
    have h1 := asc_at h.basc hr hyk (by omega)
    rcases Nat.lt_or_ge i p with hip | hip
    · have := asc_at h.aasc hzi hx hip; omega
    · obtain rfl : i = p := by omega
      rw [hx] at hzi; injection hzi with hzi; subst hzi; omega
  · obtain ⟨i, hi, hzi⟩ := mem_drop_at hz
    obtain ⟨k, hk, hyk⟩ := mem_take_at hy
    have h1 := asc_at h.aasc hx hzi (by omega)
    rcases Nat.lt_or_ge k j with hkj | hkj
    · have := asc_at h.basc hyk hr hkj; omega
    · obtain rfl : k = j := by omega
      rw [hr] at hyk; injection hyk with hyk; subst hyk; omega
  · rw [he]; exact getR_of_mem h.basc (List.mem_of_getElem? hr)
  · rw [← he]; exact getR_of_mem h.aasc (List.mem_of_getElem? hx)
/-- a row of b that a lacks -/
theorem Mg.right {a b : List Row} {j p : Nat} (h : Mg a b j p) {r : Row} (hr : b[j]? = some r) (hp : ∀ x, a[p]? = some x → r.1 < x.1) : Mg a b (j + 1) p ∧ getR a r.1 = none := by
  have hup : ∀ i z, p ≤ i → a[i]? = some z → r.1 < z.1 := fun i z hi hz => by
    rcases Nat.eq_or_lt_of_le hi with e | e
    · subst e; exact hp z hz
    · have hl : p < a.length := by have := (List.getElem?_eq_some_iff.1 hz).1; omega
      have h1 := hp _ (List.getElem?_eq_getElem hl)
      have h2 := asc_at h.aasc (List.getElem?_eq_getElem hl) hz e
      omega
  refine ⟨⟨h.aasc, h.basc, fun z hz y hy => ?_, fun z hz y hy => ?_⟩, getR_none fun y hy e => ?_⟩
  · obtain ⟨k, hk, hyk⟩ := mem_drop_at hy
    exact h.low z hz y (mem_of_drop_at (by omega) hyk)
  · obtain ⟨i, hi, hzi⟩ := mem_drop_at hz
    obtain ⟨k, hk, hyk⟩ := mem_take_at hy
    have h1 := hup i z hi hzi
    rcases Nat.lt_or_ge k j with hkj | hkj
    · have := asc_at h.basc hyk hr hkj; omega
    · obtain rfl : k = j := by omega
      rw [hr] at hyk; injection hyk with hyk; subst hyk; omega
  · obtain ⟨i, hi⟩ := List.getElem?_of_mem hy
    rcases Nat.lt_or_ge i p with hip | hip
    · have := h.low y (mem_of_take_at hip hi) r (mem_of_drop_at (Nat.le_refl _) hr); omega
    · have := hup i y hip hi; omega
/-- what is left of a, b lacks -/
theorem Mg.last {a b : List Row} {j p : Nat} (h : Mg a b j p) (hj : b.length ≤ j) {i : Nat} {x : Row} (hi : p ≤ i) (hx : a[i]? = some x) : getR b x.1 = none := getR_none fun y hy e => by
  obtain ⟨k, hk⟩ := List.getElem?_of_mem hy
  have := (List.getElem?_eq_some_iff.1 hk).1
  have := h.up x (mem_of_drop_at hi hx) y (mem_of_take_at (by omega) hk)
  omega
/-- the state of the merge: j rows of b and p rows of a are done -/
structure BSt (a b : Tb) (j p : Nat) (li ld : List Rw) (lu : List Pr) : Prop where
  va : tabB a.nm a.cs a.nx a.rs = true
  vb : tabB b.nm b.cs b.nx b.rs = true
  eq : a.nm = b.nm ∧ a.cs = b.cs
  nx : a.nx ≤ b.nx
  mg : Mg a.rs b.rs j p
  ins : li.map Rw.row = offR a.rs (b.rs.take j)
  del : ld.map Rw.row = offR b.rs (a.rs.take p)
  upd : lu.map Pr.upd = turnR a.rs (b.rs.take j)
  new : ∀ r ∈ b.rs.take j, (getR a.rs r.1).isSome = true ∨ a.nx ≤ r.1
  ok1 : ∀ r ∈ li, r.ok
  ok2 : ∀ r ∈ ld, r.ok
  ok3 : ∀ p ∈ lu, p.ok
theorem tabB_asc {t : Tb} (h : tabB t.nm t.cs t.nx t.rs = true) : (t.rs.map (·.1)).Pairwise (· < ·) := (okR_asc (tabB_ok h).2.2.2.2.1).1
theorem BSt.zero {a b : Tb} (va : tabB a.nm a.cs a.nx a.rs = true) (vb : tabB b.nm b.cs b.nx b.rs = true) (eq : a.nm = b.nm ∧ a.cs = b.cs) (nx : a.nx ≤ b.nx) : BSt a b 0 0 [] [] [] :=
  ⟨va, vb, eq, nx, Mg.zero (tabB_asc va) (tabB_asc vb), rfl, rfl, rfl, fun r hr => by simp at hr, fun r hr => (nomatch hr), fun r hr => (nomatch hr), fun r hr => (nomatch hr)⟩
theorem okSnoc {α : Type} {P : α → Prop} {l : List α} {x : α} (h : ∀ r ∈ l, P r) (k : P x) : ∀ r ∈ l ++ [x], P r := fun r hr => by
  rcases List.mem_append.1 hr with hr | hr
  · exact h r hr
  · simp at hr; subst hr; exact k
theorem all_take {P : Row → Prop} {l : List Row} {j : Nat} {r : Row} (h : ∀ x ∈ l.take j, P x) (hr : l[j]? = some r) (k : P r) : ∀ x ∈ l.take (j + 1), P x := by
  rw [List.take_add_one, hr, Option.toList_some]
  exact okSnoc h k
section
variable {a b : Tb} {j p : Nat} {li ld : List Rw} {lu : List Pr}
theorem BSt.left (h : BSt a b j p li ld lu) {x r : Row} (hx : a.rs[p]? = some x) (hr : b.rs[j]? = some r) (hlt : x.1 < r.1) {y : Rw} (hy : y.row = x) (hk : y.ok) : BSt a b j (p + 1) li (ld ++ [y]) lu := by
  obtain ⟨h1, h2⟩ := h.mg.left hx hr hlt
  exact ⟨h.va, h.vb, h.eq, h.nx, h1, h.ins, by rw [List.map_append, h.del, offR_hit hx h2, ← hy]; rfl, h.upd, h.new, h.ok1, okSnoc h.ok2 hk, h.ok3⟩
theorem BSt.same (h : BSt a b j p li ld lu) {x r : Row} (hx : a.rs[p]? = some x) (hr : b.rs[j]? = some r) (he : x.1 = r.1) (hv : x.2 = r.2) : BSt a b (j + 1) (p + 1) li ld lu := by
  obtain ⟨h1, h2, h3⟩ := h.mg.both hx hr he
  exact ⟨h.va, h.vb, h.eq, h.nx, h1, by rw [h.ins, offR_miss hr h3], by rw [h.del, offR_miss hx h2], by rw [h.upd, turnR_same hr (by rw [h3, hv])], all_take h.new hr (.inl (by rw [h3]; rfl)), h.ok1, h.ok2, h.ok3⟩
theorem BSt.turn (h : BSt a b j p li ld lu) {x r : Row} (hx : a.rs[p]? = some x) (hr : b.rs[j]? = some r) (he : x.1 = r.1) (hv : x.2 ≠ r.2) {q : Pr} (hq : q.upd = (r.1, x.2, r.2)) (hk : q.ok) : BSt a b (j + 1) (p + 1) li ld (lu ++ [q]) := by
  obtain ⟨h1, h2, h3⟩ := h.mg.both hx hr he
  exact ⟨h.va, h.vb, h.eq, h.nx, h1, by rw [h.ins, offR_miss hr h3], by rw [h.del, offR_miss hx h2], by rw [List.map_append, h.upd, turnR_turn hr h3 hv, ← hq]; rfl, all_take h.new hr (.inl (by rw [h3]; rfl)), h.ok1, h.ok2, okSnoc h.ok3 hk⟩
theorem BSt.right (h : BSt a b j p li ld lu) {r : Row} (hr : b.rs[j]? = some r) (hp : ∀ x, a.rs[p]? = some x → r.1 < x.1) (hn : a.nx ≤ r.1) {y : Rw} (hy : y.row = r) (hk : y.ok) : BSt a b (j + 1) p (li ++ [y]) ld lu := by
  obtain ⟨h1, h2⟩ := h.mg.right hr hp
  exact ⟨h.va, h.vb, h.eq, h.nx, h1, by rw [List.map_append, h.ins, offR_hit hr h2, ← hy]; rfl, h.del, by rw [h.upd, turnR_none hr h2], all_take h.new hr (.inr hn), okSnoc h.ok1 hk, h.ok2, h.ok3⟩
theorem BSt.tail (h : BSt a b j p li ld lu) (hj : b.rs.length ≤ j) {x : Row} (hx : a.rs[p]? = some x) {y : Rw} (hy : y.row = x) (hk : y.ok) : BSt a b j (p + 1) li (ld ++ [y]) lu := by
  have h2 := h.mg.last hj (Nat.le_refl _) hx
  refine ⟨h.va, h.vb, h.eq, h.nx, ⟨h.mg.aasc, h.mg.basc, fun z _ y hy => ?_, fun z hz y hy => ?_⟩, h.ins, by rw [List.map_append, h.del, offR_hit hx h2, ← hy]; rfl, h.upd, h.new, h.ok1, okSnoc h.ok2 hk, h.ok3⟩
  · rw [List.drop_of_length_le hj] at hy; cases hy
  · obtain ⟨i, hi, hzi⟩ := mem_drop_at hz
    exact h.mg.up z (mem_of_drop_at (by omega) hzi) y hy
end
/-- the state of the reference's loops: j rows of b, then p rows of a are done -/
structure RSt (a b : Tb) (j p : Nat) (li ld : List Rw) (lu : List Pr) : Prop where
  va : tabB a.nm a.cs a.nx a.rs = true
  vb : tabB b.nm b.cs b.nx b.rs = true
  eq : a.nm = b.nm ∧ a.cs = b.cs
  nx : a.nx ≤ b.nx
  ins : li.map Rw.row = offR a.rs (b.rs.take j)
  del : ld.map Rw.row = offR b.rs (a.rs.take p)
  upd : lu.map Pr.upd = turnR a.rs (b.rs.take j)
  new : ∀ r ∈ b.rs.take j, (getR a.rs r.1).isSome = true ∨ a.nx ≤ r.1
  ok1 : ∀ r ∈ li, r.ok
  ok2 : ∀ r ∈ ld, r.ok
  ok3 : ∀ p ∈ lu, p.ok
theorem RSt.zero {a b : Tb} (va : tabB a.nm a.cs a.nx a.rs = true) (vb : tabB b.nm b.cs b.nx b.rs = true) (eq : a.nm = b.nm ∧ a.cs = b.cs) (nx : a.nx ≤ b.nx) : RSt a b 0 0 [] [] [] :=
  ⟨va, vb, eq, nx, rfl, rfl, rfl, fun r hr => by simp at hr, fun r hr => (nomatch hr), fun r hr => (nomatch hr), fun r hr => (nomatch hr)⟩
section
variable {a b : Tb} {j p : Nat} {li ld : List Rw} {lu : List Pr}
theorem RSt.same (h : RSt a b j p li ld lu) {r : Row} {o : List Vl} (hr : b.rs[j]? = some r) (h2 : getR a.rs r.1 = some o) (ho : o = r.2) : RSt a b (j + 1) p li ld lu := by
  subst ho
  exact ⟨h.va, h.vb, h.eq, h.nx, by rw [h.ins, offR_miss hr h2], h.del, by rw [h.upd, turnR_same hr h2], all_take h.new hr (.inl (by rw [h2]; rfl)), h.ok1, h.ok2, h.ok3⟩
theorem RSt.turn (h : RSt a b j p li ld lu) {r : Row} {o : List Vl} (hr : b.rs[j]? = some r) (h2 : getR a.rs r.1 = some o) (ho : o ≠ r.2) {q : Pr} (hq : q.upd = (r.1, o, r.2)) (hk : q.ok) : RSt a b (j + 1) p li ld (lu ++ [q]) :=
  ⟨h.va, h.vb, h.eq, h.nx, by rw [h.ins, offR_miss hr h2], h.del, by rw [List.map_append, h.upd, turnR_turn hr h2 ho, ← hq]; rfl, all_take h.new hr (.inl (by rw [h2]; rfl)), h.ok1, h.ok2, okSnoc h.ok3 hk⟩
theorem RSt.left (h : RSt a b j p li ld lu) {x : Row} (hx : a.rs[p]? = some x) (h2 : getR b.rs x.1 = none) {y : Rw} (hy : y.row = x) (hk : y.ok) : RSt a b j (p + 1) li (ld ++ [y]) lu :=
  ⟨h.va, h.vb, h.eq, h.nx, h.ins, by rw [List.map_append, h.del, offR_hit hx h2, ← hy]; rfl, h.upd, h.new, h.ok1, okSnoc h.ok2 hk, h.ok3⟩
theorem RSt.keep (h : RSt a b j p li ld lu) {x : Row} {v : List Vl} (hx : a.rs[p]? = some x) (h2 : getR b.rs x.1 = some v) : RSt a b j (p + 1) li ld lu :=
  ⟨h.va, h.vb, h.eq, h.nx, h.ins, by rw [h.del, offR_miss hx h2], h.upd, h.new, h.ok1, h.ok2, h.ok3⟩
end
end Go.Proofs.YtljmclbedpceoaaDoor

namespace Go.Proofs.YtljmclbedpceoaaDoor
open Go.RowKit
set_option linter.unusedVariables false
set_option linter.unusedSimpArgs false

/-- rows handed back -/
def SlsRet (w : World) (M : Nat → Prop) (L : List (List Vl)) (e : Ending) (w' : World) : Prop := ∃ (A : Option Addr) (n c : Nat) (l : List Sl), e = .returned (.slice A n c) ∧ n ≤ c ∧ c ≤ 9223372036854775807 ∧ Ro w' M (SlsIn A n l) ∧ (∀ s ∈ l, s.ok) ∧ (∀ s ∈ l, s.n ≤ 4398046511104) ∧ l.map Sl.vs = L ∧ Below w.heap.size w w'
set_option maxHeartbeats 4000000 in
set_option maxRecDepth 100000 in
theorem tsort_any (M : Nat → Prop) (w : World) (hM : ∀ b, M b → b < w.heap.size) (A : Option Addr) (n c : Nat) (l : List Sl) (hD : Ro w M (SlsIn A n l)) (hn : n ≤ 4398046511104) (hr : ∀ s ∈ l, s.n ≤ 4398046511104) (hok : ∀ s ∈ l, s.ok) :
    Calls Tryd.prog 11 #[.slice A n c] w fun e w' => SlsRet w M (sortV (l.map Sl.vs)) e w' := by
  have HL := hid hD.now.len
  have HR := hid hr
  have HOK := hid hok
  have K0 := (((Hold.start M w hM).add (hD.less (by simp [Mut]))).add (show Ro w _ (SlVals []) from fun _ _ _ r hr => nomatch hr)).nil 27 1
  clear hD hr hok
  go_enter Tryd.func11, Tryd.ntmps11
  go_wp2_with fail
  go_loopw [3, 8] (fun ov iv wr => ∃ (k cap : Nat) (C : Option Addr) (lo : List Sl), k ≤ n ∧ ov = .slice C k cap ∧ iv = .int .i64 k ∧ Hid (lo.map Sl.vs = (l.map Sl.vs).take k) ∧ Hid (∀ s ∈ lo, s.ok) ∧ Hid (∀ s ∈ lo, s.n ≤ 4398046511104) ∧ Hold M none w wr [.own 27 1 (.slice C k cap) k (slCells lo), .ro (SlVals lo), .ro (SlsIn A n l)]) (fun _ iv _ => n - (intOf iv).toNat)
  case atStart => exact ⟨0, 0, none, [], by omega, rfl, rfl, hid (by simp), hid (fun s hs => nomatch hs), hid (fun s hs => nomatch hs), K0⟩
  case round =>
    clear K0
    obtain ⟨k, cap, C, lo, hk, rfl, rfl, HLO, HOO, HNO, H⟩ := hrel
    by_cases hlt : k < n
    · have hd : decide ((k : Int) < (n : Int)) = true := by simp; omega
      have i0 : (0 : Int) ≤ (k : Int) := by omega
      have i1 : (k : Int) < (n : Int) := by omega
      obtain ⟨x, hx⟩ := get_of HL.out hlt
      obtain ⟨b, o, rfl, hb, c0, _⟩ := (H.ro 2 rfl).now.at_ hx
      have hxv : Ro wr _ (VlsIn x.A x.n x.vs) := (H.ro 2 rfl).imp fun w2 h2 => h2.2 x (List.mem_of_getElem? hx)
      have hxn := HR.out x (List.mem_of_getElem? hx)
      have HXO := hid (HOK.out x (List.mem_of_getElem? hx))
      have HX := hid (show (l.map Sl.vs)[k]? = some x.vs by rw [List.getElem?_map, hx]; rfl)
      clear hx
      go_wp2_with fail
      refine (cloneVls_any _ wr H.mutLt x.A x.n x.c x.vs hxv hxn).mono ?_
      rintro e w2 ⟨zA, zn, zc, rfl, h1, h2, h3, r2, b2⟩
      have K1 := (H.call b2).add (show Ro w2 _ (VlsIn zA zn x.vs) from r2)
      have hzn : x.vs.length = x.n := hxv.now.len
      have HZ := hid (And.intro h1 (And.intro h2 h3))
      clear H hxv b2 r2 h1 h2 h3 c0
      have HCE := hid (show slCells lo ++ (#[Value.slice zA zn zc]).toList = slCells (lo ++ [⟨zA, zn, zc, x.vs⟩]) by simp [slCells, Sl.cells])
      have FA := K1.facts
      simp only [World.size_alloc, World.size_drew, factsL, cellsF, Nat.reduceAdd, List.toList_toArray, List.set_cons_zero, List.set_cons_succ, List.setIfInBounds_toArray, and_true, true_and] at FA
      go_wp2_with (at_builtin; go_must (refine wpList_appH K1 1 rfl Tryd.elSlc #[.slice zA zn zc] rfl (.tmp 12) (.tmp 15) rfl rfl w2.heap.size (by first | rfl | simp) rfl rfl (by intro u hu; simp at hu; rcases hu with rfl; rfl) (by omega) (by omega) ?_); intro g9 cap9 w9 hc9 hm9 KB; rw [HCE.out] at KB; simp only [List.set_cons_zero, List.set_cons_succ] at KB)
      have KC := (KB.swapRo 2 rfl (sls_snoc (r := ⟨zA, zn, zc, x.vs⟩) (KB.ro 2 rfl) (KB.ro 0 rfl))).drop (List.sublist_cons_self _ _)
      have HN := hid (show (lo ++ [(⟨zA, zn, zc, x.vs⟩ : Sl)]).map Sl.vs = (l.map Sl.vs).take (k + 1) by rw [List.map_append, HLO.out, List.take_add_one, HX.out]; rfl)
      have HN2 := hid (okSnoc (P := Sl.ok) (x := (⟨zA, zn, zc, x.vs⟩ : Sl)) HOO.out ⟨HZ.out.2.1, HZ.out.2.2, HXO.out.vs⟩)
      have HN3 := hid (okSnoc (P := fun s : Sl => s.n ≤ 4398046511104) (x := (⟨zA, zn, zc, x.vs⟩ : Sl)) HNO.out (by have := HZ.out.1; show zn ≤ _; omega))
      go_roundw
      case rel => exact ⟨k + 1, cap9, _, _, by omega, by first | rfl | go_num, by first | rfl | go_num, HN, HN2, HN3, KC⟩
      case measure => simp [intOf]; omega
    · obtain rfl : n = k := by omega
      have hd : decide ((n : Int) < (n : Int)) = false := by simp
      have HLV := hid (show lo.map Sl.vs = l.map Sl.vs by
        have h := HLO.out
        rwa [List.take_of_length_le (by rw [List.length_map, HL.out]; exact Nat.le_refl _)] at h)
      clear HLO
      obtain ⟨hc1, hc2, _⟩ := own_caps (H.get 0 rfl)
      rcases own_addr (H.get 0 rfl) with ⟨rfl, rfl, rfl⟩ | ⟨g, rfl, hg⟩
      · have hcon := AnyF.slices_SortFunc_none (P := Tryd.prog) (ρ := Tryd.sortRows_ren) { Tryd.sortRows with } none 0 (.func (.func 47) #[] #[])
        have HCN := hid (show ∀ W, Calls Tryd.prog 46 #[.slice none 0 0, .func (.func 47) #[] #[]] W fun e w' => e = .returned (.tuple #[]) ∧ w' = W from hcon)
        clear hcon
        have HEM := hid (show sortV (l.map Sl.vs) = lo.map Sl.vs by
          have h0 : l = [] := List.eq_nil_of_length_eq_zero HL.out
          have h1 := HLV.out
          rw [h0] at h1 ⊢
          rw [h1]; rfl)
        have KS := H.sealRow 0 rfl
        simp only [List.set_cons_zero] at KS
        have r1 := (KS.roOut 0 rfl).and (KS.roOut 1 rfl)
        go_wp2_with fail
        refine (HCN.out _).mono ?_
        rintro e w2 ⟨rfl, rfl⟩
        go_wp2_with fail
        go_ret
        exact ⟨none, 0, 0, lo, rfl, by omega, by omega, r1, HOO.out, HNO.out, HEM.out.symm, KS.below⟩
      · have hsf := sortfn_any H 0 rfl (H.ro 1 rfl) (fun s hs => by have := HNO.out s hs; omega) (by omega)
        have HSF := hid hsf
        clear hsf
        go_wp2_with fail
        refine HSF.out.mono ?_
        rintro e w2 ⟨rfl, lo', hp, hs, K2⟩
        simp only [List.set_cons_zero] at K2
        have HEM := hid (show lo'.map Sl.vs = sortV (l.map Sl.vs) by
          rw [← HLV.out]
          exact sortV_of (hp.map _) (List.pairwise_map.2 (hs.imp fun h => by omega)))
        have HP := hid hp
        clear H hp hs
        have KV := K2.add (show Ro w2 _ (SlVals lo') from (K2.ro 1 rfl).imp fun w3 h3 s hs => h3 s (HP.out.mem_iff.1 hs))
        have KS := KV.sealRow 1 rfl
        simp only [List.set_cons_zero, List.set_cons_succ] at KS
        have r1 := (KS.roOut 1 rfl).and (KS.roOut 0 rfl)
        go_wp2_with fail
        go_ret
        exact ⟨_, n, cap, lo', rfl, hc1, hc2, r1, fun s hs => HOO.out s (HP.out.mem_iff.1 hs), fun s hs => HNO.out s (HP.out.mem_iff.1 hs), HEM.out, KS.below⟩
end Go.Proofs.YtljmclbedpceoaaDoor

namespace Go.Proofs.YtljmclbedpceoaaDoor
open Go.RowKit
set_option linter.unusedVariables false
set_option linter.unusedSimpArgs false

section
variable {M : Nat → Prop} {row : Option Nat} {w0 w : World} {L : List Hp} {P : Program}
theorem Hold.setRow_ (K : Hold M row w0 w L) (i : Nat) {e : TypeId} {n cap g : Nat} {xs : List Value} (hi : L[i]? = some (.own e 1 (.slice (some ⟨g, 0, none⟩) n cap) n xs)) {cur : Array Value} {t : TypeId} (hg : w.heap[g]? = some (.cells cur t (0, 0))) (d : Nat) (cs : List Value) (hd : d + cs.length ≤ n) :
    Hold M row w0 (w.setRow g (cur.toList.take d ++ (cs ++ cur.toList.drop (d + cs.length))).toArray) (L.set i (.own e 1 (.slice (some ⟨g, 0, none⟩) n cap) n (xs.take d ++ (cs ++ xs.drop (d + cs.length))))) := by
  have hkm := List.mem_of_getElem? hi
  have hs : w.ownsRow w0.heap.size e 1 (.slice (some ⟨g, 0, none⟩) n cap) n xs := K.sat _ hkm
  obtain ⟨hl, ⟨h', _⟩ | ⟨g', cap', cur', h', hb, hg', hnc, hcm, hcs, htake⟩⟩ := hs
  · cases h'
  · simp only [Value.slice.injEq, Option.some.injEq, Addr.mk.injEq, and_true, true_and] at h'
    obtain ⟨rfl, rfl⟩ := h'
    rw [hg] at hg'
    injection hg' with hg'
    injection hg' with e1 e2
    subst e1 e2
    rw [Nat.mul_one] at hl htake hcs
    have hcl : cur.toList.length = cap := by simpa using hcs
    refine K.turn i hi (by simp [World.setRow]) ⟨rfl, rfl, rfl⟩ (fun b _ hne => setRow_other w g b _ fun e => hne (by rw [e]; rfl)) (fun b hf => ?_) ?_ (fun T hT => by cases hT)
    · have : some g = some b := hf
      injection this with this
      subst this
      exact ⟨.inl rfl, by simpa [World.setRow] using Blk.lt (t := t) (cs := cur) hg⟩
    · show World.ownsRow _ _ t 1 (.slice (some ⟨g, 0, none⟩) n cap) n _
      refine ⟨by simp; omega, .inr ⟨g, cap, _, rfl, hb, setRow_heap w g _ _ _ _ hg, hnc, hcm, by simp; omega, ?_⟩⟩
      rw [Nat.mul_one, List.toList_toArray]
      have e1 : cur.toList.take d = xs.take d := by rw [← htake, List.take_take, Nat.min_eq_left (by omega)]
      have e2 : cur.toList.drop (d + cs.length) = xs.drop (d + cs.length) ++ cur.toList.drop n := by
        have h := List.drop_append (l₁ := cur.toList.take n) (l₂ := cur.toList.drop n) (i := d + cs.length)
        rw [List.take_append_drop, htake] at h
        rw [h, show d + cs.length - xs.length = 0 by omega, List.drop_zero]
      rw [e1, e2, ← List.append_assoc cs, ← List.append_assoc (xs.take d), List.take_append_of_le_length (by simp; omega), List.take_of_length_le (by simp; omega)]
theorem wpList_copyH (K : Hold M row w0 w L) (i : Nat) {e : TypeId} {n cap g : Nat} {xs : List Value} (hi : L[i]? = some (.own e 1 (.slice (some ⟨g, 0, none⟩) n cap) n xs)) {ops : Array Oper} {rest : List Oper} {o : Oper} {a : Act} {Q : Exit → Act → World → Prop} (hgd : o.guard = none) (dO sO : Operand) (dT sT : TypeId)
    (ho : o.op = .call { callee := .builtin .copy, args := #[dO, sO], argTypes := #[dT, sT] }) (elem : TypeId) (hu : P.underlying dT = some (.slice elem)) (hsz : (P.info? elem).map (·.size) = some 1)
    (d s dLen dCap sLen sCap m : Nat) (hd : a.eval dO = .slice (some ⟨g, d, none⟩) dLen dCap) (hs : a.eval sO = .slice (some ⟨g, s, none⟩) sLen sCap) (hm : m = Nat.min sLen dLen) (hsm : s + m ≤ n) (hdm : d + m ≤ n) (h1 : ∀ u ∈ xs, u.oneCell' = true)
    (h : ∀ w', Hold M row w0 w' (L.set i (.own e 1 (.slice (some ⟨g, 0, none⟩) n cap) n (xs.take d ++ ((xs.drop s).take m ++ xs.drop (d + m))))) → wpList P ops Q rest (a.put o.dst (goInt m)) w') : wpList P ops Q (o :: rest) a w := by
  have hown : w.ownsRow w0.heap.size e 1 (.slice (some ⟨g, 0, none⟩) n cap) n xs := K.sat _ (List.mem_of_getElem? hi)
  have hcell := hown.cellAt
  obtain ⟨hl, ⟨h', _⟩ | ⟨g', cap', cur, h', hb, hg, hnc, hcm, hcs, htake⟩⟩ := hown
  · cases h'
  · simp only [Value.slice.injEq, Option.some.injEq, Addr.mk.injEq, and_true, true_and] at h'
    obtain ⟨rfl, rfl⟩ := h'
    rw [Nat.mul_one] at hl
    have hml : ((xs.drop s).take m).length = m := by simp; omega
    have hw := h _ (by have h2 := K.setRow_ i hi hg d ((xs.drop s).take m) (by rw [hml]; exact hdm); rw [hml] at h2; exact h2)
    refine wpList_copy_own hgd dO sO dT sT ho elem hu hsz g d dLen dCap ⟨g, s, none⟩ sLen sCap hd hs cur e hg ((xs.drop s).take m) (by rw [hml]; exact hm) (fun j v hv => ?_) ?_ (fun v hv => h1 v (List.mem_of_mem_drop (List.mem_of_mem_take hv))) (by rw [hml]; exact hw)
    · have hj : j < m := by have := (List.getElem?_eq_some_iff.1 hv).1; omega
      rw [List.getElem?_take, if_pos hj, List.getElem?_drop] at hv
      rw [← hv]
      have h3 := hcell (s + j) (by omega)
      rw [Go.WideShapes.add_plain]
      exact h3
    · have : cur.size = cap := by simpa using hcs
      rw [hml]; omega
end
/-- a list with one inserted at place j -/
def putAt {α : Type} (l : List α) (j : Nat) (x : α) : List α := l.take j ++ x :: l.drop j
theorem putAt_perm {α : Type} (l : List α) (j : Nat) (x : α) : (putAt l j x).Perm (x :: l) := by
  have h := List.perm_middle (a := x) (l₁ := l.take j) (l₂ := l.drop j)
  rwa [List.take_append_drop] at h
theorem putAt_mem {α : Type} {l : List α} {j : Nat} {x y : α} : y ∈ putAt l j x ↔ y = x ∨ y ∈ l := by rw [(putAt_perm l j x).mem_iff, List.mem_cons]
theorem putAt_map {α β : Type} (f : α → β) (l : List α) (j : Nat) (x : α) : (putAt l j x).map f = putAt (l.map f) j (f x) := by simp [putAt, List.map_take, List.map_drop]
/-- shifting up by one and storing -/
theorem shift_put {α : Type} (l : List α) (z x : α) (j : Nat) (hj : j ≤ l.length) :
    (((l ++ [z]).take (j + 1) ++ (((l ++ [z]).drop j).take (l.length - j) ++ (l ++ [z]).drop (j + 1 + (l.length - j)))).set j x) = putAt l j x := by
  have e1 : ((l ++ [z]).drop j).take (l.length - j) = l.drop j := by
    rw [List.drop_append_of_le_length hj, List.take_append_of_le_length (by simp), List.take_of_length_le (by simp)]
  have e2 : (l ++ [z]).drop (j + 1 + (l.length - j)) = [] := List.drop_of_length_le (by simp; omega)
  rw [e1, e2, List.append_nil]
  have e3 : ((l ++ [z]).take (j + 1)) = l.take j ++ ((l ++ [z]).drop j).take 1 := by
    rw [List.take_add, List.take_append_of_le_length hj]
  rw [e3]
  have e4 : (((l ++ [z]).drop j).take 1).length = 1 := by simp; omega
  obtain ⟨y, hy⟩ : ∃ y, ((l ++ [z]).drop j).take 1 = [y] := List.length_eq_one_iff.1 e4
  rw [hy, List.append_assoc, List.set_append_right _ _ (by rw [List.length_take]; exact Nat.min_le_left _ _), List.length_take, Nat.min_eq_left hj, Nat.sub_self]
  rfl
theorem push_put {α : Type} (l : List α) (z x : α) : (l ++ [z]).set l.length x = putAt l l.length x := by
  rw [List.set_append_right _ _ (Nat.le_refl _), Nat.sub_self, putAt, List.take_length, List.drop_length]; rfl
theorem putAt_slCells (l : List Sl) (j : Nat) (z : Sl) : slCells (putAt l j z) = putAt (slCells l) j (.slice z.A z.n z.c) := by
  have h : ∀ l : List Sl, slCells l = l.map fun s => .slice s.A s.n s.c := fun l => by
    induction l with
    | nil => rfl
    | cons a l ih => simp [slCells, Sl.cells] at ih ⊢; simpa using ih
  rw [h, h, putAt_map]
theorem sorted_insert {L : List (List Vl)} {x : List Vl} {j : Nat} (hs : SortedV L) (h1 : ∀ i b, j ≤ i → L[i]? = some b → 0 < rowC b x) (h2 : j = 0 ∨ ∃ a, L[j - 1]? = some a ∧ ¬ 0 < rowC a x) : SortedV (putAt L j x) := by
  have hs' := hs
  unfold SortedV at hs hs' ⊢
  unfold putAt
  rw [← List.take_append_drop j L, List.pairwise_append] at hs
  rw [List.pairwise_append, List.pairwise_cons]
  refine ⟨hs.1, ⟨fun b hb => ?_, hs.2.1⟩, fun a ha b hb => ?_⟩
  · obtain ⟨i, hi⟩ := List.mem_iff_getElem?.1 hb
    rw [List.getElem?_drop] at hi
    have := h1 (j + i) b (by omega) hi
    omega
  · rcases List.mem_cons.1 hb with rfl | hb
    · rcases h2 with rfl | ⟨c, hc, hcx⟩
      · simp at ha
      · have hxc : ¬ rowC b c < 0 := fun h => hcx ((rowC_flip _ _).1 h)
        obtain ⟨i, hi⟩ := List.mem_iff_getElem?.1 ha
        have hij : i < j := by have := (List.getElem?_eq_some_iff.1 hi).1; simp at this; omega
        rw [List.getElem?_take, if_pos hij] at hi
        by_cases e : i = j - 1
        · subst e; rw [hc] at hi; injection hi with hi; subst hi; exact hxc
        · have hca : ¬ rowC c a < 0 := by
            rw [List.pairwise_iff_getElem] at hs'
            obtain ⟨l1, g1⟩ := List.getElem?_eq_some_iff.1 hi
            obtain ⟨l2, g2⟩ := List.getElem?_eq_some_iff.1 hc
            have := hs' i (j - 1) l1 l2 (by omega)
            rwa [g1, g2] at this
          exact rowC_le_trans hca hxc
    · exact hs.2.2 a ha b hb
end Go.Proofs.YtljmclbedpceoaaDoor

namespace Go.Proofs.YtljmclbedpceoaaDoor
open Go.RowKit
set_option linter.unusedVariables false
set_option linter.unusedSimpArgs false

def Tryd.lays106_ren : Go.Shelf.Ren := ⟨fun | 106 => 83 | 213 => 122 | 265 => 137 | n => n, fun | 9 => 9 | 3 => 3 | n => n, fun | n => n⟩
theorem Tryd.lays106 : Go.Proofs.Lays.n106 Tryd.prog Tryd.lays106_ren := {
  mixed := by kernel_rfl
  f106 := Tryd.func83.trans (congrArg some (by kernel_rfl))
  f213 := Tryd.func122.trans (congrArg some (by kernel_rfl))
  f265 := Tryd.func137.trans (congrArg some (by kernel_rfl))
  t3 := Tryd.underlying3
  a3 := Tryd.isAgg3
  z3 := Tryd.sizeOf3
  v3 := Tryd.zeroValue3
  t9 := Tryd.underlying9
  a9 := Tryd.isAgg9
  z9 := Tryd.sizeOf9
  v9 := Tryd.zeroValue9 }
end Go.Proofs.YtljmclbedpceoaaDoor

namespace Go.Proofs.YtljmclbedpceoaaDoor
open Go.RowKit
set_option linter.unusedVariables false
set_option linter.unusedSimpArgs false

theorem cb_eq : ∀ x y : List UInt8, Lib.compareBytes x y = if Op.bytesLess x y then -1 else if x == y then 0 else 1
  | [], [] => by simp [Lib.compareBytes, Op.bytesLess]
  | [], b :: y => by simp [Lib.compareBytes, Op.bytesLess]
  | a :: x, [] => by simp [Lib.compareBytes, Op.bytesLess]
  | a :: x, b :: y => by
    simp only [Lib.compareBytes, Op.bytesLess]
    by_cases h1 : a < b
    · simp [h1]
    · by_cases h2 : b < a
      · have hne : a ≠ b := by
          rintro rfl
          exact h1 h2
        simp [h1, h2, hne]
      · have he : a = b := by
          have h1' : ¬ a.toNat < b.toNat := h1
          have h2' : ¬ b.toNat < a.toNat := h2
          exact UInt8.toNat_inj.1 (by omega)
        subst he
        have := cb_eq x y
        simp [h1, this]
theorem toList_data (s : ByteArray) : s.toList = s.data.toList := by
  rw [ByteArray.toList_eq]
theorem scompare_any (a b : ByteArray) (w : World) : Calls Tryd.prog 83 #[.string a, .string b] w fun e w' => e = .returned (.int .i64 (cmpS a b)) ∧ w = w' := by
  have h := Any.strings_Compare Tryd.lays106 a b w
  change Calls Tryd.prog 83 _ _ _ at h
  refine h.mono ?_
  rintro e w' ⟨rfl, rfl⟩
  exact ⟨by rw [cb_eq]; unfold cmpS; rw [toList_data, toList_data], rfl⟩
set_option maxHeartbeats 1000000 in
theorem rcompare_ex (x y : Vl) (w : World) : Calls Tryd.prog 48 #[.agg #[.int .i64 x.k, .int .i64 x.i, .string x.s], .agg #[.int .i64 y.k, .int .i64 y.i, .string y.s]] w fun e w' => e = .returned (.int .i64 (cmpVl x y)) ∧ Below w.heap.size w w' := by
  obtain ⟨xk, xi, xs⟩ := x
  obtain ⟨yk, yi, ys⟩ := y
  dsimp only
  have K0 := ((Hold.begin_ w).alloc_cst #[.int .i64 xk, .int .i64 xi, .string xs] 66).alloc_cst #[.int .i64 yk, .int .i64 yi, .string ys] 66
  rw [World.size_alloc] at K0
  have F0 := K0.facts
  simp only [World.size_alloc, World.size_drew, factsL, cellsF, Nat.reduceAdd, List.toList_toArray, List.set_cons_zero, List.set_cons_succ, List.setIfInBounds_toArray, and_true, true_and] at F0
  by_cases hk : xk = yk
  · subst hk
    have hb : (xk != xk) = false := by simp
    by_cases hi : xi = yi
    · subst hi
      have hb2 : (xi != xi) = false := by simp
      go_enter Tryd.func48, Tryd.ntmps48
      go_wp2_with fail
      have HN := hid (show cmpVl ⟨xk, xi, xs⟩ ⟨xk, xi, ys⟩ = cmpS xs ys by
        have h1 := (linI.eq xk xk).2 rfl
        have h2 := (linI.eq xi xi).2 rfl
        by_cases h3 : cmpS xs ys = 0 <;> simp [cmpVl, cmpV, firstNZ, h1, h2, h3])
      refine (scompare_any xs ys _).mono ?_
      rintro e w1 ⟨rfl, rfl⟩
      go_wp2_with fail
      go_ret
      exact ⟨by rw [HN.out] <;> rfl, K0.below⟩
    · have hb2 : (xi != yi) = true := by simpa using hi
      have HI := hid hi
      rcases Int.lt_or_le xi yi with hl | hl
      · have hd : decide (xi < yi) = true := by simpa using hl
        have HN := hid (show cmpVl ⟨xk, xi, xs⟩ ⟨xk, yi, ys⟩ = -1 by
          have h1 := (linI.eq xk xk).2 rfl
          have h2 : cmpI xi yi = -1 := by rcases cmpI_cases xi yi with h | h | h <;> omega
          simp [cmpVl, cmpV, firstNZ, h2, h1])
        clear hi hl
        go_enter Tryd.func48, Tryd.ntmps48
        go_wp2_with fail
        go_ret
        exact ⟨by rw [HN.out] <;> rfl, K0.below⟩
      · have hd : decide (xi < yi) = false := by rw [decide_eq_false_iff_not]; omega
        have HN := hid (show cmpVl ⟨xk, xi, xs⟩ ⟨xk, yi, ys⟩ = 1 by
          have h1 := (linI.eq xk xk).2 rfl
          have h2 : cmpI xi yi = 1 := by rcases cmpI_cases xi yi with h | h | h <;> omega
          simp [cmpVl, cmpV, firstNZ, h2, h1])
        clear hi hl
        go_enter Tryd.func48, Tryd.ntmps48
        go_wp2_with fail
        go_ret
        exact ⟨by rw [HN.out] <;> rfl, K0.below⟩
  · have hb : (xk != yk) = true := by simpa using hk
    have HI := hid hk
    rcases Int.lt_or_le xk yk with hl | hl
    · have hd : decide (xk < yk) = true := by simpa using hl
      have HN := hid (show cmpVl ⟨xk, xi, xs⟩ ⟨yk, yi, ys⟩ = -1 by
        have h2 : cmpI xk yk = -1 := by rcases cmpI_cases xk yk with h | h | h <;> omega
        simp [cmpVl, cmpV, firstNZ, h2])
      clear hk hl
      go_enter Tryd.func48, Tryd.ntmps48
      go_wp2_with fail
      go_ret
      exact ⟨by rw [HN.out] <;> rfl, K0.below⟩
    · have hd : decide (xk < yk) = false := by rw [decide_eq_false_iff_not]; omega
      have HN := hid (show cmpVl ⟨xk, xi, xs⟩ ⟨yk, yi, ys⟩ = 1 by
        have h2 : cmpI xk yk = 1 := by rcases cmpI_cases xk yk with h | h | h <;> omega
        simp [cmpVl, cmpV, firstNZ, h2])
      clear hk hl
      go_enter Tryd.func48, Tryd.ntmps48
      go_wp2_with fail
      go_ret
      exact ⟨by rw [HN.out] <;> rfl, K0.below⟩
set_option maxHeartbeats 4000000 in
set_option maxRecDepth 100000 in
theorem rcmprows_ex (M : Nat → Prop) (w : World) (hM : ∀ b, M b → b < w.heap.size) (A : Option Addr) (n c : Nat) (xs : List Vl) (B : Option Addr) (m d : Nat) (ys : List Vl) (hD : Ro w M (VlsIn A n xs)) (hE : Ro w M (VlsIn B m ys)) (hn : n ≤ 9223372036854775807) (hm : m ≤ 9223372036854775807) :
    Calls Tryd.prog 12 #[.slice A n c, .slice B m d] w fun e w' => e = .returned (.int .i64 (rowC xs ys)) ∧ Below w.heap.size w w' := by
  have HX := hid hD.now.len
  have HY := hid hE.now.len
  have K0 := ((Hold.start M w hM).add (hE.less (by simp [Mut]))).add (hD.less (by simp [Mut, Hp.foot]))
  clear hD hE
  go_enter Tryd.func12, Tryd.ntmps12
  go_wp2_with fail
  go_loopw [5] (fun iv wr => ∃ k : Nat, k ≤ n ∧ k ≤ m ∧ iv = .int .i64 k ∧ Hid (rowC xs ys = rowC (xs.drop k) (ys.drop k)) ∧ Hold M none w wr [.ro (VlsIn A n xs), .ro (VlsIn B m ys)]) (fun iv _ => n - (intOf iv).toNat)
  case atStart => exact ⟨0, by omega, by omega, rfl, hid rfl, K0⟩
  case round =>
    clear K0
    obtain ⟨k, hk, hkm, rfl, HT, H⟩ := hrel
    by_cases hlt : k < n
    · have hd : decide ((k : Int) < (n : Int)) = true := by simp; omega
      by_cases hltm : k < m
      · have hdm : decide ((k : Int) < (m : Int)) = true := by simp; omega
        have k0 : (0 : Int) ≤ (k : Int) := by omega
        have k1 : (k : Int) < (n : Int) := by omega
        have k2 : (k : Int) < (m : Int) := by omega
        obtain ⟨x, hx⟩ := get_of HX.out hlt
        obtain ⟨y, hy⟩ := get_of HY.out hltm
        obtain ⟨b1, o1, rfl, r1⟩ := (H.ro 0 rfl).vlsAt hx
        obtain ⟨b2, o2, rfl, r2⟩ := (H.ro 1 rfl).vlsAt hy
        have HXX := hid hx
        have HYY := hid hy
        clear hx hy
        have K1 := (H.add r1).add (r2.less (mut_none rfl))
        clear r1 r2
        obtain ⟨KL, hKL, K2⟩ := K1.name
        clear K1
        have HF : Hid (∀ wv, Hold M none w wv KL → (b2 < wv.heap.size ∧ wv.cell? ⟨b2, o2 + k * 3, none⟩ = some (.int .i64 y.k) ∧ wv.cell? ⟨b2, o2 + k * 3 + 1, none⟩ = some (.int .i64 y.i) ∧ wv.cell? ⟨b2, o2 + k * 3 + 2, none⟩ = some (.string y.s)) ∧ b1 < wv.heap.size ∧ wv.cell? ⟨b1, o1 + k * 3, none⟩ = some (.int .i64 x.k) ∧ wv.cell? ⟨b1, o1 + k * 3 + 1, none⟩ = some (.int .i64 x.i) ∧ wv.cell? ⟨b1, o1 + k * 3 + 2, none⟩ = some (.string x.s)) := hid fun wv HC => by
          rw [hKL] at HC
          exact ⟨(HC.ro 0 rfl).now, (HC.ro 1 rfl).now⟩
        have HKL := hid hKL
        clear hKL
        go_wp2_with fail
        refine wp_region_any (by kernel_rfl) ?_
        refine wpAny_hold 10 41 (KL) (spL [(27, fun u _ => u = .int .i64 (cmpVl x y))]) (by kernel_rfl) (by kernel_rfl) (by kernel_rfl) rfl ?_ (K2.drew) ?_
        · exact stays_cons (fun _ _ _ _ h => h) (stays_nil _)
        simp only [List.take_succ_cons, List.take_zero, List.drop_succ_cons, List.drop_zero, Act.put, List.getElem_toArray, List.getElem_cons_zero, List.getElem_cons_succ, List.setIfInBounds_toArray, List.set_cons_succ, List.set_cons_zero]
        refine dw_val rfl rfl rfl ?_; apply Exists.intro; refine ⟨fun wv HC => ?_, ?_⟩
        ·  go_simp <;> rfl
        simp only [Act.put, List.setIfInBounds_toArray, List.set_cons_succ, List.set_cons_zero]
        refine dw_val rfl rfl rfl ?_; apply Exists.intro; refine ⟨fun wv HC => ?_, ?_⟩
        ·  go_simp <;> rfl
        simp only [Act.put, List.setIfInBounds_toArray, List.set_cons_succ, List.set_cons_zero]
        refine dw_val rfl rfl rfl ?_; apply Exists.intro; refine ⟨fun wv HC => ?_, ?_⟩
        ·  go_simp <;> rfl
        simp only [Act.put, List.setIfInBounds_toArray, List.set_cons_succ, List.set_cons_zero]
        refine dw_val rfl rfl rfl ?_; apply Exists.intro; refine ⟨fun wv HC => ?_, ?_⟩
        · obtain ⟨⟨f0, f1, f2, f3⟩, f4, f5, f6, f7⟩ := HF.out _ HC; go_simp <;> rfl
        simp only [Act.put, List.setIfInBounds_toArray, List.set_cons_succ, List.set_cons_zero]
        refine dw_val rfl rfl rfl ?_; apply Exists.intro; refine ⟨fun wv HC => ?_, ?_⟩
        ·  go_simp <;> rfl
        simp only [Act.put, List.setIfInBounds_toArray, List.set_cons_succ, List.set_cons_zero]
        refine dw_val rfl rfl rfl ?_; apply Exists.intro; refine ⟨fun wv HC => ?_, ?_⟩
        ·  go_simp <;> rfl
        simp only [Act.put, List.setIfInBounds_toArray, List.set_cons_succ, List.set_cons_zero]
        refine dw_val rfl rfl rfl ?_; apply Exists.intro; refine ⟨fun wv HC => ?_, ?_⟩
        ·  go_simp <;> rfl
        simp only [Act.put, List.setIfInBounds_toArray, List.set_cons_succ, List.set_cons_zero]
        refine dw_val rfl rfl rfl ?_; apply Exists.intro; refine ⟨fun wv HC => ?_, ?_⟩
        · obtain ⟨⟨f0, f1, f2, f3⟩, f4, f5, f6, f7⟩ := HF.out _ HC; go_simp <;> rfl
        simp only [Act.put, List.setIfInBounds_toArray, List.set_cons_succ, List.set_cons_zero]
        refine dw_callR 27 (fun u _ => u = .int .i64 (cmpVl x y)) (f := 48) (args := #[.agg #[.int .i64 x.k, .int .i64 x.i, .string x.s], .agg #[.int .i64 y.k, .int .i64 y.i, .string y.s]]) rfl rfl rfl rfl (fun wv => ?_) (fun wv HC hrm hD => ?_) ?_
        · go_simp <;> rfl
        · refine (rcompare_ex x y wv).mono ?_
          rintro e w5 ⟨rfl, b5⟩
          exact ⟨_, rfl, rfl, HC.call b5, RM.below b5⟩
        rintro u wx HCx rfl
        clear HCx
        obtain ⟨r, hr⟩ : ∃ r, r = cmpVl x y := ⟨_, rfl⟩
        rw [← hr]
        have HR := hid hr
        clear hr
        simp only [Act.put, List.setIfInBounds_toArray, List.set_cons_succ, List.set_cons_zero]
        refine dw_val rfl rfl rfl ?_; apply Exists.intro; refine ⟨fun wv HC => ?_, ?_⟩
        ·  go_simp <;> rfl
        simp only [Act.put, List.setIfInBounds_toArray, List.set_cons_succ, List.set_cons_zero]
        refine rel_nil ?_
        rintro wx2 HX2
        rintro _hrm _HG
        rw [HKL.out] at HX2
        clear _hrm _HG
        have K3 := HX2.drop (List.Sublist.cons _ (List.sublist_cons_self _ _))
        by_cases hr0 : r = 0
        · have hb : (r != 0) = false := by simp [hr0]
          have HN := hid (show rowC xs ys = rowC (xs.drop (k + 1)) (ys.drop (k + 1)) by rw [HT.out]; exact rowC_go HXX.out HYY.out (by rw [← HR.out, hr0]))
          clear hr0
          go_wp2_with fail
          go_roundw
          case rel => exact ⟨k + 1, by omega, by omega, by go_num, HN, K3⟩
          case measure => simp [intOf]; omega
        · have hb : (r != 0) = true := by simpa using hr0
          have HN := hid (show rowC xs ys = r by rw [HT.out, rowC_stop HXX.out HYY.out (by rw [← HR.out]; exact hr0), HR.out])
          clear hr0
          go_wp2_with fail
          go_ret
          exact ⟨by rw [HN.out] <;> rfl, K3.below⟩
      · obtain rfl : k = m := by omega
        have hdm : decide ((k : Int) < (k : Int)) = false := by simp
        have hd2 : decide ((n : Int) < (k : Int)) = false := by rw [decide_eq_false_iff_not]; omega
        have hd3 : decide ((k : Int) < (n : Int)) = true := by simp; omega
        have hd4 : decide ((n : Int) > (k : Int)) = true := by simp; omega
        have HN := hid (show rowC xs ys = 1 by rw [HT.out, rowC_end HX.out HY.out (show k = min n k by omega)]; rcases cmpI_cases (n : Int) (k : Int) with h | h | h <;> omega)
        go_wp2_with fail
        go_ret
        exact ⟨by rw [HN.out] <;> rfl, H.below⟩
    · obtain rfl : k = n := by omega
      have hd : decide ((k : Int) < (k : Int)) = false := by simp
      by_cases hkm2 : k = m
      · subst hkm2
        have hd4 : decide ((k : Int) > (k : Int)) = false := by simp
        have HN := hid (show rowC xs ys = 0 by rw [HT.out, rowC_end HX.out HY.out (show k = min k k by omega)]; rcases cmpI_cases (k : Int) (k : Int) with h | h | h <;> omega)
        go_wp2_with fail
        go_ret
        exact ⟨by rw [HN.out] <;> rfl, H.below⟩
      · have hd2 : decide ((k : Int) < (m : Int)) = true := by simp; omega
        have HN := hid (show rowC xs ys = -1 by rw [HT.out, rowC_end HX.out HY.out (show k = min k m by omega)]; rcases cmpI_cases (k : Int) (m : Int) with h | h | h <;> omega)
        have hkm3 : k < m := by omega
        clear hkm2
        go_wp2_with fail
        go_ret
        exact ⟨by rw [HN.out] <;> rfl, H.below⟩
end Go.Proofs.YtljmclbedpceoaaDoor

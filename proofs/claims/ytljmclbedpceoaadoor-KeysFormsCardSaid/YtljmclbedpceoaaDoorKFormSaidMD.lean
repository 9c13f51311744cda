/- ApPlain: what a change that succeeds does to the rows. No program in sight. -/
import Derived.Test.YtljmclbedpceoaaDoorKFormSaidMC
import Derived.Test.YtljmclbedpceoaaDoorKFormSaidMB
import Derived.Test.YtljmclbedpceoaaDoorKFormSaidMA
import Derived.StillTailTactics
import Derived.IntWalk
namespace Go.Proofs.YtljmclbedpceoaaDoor
open Go.RowKit
set_option linter.unusedVariables false
set_option linter.unusedSimpArgs false

/-- Some table in memory. -/
def SomeTab (w : World) (T : Nat) (M : Nat → Prop) (e : Ending) (w' : World) : Prop :=
  ∃ (v : Value) (t : Tb), e = .returned v ∧ TbAt w' M v t ∧ (t.nm.size ≤ maxLen ∧ (∀ x ∈ t.cs, x.name.size ≤ maxLen) ∧ t.cs.length ≤ 1001 ∧ t.rs.length ≤ 1000 ∧ ∀ r ∈ t.rs, r.2.length ≤ 1000) ∧ Tp w' T ∧ w.grownBy w' (some T)
theorem someTab_of {M : Nat → Prop} {T : Nat} {w w' : World} {nm : ByteArray} {A : Option Addr} {n c : Nat} {cs : List Col} {nx : Int} {O : Option Addr} {j cap : Nat} {outs : List Rw} (h1 : nm.size ≤ maxLen) (h2 : ∀ x ∈ cs, x.name.size ≤ maxLen) (h3 : cs.length ≤ 1001) (h4 : n ≤ c) (h5 : c ≤ 9223372036854775807) (h6 : j ≤ cap) (h7 : cap ≤ 9223372036854775807) (h8 : outs.length ≤ 1000)
    (h9 : ∀ r ∈ outs, r.ok ∧ r.vs.length ≤ 1000) (r1 : Ro w' M (ColsIn A n cs)) (r2 : Ro w' M (RwsIn O j outs)) (ht : Tp w' T) (hg : w.grownBy w' (some T)) : SomeTab w T M (.returned (.agg #[.string nm, .slice A n c, .int .i64 nx, .slice O j cap])) w' := by
  refine ⟨_, ⟨nm, cs, nx, outs.map Rw.row⟩, rfl, ⟨A, n, c, O, j, cap, outs, rfl, h4, h5, h6, h7, r1, r2, fun r hr => (h9 r hr).1, rfl⟩, ⟨h1, h2, h3, by rw [List.length_map]; exact h8, fun r hr => ?_⟩, ht, hg⟩
  obtain ⟨x, hx, rfl⟩ := List.mem_map.1 hr
  exact (h9 x hx).2
/-- what is known of a row that came from the copies -/
def ROk (n : Nat) (r : Rw) : Prop := r.ok ∧ r.vs.length = n ∧ r.n = n
theorem rOk_snoc {n : Nat} {l : List Rw} {x : Rw} (h : ∀ r ∈ l, ROk n r) (k : ROk n x) : ∀ r ∈ l ++ [x], ROk n r := fun r hr => by
  rcases List.mem_append.1 hr with hr | hr
  · exact h r hr
  · simp at hr; subst hr; exact k
theorem rOk_set {P : Rw → Prop} {l : List Rw} {k : Nat} {x : Rw} (h : ∀ r ∈ l, P r) (hx : P x) : ∀ r ∈ l.set k x, P r := fun r hr => (List.mem_or_eq_of_mem_set hr).elim (h r) (fun e => e ▸ hx)
theorem rOut {n : Nat} {r : Rw} (h : ROk n r) (hn : n ≤ 1000) : r.ok ∧ r.vs.length ≤ 1000 := ⟨h.1, by rw [h.2.1]; exact hn⟩
theorem Ro.colsAt {w : World} {M : Nat → Prop} {A : Option Addr} {n : Nat} {l : List Col} (h : Ro w M (ColsIn A n l)) {k : Nat} {x : Col} (hx : l[k]? = some x) :
    ∃ b o, A = some ⟨b, o, none⟩ ∧ Ro w M (fun w => b < w.heap.size ∧ w.cell? ⟨b, o + k * 4, none⟩ = some (.string x.name) ∧ w.cell? ⟨b, o + k * 4 + 1, none⟩ = some (.int .i64 x.ty) ∧ w.cell? ⟨b, o + k * 4 + 2, none⟩ = some (.bool x.nn) ∧ w.cell? ⟨b, o + k * 4 + 3, none⟩ = some (.bool x.key)) := by
  obtain ⟨b, o, e, _⟩ := (RdC.of_sl h.now).at_ hx
  refine ⟨b, o, e, fun w2 h1 h2 => ?_⟩
  obtain ⟨b', o', e', h3, h4⟩ := (RdC.of_sl (h w2 h1 h2)).at_ hx
  rw [e] at e'
  injection e' with e'
  injection e' with e1 e2
  subst e1; subst e2
  exact ⟨h3, h4⟩
theorem colCells_one (l : List Col) : ∀ u ∈ colCells l, u.oneCell' = true := by
  intro u hu
  simp only [colCells, List.mem_flatMap, Col.cells, List.mem_cons, List.not_mem_nil, or_false] at hu
  obtain ⟨c, _, rfl | rfl | rfl | rfl⟩ := hu <;> rfl
theorem Tryd.elCl : ElemT Tryd.prog 35 70 4 32 (.agg #[.string ⟨#[]⟩, .int .i64 0, .bool false, .bool false]) := ⟨Tryd.underlying35, by kernel_rfl, rfl, by omega⟩
theorem tail_vls0 {A : Option Addr} {n : Nat} {vs : List Vl} {w : World} (hn : n = 1) (hl : vs.length = n) : VlsIn A (n - 1) vs.tail w := by
  subst hn
  obtain ⟨v, rfl⟩ := List.length_eq_one_iff.1 hl
  exact ⟨rfl, fun h => absurd h (by omega)⟩
def OddSlot (u : Value) (_ : World) : Prop := ∃ v : Vl, u = .agg #[.int .i64 v.k, .int .i64 v.i, .string v.s] ∧ v.ok
theorem oddSlot_mono {M : Nat → Prop} (u : Value) (w w' : World) (_ : RM M w w') (h : OddSlot u w) : OddSlot u w' := h
theorem ownVals_set {VT : TypeId} {b0 : Nat} {w : World} {l : List Rw} {k : Nat} {x : Rw} (h : OwnVals VT b0 l w) (hx : w.ownsRow b0 VT 3 (.slice x.A x.n x.c) x.n (vlCells x.vs)) : OwnVals VT b0 (l.set k x) w := fun r hr => (List.mem_or_eq_of_mem_set hr).elim (h r) (fun e => e ▸ hx)
theorem tail_vls {g n : Nat} {vs : List Vl} {w : World} (h : VlsIn (some ⟨g, 0, none⟩) n vs w) (hn : 0 < n) : VlsIn (some ⟨g, 3, none⟩) (n - 1) vs.tail w := by
  have hl := VlsIn.len h
  obtain ⟨b, o, e, hb, hc⟩ := (show Rd w w.heap.size 3 (some ⟨g, 0, none⟩) n (vlCells vs) from h).2 hn
  injection e with e
  injection e with e1 e2
  subst e1; subst e2
  refine ⟨by rw [vlCells_len, List.length_tail]; omega, fun _ => ⟨g, 3, rfl, hb, fun j u hu => ?_⟩⟩
  cases vs with
  | nil => simp at hl; omega
  | cons v vs =>
    have h2 := hc (j + 3) u (by
      have e0 : vlCells (v :: vs) = v.cells ++ vlCells vs := by simp [vlCells]
      rw [e0, List.getElem?_append_right (by simp [Vl.cells])]
      simpa [Vl.cells] using hu)
    rw [← h2]
    congr 2
    omega
set_option maxHeartbeats 8000000 in
set_option maxRecDepth 100000 in
theorem tspoil_any (M : Nat → Prop) (T : Nat) (w : World) (hM : ∀ b, M b → b < w.heap.size) (ht : Tp w T) (hMT : ∀ b, M b → T ≤ b) (nm : ByteArray) (A : Option Addr) (n c : Nat) (cs : List Col) (nx : Int) (B : Option Addr) (m d : Nat) (l : List Rw) (hD : Ro w (Mut M [.tp T]) (ColsIn A n cs)) (hE : Ro w (Mut M [.tp T]) (RwsIn B m l)) (hW : Ro w (Mut M [.tp T]) Wds) (hT : 1 < T)
    (hn1 : 1 ≤ n) (hn : n ≤ 1000) (hnc : n ≤ c) (hc : c ≤ 9223372036854775807) (hm : m ≤ 1000) (hfit : ∀ r ∈ l, r.vs.length = n) (hrok : ∀ r ∈ l, r.ok) (hnm : nm.size ≤ maxLen) (hcs : ∀ x ∈ cs, x.name.size ≤ maxLen) : Calls Tryd.prog 31 #[.pointer (some ⟨T, 0, none⟩), .agg #[.string nm, .slice A n c, .int .i64 nx, .slice B m d]] w fun e w' => SomeTab w T M e w' := by
  have HL := hid (cols_n hD.now)
  have HLM := hid hE.now.len
  have HFIT := hid hfit
  have HROK := hid hrok
  have HNM := hid hnm
  have HCS := hid hcs
  have HTL := hid ht.lt
  have HMM := hid hM
  have HD := hid hD
  clear hfit hrok hnm hcs
  have K0 := (((((((Hold.startT M w T hM ht hMT).add hE).add (hD.less (mut_none rfl))).add ((hW.less (mut_none rfl)).less (mut_none rfl))).alloc_cst #[.string nm, .slice A n c, .int .i64 nx, .slice B m d] 40).alloc #[.string ⟨#[]⟩, .slice none 0 0, .int .i64 0, .slice none 0 0] 40).alloc #[.string nm, .slice A n c, .int .i64 nx, .slice none 0 0] 40)
  simp only [World.size_alloc] at K0
  have F0 := K0.facts
  simp only [World.size_alloc, World.size_drew, factsL, cellsF, Nat.reduceAdd, List.toList_toArray, List.set_cons_zero, List.set_cons_succ, List.setIfInBounds_toArray, and_true, true_and] at F0
  clear hD hE hW
  go_enter Tryd.func31, Tryd.ntmps31
  go_wp2_with fail
  clear F0
  obtain ⟨g3, hg3⟩ : ∃ g3, g3 = w.heap.size := ⟨_, rfl⟩
  obtain ⟨g4, hg4⟩ : ∃ g4, g4 = g3 + 1 := ⟨_, rfl⟩
  obtain ⟨g5, hg5⟩ : ∃ g5, g5 = g4 + 1 := ⟨_, rfl⟩
  rw [← hg3, ← hg4, ← hg5] at K0 ⊢
  generalize ((w.alloc _).alloc _).alloc _ = w1 at K0 ⊢
  have HGX := hid hg3
  clear hg3 hg4 hg5
  have K1 := (K0.add (show Ro _ _ (OwnVals 66 w.heap.size []) from ownVals_nil)).nil 61 2
  clear K0
  go_loopw [18] (fun iv wr => ∃ (j cap : Nat) (O : Option Addr) (outs : List Rw), j ≤ m ∧ iv = .int .i64 j ∧ Hid (∀ r ∈ outs, ROk n r) ∧ Hold M (some T) w wr [.own 61 2 (.slice O j cap) j (rwCells outs), .ro (OwnVals 66 w.heap.size outs), .blk g5 40 #[.string nm, .slice A n c, .int .i64 nx, .slice O j cap], .blk g4 40 #[.string ⟨#[]⟩, .slice none 0 0, .int .i64 0, .slice none 0 0], .cst g3 40 #[.string nm, .slice A n c, .int .i64 nx, .slice B m d], .ro Wds, .ro (ColsIn A n cs), .ro (RwsIn B m l), .tp T]) (fun iv _ => m - (intOf iv).toNat)
  case atStart => exact ⟨0, 0, none, [], by omega, rfl, hid (fun r hr => nomatch hr), K1⟩
  case round =>
    clear K1
    obtain ⟨j, cap, O, outs, hj, rfl, HRK, H⟩ := hrel
    by_cases hlt : j < m
    · have hd : decide ((j : Int) < (m : Int)) = true := by simp; omega
      have j0 : (0 : Int) ≤ (j : Int) := by omega
      have j1 : (j : Int) < (m : Int) := by omega
      obtain ⟨x, hx⟩ := get_of HLM.out hlt
      obtain ⟨b, o, rfl, hb, c0, c1, hxv⟩ := (H.ro 7 rfl).now.at_ hx
      have HXO := hid (HROK.out x (List.mem_of_getElem? hx))
      have HXL := hid (HFIT.out x (List.mem_of_getElem? hx))
      have hxr : Ro wr _ (VlsIn x.A x.n x.vs) := (H.ro 7 rfl).imp fun w2 h2 => h2.2 x (List.mem_of_getElem? hx)
      obtain ⟨xid, xA, xn, xc, xvs⟩ := x
      dsimp only at *
      obtain rfl : n = xn := by have h1 := hxv.len; have h2 := HXL.out; omega
      clear hx hxv
      have K1 := (H.add hxr).alloc_cst #[.int .i64 xid, .slice xA n xc] 61
      clear H hxr
      obtain ⟨gr, hgr⟩ : ∃ gr, gr = wr.heap.size := ⟨_, rfl⟩
      rw [← hgr] at K1
      go_wp2_with fail
      rw [← hgr]
      clear hgr c0 c1
      obtain ⟨KL, hKL, KN⟩ := K1.name
      have HF : Hid (∀ wv, Hold M (some T) w wv KL → (wv.cell? ⟨g5, 3, none⟩ = some (.slice O j cap) ∧ g5 < wv.heap.size) ∧ wv.cell? ⟨gr, 0, none⟩ = some (.int .i64 xid) ∧ wv.cell? ⟨gr, 1, none⟩ = some (.slice xA n xc) ∧ gr < wv.heap.size) := hid fun wv HC => by
        rw [hKL] at HC
        have y1 := HC.blk_ 4 rfl
        have y2 := HC.cst_ 0 rfl
        exact ⟨⟨cell_of_row _ _ 3 _ _ _ y1, Blk.lt y1⟩, cell_of_row _ _ 0 _ _ _ y2, cell_of_row _ _ 1 _ _ _ y2, Blk.lt y2⟩
      have HRX : Hid (∀ wv, Hold M (some T) w wv KL → VlsIn xA n xvs wv) := hid fun wv HC => by
        rw [hKL] at HC
        exact (HC.ro 1 rfl).now
      have HKL := hid hKL
      clear hKL K1
      refine wp_region_any (by kernel_rfl) ?_
      refine wpAny_hold 9 125 (KL) (spL [(28, OVls 66 (Mut M KL) w.heap.size xvs), (29, ORow 66 (Mut M KL) w.heap.size xid xvs), (30, ORBox 66 (Mut M KL) w.heap.size xid xvs)]) (by kernel_rfl) (by kernel_rfl) (by kernel_rfl) rfl ?_ (KN.drew) ?_
      · exact stays_cons oVls_mono (stays_cons oRow_mono (stays_cons oRBox_mono (stays_nil _)))
      simp only [List.take_succ_cons, List.take_zero, List.drop_succ_cons, List.drop_zero, Act.put, List.getElem_toArray, List.getElem_cons_zero, List.getElem_cons_succ, List.setIfInBounds_toArray, List.set_cons_succ, List.set_cons_zero]
      refine dw_val rfl rfl rfl ?_; apply Exists.intro; refine ⟨fun wv HC => ?_, ?_⟩
      ·  go_simp <;> rfl
      simp only [Act.put, List.setIfInBounds_toArray, List.set_cons_succ, List.set_cons_zero]
      refine dw_val rfl rfl rfl ?_; apply Exists.intro; refine ⟨fun wv HC => ?_, ?_⟩
      · obtain ⟨⟨f0, f1⟩, f2, f3, f4⟩ := HF.out _ HC; go_simp <;> rfl
      simp only [Act.put, List.setIfInBounds_toArray, List.set_cons_succ, List.set_cons_zero]
      refine dw_val rfl rfl rfl ?_; apply Exists.intro; refine ⟨fun wv HC => ?_, ?_⟩
      ·  go_simp <;> rfl
      simp only [Act.put, List.setIfInBounds_toArray, List.set_cons_succ, List.set_cons_zero]
      refine dw_val rfl rfl rfl ?_; apply Exists.intro; refine ⟨fun wv HC => ?_, ?_⟩
      · obtain ⟨⟨f0, f1⟩, f2, f3, f4⟩ := HF.out _ HC; go_simp <;> rfl
      simp only [Act.put, List.setIfInBounds_toArray, List.set_cons_succ, List.set_cons_zero]
      refine dw_val rfl rfl rfl ?_; apply Exists.intro; refine ⟨fun wv HC => ?_, ?_⟩
      ·  go_simp <;> rfl
      simp only [Act.put, List.setIfInBounds_toArray, List.set_cons_succ, List.set_cons_zero]
      refine dw_val rfl rfl rfl ?_; apply Exists.intro; refine ⟨fun wv HC => ?_, ?_⟩
      · obtain ⟨⟨f0, f1⟩, f2, f3, f4⟩ := HF.out _ HC; go_simp <;> rfl
      simp only [Act.put, List.setIfInBounds_toArray, List.set_cons_succ, List.set_cons_zero]
      refine dw_cloneO Tryd.elVl 28 (OVls 66 (Mut M KL) w.heap.size xvs) rfl rfl rfl rfl (.const (.slice none 0 0)) (.tmp 27) rfl rfl (A := xA) (m := n) (c := xc) (ys := vlCells xvs) rfl (one_vls _) (by omega) (by omega) (fun wv HC hD => HRX.out _ HC) (fun C9 c9 wv wv' HC hrm HC' q1 q2 ho => ⟨C9, n, c9, rfl, HXL.out.symm, q1, q2, Ro.own (fun b hb => HC.mutLt b hb) HC.grow.size ho⟩) ?_
      rintro u wx HCx ⟨A28, n28, c28, rfl, hn28, -, -, -⟩
      have HN28 := hid hn28
      clear HCx hn28
      simp only [Act.put, List.setIfInBounds_toArray, List.set_cons_succ, List.set_cons_zero]
      refine dw_valC 29 (ORow 66 (Mut M KL) w.heap.size xid xvs) rfl rfl rfl rfl (.agg #[.int .i64 xid, .slice A28 n28 c28]) (fun wv HC => ?_) (fun wv HC hD => ?_) ?_
      · go_simp <;> rfl
      · have hsl : OVls 66 (Mut M KL) w.heap.size xvs (.slice A28 n28 c28) wv := deps_at hD 6 rfl (by kernel_rfl) rfl rfl
        obtain ⟨A6, n6, c6, e6, h1, h2, h3, h4⟩ := hsl
        exact ⟨A6, n6, c6, by rw [e6], h1, h2, h3, h4⟩
      simp only [Act.put, List.setIfInBounds_toArray, List.set_cons_succ, List.set_cons_zero]
      refine dw_new #[.int .i64 xid, .slice A28 n28 c28] 61 30 (ORBox 66 (Mut M KL) w.heap.size xid xvs) (fun g => .slice (some ⟨g, 0, none⟩) 1 1) rfl rfl rfl rfl (fun wv => ?_) (fun wv HC _hrm hD hro => ?_) ?_
      · go_simp <;> rfl
      · have hsl : ORow 66 (Mut M KL) w.heap.size xid xvs (.agg #[.int .i64 xid, .slice A28 n28 c28]) wv := deps_at hD 7 rfl (by kernel_rfl) rfl rfl
        obtain ⟨A6, n6, c6, e6, h1, h2, h3, h4⟩ := hsl
        obtain ⟨rfl, rfl, rfl⟩ : A28 = A6 ∧ n28 = n6 ∧ c28 = c6 := by
          injection e6 with e6
          simp at e6
          exact e6
        exact ⟨_, A28, n28, c28, rfl, h1, h2, h3, h4.step (by simp) (fun b hb _ => Below.heap_alloc wv _ b hb) (fun _ _ h => h), ro_block (hro _ HC.mutLt) rfl⟩
      rintro g2 wg HCg hsl
      simp only [Act.put, List.setIfInBounds_toArray, List.set_cons_succ, List.set_cons_zero]
      clear hsl HCg
      refine rel_nil ?_
      rintro wx2 HX
      rintro _hrm HGW
      have hb2 : ORBox 66 (Mut M KL) w.heap.size xid xvs (.slice (some ⟨g2, 0, none⟩) 1 1) wx2 := (GW_on (d := 30) rfl).1 (HGW 8 _ rfl (by omega))
      clear HGW _hrm
      obtain ⟨gq, A6, n6, c6, e6, k0_, k1_, k2_, k3_, k4_⟩ := hb2
      obtain rfl : g2 = gq := by injection e6 with e6; injection e6 with e6; injection e6
      clear e6
      rw [HKL.out] at HX k3_
      have k5 := hid k4_.now
      have HRN := hid (show ROk n ⟨xid, A6, n6, c6, xvs⟩ from ⟨⟨HXO.out.id, k1_, k2_, HXO.out.vs⟩, HXL.out, by show n6 = n; rw [k0_]; exact HXL.out⟩)
      clear k4_ k0_ k1_ k2_ HF HRX KN
      have HRS := hid (show rwCells outs ++ [.int .i64 xid, .slice A6 n6 c6] = rwCells (outs ++ [⟨xid, A6, n6, c6, xvs⟩]) from rwCells_snoc1 _ _ _ _ _ _)
      have KA := HX.add k3_
      clear HX k3_
      have FKA := KA.facts
      simp only [World.size_alloc, World.size_drew, factsL, cellsF, Nat.reduceAdd, List.toList_toArray, List.set_cons_zero, List.set_cons_succ, List.setIfInBounds_toArray, and_true, true_and] at FKA
      go_wp2_with (at_builtin; go_must (refine wpList_appAllH KA 3 rfl Tryd.elRw k5.out rfl (.tmp 23) (.tmp 30) rfl rfl rfl (by intro z hz; simp at hz; rcases hz with rfl | rfl <;> rfl) (by omega) (by omega) ?_); intro C' cap' w6 hc6 hm6 KB; rw [HRS.out] at KB; simp only [List.set_cons_zero, List.set_cons_succ] at KB; (have F3 := KB.facts); simp only [World.size_alloc, World.size_drew, factsL, cellsF, Nat.reduceAdd, List.toList_toArray, List.set_cons_zero, List.set_cons_succ, List.setIfInBounds_toArray, and_true, true_and] at F3)
      have KD := KB.store 5 rfl 3 (.slice C' (j + 1) cap')
      have KE := (KD.swapRo 4 rfl (ownVals_snoc (r := ⟨xid, A6, n6, c6, xvs⟩) (KD.ro 4 rfl) (KD.ro 0 rfl))).drop (List.Sublist.cons _ (List.Sublist.cons _ (List.Sublist.cons _ (List.Sublist.refl _))))
      have HSN := hid (rOk_snoc HRK.out HRN.out)
      go_roundw
      case rel => exact ⟨j + 1, cap', C', outs ++ [Rw.mk xid A6 n6 c6 xvs], by omega, by first | rfl | go_num, HSN, KE⟩
      case measure => simp [intOf]; omega
    · obtain rfl : m = j := by omega
      have hd : decide ((m : Int) < (m : Int)) = false := by simp
      clear hlt
      have HOL := hid (show outs.length = m by have h := (H.get 0 rfl).1; rw [rwCells_len] at h; omega)
      have FH := H.facts
      simp only [World.size_alloc, World.size_drew, factsL, cellsF, Nat.reduceAdd, List.toList_toArray, List.set_cons_zero, List.set_cons_succ, List.setIfInBounds_toArray, and_true, true_and] at FH
      go_wp2_with fail
      refine (next_any T 7 _ (H.tp_ 8 rfl) (by omega) (by omega)).mono ?_
      rintro e w2 ⟨z, rfl, z0, z1, t2, g2⟩
      have K2 := Hold.callT H 8 rfl g2 t2
      clear H g2 t2 FH
      have F2 := K2.facts
      simp only [World.size_alloc, World.size_drew, factsL, cellsF, Nat.reduceAdd, List.toList_toArray, List.set_cons_zero, List.set_cons_succ, List.setIfInBounds_toArray, and_true, true_and] at F2
      have hcap := own_caps (K2.get 0 rfl)
      have NK := K2.nes
      simp only [nesL, neF, and_true, true_and] at NK
      obtain rfl | rfl | rfl | rfl | rfl | rfl | rfl : z = 0 ∨ z = 1 ∨ z = 2 ∨ z = 3 ∨ z = 4 ∨ z = 5 ∨ z = 6 := by omega
      · skip
        go_wp2_with fail
        refine (next_any T 3 _ (K2.tp_ 8 rfl) (by omega) (by omega)).mono ?_
        rintro e w3 ⟨y, rfl, y0, y1, t3, g3'⟩
        have K3 := Hold.callT K2 8 rfl g3' t3
        clear K2 g3' t3 F2
        have F3 := K3.facts
        simp only [World.size_alloc, World.size_drew, factsL, cellsF, Nat.reduceAdd, List.toList_toArray, List.set_cons_zero, List.set_cons_succ, List.setIfInBounds_toArray, and_true, true_and] at F3
        have KS := (K3.store 2 rfl 2 (.int .i64 (y - 1))).sealRow 0 rfl
        simp only [List.set_cons_zero, List.set_cons_succ, List.setIfInBounds_toArray] at KS
        have KN := (((KS.store 3 rfl 0 (.string nm)).store 3 rfl 1 (.slice A n c)).store 3 rfl 2 (.int .i64 (y - 1))).store 3 rfl 3 (.slice O m cap)
        have r2 := KN.roOut 0 rfl
        have r3 := KN.roOut 1 rfl
        go_wp2_with fail
        exact bodyPost_ret (v := .agg #[.string nm, .slice A n c, .int .i64 (y - 1), .slice O m cap]) (by simp [results, Tryd.results31, go_sem, F3, NK]) rfl (someTab_of HNM.out HCS.out (by have := HL.out; omega) hnc hc hcap.1 hcap.2.1 (by have := HOL.out; omega) (fun r hr => rOut (HRK.out r hr) hn) (KN.roOut 6 rfl) (r2.and (r3.imp fun w h => h.vals)) (KN.tp_ 8 rfl) KN.grow)
      · skip
        have KS := (K2.store 2 rfl 0 (.string ⟨#[84]⟩)).sealRow 0 rfl
        simp only [List.set_cons_zero, List.set_cons_succ, List.setIfInBounds_toArray] at KS
        have KN := (((KS.store 3 rfl 0 (.string ⟨#[84]⟩)).store 3 rfl 1 (.slice A n c)).store 3 rfl 2 (.int .i64 nx)).store 3 rfl 3 (.slice O m cap)
        have r2 := KN.roOut 0 rfl
        have r3 := KN.roOut 1 rfl
        go_wp2_with fail
        exact bodyPost_ret (v := .agg #[.string ⟨#[84]⟩, .slice A n c, .int .i64 nx, .slice O m cap]) (by simp [results, Tryd.results31, go_sem, F2, NK]) rfl (someTab_of (by show (1 : Nat) ≤ maxLen; unfold maxLen; omega) HCS.out (by have := HL.out; omega) hnc hc hcap.1 hcap.2.1 (by have := HOL.out; omega) (fun r hr => rOut (HRK.out r hr) hn) (KN.roOut 6 rfl) (r2.and (r3.imp fun w h => h.vals)) (KN.tp_ 8 rfl) KN.grow)
      · skip
        obtain ⟨c0, hc0⟩ := get_of HL.out (show 0 < n by omega)
        obtain ⟨ba, oa, hA, hco⟩ := (K2.ro 6 rfl).colsAt hc0
        have HC0 := hid (HCS.out c0 (List.mem_of_getElem? hc0))
        subst hA
        simp only [Nat.zero_mul, Nat.add_zero] at hco
        have K3 := K2.add hco
        clear hco K2
        go_wp2_with fail
        obtain ⟨KL, hKL, KN⟩ := K3.name
        have HF : Hid (∀ wv, Hold M (some T) w wv KL → (wv.cell? ⟨g3, 1, none⟩ = some (.slice (some ⟨ba, oa, none⟩) n c) ∧ g3 < wv.heap.size) ∧ (ba < wv.heap.size ∧ wv.cell? ⟨ba, oa, none⟩ = some (.string c0.name) ∧ wv.cell? ⟨ba, oa + 1, none⟩ = some (.int .i64 c0.ty) ∧ wv.cell? ⟨ba, oa + 2, none⟩ = some (.bool c0.nn) ∧ wv.cell? ⟨ba, oa + 3, none⟩ = some (.bool c0.key)) ∧ SlR 4 (some ⟨ba, oa, none⟩) n (colCells cs) wv) := hid fun wv HC => by
          rw [hKL] at HC
          have y1 := HC.cst_ 5 rfl
          exact ⟨⟨cell_of_row _ _ 1 _ _ _ y1, Blk.lt y1⟩, (HC.ro 0 rfl).now, (HC.ro 7 rfl).now⟩
        have HKL := hid hKL
        clear hKL K3
        obtain ⟨Hs, hHs⟩ : ∃ Hs, Hs = w2.drew.heap.size := ⟨_, rfl⟩
        have HHS := hid hHs
        have hMH : ∀ b, Mut M KL b → b < Hs := by rw [hHs]; exact KN.drew.mutLt
        clear hHs
        have hn0 : 0 < n := by omega
        refine wp_region_any (by kernel_rfl) ?_
        refine wpAny_hold 10 125 (KL) (spL [(70, OwnSl 70 4 Hs (colCells cs)), (76, fun u w => ∃ g : Nat, u = .slice (some ⟨g, 0, none⟩) 1 1 ∧ Ro w (Mut M KL) (SlR 4 (some ⟨g, 0, none⟩) 1 (colCells [c0])))]) (by kernel_rfl) (by kernel_rfl) (by kernel_rfl) rfl ?_ (KN.drew) ?_
        · exact stays_cons (ownSl_mono hMH) (stays_cons (fun u w w' hr h => by obtain ⟨g, h1, h2⟩ := h; exact ⟨g, h1, hr.ro h2⟩) (stays_nil _))
        simp only [List.take_succ_cons, List.take_zero, List.drop_succ_cons, List.drop_zero, Act.put, List.getElem_toArray, List.getElem_cons_zero, List.getElem_cons_succ, List.setIfInBounds_toArray, List.set_cons_succ, List.set_cons_zero]
        refine dw_val rfl rfl rfl ?_; apply Exists.intro; refine ⟨fun wv HC => ?_, ?_⟩
        ·  go_simp <;> rfl
        simp only [Act.put, List.setIfInBounds_toArray, List.set_cons_succ, List.set_cons_zero]
        refine dw_val rfl rfl rfl ?_; apply Exists.intro; refine ⟨fun wv HC => ?_, ?_⟩
        ·  go_simp <;> rfl
        simp only [Act.put, List.setIfInBounds_toArray, List.set_cons_succ, List.set_cons_zero]
        refine dw_val rfl rfl rfl ?_; apply Exists.intro; refine ⟨fun wv HC => ?_, ?_⟩
        · obtain ⟨⟨f0, f1⟩, ⟨q0, q1, q2, q3, q4⟩, _⟩ := HF.out _ HC; go_simp <;> rfl
        simp only [Act.put, List.setIfInBounds_toArray, List.set_cons_succ, List.set_cons_zero]
        refine dw_cloneO Tryd.elCl 70 (OwnSl 70 4 Hs (colCells cs)) rfl rfl rfl rfl (.const (.slice none 0 0)) (.tmp 69) rfl rfl (A := some ⟨ba, oa, none⟩) (m := n) (c := c) (ys := colCells cs) rfl (colCells_one _) (by omega) (by omega) (fun wv HC hD => (HF.out _ HC).2.2) (fun C9 c9 wv wv' HC hrm HC' q1 q2 ho => ⟨C9, n, c9, rfl, by rw [colCells_len, HL.out], q1, q2, own_base (by rw [HHS.out]; exact hrm.1) ho⟩) ?_
        rintro u wx HCx ⟨A70, n70, c70, rfl, hn70, -, -, -⟩
        obtain rfl : n70 = n := by rw [colCells_len, HL.out] at hn70; omega
        clear HCx hn70
        simp only [Act.put, List.setIfInBounds_toArray, List.set_cons_succ, List.set_cons_zero]
        refine dw_val rfl rfl rfl ?_; apply Exists.intro; refine ⟨fun wv HC => ?_, ?_⟩
        ·  go_simp <;> rfl
        simp only [Act.put, List.setIfInBounds_toArray, List.set_cons_succ, List.set_cons_zero]
        refine dw_val rfl rfl rfl ?_; apply Exists.intro; refine ⟨fun wv HC => ?_, ?_⟩
        ·  go_simp <;> rfl
        simp only [Act.put, List.setIfInBounds_toArray, List.set_cons_succ, List.set_cons_zero]
        refine dw_val rfl rfl rfl ?_; apply Exists.intro; refine ⟨fun wv HC => ?_, ?_⟩
        · obtain ⟨⟨f0, f1⟩, ⟨q0, q1, q2, q3, q4⟩, _⟩ := HF.out _ HC; go_simp <;> rfl
        simp only [Act.put, List.setIfInBounds_toArray, List.set_cons_succ, List.set_cons_zero]
        refine dw_val rfl rfl rfl ?_; apply Exists.intro; refine ⟨fun wv HC => ?_, ?_⟩
        ·  go_simp <;> rfl
        simp only [Act.put, List.setIfInBounds_toArray, List.set_cons_succ, List.set_cons_zero]
        refine dw_val rfl rfl rfl ?_; apply Exists.intro; refine ⟨fun wv HC => ?_, ?_⟩
        · obtain ⟨⟨f0, f1⟩, ⟨q0, q1, q2, q3, q4⟩, _⟩ := HF.out _ HC; go_simp <;> rfl
        simp only [Act.put, List.setIfInBounds_toArray, List.set_cons_succ, List.set_cons_zero]
        refine dw_new #[.string c0.name, .int .i64 c0.ty, .bool c0.nn, .bool c0.key] 70 76 (fun u w => ∃ g : Nat, u = .slice (some ⟨g, 0, none⟩) 1 1 ∧ Ro w (Mut M KL) (SlR 4 (some ⟨g, 0, none⟩) 1 (colCells [c0]))) (fun g => .slice (some ⟨g, 0, none⟩) 1 1) rfl rfl rfl rfl (fun wv => ?_) (fun wv HC _hrm hD hro => ?_) ?_
        · go_simp <;> rfl
        · exact ⟨_, rfl, ro_block (hro _ HC.mutLt) rfl⟩
        rintro g76 wg HCg hsl
        simp only [Act.put, List.setIfInBounds_toArray, List.set_cons_succ, List.set_cons_zero]
        clear hsl HCg
        refine rel_nil ?_
        rintro wx2 HX
        rintro _hrm HGW
        have ho70 : OwnSl 70 4 Hs (colCells cs) (.slice A70 n70 c70) wx2 := (GW_on (d := 70) rfl).1 (HGW 3 _ rfl (by omega))
        have hb76 : ∃ g : Nat, Value.slice (some ⟨g76, 0, none⟩) 1 1 = .slice (some ⟨g, 0, none⟩) 1 1 ∧ Ro wx2 (Mut M KL) (SlR 4 (some ⟨g, 0, none⟩) 1 (colCells [c0])) := (GW_on (d := 76) rfl).1 (HGW 9 _ rfl (by omega))
        clear HGW
        obtain ⟨gq, e6, k4_⟩ := hb76
        obtain rfl : g76 = gq := by injection e6 with e6; injection e6 with e6; injection e6
        obtain ⟨A6, n6, c6, e7, hn6, hc61, hc62, ho6⟩ := ho70
        obtain ⟨rfl, rfl, rfl⟩ : A70 = A6 ∧ n70 = n6 ∧ c70 = c6 := by injection e7 with h1 h2 h3; exact ⟨h1, h2, h3⟩
        clear e6 e7 hn6
        have k5 := hid k4_.now
        rw [HHS.out] at ho6
        have KA := Hold.addOwn KN.drew HX _hrm ho6
        rw [HKL.out] at KA
        clear HX _hrm ho6 k4_ HF KN hMH HHS
        have FKA := KA.facts
        simp only [World.size_alloc, World.size_drew, factsL, cellsF, Nat.reduceAdd, List.toList_toArray, List.set_cons_zero, List.set_cons_succ, List.setIfInBounds_toArray, and_true, true_and] at FKA
        have HCE := hid (show colCells cs ++ colCells [c0] = colCells (cs ++ [c0]) by simp [colCells])
        go_wp2_with (at_builtin; go_must (refine wpList_appAllH KA 0 rfl Tryd.elCl k5.out rfl (.tmp 70) (.tmp 76) rfl rfl rfl (colCells_one _) (by omega) (by omega) ?_); intro C' cap' w6 hc6 hm6 KB; rw [HCE.out] at KB; simp only [List.set_cons_zero, List.set_cons_succ] at KB; (have F3 := KB.facts); simp only [World.size_alloc, World.size_drew, factsL, cellsF, Nat.reduceAdd, List.toList_toArray, List.set_cons_zero, List.set_cons_succ, List.setIfInBounds_toArray, and_true, true_and] at F3)
        have KC := (KB.sealRow 0 rfl).drop (L' := [.ro (SlR 4 C' (n70 + 1) (colCells (cs ++ [c0]))), .own 61 2 (.slice O m cap) m (rwCells outs), .ro (OwnVals 66 w.heap.size outs), .blk g5 40 #[.string nm, .slice (some ⟨ba, oa, none⟩) n70 c, .int .i64 nx, .slice O m cap], .blk g4 40 #[.string ⟨#[]⟩, .slice none 0 0, .int .i64 0, .slice none 0 0], .cst g3 40 #[.string nm, .slice (some ⟨ba, oa, none⟩) n70 c, .int .i64 nx, .slice B m d], .ro Wds, .ro (ColsIn (some ⟨ba, oa, none⟩) n70 cs), .ro (RwsIn B m l), .tp T]) (List.Sublist.cons_cons _ (List.Sublist.cons _ (List.Sublist.refl _)))
        have KD := KC.store 3 rfl 1 (.slice C' (n70 + 1) cap')
        have KS := KD.sealRow 1 rfl
        simp only [List.set_cons_zero, List.set_cons_succ, List.setIfInBounds_toArray] at KS
        have KN := (((KS.store 4 rfl 0 (.string nm)).store 4 rfl 1 (.slice C' (n70 + 1) cap')).store 4 rfl 2 (.int .i64 nx)).store 4 rfl 3 (.slice O m cap)
        have r1 := KN.roOut 0 rfl
        have r2 := KN.roOut 1 rfl
        have r3 := KN.roOut 2 rfl
        have hnm2 : ∀ x ∈ cs ++ [c0], x.name.size ≤ maxLen := fun x hx => by
          rcases List.mem_append.1 hx with hx | hx
          · exact HCS.out x hx
          · simp at hx; subst hx; exact HC0.out
        have hcl2 : (cs ++ [c0]).length ≤ 1001 := by have := HL.out; simp; omega
        go_wp2_with fail
        exact bodyPost_ret (v := .agg #[.string nm, .slice C' (n70 + 1) cap', .int .i64 nx, .slice O m cap]) (by simp [results, Tryd.results31, go_sem, F3, NK]) rfl (someTab_of HNM.out hnm2 hcl2 hc6 hm6 hcap.1 hcap.2.1 (by have := HOL.out; omega) (fun r hr => rOut (HRK.out r hr) hn) r1 (r2.and (r3.imp fun w h => h.vals)) (KN.tp_ 9 rfl) KN.grow)
      · skip
        by_cases hm0 : 0 < m
        · have hg0 : decide ((m : Int) > 0) = true := by simp; omega
          obtain ⟨go, rfl⟩ : ∃ g, O = some ⟨g, 0, none⟩ := by
            rcases own_addr (K2.get 0 rfl) with ⟨_, h, _⟩ | ⟨g, h, _⟩
            · omega
            · exact ⟨g, h⟩
          go_wp2_with fail
          obtain ⟨KL, hKL, KN⟩ := K2.name
          have HF : Hid (∀ wv, Hold M (some T) w wv KL → (wv.cell? ⟨g5, 3, none⟩ = some (.slice (some ⟨go, 0, none⟩) m cap) ∧ g5 < wv.heap.size) ∧ ∀ (k : Nat) (x : Rw), outs[k]? = some x → (wv.cell? ⟨go, k * 2, none⟩ = some (.int .i64 x.id) ∧ wv.cell? ⟨go, k * 2 + 1, none⟩ = some (.slice x.A x.n x.c)) ∧ (wv.frozen? ⟨go, k * 2, none⟩ = false ∧ wv.frozen? ⟨go, k * 2 + 1, none⟩ = false) ∧ go < wv.heap.size) := hid fun wv HC => by
            rw [hKL] at HC
            have y1 := HC.blk_ 2 rfl
            exact ⟨⟨cell_of_row _ _ 3 _ _ _ y1, Blk.lt y1⟩, fun k x hx => own_rw (HC.get 0 rfl) hx⟩
          have HKL := hid hKL
          clear hKL K2
          refine wp_region_any (by kernel_rfl) ?_
          refine wpAny_hold 9 125 (KL) (spL [(88, fun u _ => NatB m u), (90, fun u _ => NatB 3 u)]) (by kernel_rfl) (by kernel_rfl) (by kernel_rfl) rfl ?_ (KN.drew) ?_
          · exact stays_cons (fun _ _ _ _ h => h) (stays_cons (fun _ _ _ _ h => h) (stays_nil _))
          simp only [List.take_succ_cons, List.take_zero, List.drop_succ_cons, List.drop_zero, Act.put, List.getElem_toArray, List.getElem_cons_zero, List.getElem_cons_succ, List.setIfInBounds_toArray, List.set_cons_succ, List.set_cons_zero]
          refine dw_val rfl rfl rfl ?_; apply Exists.intro; refine ⟨fun wv HC => ?_, ?_⟩
          ·  go_simp <;> rfl
          simp only [Act.put, List.setIfInBounds_toArray, List.set_cons_succ, List.set_cons_zero]
          refine dw_val rfl rfl rfl ?_; apply Exists.intro; refine ⟨fun wv HC => ?_, ?_⟩
          · obtain ⟨⟨f0, f1⟩, _⟩ := HF.out _ HC; go_simp <;> rfl
          simp only [Act.put, List.setIfInBounds_toArray, List.set_cons_succ, List.set_cons_zero]
          refine dw_val rfl rfl rfl ?_; apply Exists.intro; refine ⟨fun wv HC => ?_, ?_⟩
          ·  go_simp <;> rfl
          simp only [Act.put, List.setIfInBounds_toArray, List.set_cons_succ, List.set_cons_zero]
          refine dw_val rfl rfl rfl ?_; apply Exists.intro; refine ⟨fun wv HC => ?_, ?_⟩
          ·  go_simp <;> rfl
          simp only [Act.put, List.setIfInBounds_toArray, List.set_cons_succ, List.set_cons_zero]
          refine dw_next (T := T) m 8 (by rw [HKL.out]; rfl) 88 rfl rfl rfl rfl (fun wv => ?_) ?_
          · go_simp <;> rfl
          rintro r hr
          simp only [Act.put, List.setIfInBounds_toArray, List.set_cons_succ, List.set_cons_zero]
          have hr1 : decide ((r : Int) < (m : Int)) = true := by simp; omega
          have hr0 : decide ((0 : Int) ≤ (r : Int)) = true := by simp
          obtain ⟨x, hx⟩ := get_of HOL.out hr
          have HXX := hid hx
          have HXR := hid (HRK.out x (List.mem_of_getElem? hx))
          clear hx
          refine dw_val rfl rfl rfl ?_; apply Exists.intro; refine ⟨fun wv HC => ?_, ?_⟩
          ·  go_simp <;> rfl
          simp only [Act.put, List.setIfInBounds_toArray, List.set_cons_succ, List.set_cons_zero]
          refine dw_next (T := T) 3 8 (by rw [HKL.out]; rfl) 90 rfl rfl rfl rfl (fun wv => ?_) ?_
          · go_simp <;> rfl
          rintro y hy
          simp only [Act.put, List.setIfInBounds_toArray, List.set_cons_succ, List.set_cons_zero]
          refine dw_val rfl rfl rfl ?_; apply Exists.intro; refine ⟨fun wv HC => ?_, ?_⟩
          ·  go_simp <;> rfl
          simp only [Act.put, List.setIfInBounds_toArray, List.set_cons_succ, List.set_cons_zero]
          refine dw_val rfl rfl rfl ?_; apply Exists.intro; refine ⟨fun wv HC => ?_, ?_⟩
          ·  go_simp <;> rfl
          simp only [Act.put, List.setIfInBounds_toArray, List.set_cons_succ, List.set_cons_zero]
          refine rel_nil ?_
          rintro wx2 HX
          rintro _hrm HGW
          clear HGW _hrm
          rw [HKL.out] at HX
          clear HF KN HKL
          have N4 := HX.apart_ 0 3 rfl rfl (by omega) rfl rfl
          have N5 := HX.apart_ 0 2 rfl rfl (by omega) rfl rfl
          have N6 := N4.symm
          have N7 := N5.symm
          obtain ⟨⟨q0, q1⟩, ⟨q2, q3⟩, q4⟩ := own_rw (HX.get 0 rfl) HXX.out
          have FX_ := HX.facts
          simp only [World.size_alloc, World.size_drew, factsL, cellsF, Nat.reduceAdd, List.toList_toArray, List.set_cons_zero, List.set_cons_succ, List.setIfInBounds_toArray, and_true, true_and] at FX_
          have KP := HX.put_ 0 rfl (r * 2) (.int .i64 y)
          rw [rwCells_setId HXX.out] at KP
          simp only [List.set_cons_zero, List.set_cons_succ] at KP
          have KQ := KP.swapRo 1 rfl ((KP.ro 1 rfl).imp fun w2 h2 => ownVals_set (k := r) (x := { x with id := (y : Int) }) h2 (h2 x (List.mem_of_getElem? HXX.out)))
          simp only [List.set_cons_zero, List.set_cons_succ] at KQ
          have HOK3 := hid (show ∀ z ∈ outs.set r { x with id := (y : Int) }, ROk n z from rOk_set HRK.out ⟨⟨by unfold I64; show _ ≤ (y : Int) ∧ (y : Int) ≤ _; omega, HXR.out.1.nc, HXR.out.1.c, HXR.out.1.vs⟩, HXR.out.2⟩)
          have KS := KQ.sealRow 0 rfl
          simp only [List.set_cons_zero, List.set_cons_succ, List.setIfInBounds_toArray] at KS
          have KN := (((KS.store 3 rfl 0 (.string nm)).store 3 rfl 1 (.slice A n c)).store 3 rfl 2 (.int .i64 nx)).store 3 rfl 3 (.slice (some ⟨go, 0, none⟩) m cap)
          have r2 := KN.roOut 0 rfl
          have r3 := KN.roOut 1 rfl
          go_wp2_with fail
          exact bodyPost_ret (v := .agg #[.string nm, .slice A n c, .int .i64 nx, .slice (some ⟨go, 0, none⟩) m cap]) (by simp [results, Tryd.results31, go_sem, FX_, NK, q0, q1, q2, q3, q4, N4, N5, N6, N7]) rfl (someTab_of HNM.out HCS.out (by have := HL.out; omega) hnc hc hcap.1 hcap.2.1 (by rw [List.length_set]; have := HOL.out; omega) (fun r hr => rOut (HOK3.out r hr) hn) (KN.roOut 6 rfl) (r2.and (r3.imp fun w h => h.vals)) (KN.tp_ 8 rfl) KN.grow)
        · have hg0 : decide ((m : Int) > 0) = false := by simp; omega
          have hg1 : decide (0 < m) = false := by simp; omega
          have KS := K2.sealRow 0 rfl
          simp only [List.set_cons_zero, List.set_cons_succ, List.setIfInBounds_toArray] at KS
          have KN := (((KS.store 3 rfl 0 (.string nm)).store 3 rfl 1 (.slice A n c)).store 3 rfl 2 (.int .i64 nx)).store 3 rfl 3 (.slice O m cap)
          have r2 := KN.roOut 0 rfl
          have r3 := KN.roOut 1 rfl
          go_wp2_with fail
          exact bodyPost_ret (v := .agg #[.string nm, .slice A n c, .int .i64 nx, .slice O m cap]) (by simp [results, Tryd.results31, go_sem, F2, NK]) rfl (someTab_of HNM.out HCS.out (by have := HL.out; omega) hnc hc hcap.1 hcap.2.1 (by have := HOL.out; omega) (fun r hr => rOut (HRK.out r hr) hn) (KN.roOut 6 rfl) (r2.and (r3.imp fun w h => h.vals)) (KN.tp_ 8 rfl) KN.grow)
      · skip
        by_cases hm0 : 0 < m
        · have hg0 : decide ((m : Int) > 0) = true := by simp; omega
          obtain ⟨go, rfl⟩ : ∃ g, O = some ⟨g, 0, none⟩ := by
            rcases own_addr (K2.get 0 rfl) with ⟨_, h, _⟩ | ⟨g, h, _⟩
            · omega
            · exact ⟨g, h⟩
          go_wp2_with fail
          obtain ⟨KL, hKL, KN⟩ := K2.name
          have HF : Hid (∀ wv, Hold M (some T) w wv KL → (wv.cell? ⟨g5, 3, none⟩ = some (.slice (some ⟨go, 0, none⟩) m cap) ∧ g5 < wv.heap.size) ∧ ∀ (k : Nat) (x : Rw), outs[k]? = some x → (wv.cell? ⟨go, k * 2, none⟩ = some (.int .i64 x.id) ∧ wv.cell? ⟨go, k * 2 + 1, none⟩ = some (.slice x.A x.n x.c)) ∧ (wv.frozen? ⟨go, k * 2, none⟩ = false ∧ wv.frozen? ⟨go, k * 2 + 1, none⟩ = false) ∧ go < wv.heap.size) := hid fun wv HC => by
            rw [hKL] at HC
            have y1 := HC.blk_ 2 rfl
            exact ⟨⟨cell_of_row _ _ 3 _ _ _ y1, Blk.lt y1⟩, fun k x hx => own_rw (HC.get 0 rfl) hx⟩
          have HKL := hid hKL
          clear hKL K2
          have HRX : Hid (∀ wv, Hold M (some T) w wv KL → Tp wv T ∧ Wds wv) := hid fun wv HC => by
            rw [HKL.out] at HC
            exact ⟨HC.tp_ 8 rfl, (HC.ro 5 rfl).now⟩
          have HOV := hid (show OwnVals 66 w.heap.size outs w2 by have h := KN; rw [HKL.out] at h; exact (h.ro 1 rfl).now)
          have hn0 : 0 < n := by omega
          refine wp_region_any (by kernel_rfl) ?_
          refine wpAny_hold 11 125 (KL) (spL [(101, fun u _ => NatB m u), (106, OddSlot)]) (by kernel_rfl) (by kernel_rfl) (by kernel_rfl) rfl ?_ (KN.drew) ?_
          · exact stays_cons (fun _ _ _ _ h => h) (stays_cons oddSlot_mono (stays_nil _))
          simp only [List.take_succ_cons, List.take_zero, List.drop_succ_cons, List.drop_zero, Act.put, List.getElem_toArray, List.getElem_cons_zero, List.getElem_cons_succ, List.setIfInBounds_toArray, List.set_cons_succ, List.set_cons_zero]
          refine dw_val rfl rfl rfl ?_; apply Exists.intro; refine ⟨fun wv HC => ?_, ?_⟩
          ·  go_simp <;> rfl
          simp only [Act.put, List.setIfInBounds_toArray, List.set_cons_succ, List.set_cons_zero]
          refine dw_val rfl rfl rfl ?_; apply Exists.intro; refine ⟨fun wv HC => ?_, ?_⟩
          · obtain ⟨⟨f0, f1⟩, _⟩ := HF.out _ HC; go_simp <;> rfl
          simp only [Act.put, List.setIfInBounds_toArray, List.set_cons_succ, List.set_cons_zero]
          refine dw_val rfl rfl rfl ?_; apply Exists.intro; refine ⟨fun wv HC => ?_, ?_⟩
          ·  go_simp <;> rfl
          simp only [Act.put, List.setIfInBounds_toArray, List.set_cons_succ, List.set_cons_zero]
          refine dw_val rfl rfl rfl ?_; apply Exists.intro; refine ⟨fun wv HC => ?_, ?_⟩
          ·  go_simp <;> rfl
          simp only [Act.put, List.setIfInBounds_toArray, List.set_cons_succ, List.set_cons_zero]
          refine dw_next (T := T) m 8 (by rw [HKL.out]; rfl) 101 rfl rfl rfl rfl (fun wv => ?_) ?_
          · go_simp <;> rfl
          rintro r hr
          simp only [Act.put, List.setIfInBounds_toArray, List.set_cons_succ, List.set_cons_zero]
          have hr1 : decide ((r : Int) < (m : Int)) = true := by simp; omega
          have hr0 : decide ((0 : Int) ≤ (r : Int)) = true := by simp
          obtain ⟨x, hx⟩ := get_of HOL.out hr
          have HXX := hid hx
          have HXR := hid (HRK.out x (List.mem_of_getElem? hx))
          clear hx
          obtain ⟨xid, xA, xn, xc, xvs⟩ := x
          (try dsimp only at *)
          obtain rfl : n = xn := HXR.out.2.2.symm
          obtain ⟨gx, rfl⟩ : ∃ g, xA = some ⟨g, 0, none⟩ := by
            rcases own_addr (HOV.out _ (List.mem_of_getElem? HXX.out)) with ⟨_, h, _⟩ | ⟨g, h, _⟩
            · (try dsimp only at h); omega
            · exact ⟨g, h⟩
          refine dw_val rfl rfl rfl ?_; apply Exists.intro; refine ⟨fun wv HC => ?_, ?_⟩
          ·  go_simp <;> rfl
          simp only [Act.put, List.setIfInBounds_toArray, List.set_cons_succ, List.set_cons_zero]
          refine dw_val rfl rfl rfl ?_; apply Exists.intro; refine ⟨fun wv HC => ?_, ?_⟩
          ·  go_simp <;> rfl
          simp only [Act.put, List.setIfInBounds_toArray, List.set_cons_succ, List.set_cons_zero]
          refine dw_val rfl rfl rfl ⟨.slice (some ⟨gx, 0, none⟩) n xc, fun wv HC => ?_, ?_⟩
          · obtain ⟨_, fo⟩ := HF.out _ HC
            obtain ⟨⟨y0, y1⟩, _, y2⟩ := fo r _ HXX.out
            dsimp only at y0 y1
            go_simp <;> rfl
          simp only [Act.put, List.setIfInBounds_toArray, List.set_cons_succ, List.set_cons_zero]
          refine dw_val rfl rfl rfl ?_; apply Exists.intro; refine ⟨fun wv HC => ?_, ?_⟩
          ·  go_simp <;> rfl
          simp only [Act.put, List.setIfInBounds_toArray, List.set_cons_succ, List.set_cons_zero]
          refine dw_callR 106 OddSlot (f := 68) (args := #[.pointer (some ⟨T, 0, none⟩)]) rfl rfl rfl rfl (fun wv => ?_) (fun wv HC hrm hD => ?_) ?_
          · go_simp <;> rfl
          · refine (odd2_any T wv (HRX.out _ HC).1 (HRX.out _ HC).2 hT).mono ?_
            rintro e w5 ⟨k, i, s, rfl, ⟨h1, h2, h3⟩, t5, g5'⟩
            exact ⟨_, rfl, ⟨⟨k, i, s⟩, rfl, ⟨h2, h3, by show s.size ≤ maxLen; unfold maxLen; omega⟩⟩, Hold.callT HC 8 (by rw [HKL.out]; rfl) g5' t5, RM.grown g5' (.inr ⟨_, List.mem_of_getElem? (i := 8) (by rw [HKL.out]; rfl), rfl⟩)⟩
          rintro u wx HCx ⟨v, rfl, hvo⟩
          have HVO := hid hvo
          clear HCx hvo
          simp only [Act.put, List.setIfInBounds_toArray, List.set_cons_succ, List.set_cons_zero]
          refine dw_val rfl rfl rfl ?_; apply Exists.intro; refine ⟨fun wv HC => ?_, ?_⟩
          ·  go_simp <;> rfl
          simp only [Act.put, List.setIfInBounds_toArray, List.set_cons_succ, List.set_cons_zero]
          refine rel_nil ?_
          rintro wx2 HX
          rintro _hrm HGW
          clear HGW _hrm
          rw [HKL.out] at HX
          clear HF KN HKL HRX HOV
          have hov := (HX.ro 1 rfl).now
          have hox := hov _ (List.mem_of_getElem? HXX.out)
          dsimp only at hox
          obtain ⟨uq, huq⟩ : ∃ uq, xvs[0]? = some uq := ⟨_, List.getElem?_eq_getElem (by have h := HXR.out.2.1; (try dsimp only at h); omega)⟩
          obtain ⟨⟨y0, y1, y2⟩, ⟨y3, y4, y5⟩, y6⟩ := own_vl hox huq
          simp only [Nat.zero_mul, Nat.zero_add] at y0 y1 y2 y3 y4 y5
          have hgx : w.heap.size ≤ gx := (hox.lt gx rfl).1
          have N4 : ¬ go = gx := own_ne_ty (HX.get 0 rfl) hox (by decide)
          have N5 : ¬ g5 = gx := blk_ne_ty (HX.blk_ 2 rfl) hox (by decide)
          have N6 : ¬ g4 = gx := blk_ne_ty (HX.blk_ 3 rfl) hox (by decide)
          have N7 : ¬ gx = g5 := fun e => N5 e.symm
          have N8 : ¬ gx = g4 := fun e => N6 e.symm
          have hb4 := HX.blk_ 3 rfl
          have FX_ := HX.facts
          simp only [World.size_alloc, World.size_drew, factsL, cellsF, Nat.reduceAdd, List.toList_toArray, List.set_cons_zero, List.set_cons_succ, List.setIfInBounds_toArray, and_true, true_and] at FX_
          have KF := HX.drop (L' := [.own 61 2 (.slice (some ⟨go, 0, none⟩) m cap) m (rwCells outs), .blk g5 40 #[.string nm, .slice A n c, .int .i64 nx, .slice (some ⟨go, 0, none⟩) m cap], .blk g4 40 #[.string ⟨#[]⟩, .slice none 0 0, .int .i64 0, .slice none 0 0], .tp T]) (List.Sublist.cons_cons _ (List.Sublist.cons _ (List.Sublist.cons_cons _ (List.Sublist.cons_cons _ (List.Sublist.cons _ (List.Sublist.cons _ (List.Sublist.cons _ (List.Sublist.cons _ (List.Sublist.refl _)))))))))
          have hfo : ∀ k ∈ ([.own 61 2 (.slice (some ⟨go, 0, none⟩) m cap) m (rwCells outs), .blk g5 40 #[.string nm, .slice A n c, .int .i64 nx, .slice (some ⟨go, 0, none⟩) m cap], .blk g4 40 #[.string ⟨#[]⟩, .slice none 0 0, .int .i64 0, .slice none 0 0], .tp T] : List Hp), ∃ b, k.foot = some b ∧ b ≠ gx := fun k hk => by
            simp only [List.mem_cons, List.not_mem_nil, or_false] at hk
            rcases hk with rfl | rfl | rfl | rfl
            · exact ⟨go, rfl, N4⟩
            · exact ⟨g5, rfl, N5⟩
            · exact ⟨g4, rfl, N6⟩
            · exact ⟨T, rfl, by have := HTL.out; omega⟩
          have hfT : ∀ T', Hp.tp T' ∈ ([.own 61 2 (.slice (some ⟨go, 0, none⟩) m cap) m (rwCells outs), .blk g5 40 #[.string nm, .slice A n c, .int .i64 nx, .slice (some ⟨go, 0, none⟩) m cap], .blk g4 40 #[.string ⟨#[]⟩, .slice none 0 0, .int .i64 0, .slice none 0 0], .tp T] : List Hp) → T' < gx := fun T' hT' => by
            simp only [List.mem_cons, List.not_mem_nil, or_false, reduceCtorEq, false_or, Hp.tp.injEq] at hT'
            subst hT'
            have := HTL.out; omega
          have KP := ((KF.poke hgx hfo hfT 0 (.int .i64 v.k)).poke hgx hfo hfT 1 (.int .i64 v.i)).poke hgx hfo hfT 2 (.string v.s)
          have hp := hov.poke (g := gx) v (fun z hz => by rw [(HRK.out z hz).2.1]; omega)
          have hb5 := Blk.far (p := ⟨gx, 2, none⟩) (Blk.far (p := ⟨gx, 1, none⟩) (Blk.far (p := ⟨gx, 0, none⟩) hb4 N6 (.int .i64 v.k)) N6 (.int .i64 v.i)) N6 (.string v.s)
          have hq := hid (hp.far4 hb5 (by decide) (.string nm) (.slice A n c) (.int .i64 nx) (.slice (some ⟨go, 0, none⟩) m cap))
          have HOK3 := hid (show ∀ z ∈ outs.map (pokeRw gx v), z.ok ∧ z.vs.length ≤ 1000 from fun z hz => by
            obtain ⟨y, hy, rfl⟩ := List.mem_map.1 hz
            have h1 := HRK.out y hy
            have h2 := rOut h1 hn
            unfold pokeRw
            split
            · exact ⟨⟨h1.1.id, h1.1.nc, h1.1.c, oks_set h1.1.vs HVO.out⟩, by show (y.vs.set 0 v).length ≤ 1000; rw [List.length_set]; exact h2.2⟩
            · exact h2)
          clear hov hox hp hb4 hb5 hfo hfT KF HX
          have KS := KP.sealRow 0 rfl
          simp only [List.set_cons_zero, List.set_cons_succ, List.setIfInBounds_toArray] at KS
          have KN := (((KS.store 2 rfl 0 (.string nm)).store 2 rfl 1 (.slice A n c)).store 2 rfl 2 (.int .i64 nx)).store 2 rfl 3 (.slice (some ⟨go, 0, none⟩) m cap)
          have r2 := KN.roOut 0 rfl
          rw [← pokeRw_cells gx v outs] at r2
          have r1 : Ro _ M (ColsIn A n cs) := (Ro.grown HD.out KN.grow (.inr ⟨_, List.mem_singleton.2 rfl, rfl⟩)).less fun b hb => .inl hb
          have r3 := OwnVals.ro HMM.out hq.out
          clear KS KP
          go_wp2_with fail
          exact bodyPost_ret (v := .agg #[.string nm, .slice A n c, .int .i64 nx, .slice (some ⟨go, 0, none⟩) m cap]) (by simp [results, Tryd.results31, go_sem, FX_, NK, y0, y1, y2, y3, y4, y5, y6, N5, N6, N7, N8]) rfl (someTab_of HNM.out HCS.out (by have := HL.out; omega) hnc hc hcap.1 hcap.2.1 (by rw [List.length_map]; have := HOL.out; omega) HOK3.out r1 (r2.and r3) (KN.tp_ 3 rfl) KN.grow)
        · have hg0 : decide ((m : Int) > 0) = false := by simp; omega
          have hg1 : decide (0 < m) = false := by simp; omega
          have KS := K2.sealRow 0 rfl
          simp only [List.set_cons_zero, List.set_cons_succ, List.setIfInBounds_toArray] at KS
          have KN := (((KS.store 3 rfl 0 (.string nm)).store 3 rfl 1 (.slice A n c)).store 3 rfl 2 (.int .i64 nx)).store 3 rfl 3 (.slice O m cap)
          have r2 := KN.roOut 0 rfl
          have r3 := KN.roOut 1 rfl
          go_wp2_with fail
          exact bodyPost_ret (v := .agg #[.string nm, .slice A n c, .int .i64 nx, .slice O m cap]) (by simp [results, Tryd.results31, go_sem, F2, NK]) rfl (someTab_of HNM.out HCS.out (by have := HL.out; omega) hnc hc hcap.1 hcap.2.1 (by have := HOL.out; omega) (fun r hr => rOut (HRK.out r hr) hn) (KN.roOut 6 rfl) (r2.and (r3.imp fun w h => h.vals)) (KN.tp_ 8 rfl) KN.grow)
      · skip
        by_cases hm0 : 1 < m
        · have hg0 : decide ((m : Int) > 1) = true := by simp; omega
          obtain ⟨go, rfl⟩ : ∃ g, O = some ⟨g, 0, none⟩ := by
            rcases own_addr (K2.get 0 rfl) with ⟨_, h, _⟩ | ⟨g, h, _⟩
            · omega
            · exact ⟨g, h⟩
          go_wp2_with fail
          obtain ⟨KL, hKL, KN⟩ := K2.name
          have HF : Hid (∀ wv, Hold M (some T) w wv KL → (wv.cell? ⟨g5, 3, none⟩ = some (.slice (some ⟨go, 0, none⟩) m cap) ∧ g5 < wv.heap.size) ∧ ∀ (k : Nat) (x : Rw), outs[k]? = some x → (wv.cell? ⟨go, k * 2, none⟩ = some (.int .i64 x.id) ∧ wv.cell? ⟨go, k * 2 + 1, none⟩ = some (.slice x.A x.n x.c)) ∧ (wv.frozen? ⟨go, k * 2, none⟩ = false ∧ wv.frozen? ⟨go, k * 2 + 1, none⟩ = false) ∧ go < wv.heap.size) := hid fun wv HC => by
            rw [hKL] at HC
            have y1 := HC.blk_ 2 rfl
            exact ⟨⟨cell_of_row _ _ 3 _ _ _ y1, Blk.lt y1⟩, fun k x hx => own_rw (HC.get 0 rfl) hx⟩
          have HKL := hid hKL
          clear hKL K2
          obtain ⟨x0, hx0⟩ := get_of HOL.out (show 0 < m by omega)
          obtain ⟨x, hx⟩ := get_of HOL.out (show m - 1 < m by omega)
          have HX0 := hid hx0
          have HXX := hid hx
          have HXR := hid (HRK.out x (List.mem_of_getElem? hx))
          have HR0 := hid (HRK.out x0 (List.mem_of_getElem? hx0))
          have hxn : x0.n = n := HR0.out.2.2
          have hm1 : 0 < m := by omega
          have hm2 : (0 : Int) ≤ (m : Int) - 1 := by omega
          have hm3 : (m : Int) - 1 < (m : Int) := by omega
          have hm4 : ((m : Int) - 1).toNat = m - 1 := by omega
          have hm5 : (1 : Int) ≤ (m : Int) := by omega
          have s1 : IntKind.i64.wrap ((m : Int) - 1) = (m : Int) - 1 := by rw [IntKind.wrap_i64]; omega
          have HRX : Hid (∀ wv, Hold M (some T) w wv KL → VlsIn x0.A x0.n x0.vs wv) := hid fun wv HC => by
            rw [HKL.out] at HC
            exact (HC.ro 1 rfl).now.vals x0 (List.mem_of_getElem? HX0.out)
          clear hx hx0
          refine wp_region_any (by kernel_rfl) ?_
          refine wpAny_hold 12 125 (KL) (spL [(121, OVls 66 (Mut M KL) w.heap.size x0.vs)]) (by kernel_rfl) (by kernel_rfl) (by kernel_rfl) rfl ?_ (KN.drew) ?_
          · exact stays_cons oVls_mono (stays_nil _)
          simp only [List.take_succ_cons, List.take_zero, List.drop_succ_cons, List.drop_zero, Act.put, List.getElem_toArray, List.getElem_cons_zero, List.getElem_cons_succ, List.setIfInBounds_toArray, List.set_cons_succ, List.set_cons_zero]
          refine dw_val rfl rfl rfl ?_; apply Exists.intro; refine ⟨fun wv HC => ?_, ?_⟩
          ·  go_simp <;> rfl
          simp only [Act.put, List.setIfInBounds_toArray, List.set_cons_succ, List.set_cons_zero]
          refine dw_val rfl rfl rfl ?_; apply Exists.intro; refine ⟨fun wv HC => ?_, ?_⟩
          · obtain ⟨⟨f0, f1⟩, _⟩ := HF.out _ HC; go_simp <;> rfl
          simp only [Act.put, List.setIfInBounds_toArray, List.set_cons_succ, List.set_cons_zero]
          refine dw_val rfl rfl rfl ?_; apply Exists.intro; refine ⟨fun wv HC => ?_, ?_⟩
          ·  go_simp <;> rfl
          simp only [Act.put, List.setIfInBounds_toArray, List.set_cons_succ, List.set_cons_zero]
          refine dw_val rfl rfl rfl ?_; apply Exists.intro; refine ⟨fun wv HC => ?_, ?_⟩
          ·  go_simp <;> rfl
          simp only [Act.put, List.setIfInBounds_toArray, List.set_cons_succ, List.set_cons_zero]
          refine dw_val rfl rfl rfl ?_; apply Exists.intro; refine ⟨fun wv HC => ?_, ?_⟩
          ·  go_simp <;> rfl
          simp only [Act.put, List.setIfInBounds_toArray, List.set_cons_succ, List.set_cons_zero]
          refine dw_val rfl rfl rfl ?_; apply Exists.intro; refine ⟨fun wv HC => ?_, ?_⟩
          · obtain ⟨⟨f0, f1⟩, _⟩ := HF.out _ HC; go_simp <;> rfl
          simp only [Act.put, List.setIfInBounds_toArray, List.set_cons_succ, List.set_cons_zero]
          refine dw_val rfl rfl rfl ?_; apply Exists.intro; refine ⟨fun wv HC => ?_, ?_⟩
          ·  go_simp <;> rfl
          simp only [Act.put, List.setIfInBounds_toArray, List.set_cons_succ, List.set_cons_zero]
          refine dw_val rfl rfl rfl ?_; apply Exists.intro; refine ⟨fun wv HC => ?_, ?_⟩
          ·  go_simp <;> rfl
          simp only [Act.put, List.setIfInBounds_toArray, List.set_cons_succ, List.set_cons_zero]
          refine dw_val rfl rfl rfl ⟨.slice x0.A x0.n x0.c, fun wv HC => ?_, ?_⟩
          · obtain ⟨_, fo⟩ := HF.out _ HC
            obtain ⟨⟨y0, y1⟩, _, y2⟩ := fo 0 x0 HX0.out
            simp only [Nat.zero_mul, Nat.zero_add] at y0 y1
            go_simp <;> rfl
          simp only [Act.put, List.setIfInBounds_toArray, List.set_cons_succ, List.set_cons_zero]
          refine dw_cloneO Tryd.elVl 121 (OVls 66 (Mut M KL) w.heap.size x0.vs) rfl rfl rfl rfl (.const (.slice none 0 0)) (.tmp 120) rfl rfl (A := x0.A) (m := x0.n) (c := x0.c) (ys := vlCells x0.vs) rfl (one_vls _) (by omega) (by omega) (fun wv HC hD => HRX.out _ HC) (fun C9 c9 wv wv' HC hrm HC' q1 q2 ho => ⟨C9, x0.n, c9, rfl, by rw [HR0.out.2.1, HR0.out.2.2], q1, q2, Ro.own (fun b hb => HC.mutLt b hb) HC.grow.size ho⟩) ?_
          rintro u wx HCx ⟨A28, n28, c28, rfl, hn28, hc1, hc2, -⟩
          have HN28 := hid (And.intro hn28 (And.intro hc1 hc2))
          clear HCx hn28 hc1 hc2
          simp only [Act.put, List.setIfInBounds_toArray, List.set_cons_succ, List.set_cons_zero]
          refine dw_val rfl rfl rfl ?_; apply Exists.intro; refine ⟨fun wv HC => ?_, ?_⟩
          ·  go_simp <;> rfl
          simp only [Act.put, List.setIfInBounds_toArray, List.set_cons_succ, List.set_cons_zero]
          refine dw_val rfl rfl rfl ?_; apply Exists.intro; refine ⟨fun wv HC => ?_, ?_⟩
          ·  go_simp <;> rfl
          simp only [Act.put, List.setIfInBounds_toArray, List.set_cons_succ, List.set_cons_zero]
          refine rel_nil ?_
          rintro wx2 HX
          rintro _hrm HGW
          have hb2 : OVls 66 (Mut M KL) w.heap.size x0.vs (.slice A28 n28 c28) wx2 := (GW_on (d := 121) rfl).1 (HGW 9 _ rfl (by omega))
          clear HGW _hrm
          obtain ⟨A6, n6, c6, e6, -, -, -, k3_⟩ := hb2
          obtain ⟨rfl, rfl, rfl⟩ : A28 = A6 ∧ n28 = n6 ∧ c28 = c6 := by injection e6 with h1 h2 h3; exact ⟨h1, h2, h3⟩
          clear e6
          rw [HKL.out] at HX k3_
          clear HF KN HKL HRX
          have N4 := HX.apart_ 0 3 rfl rfl (by omega) rfl rfl
          have N5 := HX.apart_ 0 2 rfl rfl (by omega) rfl rfl
          have N6 := N4.symm
          have N7 := N5.symm
          obtain ⟨⟨q0, q1⟩, ⟨q2, q3⟩, q4⟩ := own_rw (HX.get 0 rfl) HXX.out
          have FX_ := HX.facts
          simp only [World.size_alloc, World.size_drew, factsL, cellsF, Nat.reduceAdd, List.toList_toArray, List.set_cons_zero, List.set_cons_succ, List.setIfInBounds_toArray, and_true, true_and] at FX_
          have KP := (HX.add k3_).put_ 1 rfl ((m - 1) * 2 + 1) (.slice A28 n28 c28)
          rw [rwCells_setVs HXX.out A28 n28 c28 x0.vs] at KP
          simp only [List.set_cons_zero, List.set_cons_succ] at KP
          have KQ := (KP.swapRo 2 rfl (((KP.ro 0 rfl).and (KP.ro 2 rfl)).imp fun w2 h2 => ownVals_set (k := m - 1) (x := Rw.mk x.id A28 n28 c28 x0.vs) h2.2 h2.1)).drop (List.sublist_cons_self _ _)
          simp only [List.set_cons_zero, List.set_cons_succ] at KQ
          have HOK3 := hid (show ∀ z ∈ outs.set (m - 1) (Rw.mk x.id A28 n28 c28 x0.vs), ROk n z from rOk_set HRK.out ⟨⟨HXR.out.1.id, HN28.out.2.1, HN28.out.2.2, HR0.out.1.vs⟩, HR0.out.2.1, by show n28 = n; rw [HN28.out.1]; exact HR0.out.2.1⟩)
          clear hxn
          have KS := KQ.sealRow 0 rfl
          simp only [List.set_cons_zero, List.set_cons_succ, List.setIfInBounds_toArray] at KS
          have KN := (((KS.store 3 rfl 0 (.string nm)).store 3 rfl 1 (.slice A n c)).store 3 rfl 2 (.int .i64 nx)).store 3 rfl 3 (.slice (some ⟨go, 0, none⟩) m cap)
          have r2 := KN.roOut 0 rfl
          have r3 := KN.roOut 1 rfl
          go_wp2_with fail
          exact bodyPost_ret (v := .agg #[.string nm, .slice A n c, .int .i64 nx, .slice (some ⟨go, 0, none⟩) m cap]) (by simp [results, Tryd.results31, go_sem, FX_, NK, q0, q1, q2, q3, q4, N4, N5, N6, N7, hm4]) rfl (someTab_of HNM.out HCS.out (by have := HL.out; omega) hnc hc hcap.1 hcap.2.1 (by rw [List.length_set]; have := HOL.out; omega) (fun r hr => rOut (HOK3.out r hr) hn) (KN.roOut 6 rfl) (r2.and (r3.imp fun w h => h.vals)) (KN.tp_ 8 rfl) KN.grow)
        · have hg0 : decide ((m : Int) > 1) = false := by simp; omega
          have hg1 : decide (1 < m) = false := by simp; omega
          have KS := K2.sealRow 0 rfl
          simp only [List.set_cons_zero, List.set_cons_succ, List.setIfInBounds_toArray] at KS
          have KN := (((KS.store 3 rfl 0 (.string nm)).store 3 rfl 1 (.slice A n c)).store 3 rfl 2 (.int .i64 nx)).store 3 rfl 3 (.slice O m cap)
          have r2 := KN.roOut 0 rfl
          have r3 := KN.roOut 1 rfl
          go_wp2_with fail
          exact bodyPost_ret (v := .agg #[.string nm, .slice A n c, .int .i64 nx, .slice O m cap]) (by simp [results, Tryd.results31, go_sem, F2, NK]) rfl (someTab_of HNM.out HCS.out (by have := HL.out; omega) hnc hc hcap.1 hcap.2.1 (by have := HOL.out; omega) (fun r hr => rOut (HRK.out r hr) hn) (KN.roOut 6 rfl) (r2.and (r3.imp fun w h => h.vals)) (KN.tp_ 8 rfl) KN.grow)
      · skip
        by_cases hm0 : 0 < m
        · have hg0 : decide ((m : Int) > 0) = true := by simp; omega
          obtain ⟨go, rfl⟩ : ∃ g, O = some ⟨g, 0, none⟩ := by
            rcases own_addr (K2.get 0 rfl) with ⟨_, h, _⟩ | ⟨g, h, _⟩
            · omega
            · exact ⟨g, h⟩
          go_wp2_with fail
          obtain ⟨KL, hKL, KN⟩ := K2.name
          have HF : Hid (∀ wv, Hold M (some T) w wv KL → (wv.cell? ⟨g5, 3, none⟩ = some (.slice (some ⟨go, 0, none⟩) m cap) ∧ g5 < wv.heap.size) ∧ ∀ (k : Nat) (x : Rw), outs[k]? = some x → (wv.cell? ⟨go, k * 2, none⟩ = some (.int .i64 x.id) ∧ wv.cell? ⟨go, k * 2 + 1, none⟩ = some (.slice x.A x.n x.c)) ∧ (wv.frozen? ⟨go, k * 2, none⟩ = false ∧ wv.frozen? ⟨go, k * 2 + 1, none⟩ = false) ∧ go < wv.heap.size) := hid fun wv HC => by
            rw [hKL] at HC
            have y1 := HC.blk_ 2 rfl
            exact ⟨⟨cell_of_row _ _ 3 _ _ _ y1, Blk.lt y1⟩, fun k x hx => own_rw (HC.get 0 rfl) hx⟩
          have HKL := hid hKL
          clear hKL K2
          refine wp_region_any (by kernel_rfl) ?_
          refine wpAny_hold 6 125 (KL) (spL [(45, fun u _ => NatB m u)]) (by kernel_rfl) (by kernel_rfl) (by kernel_rfl) rfl ?_ (KN.drew) ?_
          · exact stays_cons (fun _ _ _ _ h => h) (stays_nil _)
          simp only [List.take_succ_cons, List.take_zero, List.drop_succ_cons, List.drop_zero, Act.put, List.getElem_toArray, List.getElem_cons_zero, List.getElem_cons_succ, List.setIfInBounds_toArray, List.set_cons_succ, List.set_cons_zero]
          refine dw_val rfl rfl rfl ?_; apply Exists.intro; refine ⟨fun wv HC => ?_, ?_⟩
          ·  go_simp <;> rfl
          simp only [Act.put, List.setIfInBounds_toArray, List.set_cons_succ, List.set_cons_zero]
          refine dw_val rfl rfl rfl ?_; apply Exists.intro; refine ⟨fun wv HC => ?_, ?_⟩
          · obtain ⟨⟨f0, f1⟩, _⟩ := HF.out _ HC; go_simp <;> rfl
          simp only [Act.put, List.setIfInBounds_toArray, List.set_cons_succ, List.set_cons_zero]
          refine dw_val rfl rfl rfl ?_; apply Exists.intro; refine ⟨fun wv HC => ?_, ?_⟩
          ·  go_simp <;> rfl
          simp only [Act.put, List.setIfInBounds_toArray, List.set_cons_succ, List.set_cons_zero]
          refine dw_val rfl rfl rfl ?_; apply Exists.intro; refine ⟨fun wv HC => ?_, ?_⟩
          ·  go_simp <;> rfl
          simp only [Act.put, List.setIfInBounds_toArray, List.set_cons_succ, List.set_cons_zero]
          refine dw_next (T := T) m 8 (by rw [HKL.out]; rfl) 45 rfl rfl rfl rfl (fun wv => ?_) ?_
          · go_simp <;> rfl
          rintro r hr
          simp only [Act.put, List.setIfInBounds_toArray, List.set_cons_succ, List.set_cons_zero]
          have hr1 : decide ((r : Int) < (m : Int)) = true := by simp; omega
          have hr0 : decide ((0 : Int) ≤ (r : Int)) = true := by simp
          obtain ⟨x, hx⟩ := get_of HOL.out hr
          have HXX := hid hx
          have HXR := hid (HRK.out x (List.mem_of_getElem? hx))
          clear hx
          refine dw_val rfl rfl rfl ?_; apply Exists.intro; refine ⟨fun wv HC => ?_, ?_⟩
          ·  go_simp <;> rfl
          simp only [Act.put, List.setIfInBounds_toArray, List.set_cons_succ, List.set_cons_zero]
          refine rel_nil ?_
          rintro wx2 HX
          rintro _hrm HGW
          clear HGW _hrm
          rw [HKL.out] at HX
          clear HF KN HKL
          obtain ⟨xid, xA, xn, xc, xvs⟩ := x
          (try dsimp only at *)
          obtain rfl : n = xn := HXR.out.2.2.symm
          obtain ⟨gx, rfl⟩ : ∃ g, xA = some ⟨g, 0, none⟩ := by
            rcases own_addr ((HX.ro 1 rfl).now _ (List.mem_of_getElem? HXX.out)) with ⟨_, h, _⟩ | ⟨g, h, _⟩
            · (try dsimp only at h); omega
            · exact ⟨g, h⟩
          have N4 := HX.apart_ 0 3 rfl rfl (by omega) rfl rfl
          have N5 := HX.apart_ 0 2 rfl rfl (by omega) rfl rfl
          have N6 := N4.symm
          have N7 := N5.symm
          obtain ⟨⟨q0, q1⟩, ⟨q2, q3⟩, q4⟩ := own_rw (HX.get 0 rfl) HXX.out
          dsimp only at q0 q1
          have FX_ := HX.facts
          simp only [World.size_alloc, World.size_drew, factsL, cellsF, Nat.reduceAdd, List.toList_toArray, List.set_cons_zero, List.set_cons_succ, List.setIfInBounds_toArray, and_true, true_and] at FX_
          have HCN0 := hid (And.intro HXR.out.1.nc HXR.out.1.c)
          have HCN1 := hid (show xvs.length = n from HXR.out.2.1)
          by_cases hx1 : xc = 1
          · have hn1' : n = 1 := by have h := HCN0.out.1; (try dsimp only at h); omega
            have HCN := hid (show n - 1 ≤ 0 ∧ 0 ≤ 9223372036854775807 from ⟨by omega, by omega⟩)
            have HTV := hid (show ∀ (A : Option Addr) (w : World), VlsIn A (n - 1) xvs.tail w from fun A w => tail_vls0 hn1' HCN1.out)
            clear hn1'
            have hv : Ro wx2 _ (ValsIn (outs.set r (Rw.mk xid (some ⟨gx, 0, none⟩) (n - 1) 0 xvs.tail))) := (HX.ro 1 rfl).imp fun w2 h2 z hz => (List.mem_or_eq_of_mem_set hz).elim (fun h => h2.vals z h) (fun h => by subst h; exact HTV.out _ _)
            have KP := (HX.add hv).put_ 1 rfl (r * 2 + 1) (.slice (some ⟨gx, 0, none⟩) (n - 1) 0)
            rw [rwCells_setVs HXX.out (some ⟨gx, 0, none⟩) (n - 1) 0 xvs.tail] at KP
            simp only [List.set_cons_zero, List.set_cons_succ] at KP
            have KQ := (KP.swapRo 2 rfl (KP.ro 0 rfl)).drop (List.sublist_cons_self _ _)
            simp only [List.set_cons_zero, List.set_cons_succ] at KQ
            have HOK3 := hid (show ∀ z ∈ outs.set r (Rw.mk xid (some ⟨gx, 0, none⟩) (n - 1) 0 xvs.tail), z.ok ∧ z.vs.length ≤ 1000 from rOk_set (fun z hz => rOut (HRK.out z hz) hn) ⟨⟨HXR.out.1.id, HCN.out.1, HCN.out.2, fun v hv => HXR.out.1.vs v (List.mem_of_mem_tail hv)⟩, by show xvs.tail.length ≤ 1000; rw [List.length_tail]; have := HCN1.out; omega⟩)
            clear hv
            have KS := KQ.sealRow 0 rfl
            simp only [List.set_cons_zero, List.set_cons_succ, List.setIfInBounds_toArray] at KS
            have KN := (((KS.store 3 rfl 0 (.string nm)).store 3 rfl 1 (.slice A n c)).store 3 rfl 2 (.int .i64 nx)).store 3 rfl 3 (.slice (some ⟨go, 0, none⟩) m cap)
            have r2 := KN.roOut 0 rfl
            have r3 := KN.roOut 1 rfl
            go_wp2_with fail
            exact bodyPost_ret (v := .agg #[.string nm, .slice A n c, .int .i64 nx, .slice (some ⟨go, 0, none⟩) m cap]) (by simp [results, Tryd.results31, go_sem, FX_, NK, q0, q1, q2, q3, q4, N4, N5, N6, N7]) rfl (someTab_of HNM.out HCS.out (by have := HL.out; omega) hnc hc hcap.1 hcap.2.1 (by rw [List.length_set]; have := HOL.out; omega) HOK3.out (KN.roOut 6 rfl) (r2.and r3) (KN.tp_ 8 rfl) KN.grow)
          · have HCN := hid (show n - 1 ≤ xc - 1 ∧ xc - 1 ≤ 9223372036854775807 by have h1 := HCN0.out.1; have h2 := HCN0.out.2; (try dsimp only at h1 h2); omega)
            have hv : Ro wx2 _ (ValsIn (outs.set r (Rw.mk xid (some ⟨gx, 3, none⟩) (n - 1) (xc - 1) xvs.tail))) := (HX.ro 1 rfl).imp fun w2 h2 z hz => (List.mem_or_eq_of_mem_set hz).elim (fun h => h2.vals z h) (fun h => by subst h; exact tail_vls (h2.vals _ (List.mem_of_getElem? HXX.out)) (by omega))
            have KP := (HX.add hv).put_ 1 rfl (r * 2 + 1) (.slice (some ⟨gx, 3, none⟩) (n - 1) (xc - 1))
            rw [rwCells_setVs HXX.out (some ⟨gx, 3, none⟩) (n - 1) (xc - 1) xvs.tail] at KP
            simp only [List.set_cons_zero, List.set_cons_succ] at KP
            have KQ := (KP.swapRo 2 rfl (KP.ro 0 rfl)).drop (List.sublist_cons_self _ _)
            simp only [List.set_cons_zero, List.set_cons_succ] at KQ
            have HOK3 := hid (show ∀ z ∈ outs.set r (Rw.mk xid (some ⟨gx, 3, none⟩) (n - 1) (xc - 1) xvs.tail), z.ok ∧ z.vs.length ≤ 1000 from rOk_set (fun z hz => rOut (HRK.out z hz) hn) ⟨⟨HXR.out.1.id, HCN.out.1, HCN.out.2, fun v hv => HXR.out.1.vs v (List.mem_of_mem_tail hv)⟩, by show xvs.tail.length ≤ 1000; rw [List.length_tail]; have := HCN1.out; omega⟩)
            clear hv
            have KS := KQ.sealRow 0 rfl
            simp only [List.set_cons_zero, List.set_cons_succ, List.setIfInBounds_toArray] at KS
            have KN := (((KS.store 3 rfl 0 (.string nm)).store 3 rfl 1 (.slice A n c)).store 3 rfl 2 (.int .i64 nx)).store 3 rfl 3 (.slice (some ⟨go, 0, none⟩) m cap)
            have r2 := KN.roOut 0 rfl
            have r3 := KN.roOut 1 rfl
            go_wp2_with fail
            exact bodyPost_ret (v := .agg #[.string nm, .slice A n c, .int .i64 nx, .slice (some ⟨go, 0, none⟩) m cap]) (by simp [results, Tryd.results31, go_sem, FX_, NK, q0, q1, q2, q3, q4, N4, N5, N6, N7]) rfl (someTab_of HNM.out HCS.out (by have := HL.out; omega) hnc hc hcap.1 hcap.2.1 (by rw [List.length_set]; have := HOL.out; omega) HOK3.out (KN.roOut 6 rfl) (r2.and r3) (KN.tp_ 8 rfl) KN.grow)
        · have hg0 : decide ((m : Int) > 0) = false := by simp; omega
          have hg1 : decide (0 < m) = false := by simp; omega
          have KS := K2.sealRow 0 rfl
          simp only [List.set_cons_zero, List.set_cons_succ, List.setIfInBounds_toArray] at KS
          have KN := (((KS.store 3 rfl 0 (.string nm)).store 3 rfl 1 (.slice A n c)).store 3 rfl 2 (.int .i64 nx)).store 3 rfl 3 (.slice O m cap)
          have r2 := KN.roOut 0 rfl
          have r3 := KN.roOut 1 rfl
          go_wp2_with fail
          exact bodyPost_ret (v := .agg #[.string nm, .slice A n c, .int .i64 nx, .slice O m cap]) (by simp [results, Tryd.results31, go_sem, F2, NK]) rfl (someTab_of HNM.out HCS.out (by have := HL.out; omega) hnc hc hcap.1 hcap.2.1 (by have := HOL.out; omega) (fun r hr => rOut (HRK.out r hr) hn) (KN.roOut 6 rfl) (r2.and (r3.imp fun w h => h.vals)) (KN.tp_ 8 rfl) KN.grow)

end Go.Proofs.YtljmclbedpceoaaDoor

namespace Go.Proofs.YtljmclbedpceoaaDoor
open Go.RowKit
set_option linter.unusedVariables false
set_option linter.unusedSimpArgs false

def OneName (s : ByteArray) : Prop := s = ⟨#[116]⟩ ∨ s = ⟨#[117]⟩ ∨ s = ⟨#[108, 111, 103]⟩
def DrawnName (w : World) (T : Nat) (e : Ending) (w' : World) : Prop := ∃ s : ByteArray, e = .returned (.string s) ∧ OneName s ∧ Tp w' T ∧ w.grownBy w' (some T)
set_option maxHeartbeats 1000000 in
theorem tname_any (M : Nat → Prop) (T : Nat) (w : World) (hM : ∀ b, M b → b < w.heap.size) (ht : Tp w T) (hMT : ∀ b, M b → T ≤ b) : Calls Tryd.prog 20 #[.pointer (some ⟨T, 0, none⟩)] w fun e w' => DrawnName w T e w' := by
  have K0 := (Hold.startT M w T hM ht hMT).alloc_cst #[.string ⟨#[116]⟩, .string ⟨#[117]⟩, .string ⟨#[108, 111, 103]⟩] 9
  go_enter Tryd.func20, Tryd.ntmps20
  go_wp2_with fail
  refine (next_any T 3 _ (K0.tp_ 1 rfl) (by omega) (by omega)).mono ?_
  rintro e w1 ⟨r, rfl, r0, r1, t1, g1⟩
  have K1 := Hold.callT K0 1 rfl g1 t1
  have F1 := K1.facts
  simp only [World.size_alloc, World.size_drew, factsL, cellsF, Nat.reduceAdd, List.toList_toArray, List.set_cons_zero, List.set_cons_succ, List.setIfInBounds_toArray, and_true, true_and] at F1
  clear K0 g1 t1
  obtain ⟨r, rfl⟩ := Int.eq_ofNat_of_zero_le r0
  obtain rfl | rfl | rfl : r = 0 ∨ r = 1 ∨ r = 2 := by omega
  · go_wp2_with fail
    go_ret
    exact ⟨_, rfl, .inl rfl, K1.tp_ 1 rfl, K1.grow⟩
  · go_wp2_with fail
    go_ret
    exact ⟨_, rfl, .inr (.inl rfl), K1.tp_ 1 rfl, K1.grow⟩
  · go_wp2_with fail
    go_ret
    exact ⟨_, rfl, .inr (.inr rfl), K1.tp_ 1 rfl, K1.grow⟩
/-- what is known of a schema of the three -/
structure SchOk (nm : ByteArray) (cs : List Col) : Prop where
  val : schemaB nm cs = true
  col : ∀ x ∈ cs, ColOk x
  key : KeyOne cs
  len : 1 ≤ cs.length ∧ cs.length ≤ 4
  nm : nm.size ≤ maxLen
  cs : ∀ x ∈ cs, x.name.size ≤ maxLen
def keyOneB (cs : List Col) : Bool := (List.range cs.length).all fun i => match cs[i]? with | some c => !c.key || findB Col.key cs == (i : Int) | none => true
theorem keyOne_of {cs : List Col} (h : keyOneB cs = true) : KeyOne cs := fun i c hc hk => by
  have h1 := List.all_eq_true.1 h i (List.mem_range.2 (List.getElem?_eq_some_iff.1 hc).1)
  simp only [hc, hk, Bool.not_true, Bool.false_or, beq_iff_eq] at h1
  exact h1
def colOkB (c : Col) : Bool := c.ty == 1 || c.ty == 2 || c.ty == 3
def schOkB (nm : ByteArray) (cs : List Col) : Bool := schemaB nm cs && cs.all colOkB && keyOneB cs && decide (1 ≤ cs.length) && decide (cs.length ≤ 4) && decide (nm.size ≤ 100) && cs.all fun x => decide (x.name.size ≤ 100)
theorem schOk_of {nm : ByteArray} {cs : List Col} (h : schOkB nm cs = true) : SchOk nm cs := by
  unfold schOkB at h
  simp only [Bool.and_eq_true, decide_eq_true_eq] at h
  obtain ⟨⟨⟨⟨⟨⟨h1, h2⟩, h3⟩, h4⟩, h5⟩, h6⟩, h7⟩ := h
  refine ⟨h1, fun x hx => ?_, keyOne_of h3, ⟨h4, h5⟩, by unfold maxLen; omega, fun x hx => ?_⟩
  · have := List.all_eq_true.1 h2 x hx
    simpa [colOkB, ColOk, or_assoc] using this
  · have := List.all_eq_true.1 h7 x hx
    simp only [decide_eq_true_eq] at this
    unfold maxLen; omega
theorem schOk_t : schOkB (schemaOf ⟨#[116]⟩).1 (schemaOf ⟨#[116]⟩).2 = true := by decide +kernel
theorem schOk_u : schOkB (schemaOf ⟨#[117]⟩).1 (schemaOf ⟨#[117]⟩).2 = true := by decide +kernel
theorem schOk_log : schOkB (schemaOf ⟨#[108, 111, 103]⟩).1 (schemaOf ⟨#[108, 111, 103]⟩).2 = true := by decide +kernel
theorem schOk_name {s : ByteArray} (h : OneName s) : SchOk (schemaOf s).1 (schemaOf s).2 := by
  rcases h with rfl | rfl | rfl
  · exact schOk_of schOk_t
  · exact schOk_of schOk_u
  · exact schOk_of schOk_log
end Go.Proofs.YtljmclbedpceoaaDoor

namespace Go.Proofs.YtljmclbedpceoaaDoor
open Go.RowKit
set_option linter.unusedVariables false
set_option linter.unusedSimpArgs false

/-- the first reason why one of some rows does not fit -/
def firstE (cs : List Col) : List (List Vl) → Int
  | [] => 0
  | v :: r => if fitsT cs v = 0 then firstE cs r else fitsT cs v
def fitsC (cs : List Col) (news ins : List (List Vl)) : Int := if firstE cs news = 0 then firstE cs ins else firstE cs news
theorem firstE_good {cs : List Col} {l : List (List Vl)} {k : Nat} {v : List Vl} (hx : l[k]? = some v) (h : fitsT cs v = 0) : firstE cs (l.drop k) = firstE cs (l.drop (k + 1)) := by rw [drop_cons hx, firstE, if_pos h]
theorem firstE_bad {cs : List Col} {l : List (List Vl)} {k : Nat} {v : List Vl} (hx : l[k]? = some v) (h : fitsT cs v ≠ 0) : firstE cs (l.drop k) = fitsT cs v := by rw [drop_cons hx, firstE, if_neg h]
theorem firstE_end {cs : List Col} {l : List (List Vl)} {k : Nat} (h : l.length ≤ k) : firstE cs (l.drop k) = 0 := by rw [List.drop_of_length_le h]; rfl
set_option maxHeartbeats 2000000 in
set_option maxRecDepth 100000 in
theorem kfits_any (M : Nat → Prop) (w : World) (hM : ∀ b, M b → b < w.heap.size) (nm : ByteArray) (A : Option Addr) (n c : Nat) (cs : List Col) (nx x3 : Value) (I : Option Addr) (ni ci : Nat) (ins : List Sl) (xd : Value) (U : Option Addr) (nu cu : Nat) (us : List Pr)
    (hC : Ro w M (SlR 4 A n (colCells cs))) (hI : Ro w M (SlsIn I ni ins)) (hU : Ro w M (PrsIn U nu us)) (hn : n ≤ 9223372036854775807) (hni : ni ≤ 9223372036854775807) (hnu : nu ≤ 4398046511104) (hoi : ∀ s ∈ ins, s.ok) (hou : ∀ u ∈ us, u.ok) :
    Calls Tryd.prog 90 #[.agg #[.string nm, .slice A n c, nx, x3], .agg #[.slice I ni ci, xd, .slice U nu cu]] w fun e w' => e = .returned (.int .i64 (fitsC cs (us.map Pr.new) (ins.map Sl.vs))) ∧ Below w.heap.size w w' := by
  have HUL := hid hU.now.len
  have HIL := hid hI.now.len
  have K0 := (((((Hold.start M w hM).add (hU.less (by simp [Mut]))).add (hI.less (by simp [Mut, Hp.foot]))).add (hC.less (by simp [Mut, Hp.foot]))).alloc_cst #[.string nm, .slice A n c, nx, x3] 40).alloc_cst #[.slice I ni ci, xd, .slice U nu cu] 54
  rw [World.size_alloc] at K0
  have F0 := K0.facts
  simp only [World.size_alloc, World.size_drew, factsL, cellsF, Nat.reduceAdd, List.toList_toArray, List.set_cons_zero, List.set_cons_succ, List.setIfInBounds_toArray, and_true, true_and] at F0
  clear hC hI hU
  go_enter Tryd.func90, Tryd.ntmps90
  go_wp2_with fail
  clear F0
  go_loopw [14] (fun iv wr => ∃ (j : Nat), j ≤ nu ∧ iv = .int .i64 j ∧ Hid (firstE cs (us.map Pr.new) = firstE cs ((us.map Pr.new).drop j)) ∧ Hold M none w wr [.cst (w.heap.size + 1) 54 #[.slice I ni ci, xd, .slice U nu cu], .cst w.heap.size 40 #[.string nm, .slice A n c, nx, x3], .ro (SlR 4 A n (colCells cs)), .ro (SlsIn I ni ins), .ro (PrsIn U nu us)]) (fun iv _ => nu - (intOf iv).toNat)
  case atStart => exact ⟨0, by omega, rfl, hid rfl, K0⟩
  case round =>
    clear K0
    obtain ⟨j, hj, rfl, HS, H⟩ := hrel
    by_cases hlt : j < nu
    · have hdd : decide ((j : Int) < (nu : Int)) = true := by simp; omega
      have j0 : (0 : Int) ≤ (j : Int) := by omega
      obtain ⟨u, hu⟩ := get_of HUL.out hlt
      obtain ⟨b, o, rfl, hb, c0, c1, c2, _⟩ := (H.ro 4 rfl).now.at_ hu
      have HX := hid (show (us.map Pr.new)[j]? = some u.new by simp [hu])
      have HUM := hid (List.mem_of_getElem? hu)
      have huok := hou u HUM.out
      have K1 := H.alloc_cst #[.int .i64 u.id, .slice u.oA u.on u.oc, .slice u.nA u.nn u.nc] 99
      clear hu
      have F1 := K1.facts
      simp only [World.size_alloc, World.size_drew, factsL, cellsF, Nat.reduceAdd, List.toList_toArray, List.set_cons_zero, List.set_cons_succ, List.setIfInBounds_toArray, and_true, true_and] at F1
      have hVR : Ro _ (Mut M _) (VlsIn u.nA u.nn u.new) := (K1.ro 5 rfl).imp fun w2 h2 => (h2.2 u HUM.out).2
      go_wp2_with fail
      refine (tfits_any _ _ K1.mutLt nm A n c cs u.nA u.nn u.nc u.new (K1.ro 3 rfl) hVR hn (Nat.le_trans huok.nc huok.nc2) huok.new).mono ?_
      rintro e w3 ⟨rfl, b3⟩
      have K3 := (K1.call b3).drop (List.sublist_cons_self _ _)
      clear K1 F1 b3 hVR H
      by_cases hz : fitsT cs u.new = 0
      · have HN := hid (show firstE cs (us.map Pr.new) = firstE cs ((us.map Pr.new).drop (j + 1)) by rw [HS.out]; exact firstE_good HX.out hz)
        rw [hz]
        clear hz
        go_wp2_with fail
        go_roundw
        case rel => exact ⟨j + 1, by omega, by go_num, HN, K3⟩
        case measure => simp [intOf]; omega
      · have hz2 : (fitsT cs u.new != 0) = true := by simp [hz]
        have HN := hid (show fitsC cs (us.map Pr.new) (ins.map Sl.vs) = fitsT cs u.new by unfold fitsC; rw [HS.out, firstE_bad HX.out hz, if_neg hz])
        clear hz
        go_wp2_with fail
        go_ret
        exact ⟨by rw [HN.out] <;> rfl, K3.below⟩
    · obtain rfl : j = nu := by omega
      have hdd : decide ((j : Int) < (j : Int)) = false := by simp
      have HF := hid (show fitsC cs (us.map Pr.new) (ins.map Sl.vs) = firstE cs (ins.map Sl.vs) by unfold fitsC; rw [HS.out, firstE_end (by rw [List.length_map, HUL.out]; exact Nat.le_refl _), if_pos rfl])
      have F5 := H.facts
      simp only [World.size_alloc, World.size_drew, factsL, cellsF, Nat.reduceAdd, List.toList_toArray, List.set_cons_zero, List.set_cons_succ, List.setIfInBounds_toArray, and_true, true_and] at F5
      go_wp2_with fail
      clear F5
      go_loopw [30] (fun iv wr => ∃ (k : Nat), k ≤ ni ∧ iv = .int .i64 k ∧ Hid (firstE cs (ins.map Sl.vs) = firstE cs ((ins.map Sl.vs).drop k)) ∧ Hold M none w wr [.cst (w.heap.size + 1) 54 #[.slice I ni ci, xd, .slice U j cu], .cst w.heap.size 40 #[.string nm, .slice A n c, nx, x3], .ro (SlR 4 A n (colCells cs)), .ro (SlsIn I ni ins), .ro (PrsIn U j us)]) (fun iv _ => ni - (intOf iv).toNat)
      case atStart => exact ⟨0, by omega, rfl, hid rfl, H⟩
      case round =>
        clear H
        obtain ⟨k, hk, rfl, HS2, H⟩ := hrel
        by_cases hlt2 : k < ni
        · have hdd2 : decide ((k : Int) < (ni : Int)) = true := by simp; omega
          have k0 : (0 : Int) ≤ (k : Int) := by omega
          obtain ⟨s, hx⟩ := get_of HIL.out hlt2
          obtain ⟨b, o, rfl, hb, c0, _⟩ := (H.ro 3 rfl).now.at_ hx
          have HX := hid (show (ins.map Sl.vs)[k]? = some s.vs by simp [hx])
          have HSM := hid (List.mem_of_getElem? hx)
          have hsok := hoi s HSM.out
          clear hx
          have F1 := H.facts
          simp only [World.size_alloc, World.size_drew, factsL, cellsF, Nat.reduceAdd, List.toList_toArray, List.set_cons_zero, List.set_cons_succ, List.setIfInBounds_toArray, and_true, true_and] at F1
          have hVR : Ro _ (Mut M _) (VlsIn s.A s.n s.vs) := (H.ro 3 rfl).imp fun w2 h2 => h2.2 s HSM.out
          go_wp2_with fail
          refine (tfits_any _ _ H.mutLt nm A n c cs s.A s.n s.c s.vs (H.ro 2 rfl) hVR hn (Nat.le_trans hsok.nc hsok.c) hsok.vs).mono ?_
          rintro e w3 ⟨rfl, b3⟩
          have K3 := H.call b3
          clear F1 b3 hVR H
          by_cases hz : fitsT cs s.vs = 0
          · have HN := hid (show firstE cs (ins.map Sl.vs) = firstE cs ((ins.map Sl.vs).drop (k + 1)) by rw [HS2.out]; exact firstE_good HX.out hz)
            rw [hz]
            clear hz
            go_wp2_with fail
            go_roundw
            case rel => exact ⟨k + 1, by omega, by go_num, HN, K3⟩
            case measure => simp [intOf]; omega
          · have hz2 : (fitsT cs s.vs != 0) = true := by simp [hz]
            have HN := hid (show fitsC cs (us.map Pr.new) (ins.map Sl.vs) = fitsT cs s.vs by rw [HF.out, HS2.out, firstE_bad HX.out hz])
            clear hz
            go_wp2_with fail
            go_ret
            exact ⟨by rw [HN.out] <;> rfl, K3.below⟩
        · obtain rfl : k = ni := by omega
          have hdd2 : decide ((k : Int) < (k : Int)) = false := by simp
          have HN := hid (show fitsC cs (us.map Pr.new) (ins.map Sl.vs) = 0 by rw [HF.out, HS2.out, firstE_end (by rw [List.length_map, HIL.out]; exact Nat.le_refl _)])
          go_wp2_with fail
          go_ret
          exact ⟨by rw [HN.out] <;> rfl, H.below⟩
end Go.Proofs.YtljmclbedpceoaaDoor

namespace Go.Proofs.YtljmclbedpceoaaDoor
open Go.RowKit
set_option linter.unusedVariables false
set_option linter.unusedSimpArgs false

/-- the rows that stay, with their new values: the updates are taken in order -/
def goR (dels : List Int) : List Row → List Upd → List Row
  | [], _ => []
  | r :: rs, [] => if dels.contains r.1 then goR dels rs [] else r :: goR dels rs []
  | r :: rs, u :: us => if dels.contains r.1 then goR dels rs (u :: us) else if u.1 = r.1 then (r.1, u.2.2) :: goR dels rs us else r :: goR dels rs (u :: us)
/-- the new rows -/
def insR (nx : Int) (ins : List (List Vl)) : List Row := ins.zipIdx.map fun p => (nx + (p.2 : Int), p.1)
def outR (nx : Int) (rs : List Row) (ins : List (List Vl)) (dels : List Int) (us : List Upd) : List Row := goR dels rs us ++ insR nx ins
def zeroT : Tb := ⟨⟨#[]⟩, [], 0, []⟩
/-- what Apply answers -/
def applyC (nm : ByteArray) (cs : List Col) (nx : Int) (rs : List Row) (ins : List (List Vl)) (dels : List Int) (us : List Upd) : Int × Tb :=
  if chgB nm cs nx rs ins dels us = false then (17, zeroT)
  else if fitsC cs (us.map (·.2.2)) ins ≠ 0 then (fitsC cs (us.map (·.2.2)) ins, zeroT)
  else if (rs.length : Int) - dels.length + ins.length > 100 ∨ (ins.length : Int) > 2147483648 - nx then (10, zeroT)
  else if dupB cs (outR nx rs ins dels us) then (9, zeroT)
  else (0, ⟨nm, cs, nx + ins.length, outR nx rs ins dels us⟩)
theorem goR_skip {dels : List Int} {rs : List Row} {us : List Upd} {j : Nat} {r : Row} (hr : rs[j]? = some r) (h : dels.contains r.1 = true) : goR dels (rs.drop j) us = goR dels (rs.drop (j + 1)) us := by
  rw [drop_cons hr]
  cases us with
  | nil => rw [goR, if_pos h]
  | cons u us => rw [goR, if_pos h]
theorem goR_keep {dels : List Int} {rs : List Row} {us : List Upd} {j : Nat} {r : Row} (hr : rs[j]? = some r) (h : dels.contains r.1 = false) (hu : ∀ u, us.head? = some u → u.1 ≠ r.1) : goR dels (rs.drop j) us = r :: goR dels (rs.drop (j + 1)) us := by
  rw [drop_cons hr]
  cases us with
  | nil => rw [goR, if_neg (by rw [h]; simp)]
  | cons u us => rw [goR, if_neg (by rw [h]; simp), if_neg (hu u rfl)]
theorem goR_upd {dels : List Int} {rs : List Row} {us : List Upd} {j : Nat} {r : Row} {u : Upd} (hr : rs[j]? = some r) (h : dels.contains r.1 = false) (hu : u.1 = r.1) : goR dels (rs.drop j) (u :: us) = (r.1, u.2.2) :: goR dels (rs.drop (j + 1)) us := by
  rw [drop_cons hr, goR, if_neg (by rw [h]; simp), if_pos hu]
theorem goR_end {dels : List Int} {rs : List Row} {us : List Upd} {j : Nat} (h : rs.length ≤ j) : goR dels (rs.drop j) us = [] := by rw [List.drop_of_length_le h]; simp [goR]
theorem insR_snoc {nx : Int} {ins : List (List Vl)} {k : Nat} {v : List Vl} (hv : ins[k]? = some v) : insR nx (ins.take (k + 1)) = insR nx (ins.take k) ++ [(nx + (k : Int), v)] := by
  have hk : k < ins.length := (List.getElem?_eq_some_iff.1 hv).1
  unfold insR
  rw [List.take_add_one, hv, Option.toList_some, List.zipIdx_append, List.map_append, List.length_take, Nat.min_eq_left (Nat.le_of_lt hk)]
  simp
theorem firstE_all {cs : List Col} : ∀ {l : List (List Vl)}, firstE cs l = 0 → ∀ v ∈ l, fitsT cs v = 0
  | [], _, v, hv => nomatch hv
  | x :: l, h, v, hv => by
    rw [firstE] at h
    split at h
    · rcases List.mem_cons.1 hv with rfl | hv
      · assumption
      · exact firstE_all h v hv
    · exact absurd h (by assumption)
theorem fitsC_all {cs : List Col} {a b : List (List Vl)} (h : fitsC cs a b = 0) : (∀ v ∈ a, fitsT cs v = 0) ∧ ∀ v ∈ b, fitsT cs v = 0 := by
  unfold fitsC at h
  split at h
  · exact ⟨firstE_all (by assumption), firstE_all h⟩
  · exact absurd h (by assumption)
theorem PrsIn.tail {w : World} {b o k : Nat} {u : Pr} {us : List Pr} (h : PrsIn (some ⟨b, o, none⟩) (k + 1) (u :: us) w) : PrsIn (some ⟨b, o + 3, none⟩) k us w := by
  refine ⟨?_, fun r hr => h.2 r (List.mem_cons_of_mem _ hr)⟩
  have h1 : Rd w w.heap.size 3 (some ⟨b, o, none⟩) (k + 1) (prCells (u :: us)) := h.1
  have hl := h1.1
  refine ⟨by simp [prCells, Pr.cells] at hl ⊢; omega, fun hk => ?_⟩
  obtain ⟨b', o', e, hb, hc⟩ := h1.2 (by omega)
  obtain ⟨rfl, rfl⟩ : b = b' ∧ o = o' := by injection e with e; injection e with a1 a2; exact ⟨a1, a2⟩
  refine ⟨b, o + 3, rfl, hb, fun j v hv => ?_⟩
  have := hc (3 + j) v (by
    show (prCells (u :: us))[3 + j]? = some v
    unfold prCells
    rw [List.flatMap_cons, List.getElem?_append_right (by simp [Pr.cells])]
    simpa [Pr.cells, prCells] using hv)
  rwa [show o + (3 + j) = o + 3 + j by omega] at this
theorem PrsIn.zero {w : World} (A : Option Addr) : PrsIn A 0 [] w := ⟨⟨by simp [prCells], fun h => absurd h (by omega)⟩, fun r hr => nomatch hr⟩
def ApplyRet (w : World) (M : Nat → Prop) (r : Int × Tb) (e : Ending) (w' : World) : Prop := ∃ v, e = .returned (.tuple #[v, .int .i64 r.1]) ∧ TbAt w' M v r.2 ∧ Below w.heap.size w w'
theorem tbAt_zero {w : World} {M : Nat → Prop} : TbAt w M (.agg #[.string ⟨#[]⟩, .slice none 0 0, .int .i64 0, .slice none 0 0]) zeroT := ⟨none, 0, 0, none, 0, 0, [], rfl, by omega, by omega, by omega, by omega, ro_nil, fun _ _ _ => ⟨Rd.none_, fun r hr => nomatch hr⟩, fun r hr => (nomatch hr), rfl⟩
set_option maxHeartbeats 4000000 in
set_option maxRecDepth 100000 in
theorem kapply_any (M : Nat → Prop) (w : World) (hM : ∀ b, M b → b < w.heap.size) (nm : ByteArray) (A : Option Addr) (n c : Nat) (cs : List Col) (nx : Int) (B : Option Addr) (m d : Nat) (l : List Rw) (I : Option Addr) (ni ci : Nat) (ins : List Sl) (D : Option Addr) (nd cd : Nat) (dels : List Int) (U : Option Addr) (nu cu : Nat) (us : List Pr)
    (hC : Ro w M (SlR 4 A n (colCells cs))) (hE : Ro w M (RwsIn B m l)) (hI : Ro w M (SlsIn I ni ins)) (hD : Ro w M (IsIn D nd dels)) (hU : Ro w M (PrsIn U nu us)) (hn : n ≤ 9223372036854775807) (hm : m ≤ 4611686018427387904) (hok : ∀ r ∈ l, r.ok) (hs : nm.size ≤ maxLen) (hcs : ∀ x ∈ cs, x.name.size ≤ maxLen)
    (hni : ni ≤ 1000000000000000) (hnd : nd ≤ 1000000000000000) (hnu : nu ≤ 4398046511104) (hnuc : nu ≤ cu) (hcu : cu ≤ 9223372036854775807) (hoi : ∀ s ∈ ins, s.ok) (hou : ∀ u ∈ us, u.ok) :
    Calls Tryd.prog 62 #[.agg #[.string nm, .slice A n c, .int .i64 nx, .slice B m d], .agg #[.slice I ni ci, .slice D nd cd, .slice U nu cu]] w fun e w' => ApplyRet w M (applyC nm cs nx (l.map Rw.row) (ins.map Sl.vs) dels (us.map Pr.upd)) e w' := by
  have HUL := hid hU.now.len
  have HIL := hid hI.now.len
  have HRL := hid hE.now.len
  have HDL := hid hD.now.len
  have HCL := hid (show cs.length = n from (RdC.of_sl hC.now).len)
  have HEN := hid hE.now
  have HUN := hid hU.now
  have HIN := hid hI.now
  have K0 := ((((((((Hold.start M w hM).add (hU.less (by simp [Mut]))).add (hD.less (by simp [Mut, Hp.foot]))).add (hI.less (by simp [Mut, Hp.foot]))).add (hE.less (by simp [Mut, Hp.foot]))).add (hC.less (by simp [Mut, Hp.foot]))).alloc_cst #[.string nm, .slice A n c, .int .i64 nx, .slice B m d] 40).alloc_cst #[.slice I ni ci, .slice D nd cd, .slice U nu cu] 54).alloc #[.string ⟨#[]⟩, .slice none 0 0, .int .i64 0, .slice none 0 0] 40
  simp only [World.size_alloc] at K0
  have F0 := K0.facts
  simp only [World.size_alloc, World.size_drew, factsL, cellsF, Nat.reduceAdd, List.toList_toArray, List.set_cons_zero, List.set_cons_succ, List.setIfInBounds_toArray, and_true, true_and] at F0
  clear hC hI hD hU hE
  go_enter Tryd.func62, Tryd.ntmps62
  go_wp2_with fail
  refine (kvalid_any _ _ K0.mutLt nm A n c cs nx B m d l I ni ci ins D nd cd dels U nu cu us (K0.ro 3 rfl) (K0.ro 4 rfl) (K0.ro 5 rfl) (K0.ro 6 rfl) (K0.ro 7 rfl) hn hm hok hs hcs (by omega) (by omega) hnu).mono ?_
  rintro e w1 ⟨rfl, b1⟩
  have K1 := K0.call b1
  clear K0 b1 F0
  have F1 := K1.facts
  simp only [World.size_alloc, World.size_drew, factsL, cellsF, Nat.reduceAdd, List.toList_toArray, List.set_cons_zero, List.set_cons_succ, List.setIfInBounds_toArray, and_true, true_and] at F1
  cases hcb : chgB nm cs nx (l.map Rw.row) (ins.map Sl.vs) dels (us.map Pr.upd)
  · have HN := hid (show applyC nm cs nx (l.map Rw.row) (ins.map Sl.vs) dels (us.map Pr.upd) = (17, zeroT) by unfold applyC; rw [hcb]; rfl)
    clear hcb
    have KN := (((K1.store 0 rfl 0 (.string ⟨#[]⟩)).store 0 rfl 1 (.slice none 0 0)).store 0 rfl 2 (.int .i64 0)).store 0 rfl 3 (.slice none 0 0)
    go_wp2_with fail
    exact bodyPost_ret (v := .tuple #[.agg #[.string ⟨#[]⟩, .slice none 0 0, .int .i64 0, .slice none 0 0], .int .i64 17]) (by simp [results, Tryd.results62, go_sem, F1]) rfl ⟨_, by rw [HN.out], by rw [HN.out]; exact tbAt_zero, KN.below⟩
  have htb : tabB nm cs nx (l.map Rw.row) = true := by
    have h := hcb
    unfold chgB at h
    simp only [Bool.and_eq_true] at h
    exact h.1.1.1.1
  have hshort := rw_short HEN.out htb
  obtain ⟨hm100, hnx1, hnx2⟩ := tabB_rows htb
  rw [List.length_map, HRL.out] at hm100
  have hn6 : n ≤ 6 := by have := tabB_cols htb; have := HCL.out; omega
  have HCB := hid hcb
  clear hcb htb
  go_wp2_with fail
  refine (kfits_any _ _ K1.mutLt nm A n c cs (.int .i64 nx) (.slice B m d) I ni ci ins (.slice D nd cd) U nu cu us (K1.ro 3 rfl) (K1.ro 5 rfl) (K1.ro 7 rfl) hn (by omega) hnu hoi hou).mono ?_
  rintro e w2 ⟨rfl, b2⟩
  have K2 := K1.call b2
  clear K1 b2 F1
  have F2 := K2.facts
  simp only [World.size_alloc, World.size_drew, factsL, cellsF, Nat.reduceAdd, List.toList_toArray, List.set_cons_zero, List.set_cons_succ, List.setIfInBounds_toArray, and_true, true_and] at F2
  have HFE := hid (show fitsC cs ((us.map Pr.upd).map (·.2.2)) (ins.map Sl.vs) = fitsC cs (us.map Pr.new) (ins.map Sl.vs) by rw [List.map_map]; rfl)
  by_cases hfz : fitsC cs (us.map Pr.new) (ins.map Sl.vs) = 0
  · rw [hfz]
    have HFZ := hid hfz
    clear hfz
    by_cases hbig : (m : Int) - nd + ni > 100 ∨ (ni : Int) > 2147483648 - nx
    · have HN := hid (show applyC nm cs nx (l.map Rw.row) (ins.map Sl.vs) dels (us.map Pr.upd) = (10, zeroT) by unfold applyC; rw [HCB.out, HFE.out, if_neg (by simp), if_neg (by rw [HFZ.out]; simp), if_pos (by simp only [List.length_map]; have := HRL.out; have := HIL.out; have := HDL.out; rcases hbig with h | h; (exact Or.inl (by omega)); (exact Or.inr (by omega)))])
      have KN := (((K2.store 0 rfl 0 (.string ⟨#[]⟩)).store 0 rfl 1 (.slice none 0 0)).store 0 rfl 2 (.int .i64 0)).store 0 rfl 3 (.slice none 0 0)
      by_cases hb1 : (m : Int) - nd + ni > 100
      · have hd1 : decide ((m : Int) - nd + ni > 100) = true := by simp; omega
        clear hbig hb1
        go_wp2_with fail
        exact bodyPost_ret (v := .tuple #[.agg #[.string ⟨#[]⟩, .slice none 0 0, .int .i64 0, .slice none 0 0], .int .i64 10]) (by simp [results, Tryd.results62, go_sem, F2]) rfl ⟨_, by rw [HN.out], by rw [HN.out]; exact tbAt_zero, KN.below⟩
      · have hd1 : decide ((m : Int) - nd + ni > 100) = false := by simp; omega
        have hd2 : decide ((ni : Int) > 2147483648 - nx) = true := by simp; omega
        clear hbig hb1
        go_wp2_with fail
        exact bodyPost_ret (v := .tuple #[.agg #[.string ⟨#[]⟩, .slice none 0 0, .int .i64 0, .slice none 0 0], .int .i64 10]) (by simp [results, Tryd.results62, go_sem, F2]) rfl ⟨_, by rw [HN.out], by rw [HN.out]; exact tbAt_zero, KN.below⟩
    have hd1 : decide ((m : Int) - nd + ni > 100) = false := by simp; omega
    have hd2 : decide ((ni : Int) > 2147483648 - nx) = false := by simp; omega
    have HBIG := hid hbig
    have HU6 := hid (show ∀ u ∈ us, u.ok ∧ u.nn ≤ 6 from fun u hu => ⟨hou u hu, by have h1 := fitsT_len ((fitsC_all HFZ.out).1 u.new (List.mem_map_of_mem (f := Pr.new) hu)); have h2 := (HUN.out.2 u hu).2.len; have := HCL.out; omega⟩)
    have HI6 := hid (show ∀ s ∈ ins, s.ok ∧ s.n ≤ 6 from fun u hu => ⟨hoi u hu, by have h1 := fitsT_len ((fitsC_all HFZ.out).2 u.vs (List.mem_map_of_mem (f := Sl.vs) hu)); have h2 := (HIN.out.2 u hu).len; have := HCL.out; omega⟩)
    obtain ⟨go, hgo⟩ : ∃ go, go = w2.heap.size := ⟨_, rfl⟩
    have HGO := hid hgo
    have K3 := K2.alloc #[.string nm, .slice A n c, .int .i64 (nx + (ni : Int)), .slice none 0 0] 40
    rw [← hgo] at K3
    go_wp2_with fail
    rw [← hgo]
    refine (cloneCols_any _ _ K3.mutLt A n c cs (K3.ro 4 rfl) (by omega)).mono ?_
    rintro e w4 ⟨A2, n2, c2, rfl, hn2, hc2, hc22, r2, b2⟩
    have HN2 := hid hn2
    have K4 := (((K3.call b2).add r2).add (ro_vals_nil _ _)).nil 61 2
    clear K2 K3 F2 r2 b2 hn2 hgo hd1 hd2
    have F4 := K4.facts
    simp only [World.size_alloc, World.size_drew, factsL, cellsF, Nat.reduceAdd, List.toList_toArray, List.set_cons_zero, List.set_cons_succ, List.setIfInBounds_toArray, and_true, true_and] at F4
    have N4 := K4.nes
    simp only [World.size_alloc, nesL, neF, List.set_cons_zero, List.set_cons_succ, and_true, true_and] at N4
    have K5 := K4.store 3 rfl 1 (.slice A2 n2 c2)
    simp only [cellsF, List.set_cons_zero, List.set_cons_succ, List.setIfInBounds_toArray] at K5
    have K6 := K5.add (K5.ro 11 rfl |>.less (by simp))
    go_wp2_with fail
    clear F4 N4 K4 K5
    go_loopw [8, 68] (fun uv iv wr => ∃ (j q cap k ck : Nat) (O V : Option Addr) (outs : List Rw) (vs : List Pr), j ≤ m ∧ iv = .int .i64 j ∧ uv = .slice V k ck ∧ q ≤ j ∧ k ≤ ck ∧ ck ≤ 9223372036854775807 ∧ (∀ r ∈ outs, r.ok) ∧ (∀ u ∈ vs, u.ok ∧ u.nn ≤ 6) ∧ Hid (goR dels (l.map Rw.row) (us.map Pr.upd) = outs.map Rw.row ++ goR dels ((l.map Rw.row).drop j) (vs.map Pr.upd)) ∧ Hold M none w wr [.ro (PrsIn V k vs), .own 61 2 (.slice O q cap) q (rwCells outs), .ro (ValsIn outs), .ro (SlR 4 A2 n2 (colCells cs)), .blk go 40 #[.string nm, .slice A2 n2 c2, .int .i64 (nx + (ni : Int)), .slice O q cap], .blk (w.heap.size + 1 + 1) 40 #[.string ⟨#[]⟩, .slice none 0 0, .int .i64 0, .slice none 0 0], .cst (w.heap.size + 1) 54 #[.slice I ni ci, .slice D nd cd, .slice U nu cu], .cst w.heap.size 40 #[.string nm, .slice A n c, .int .i64 nx, .slice B m d], .ro (SlR 4 A n (colCells cs)), .ro (RwsIn B m l), .ro (SlsIn I ni ins), .ro (IsIn D nd dels), .ro (PrsIn U nu us)]) (fun _ iv _ => m - (intOf iv).toNat)
    case atStart => exact ⟨0, 0, 0, nu, cu, none, U, [], us, by omega, rfl, rfl, by omega, hnuc, hcu, (fun r hr => nomatch hr), HU6.out, hid rfl, K6⟩
    case round =>
      clear K6
      obtain ⟨j, q, cap, k, ck, O, V, outs, vs, hj, rfl, rfl, hq, hkc, hck, hoo, hov, HG, H⟩ := hrel
      by_cases hlt : j < m
      · have hdd : decide ((j : Int) < (m : Int)) = true := by simp; omega
        have j0 : (0 : Int) ≤ (j : Int) := by omega
        obtain ⟨r, hr⟩ := get_of HRL.out hlt
        obtain ⟨b, o, rfl, hb, c0, c1, _⟩ := (H.ro 9 rfl).now.at_ hr
        have HX := hid (show (l.map Rw.row)[j]? = some (r.id, r.vs) by simp [hr, Rw.row])
        have HRM := hid (List.mem_of_getElem? hr)
        have hrok := hok r HRM.out
        have HR6 := hid (hshort r HRM.out)
        have K1 := H.alloc_cst #[.int .i64 r.id, .slice r.A r.n r.c] 61
        clear hr
        have F1 := K1.facts
        simp only [World.size_alloc, World.size_drew, factsL, cellsF, Nat.reduceAdd, List.toList_toArray, List.set_cons_zero, List.set_cons_succ, List.setIfInBounds_toArray, and_true, true_and] at F1
        go_wp2_with fail
        refine (kcont_any _ D nd cd dels r.id (K1.ro 12 rfl).now (by omega)).mono ?_
        rintro e w7 ⟨rfl, rfl⟩
        cases hct : dels.contains r.id
        · have HCT := hid hct; clear hct
          have HVL := hid (show vs.length = k from (H.ro 0 rfl).now.len)
          clear H
          cases vs with
          | nil =>
            obtain rfl : k = 0 := by have := HVL.out; simpa using this.symm
            have HN := hid (goR_keep (us := []) HX.out HCT.out (fun u hu => nomatch hu))
            go_wp2_with fail
            go_quiet (fail)
            have K2 := K1.drewN nq
            clear K1 F1
            generalize World.drewN _ nq = w8 at *
            have F2 := K2.facts
            simp only [World.size_alloc, World.size_drew, factsL, cellsF, Nat.reduceAdd, List.toList_toArray, List.set_cons_zero, List.set_cons_succ, List.setIfInBounds_toArray, and_true, true_and] at F2
            go_wp2_with fail
            refine wp_region_any (by kernel_rfl) ?_
            refine wpAny_hold 8 133 ([.cst wr.heap.size 61 #[.int .i64 r.id, .slice r.A r.n r.c], .ro (PrsIn V 0 []), .own 61 2 (.slice O q cap) q (rwCells outs), .ro (ValsIn outs), .ro (SlR 4 A2 n2 (colCells cs)), .blk go 40 #[.string nm, .slice A2 n2 c2, .int .i64 (nx + (ni : Int)), .slice O q cap], .blk (w.heap.size + 1 + 1) 40 #[.string ⟨#[]⟩, .slice none 0 0, .int .i64 0, .slice none 0 0], .cst (w.heap.size + 1) 54 #[.slice I ni ci, .slice D nd cd, .slice U nu cu], .cst w.heap.size 40 #[.string nm, .slice A n c, .int .i64 nx, .slice (some ⟨b, o, none⟩) m d], .ro (SlR 4 A n (colCells cs)), .ro (RwsIn (some ⟨b, o, none⟩) m l), .ro (SlsIn I ni ins), .ro (IsIn D nd dels), .ro (PrsIn U nu us)]) (spL [(102, VlsSlot (Mut M ([.cst wr.heap.size 61 #[.int .i64 r.id, .slice r.A r.n r.c], .ro (PrsIn V 0 []), .own 61 2 (.slice O q cap) q (rwCells outs), .ro (ValsIn outs), .ro (SlR 4 A2 n2 (colCells cs)), .blk go 40 #[.string nm, .slice A2 n2 c2, .int .i64 (nx + (ni : Int)), .slice O q cap], .blk (w.heap.size + 1 + 1) 40 #[.string ⟨#[]⟩, .slice none 0 0, .int .i64 0, .slice none 0 0], .cst (w.heap.size + 1) 54 #[.slice I ni ci, .slice D nd cd, .slice U nu cu], .cst w.heap.size 40 #[.string nm, .slice A n c, .int .i64 nx, .slice (some ⟨b, o, none⟩) m d], .ro (SlR 4 A n (colCells cs)), .ro (RwsIn (some ⟨b, o, none⟩) m l), .ro (SlsIn I ni ins), .ro (IsIn D nd dels), .ro (PrsIn U nu us)])) r.vs), (103, RowSlot (Mut M ([.cst wr.heap.size 61 #[.int .i64 r.id, .slice r.A r.n r.c], .ro (PrsIn V 0 []), .own 61 2 (.slice O q cap) q (rwCells outs), .ro (ValsIn outs), .ro (SlR 4 A2 n2 (colCells cs)), .blk go 40 #[.string nm, .slice A2 n2 c2, .int .i64 (nx + (ni : Int)), .slice O q cap], .blk (w.heap.size + 1 + 1) 40 #[.string ⟨#[]⟩, .slice none 0 0, .int .i64 0, .slice none 0 0], .cst (w.heap.size + 1) 54 #[.slice I ni ci, .slice D nd cd, .slice U nu cu], .cst w.heap.size 40 #[.string nm, .slice A n c, .int .i64 nx, .slice (some ⟨b, o, none⟩) m d], .ro (SlR 4 A n (colCells cs)), .ro (RwsIn (some ⟨b, o, none⟩) m l), .ro (SlsIn I ni ins), .ro (IsIn D nd dels), .ro (PrsIn U nu us)])) r.id r.vs), (104, RBoxSlot (Mut M ([.cst wr.heap.size 61 #[.int .i64 r.id, .slice r.A r.n r.c], .ro (PrsIn V 0 []), .own 61 2 (.slice O q cap) q (rwCells outs), .ro (ValsIn outs), .ro (SlR 4 A2 n2 (colCells cs)), .blk go 40 #[.string nm, .slice A2 n2 c2, .int .i64 (nx + (ni : Int)), .slice O q cap], .blk (w.heap.size + 1 + 1) 40 #[.string ⟨#[]⟩, .slice none 0 0, .int .i64 0, .slice none 0 0], .cst (w.heap.size + 1) 54 #[.slice I ni ci, .slice D nd cd, .slice U nu cu], .cst w.heap.size 40 #[.string nm, .slice A n c, .int .i64 nx, .slice (some ⟨b, o, none⟩) m d], .ro (SlR 4 A n (colCells cs)), .ro (RwsIn (some ⟨b, o, none⟩) m l), .ro (SlsIn I ni ins), .ro (IsIn D nd dels), .ro (PrsIn U nu us)])) r.id r.vs)]) (by kernel_rfl) (by kernel_rfl) (by kernel_rfl) rfl ?_ (K2.drew) ?_
            · exact stays_cons vlsSlot_mono (stays_cons rowSlot_mono (stays_cons rboxSlot_mono (stays_nil _)))
            simp only [List.take_succ_cons, List.take_zero, List.drop_succ_cons, List.drop_zero, Act.put, List.getElem_toArray, List.getElem_cons_zero, List.getElem_cons_succ, List.setIfInBounds_toArray, List.set_cons_succ, List.set_cons_zero]
            refine dw_val rfl rfl rfl ?_; apply Exists.intro; refine ⟨fun wv HC => ?_, ?_⟩
            ·  go_simp <;> rfl
            simp only [Act.put, List.setIfInBounds_toArray, List.set_cons_succ, List.set_cons_zero]
            refine dw_val rfl rfl rfl ?_; apply Exists.intro; refine ⟨fun wv HC => ?_, ?_⟩
            · have FC := HC.facts; simp only [factsL, cellsF, Nat.reduceAdd, List.toList_toArray, and_true, true_and] at FC; go_simp <;> rfl
            simp only [Act.put, List.setIfInBounds_toArray, List.set_cons_succ, List.set_cons_zero]
            refine dw_val rfl rfl rfl ?_; apply Exists.intro; refine ⟨fun wv HC => ?_, ?_⟩
            ·  go_simp <;> rfl
            simp only [Act.put, List.setIfInBounds_toArray, List.set_cons_succ, List.set_cons_zero]
            refine dw_val rfl rfl rfl ?_; apply Exists.intro; refine ⟨fun wv HC => ?_, ?_⟩
            · have FC := HC.facts; simp only [factsL, cellsF, Nat.reduceAdd, List.toList_toArray, and_true, true_and] at FC; go_simp <;> rfl
            simp only [Act.put, List.setIfInBounds_toArray, List.set_cons_succ, List.set_cons_zero]
            refine dw_val rfl rfl rfl ?_; apply Exists.intro; refine ⟨fun wv HC => ?_, ?_⟩
            ·  go_simp <;> rfl
            simp only [Act.put, List.setIfInBounds_toArray, List.set_cons_succ, List.set_cons_zero]
            refine dw_callR 102 (VlsSlot (Mut M ([.cst wr.heap.size 61 #[.int .i64 r.id, .slice r.A r.n r.c], .ro (PrsIn V 0 []), .own 61 2 (.slice O q cap) q (rwCells outs), .ro (ValsIn outs), .ro (SlR 4 A2 n2 (colCells cs)), .blk go 40 #[.string nm, .slice A2 n2 c2, .int .i64 (nx + (ni : Int)), .slice O q cap], .blk (w.heap.size + 1 + 1) 40 #[.string ⟨#[]⟩, .slice none 0 0, .int .i64 0, .slice none 0 0], .cst (w.heap.size + 1) 54 #[.slice I ni ci, .slice D nd cd, .slice U nu cu], .cst w.heap.size 40 #[.string nm, .slice A n c, .int .i64 nx, .slice (some ⟨b, o, none⟩) m d], .ro (SlR 4 A n (colCells cs)), .ro (RwsIn (some ⟨b, o, none⟩) m l), .ro (SlsIn I ni ins), .ro (IsIn D nd dels), .ro (PrsIn U nu us)])) r.vs) (f := 45) (args := #[.slice r.A r.n r.c]) rfl rfl rfl rfl (fun wv => ?_) (fun wv HC hr8 hD => ?_) ?_
            · go_simp <;> rfl
            · refine (cloneVls_any _ wv HC.mutLt r.A r.n r.c r.vs ((HC.ro 10 rfl).imp fun w2 h2 => h2.2 r HRM.out) (by have := HR6.out; omega)).mono ?_
              rintro e w5 ⟨A5, n5, c5, rfl, h50, h51, h52, h53, b5⟩
              exact ⟨_, rfl, ⟨A5, n5, c5, rfl, h50, h51, h52, h53⟩, HC.call b5, RM.below b5⟩
            rintro x wx HCx ⟨A5, n5, c5, rfl, h50, h51, h52, h53⟩
            simp only [Act.put, List.setIfInBounds_toArray, List.set_cons_succ, List.set_cons_zero]
            clear HCx h53
            refine dw_valC 103 (RowSlot (Mut M ([.cst wr.heap.size 61 #[.int .i64 r.id, .slice r.A r.n r.c], .ro (PrsIn V 0 []), .own 61 2 (.slice O q cap) q (rwCells outs), .ro (ValsIn outs), .ro (SlR 4 A2 n2 (colCells cs)), .blk go 40 #[.string nm, .slice A2 n2 c2, .int .i64 (nx + (ni : Int)), .slice O q cap], .blk (w.heap.size + 1 + 1) 40 #[.string ⟨#[]⟩, .slice none 0 0, .int .i64 0, .slice none 0 0], .cst (w.heap.size + 1) 54 #[.slice I ni ci, .slice D nd cd, .slice U nu cu], .cst w.heap.size 40 #[.string nm, .slice A n c, .int .i64 nx, .slice (some ⟨b, o, none⟩) m d], .ro (SlR 4 A n (colCells cs)), .ro (RwsIn (some ⟨b, o, none⟩) m l), .ro (SlsIn I ni ins), .ro (IsIn D nd dels), .ro (PrsIn U nu us)])) r.id r.vs) rfl rfl rfl rfl (.agg #[.int .i64 r.id, .slice A5 n5 c5]) (fun wv HC => ?_) (fun wv HC hD => ?_) ?_
            · go_simp <;> rfl
            · have hsl : VlsSlot (Mut M ([.cst wr.heap.size 61 #[.int .i64 r.id, .slice r.A r.n r.c], .ro (PrsIn V 0 []), .own 61 2 (.slice O q cap) q (rwCells outs), .ro (ValsIn outs), .ro (SlR 4 A2 n2 (colCells cs)), .blk go 40 #[.string nm, .slice A2 n2 c2, .int .i64 (nx + (ni : Int)), .slice O q cap], .blk (w.heap.size + 1 + 1) 40 #[.string ⟨#[]⟩, .slice none 0 0, .int .i64 0, .slice none 0 0], .cst (w.heap.size + 1) 54 #[.slice I ni ci, .slice D nd cd, .slice U nu cu], .cst w.heap.size 40 #[.string nm, .slice A n c, .int .i64 nx, .slice (some ⟨b, o, none⟩) m d], .ro (SlR 4 A n (colCells cs)), .ro (RwsIn (some ⟨b, o, none⟩) m l), .ro (SlsIn I ni ins), .ro (IsIn D nd dels), .ro (PrsIn U nu us)])) r.vs (.slice A5 n5 c5) wv := deps_at hD 5 rfl (by kernel_rfl) rfl rfl
              obtain ⟨A6, n6, c6, e6, h1, h2, h3, h4⟩ := hsl
              exact ⟨A6, n6, c6, by rw [e6], h1, h2, h3, h4⟩
            simp only [Act.put, List.setIfInBounds_toArray, List.set_cons_succ, List.set_cons_zero]
            refine dw_new #[.int .i64 r.id, .slice A5 n5 c5] 61 104 (RBoxSlot (Mut M ([.cst wr.heap.size 61 #[.int .i64 r.id, .slice r.A r.n r.c], .ro (PrsIn V 0 []), .own 61 2 (.slice O q cap) q (rwCells outs), .ro (ValsIn outs), .ro (SlR 4 A2 n2 (colCells cs)), .blk go 40 #[.string nm, .slice A2 n2 c2, .int .i64 (nx + (ni : Int)), .slice O q cap], .blk (w.heap.size + 1 + 1) 40 #[.string ⟨#[]⟩, .slice none 0 0, .int .i64 0, .slice none 0 0], .cst (w.heap.size + 1) 54 #[.slice I ni ci, .slice D nd cd, .slice U nu cu], .cst w.heap.size 40 #[.string nm, .slice A n c, .int .i64 nx, .slice (some ⟨b, o, none⟩) m d], .ro (SlR 4 A n (colCells cs)), .ro (RwsIn (some ⟨b, o, none⟩) m l), .ro (SlsIn I ni ins), .ro (IsIn D nd dels), .ro (PrsIn U nu us)])) r.id r.vs) (fun g => .slice (some ⟨g, 0, none⟩) 1 1) rfl rfl rfl rfl (fun wv => ?_) (fun wv HC _hrm hD hro => ?_) ?_
            · go_simp <;> rfl
            · have hsl : RowSlot (Mut M ([.cst wr.heap.size 61 #[.int .i64 r.id, .slice r.A r.n r.c], .ro (PrsIn V 0 []), .own 61 2 (.slice O q cap) q (rwCells outs), .ro (ValsIn outs), .ro (SlR 4 A2 n2 (colCells cs)), .blk go 40 #[.string nm, .slice A2 n2 c2, .int .i64 (nx + (ni : Int)), .slice O q cap], .blk (w.heap.size + 1 + 1) 40 #[.string ⟨#[]⟩, .slice none 0 0, .int .i64 0, .slice none 0 0], .cst (w.heap.size + 1) 54 #[.slice I ni ci, .slice D nd cd, .slice U nu cu], .cst w.heap.size 40 #[.string nm, .slice A n c, .int .i64 nx, .slice (some ⟨b, o, none⟩) m d], .ro (SlR 4 A n (colCells cs)), .ro (RwsIn (some ⟨b, o, none⟩) m l), .ro (SlsIn I ni ins), .ro (IsIn D nd dels), .ro (PrsIn U nu us)])) r.id r.vs (.agg #[.int .i64 r.id, .slice A5 n5 c5]) wv := deps_at hD 6 rfl (by kernel_rfl) rfl rfl
              obtain ⟨A6, n6, c6, e6, h1, h2, h3, h4⟩ := hsl
              obtain ⟨rfl, rfl, rfl⟩ : A5 = A6 ∧ n5 = n6 ∧ c5 = c6 := by
                injection e6 with e6
                simp at e6
                exact e6
              exact ⟨_, A5, n5, c5, rfl, h1, h2, h3, h4.step (by simp) (fun b hb _ => Below.heap_alloc wv _ b hb) (fun _ _ h => h), ro_block (hro _ HC.mutLt) rfl⟩
            rintro g2 wg HCg hsl
            simp only [Act.put, List.setIfInBounds_toArray, List.set_cons_succ, List.set_cons_zero]
            clear hsl HCg
            refine rel_nil ?_
            rintro wx2 HX
            rintro _hrm HGW
            have hb2 : RBoxSlot (Mut M ([.cst wr.heap.size 61 #[.int .i64 r.id, .slice r.A r.n r.c], .ro (PrsIn V 0 []), .own 61 2 (.slice O q cap) q (rwCells outs), .ro (ValsIn outs), .ro (SlR 4 A2 n2 (colCells cs)), .blk go 40 #[.string nm, .slice A2 n2 c2, .int .i64 (nx + (ni : Int)), .slice O q cap], .blk (w.heap.size + 1 + 1) 40 #[.string ⟨#[]⟩, .slice none 0 0, .int .i64 0, .slice none 0 0], .cst (w.heap.size + 1) 54 #[.slice I ni ci, .slice D nd cd, .slice U nu cu], .cst w.heap.size 40 #[.string nm, .slice A n c, .int .i64 nx, .slice (some ⟨b, o, none⟩) m d], .ro (SlR 4 A n (colCells cs)), .ro (RwsIn (some ⟨b, o, none⟩) m l), .ro (SlsIn I ni ins), .ro (IsIn D nd dels), .ro (PrsIn U nu us)])) r.id r.vs (.slice (some ⟨g2, 0, none⟩) 1 1) wx2 := (GW_on (d := 104) rfl).1 (HGW 7 _ rfl (by omega))
            clear HGW
            obtain ⟨g3, A6, n6, c6, e6, k0, k1, k2, k3, k4⟩ := hb2
            obtain rfl : g2 = g3 := by injection e6 with e6; injection e6 with e6; injection e6
            clear e6
            have k5 := hid k4.now
            clear k4
            have HRS := hid (show rwCells outs ++ [.int .i64 r.id, .slice A6 n6 c6] = rwCells (outs ++ [⟨r.id, A6, n6, c6, r.vs⟩]) from rwCells_snoc1 _ _ _ _ _ _)
            have KA := HX.add k3
            clear HX
            go_wp2_with (at_builtin; go_must (refine wpList_appAllH KA 3 rfl Tryd.elRw k5.out rfl (.tmp 98) (.tmp 104) rfl rfl rfl (by intro z hz; simp at hz; rcases hz with rfl | rfl <;> rfl) (by omega) (by omega) ?_); intro C' cap' w6 hc6 hm6 KB; rw [HRS.out] at KB; simp only [List.set_cons_zero, List.set_cons_succ] at KB; (have F3 := KB.facts); simp only [World.size_alloc, World.size_drew, factsL, cellsF, Nat.reduceAdd, List.toList_toArray, List.set_cons_zero, List.set_cons_succ, List.setIfInBounds_toArray, and_true, true_and] at F3)
            have KC := KB.store 6 rfl 3 (.slice C' (q + 1) cap')
            have KD := KC.swapRo 4 rfl (vals_snoc (r := ⟨r.id, A6, n6, c6, r.vs⟩) (KC.ro 4 rfl) (KC.ro 0 rfl))
            have KE := KD
            simp only [cellsF, List.set_cons_zero, List.set_cons_succ, List.setIfInBounds_toArray] at KE
            have HGN := hid (show goR dels (l.map Rw.row) (us.map Pr.upd) = List.map Rw.row (outs ++ [⟨r.id, A6, n6, c6, r.vs⟩]) ++ goR dels ((l.map Rw.row).drop (j + 1)) (([] : List Pr).map Pr.upd) by
              rw [List.map_append, List.append_assoc]
              exact HG.out.trans (congrArg (outs.map Rw.row ++ ·) HN.out))
            go_roundw
            case rel => exact ⟨j + 1, q + 1, cap', 0, ck, _, V, _, [], by omega, by go_num, rfl, by omega, hkc, hck, by intro x hx; rcases List.mem_append.1 hx with hx | hx; (exact hoo x hx); (simp at hx; subst hx; exact ⟨hrok.id, k1, k2, hrok.vs⟩), hov, HGN, (KE.drop (List.sublist_cons_self _ _)).drop (List.sublist_cons_self _ _)⟩
            case measure => simp [intOf]; omega
          | cons u ut =>
            obtain ⟨k', rfl⟩ : ∃ k', k = k' + 1 := ⟨ut.length, by have := HVL.out; simpa using this.symm⟩
            obtain ⟨b5, o5, rfl, hb5, d0, d1, d2, _⟩ := (K1.ro 1 rfl).now.at_ (k := 0) (x := u) rfl
            simp only [Nat.zero_mul, Nat.add_zero] at d0 d1 d2
            by_cases hid_ : u.id = r.id
            · have hbe : ((u.id : Int) == r.id) = true := by simp [hid_]
              have HN := hid (goR_upd (us := ut.map Pr.upd) (u := u.upd) HX.out HCT.out hid_)
              go_wp2_with fail
              go_quiet (fail)
              have K2 := K1.drewN nq
              clear K1 F1
              generalize World.drewN _ nq = w8 at *
              have F2 := K2.facts
              simp only [World.size_alloc, World.size_drew, factsL, cellsF, Nat.reduceAdd, List.toList_toArray, List.set_cons_zero, List.set_cons_succ, List.setIfInBounds_toArray, and_true, true_and] at F2
              go_wp2_with fail
              obtain ⟨_, _, e5, hb6, d3, d4, d5, _⟩ := (K2.ro 1 rfl).now.at_ (k := 0) (x := u) rfl
              obtain ⟨rfl, rfl⟩ : b5 = _ ∧ o5 = _ := by injection e5 with e5; injection e5 with a1 a2; exact ⟨a1, a2⟩
              simp only [Nat.zero_mul, Nat.add_zero] at d3 d4 d5
              have huo := hov u (List.mem_cons_self ..)
              by_cases hck1 : ck = 1
              · subst hck1
                obtain rfl : k' = 0 := by omega
                obtain rfl : ut = [] := by have := HVL.out; simpa using this
                go_wp2_with fail
                go_quiet (fail)
                have K3 := K2.drewN nq
                clear K2 F2
                generalize World.drewN _ nq = w9 at *
                have F2 := K3.facts
                simp only [World.size_alloc, World.size_drew, factsL, cellsF, Nat.reduceAdd, List.toList_toArray, List.set_cons_zero, List.set_cons_succ, List.setIfInBounds_toArray, and_true, true_and] at F2
                go_wp2_with fail
                refine wp_region_any (by kernel_rfl) ?_
                refine wpAny_hold 8 133 ([.cst wr.heap.size 61 #[.int .i64 r.id, .slice r.A r.n r.c], .ro (PrsIn (some ⟨b5, o5, none⟩) (0 + 1) [u]), .own 61 2 (.slice O q cap) q (rwCells outs), .ro (ValsIn outs), .ro (SlR 4 A2 n2 (colCells cs)), .blk go 40 #[.string nm, .slice A2 n2 c2, .int .i64 (nx + (ni : Int)), .slice O q cap], .blk (w.heap.size + 1 + 1) 40 #[.string ⟨#[]⟩, .slice none 0 0, .int .i64 0, .slice none 0 0], .cst (w.heap.size + 1) 54 #[.slice I ni ci, .slice D nd cd, .slice U nu cu], .cst w.heap.size 40 #[.string nm, .slice A n c, .int .i64 nx, .slice (some ⟨b, o, none⟩) m d], .ro (SlR 4 A n (colCells cs)), .ro (RwsIn (some ⟨b, o, none⟩) m l), .ro (SlsIn I ni ins), .ro (IsIn D nd dels), .ro (PrsIn U nu us)]) (spL [(102, VlsSlot (Mut M ([.cst wr.heap.size 61 #[.int .i64 r.id, .slice r.A r.n r.c], .ro (PrsIn (some ⟨b5, o5, none⟩) (0 + 1) [u]), .own 61 2 (.slice O q cap) q (rwCells outs), .ro (ValsIn outs), .ro (SlR 4 A2 n2 (colCells cs)), .blk go 40 #[.string nm, .slice A2 n2 c2, .int .i64 (nx + (ni : Int)), .slice O q cap], .blk (w.heap.size + 1 + 1) 40 #[.string ⟨#[]⟩, .slice none 0 0, .int .i64 0, .slice none 0 0], .cst (w.heap.size + 1) 54 #[.slice I ni ci, .slice D nd cd, .slice U nu cu], .cst w.heap.size 40 #[.string nm, .slice A n c, .int .i64 nx, .slice (some ⟨b, o, none⟩) m d], .ro (SlR 4 A n (colCells cs)), .ro (RwsIn (some ⟨b, o, none⟩) m l), .ro (SlsIn I ni ins), .ro (IsIn D nd dels), .ro (PrsIn U nu us)])) u.new), (103, RowSlot (Mut M ([.cst wr.heap.size 61 #[.int .i64 r.id, .slice r.A r.n r.c], .ro (PrsIn (some ⟨b5, o5, none⟩) (0 + 1) [u]), .own 61 2 (.slice O q cap) q (rwCells outs), .ro (ValsIn outs), .ro (SlR 4 A2 n2 (colCells cs)), .blk go 40 #[.string nm, .slice A2 n2 c2, .int .i64 (nx + (ni : Int)), .slice O q cap], .blk (w.heap.size + 1 + 1) 40 #[.string ⟨#[]⟩, .slice none 0 0, .int .i64 0, .slice none 0 0], .cst (w.heap.size + 1) 54 #[.slice I ni ci, .slice D nd cd, .slice U nu cu], .cst w.heap.size 40 #[.string nm, .slice A n c, .int .i64 nx, .slice (some ⟨b, o, none⟩) m d], .ro (SlR 4 A n (colCells cs)), .ro (RwsIn (some ⟨b, o, none⟩) m l), .ro (SlsIn I ni ins), .ro (IsIn D nd dels), .ro (PrsIn U nu us)])) r.id u.new), (104, RBoxSlot (Mut M ([.cst wr.heap.size 61 #[.int .i64 r.id, .slice r.A r.n r.c], .ro (PrsIn (some ⟨b5, o5, none⟩) (0 + 1) [u]), .own 61 2 (.slice O q cap) q (rwCells outs), .ro (ValsIn outs), .ro (SlR 4 A2 n2 (colCells cs)), .blk go 40 #[.string nm, .slice A2 n2 c2, .int .i64 (nx + (ni : Int)), .slice O q cap], .blk (w.heap.size + 1 + 1) 40 #[.string ⟨#[]⟩, .slice none 0 0, .int .i64 0, .slice none 0 0], .cst (w.heap.size + 1) 54 #[.slice I ni ci, .slice D nd cd, .slice U nu cu], .cst w.heap.size 40 #[.string nm, .slice A n c, .int .i64 nx, .slice (some ⟨b, o, none⟩) m d], .ro (SlR 4 A n (colCells cs)), .ro (RwsIn (some ⟨b, o, none⟩) m l), .ro (SlsIn I ni ins), .ro (IsIn D nd dels), .ro (PrsIn U nu us)])) r.id u.new)]) (by kernel_rfl) (by kernel_rfl) (by kernel_rfl) rfl ?_ (K3.drew) ?_
                · exact stays_cons vlsSlot_mono (stays_cons rowSlot_mono (stays_cons rboxSlot_mono (stays_nil _)))
                simp only [List.take_succ_cons, List.take_zero, List.drop_succ_cons, List.drop_zero, Act.put, List.getElem_toArray, List.getElem_cons_zero, List.getElem_cons_succ, List.setIfInBounds_toArray, List.set_cons_succ, List.set_cons_zero]
                refine dw_val rfl rfl rfl ?_; apply Exists.intro; refine ⟨fun wv HC => ?_, ?_⟩
                ·  go_simp <;> rfl
                simp only [Act.put, List.setIfInBounds_toArray, List.set_cons_succ, List.set_cons_zero]
                refine dw_val rfl rfl rfl ?_; apply Exists.intro; refine ⟨fun wv HC => ?_, ?_⟩
                · have FC := HC.facts; simp only [factsL, cellsF, Nat.reduceAdd, List.toList_toArray, and_true, true_and] at FC; go_simp <;> rfl
                simp only [Act.put, List.setIfInBounds_toArray, List.set_cons_succ, List.set_cons_zero]
                refine dw_val rfl rfl rfl ?_; apply Exists.intro; refine ⟨fun wv HC => ?_, ?_⟩
                ·  go_simp <;> rfl
                simp only [Act.put, List.setIfInBounds_toArray, List.set_cons_succ, List.set_cons_zero]
                refine dw_val rfl rfl rfl ?_; apply Exists.intro; refine ⟨fun wv HC => ?_, ?_⟩
                · have FC := HC.facts; simp only [factsL, cellsF, Nat.reduceAdd, List.toList_toArray, and_true, true_and] at FC; go_simp <;> rfl
                simp only [Act.put, List.setIfInBounds_toArray, List.set_cons_succ, List.set_cons_zero]
                refine dw_val rfl rfl rfl ?_; apply Exists.intro; refine ⟨fun wv HC => ?_, ?_⟩
                ·  go_simp <;> rfl
                simp only [Act.put, List.setIfInBounds_toArray, List.set_cons_succ, List.set_cons_zero]
                refine dw_callR 102 (VlsSlot (Mut M ([.cst wr.heap.size 61 #[.int .i64 r.id, .slice r.A r.n r.c], .ro (PrsIn (some ⟨b5, o5, none⟩) (0 + 1) [u]), .own 61 2 (.slice O q cap) q (rwCells outs), .ro (ValsIn outs), .ro (SlR 4 A2 n2 (colCells cs)), .blk go 40 #[.string nm, .slice A2 n2 c2, .int .i64 (nx + (ni : Int)), .slice O q cap], .blk (w.heap.size + 1 + 1) 40 #[.string ⟨#[]⟩, .slice none 0 0, .int .i64 0, .slice none 0 0], .cst (w.heap.size + 1) 54 #[.slice I ni ci, .slice D nd cd, .slice U nu cu], .cst w.heap.size 40 #[.string nm, .slice A n c, .int .i64 nx, .slice (some ⟨b, o, none⟩) m d], .ro (SlR 4 A n (colCells cs)), .ro (RwsIn (some ⟨b, o, none⟩) m l), .ro (SlsIn I ni ins), .ro (IsIn D nd dels), .ro (PrsIn U nu us)])) u.new) (f := 45) (args := #[.slice u.nA u.nn u.nc]) rfl rfl rfl rfl (fun wv => ?_) (fun wv HC hr8 hD => ?_) ?_
                · go_simp <;> rfl
                · refine (cloneVls_any _ wv HC.mutLt u.nA u.nn u.nc u.new ((HC.ro 1 rfl).imp fun w2 h2 => (h2.2 u (List.mem_cons_self ..)).2) (by have := huo.2; omega)).mono ?_
                  rintro e w5 ⟨A5, n5, c5, rfl, h50, h51, h52, h53, b5⟩
                  exact ⟨_, rfl, ⟨A5, n5, c5, rfl, h50, h51, h52, h53⟩, HC.call b5, RM.below b5⟩
                rintro x wx HCx ⟨A5, n5, c5, rfl, h50, h51, h52, h53⟩
                simp only [Act.put, List.setIfInBounds_toArray, List.set_cons_succ, List.set_cons_zero]
                clear HCx h53
                refine dw_valC 103 (RowSlot (Mut M ([.cst wr.heap.size 61 #[.int .i64 r.id, .slice r.A r.n r.c], .ro (PrsIn (some ⟨b5, o5, none⟩) (0 + 1) [u]), .own 61 2 (.slice O q cap) q (rwCells outs), .ro (ValsIn outs), .ro (SlR 4 A2 n2 (colCells cs)), .blk go 40 #[.string nm, .slice A2 n2 c2, .int .i64 (nx + (ni : Int)), .slice O q cap], .blk (w.heap.size + 1 + 1) 40 #[.string ⟨#[]⟩, .slice none 0 0, .int .i64 0, .slice none 0 0], .cst (w.heap.size + 1) 54 #[.slice I ni ci, .slice D nd cd, .slice U nu cu], .cst w.heap.size 40 #[.string nm, .slice A n c, .int .i64 nx, .slice (some ⟨b, o, none⟩) m d], .ro (SlR 4 A n (colCells cs)), .ro (RwsIn (some ⟨b, o, none⟩) m l), .ro (SlsIn I ni ins), .ro (IsIn D nd dels), .ro (PrsIn U nu us)])) r.id u.new) rfl rfl rfl rfl (.agg #[.int .i64 r.id, .slice A5 n5 c5]) (fun wv HC => ?_) (fun wv HC hD => ?_) ?_
                · go_simp <;> rfl
                · have hsl : VlsSlot (Mut M ([.cst wr.heap.size 61 #[.int .i64 r.id, .slice r.A r.n r.c], .ro (PrsIn (some ⟨b5, o5, none⟩) (0 + 1) [u]), .own 61 2 (.slice O q cap) q (rwCells outs), .ro (ValsIn outs), .ro (SlR 4 A2 n2 (colCells cs)), .blk go 40 #[.string nm, .slice A2 n2 c2, .int .i64 (nx + (ni : Int)), .slice O q cap], .blk (w.heap.size + 1 + 1) 40 #[.string ⟨#[]⟩, .slice none 0 0, .int .i64 0, .slice none 0 0], .cst (w.heap.size + 1) 54 #[.slice I ni ci, .slice D nd cd, .slice U nu cu], .cst w.heap.size 40 #[.string nm, .slice A n c, .int .i64 nx, .slice (some ⟨b, o, none⟩) m d], .ro (SlR 4 A n (colCells cs)), .ro (RwsIn (some ⟨b, o, none⟩) m l), .ro (SlsIn I ni ins), .ro (IsIn D nd dels), .ro (PrsIn U nu us)])) u.new (.slice A5 n5 c5) wv := deps_at hD 5 rfl (by kernel_rfl) rfl rfl
                  obtain ⟨A6, n6, c6, e6, h1, h2, h3, h4⟩ := hsl
                  exact ⟨A6, n6, c6, by rw [e6], h1, h2, h3, h4⟩
                simp only [Act.put, List.setIfInBounds_toArray, List.set_cons_succ, List.set_cons_zero]
                refine dw_new #[.int .i64 r.id, .slice A5 n5 c5] 61 104 (RBoxSlot (Mut M ([.cst wr.heap.size 61 #[.int .i64 r.id, .slice r.A r.n r.c], .ro (PrsIn (some ⟨b5, o5, none⟩) (0 + 1) [u]), .own 61 2 (.slice O q cap) q (rwCells outs), .ro (ValsIn outs), .ro (SlR 4 A2 n2 (colCells cs)), .blk go 40 #[.string nm, .slice A2 n2 c2, .int .i64 (nx + (ni : Int)), .slice O q cap], .blk (w.heap.size + 1 + 1) 40 #[.string ⟨#[]⟩, .slice none 0 0, .int .i64 0, .slice none 0 0], .cst (w.heap.size + 1) 54 #[.slice I ni ci, .slice D nd cd, .slice U nu cu], .cst w.heap.size 40 #[.string nm, .slice A n c, .int .i64 nx, .slice (some ⟨b, o, none⟩) m d], .ro (SlR 4 A n (colCells cs)), .ro (RwsIn (some ⟨b, o, none⟩) m l), .ro (SlsIn I ni ins), .ro (IsIn D nd dels), .ro (PrsIn U nu us)])) r.id u.new) (fun g => .slice (some ⟨g, 0, none⟩) 1 1) rfl rfl rfl rfl (fun wv => ?_) (fun wv HC _hrm hD hro => ?_) ?_
                · go_simp <;> rfl
                · have hsl : RowSlot (Mut M ([.cst wr.heap.size 61 #[.int .i64 r.id, .slice r.A r.n r.c], .ro (PrsIn (some ⟨b5, o5, none⟩) (0 + 1) [u]), .own 61 2 (.slice O q cap) q (rwCells outs), .ro (ValsIn outs), .ro (SlR 4 A2 n2 (colCells cs)), .blk go 40 #[.string nm, .slice A2 n2 c2, .int .i64 (nx + (ni : Int)), .slice O q cap], .blk (w.heap.size + 1 + 1) 40 #[.string ⟨#[]⟩, .slice none 0 0, .int .i64 0, .slice none 0 0], .cst (w.heap.size + 1) 54 #[.slice I ni ci, .slice D nd cd, .slice U nu cu], .cst w.heap.size 40 #[.string nm, .slice A n c, .int .i64 nx, .slice (some ⟨b, o, none⟩) m d], .ro (SlR 4 A n (colCells cs)), .ro (RwsIn (some ⟨b, o, none⟩) m l), .ro (SlsIn I ni ins), .ro (IsIn D nd dels), .ro (PrsIn U nu us)])) r.id u.new (.agg #[.int .i64 r.id, .slice A5 n5 c5]) wv := deps_at hD 6 rfl (by kernel_rfl) rfl rfl
                  obtain ⟨A6, n6, c6, e6, h1, h2, h3, h4⟩ := hsl
                  obtain ⟨rfl, rfl, rfl⟩ : A5 = A6 ∧ n5 = n6 ∧ c5 = c6 := by
                    injection e6 with e6
                    simp at e6
                    exact e6
                  exact ⟨_, A5, n5, c5, rfl, h1, h2, h3, h4.step (by simp) (fun b hb _ => Below.heap_alloc wv _ b hb) (fun _ _ h => h), ro_block (hro _ HC.mutLt) rfl⟩
                rintro g2 wg HCg hsl
                simp only [Act.put, List.setIfInBounds_toArray, List.set_cons_succ, List.set_cons_zero]
                clear hsl HCg
                refine rel_nil ?_
                rintro wx2 HX
                rintro _hrm HGW
                have hb2 : RBoxSlot (Mut M ([.cst wr.heap.size 61 #[.int .i64 r.id, .slice r.A r.n r.c], .ro (PrsIn (some ⟨b5, o5, none⟩) (0 + 1) [u]), .own 61 2 (.slice O q cap) q (rwCells outs), .ro (ValsIn outs), .ro (SlR 4 A2 n2 (colCells cs)), .blk go 40 #[.string nm, .slice A2 n2 c2, .int .i64 (nx + (ni : Int)), .slice O q cap], .blk (w.heap.size + 1 + 1) 40 #[.string ⟨#[]⟩, .slice none 0 0, .int .i64 0, .slice none 0 0], .cst (w.heap.size + 1) 54 #[.slice I ni ci, .slice D nd cd, .slice U nu cu], .cst w.heap.size 40 #[.string nm, .slice A n c, .int .i64 nx, .slice (some ⟨b, o, none⟩) m d], .ro (SlR 4 A n (colCells cs)), .ro (RwsIn (some ⟨b, o, none⟩) m l), .ro (SlsIn I ni ins), .ro (IsIn D nd dels), .ro (PrsIn U nu us)])) r.id u.new (.slice (some ⟨g2, 0, none⟩) 1 1) wx2 := (GW_on (d := 104) rfl).1 (HGW 7 _ rfl (by omega))
                clear HGW
                obtain ⟨g3, A6, n6, c6, e6, k0, k1, k2, k3, k4⟩ := hb2
                obtain rfl : g2 = g3 := by injection e6 with e6; injection e6 with e6; injection e6
                clear e6
                have k5 := hid k4.now
                clear k4
                have HRS := hid (show rwCells outs ++ [.int .i64 r.id, .slice A6 n6 c6] = rwCells (outs ++ [⟨r.id, A6, n6, c6, u.new⟩]) from rwCells_snoc1 _ _ _ _ _ _)
                have KA := HX.add k3
                clear HX
                go_wp2_with (at_builtin; go_must (refine wpList_appAllH KA 3 rfl Tryd.elRw k5.out rfl (.tmp 98) (.tmp 104) rfl rfl rfl (by intro z hz; simp at hz; rcases hz with rfl | rfl <;> rfl) (by omega) (by omega) ?_); intro C' cap' w6 hc6 hm6 KB; rw [HRS.out] at KB; simp only [List.set_cons_zero, List.set_cons_succ] at KB; (have F3 := KB.facts); simp only [World.size_alloc, World.size_drew, factsL, cellsF, Nat.reduceAdd, List.toList_toArray, List.set_cons_zero, List.set_cons_succ, List.setIfInBounds_toArray, and_true, true_and] at F3)
                have KC := KB.store 6 rfl 3 (.slice C' (q + 1) cap')
                have KD := KC.swapRo 4 rfl (vals_snoc (r := ⟨r.id, A6, n6, c6, u.new⟩) (KC.ro 4 rfl) (KC.ro 0 rfl))
                have KE := KD.swapRo 2 rfl (S' := PrsIn (some ⟨b5, o5, none⟩) 0 []) (fun w2 _ _ => PrsIn.zero (some ⟨b5, o5, none⟩))
                simp only [cellsF, List.set_cons_zero, List.set_cons_succ, List.setIfInBounds_toArray] at KE
                have HGN := hid (show goR dels (l.map Rw.row) (us.map Pr.upd) = List.map Rw.row (outs ++ [⟨r.id, A6, n6, c6, u.new⟩]) ++ goR dels ((l.map Rw.row).drop (j + 1)) (([] : List Pr).map Pr.upd) by
                  rw [List.map_append, List.append_assoc]
                  exact HG.out.trans (congrArg (outs.map Rw.row ++ ·) HN.out))
                go_roundw
                case rel => exact ⟨j + 1, q + 1, cap', 0, 0, _, _, _, [], by omega, by go_num, rfl, by omega, by omega, by omega, by intro x hx; rcases List.mem_append.1 hx with hx | hx; (exact hoo x hx); (simp at hx; subst hx; exact ⟨hrok.id, k1, k2, huo.1.new⟩), (fun u hu => nomatch hu), HGN, (KE.drop (List.sublist_cons_self _ _)).drop (List.sublist_cons_self _ _)⟩
                case measure => simp [intOf]; omega
              · have hck2 : 1 < ck := by omega
                go_wp2_with fail
                go_quiet (fail)
                have K3 := K2.drewN nq
                clear K2 F2
                generalize World.drewN _ nq = w9 at *
                have F2 := K3.facts
                simp only [World.size_alloc, World.size_drew, factsL, cellsF, Nat.reduceAdd, List.toList_toArray, List.set_cons_zero, List.set_cons_succ, List.setIfInBounds_toArray, and_true, true_and] at F2
                go_wp2_with fail
                refine wp_region_any (by kernel_rfl) ?_
                refine wpAny_hold 8 133 ([.cst wr.heap.size 61 #[.int .i64 r.id, .slice r.A r.n r.c], .ro (PrsIn (some ⟨b5, o5, none⟩) (k' + 1) (u :: ut)), .own 61 2 (.slice O q cap) q (rwCells outs), .ro (ValsIn outs), .ro (SlR 4 A2 n2 (colCells cs)), .blk go 40 #[.string nm, .slice A2 n2 c2, .int .i64 (nx + (ni : Int)), .slice O q cap], .blk (w.heap.size + 1 + 1) 40 #[.string ⟨#[]⟩, .slice none 0 0, .int .i64 0, .slice none 0 0], .cst (w.heap.size + 1) 54 #[.slice I ni ci, .slice D nd cd, .slice U nu cu], .cst w.heap.size 40 #[.string nm, .slice A n c, .int .i64 nx, .slice (some ⟨b, o, none⟩) m d], .ro (SlR 4 A n (colCells cs)), .ro (RwsIn (some ⟨b, o, none⟩) m l), .ro (SlsIn I ni ins), .ro (IsIn D nd dels), .ro (PrsIn U nu us)]) (spL [(102, VlsSlot (Mut M ([.cst wr.heap.size 61 #[.int .i64 r.id, .slice r.A r.n r.c], .ro (PrsIn (some ⟨b5, o5, none⟩) (k' + 1) (u :: ut)), .own 61 2 (.slice O q cap) q (rwCells outs), .ro (ValsIn outs), .ro (SlR 4 A2 n2 (colCells cs)), .blk go 40 #[.string nm, .slice A2 n2 c2, .int .i64 (nx + (ni : Int)), .slice O q cap], .blk (w.heap.size + 1 + 1) 40 #[.string ⟨#[]⟩, .slice none 0 0, .int .i64 0, .slice none 0 0], .cst (w.heap.size + 1) 54 #[.slice I ni ci, .slice D nd cd, .slice U nu cu], .cst w.heap.size 40 #[.string nm, .slice A n c, .int .i64 nx, .slice (some ⟨b, o, none⟩) m d], .ro (SlR 4 A n (colCells cs)), .ro (RwsIn (some ⟨b, o, none⟩) m l), .ro (SlsIn I ni ins), .ro (IsIn D nd dels), .ro (PrsIn U nu us)])) u.new), (103, RowSlot (Mut M ([.cst wr.heap.size 61 #[.int .i64 r.id, .slice r.A r.n r.c], .ro (PrsIn (some ⟨b5, o5, none⟩) (k' + 1) (u :: ut)), .own 61 2 (.slice O q cap) q (rwCells outs), .ro (ValsIn outs), .ro (SlR 4 A2 n2 (colCells cs)), .blk go 40 #[.string nm, .slice A2 n2 c2, .int .i64 (nx + (ni : Int)), .slice O q cap], .blk (w.heap.size + 1 + 1) 40 #[.string ⟨#[]⟩, .slice none 0 0, .int .i64 0, .slice none 0 0], .cst (w.heap.size + 1) 54 #[.slice I ni ci, .slice D nd cd, .slice U nu cu], .cst w.heap.size 40 #[.string nm, .slice A n c, .int .i64 nx, .slice (some ⟨b, o, none⟩) m d], .ro (SlR 4 A n (colCells cs)), .ro (RwsIn (some ⟨b, o, none⟩) m l), .ro (SlsIn I ni ins), .ro (IsIn D nd dels), .ro (PrsIn U nu us)])) r.id u.new), (104, RBoxSlot (Mut M ([.cst wr.heap.size 61 #[.int .i64 r.id, .slice r.A r.n r.c], .ro (PrsIn (some ⟨b5, o5, none⟩) (k' + 1) (u :: ut)), .own 61 2 (.slice O q cap) q (rwCells outs), .ro (ValsIn outs), .ro (SlR 4 A2 n2 (colCells cs)), .blk go 40 #[.string nm, .slice A2 n2 c2, .int .i64 (nx + (ni : Int)), .slice O q cap], .blk (w.heap.size + 1 + 1) 40 #[.string ⟨#[]⟩, .slice none 0 0, .int .i64 0, .slice none 0 0], .cst (w.heap.size + 1) 54 #[.slice I ni ci, .slice D nd cd, .slice U nu cu], .cst w.heap.size 40 #[.string nm, .slice A n c, .int .i64 nx, .slice (some ⟨b, o, none⟩) m d], .ro (SlR 4 A n (colCells cs)), .ro (RwsIn (some ⟨b, o, none⟩) m l), .ro (SlsIn I ni ins), .ro (IsIn D nd dels), .ro (PrsIn U nu us)])) r.id u.new)]) (by kernel_rfl) (by kernel_rfl) (by kernel_rfl) rfl ?_ (K3.drew) ?_
                · exact stays_cons vlsSlot_mono (stays_cons rowSlot_mono (stays_cons rboxSlot_mono (stays_nil _)))
                simp only [List.take_succ_cons, List.take_zero, List.drop_succ_cons, List.drop_zero, Act.put, List.getElem_toArray, List.getElem_cons_zero, List.getElem_cons_succ, List.setIfInBounds_toArray, List.set_cons_succ, List.set_cons_zero]
                refine dw_val rfl rfl rfl ?_; apply Exists.intro; refine ⟨fun wv HC => ?_, ?_⟩
                ·  go_simp <;> rfl
                simp only [Act.put, List.setIfInBounds_toArray, List.set_cons_succ, List.set_cons_zero]
                refine dw_val rfl rfl rfl ?_; apply Exists.intro; refine ⟨fun wv HC => ?_, ?_⟩
                · have FC := HC.facts; simp only [factsL, cellsF, Nat.reduceAdd, List.toList_toArray, and_true, true_and] at FC; go_simp <;> rfl
                simp only [Act.put, List.setIfInBounds_toArray, List.set_cons_succ, List.set_cons_zero]
                refine dw_val rfl rfl rfl ?_; apply Exists.intro; refine ⟨fun wv HC => ?_, ?_⟩
                ·  go_simp <;> rfl
                simp only [Act.put, List.setIfInBounds_toArray, List.set_cons_succ, List.set_cons_zero]
                refine dw_val rfl rfl rfl ?_; apply Exists.intro; refine ⟨fun wv HC => ?_, ?_⟩
                · have FC := HC.facts; simp only [factsL, cellsF, Nat.reduceAdd, List.toList_toArray, and_true, true_and] at FC; go_simp <;> rfl
                simp only [Act.put, List.setIfInBounds_toArray, List.set_cons_succ, List.set_cons_zero]
                refine dw_val rfl rfl rfl ?_; apply Exists.intro; refine ⟨fun wv HC => ?_, ?_⟩
                ·  go_simp <;> rfl
                simp only [Act.put, List.setIfInBounds_toArray, List.set_cons_succ, List.set_cons_zero]
                refine dw_callR 102 (VlsSlot (Mut M ([.cst wr.heap.size 61 #[.int .i64 r.id, .slice r.A r.n r.c], .ro (PrsIn (some ⟨b5, o5, none⟩) (k' + 1) (u :: ut)), .own 61 2 (.slice O q cap) q (rwCells outs), .ro (ValsIn outs), .ro (SlR 4 A2 n2 (colCells cs)), .blk go 40 #[.string nm, .slice A2 n2 c2, .int .i64 (nx + (ni : Int)), .slice O q cap], .blk (w.heap.size + 1 + 1) 40 #[.string ⟨#[]⟩, .slice none 0 0, .int .i64 0, .slice none 0 0], .cst (w.heap.size + 1) 54 #[.slice I ni ci, .slice D nd cd, .slice U nu cu], .cst w.heap.size 40 #[.string nm, .slice A n c, .int .i64 nx, .slice (some ⟨b, o, none⟩) m d], .ro (SlR 4 A n (colCells cs)), .ro (RwsIn (some ⟨b, o, none⟩) m l), .ro (SlsIn I ni ins), .ro (IsIn D nd dels), .ro (PrsIn U nu us)])) u.new) (f := 45) (args := #[.slice u.nA u.nn u.nc]) rfl rfl rfl rfl (fun wv => ?_) (fun wv HC hr8 hD => ?_) ?_
                · go_simp <;> rfl
                · refine (cloneVls_any _ wv HC.mutLt u.nA u.nn u.nc u.new ((HC.ro 1 rfl).imp fun w2 h2 => (h2.2 u (List.mem_cons_self ..)).2) (by have := huo.2; omega)).mono ?_
                  rintro e w5 ⟨A5, n5, c5, rfl, h50, h51, h52, h53, b5⟩
                  exact ⟨_, rfl, ⟨A5, n5, c5, rfl, h50, h51, h52, h53⟩, HC.call b5, RM.below b5⟩
                rintro x wx HCx ⟨A5, n5, c5, rfl, h50, h51, h52, h53⟩
                simp only [Act.put, List.setIfInBounds_toArray, List.set_cons_succ, List.set_cons_zero]
                clear HCx h53
                refine dw_valC 103 (RowSlot (Mut M ([.cst wr.heap.size 61 #[.int .i64 r.id, .slice r.A r.n r.c], .ro (PrsIn (some ⟨b5, o5, none⟩) (k' + 1) (u :: ut)), .own 61 2 (.slice O q cap) q (rwCells outs), .ro (ValsIn outs), .ro (SlR 4 A2 n2 (colCells cs)), .blk go 40 #[.string nm, .slice A2 n2 c2, .int .i64 (nx + (ni : Int)), .slice O q cap], .blk (w.heap.size + 1 + 1) 40 #[.string ⟨#[]⟩, .slice none 0 0, .int .i64 0, .slice none 0 0], .cst (w.heap.size + 1) 54 #[.slice I ni ci, .slice D nd cd, .slice U nu cu], .cst w.heap.size 40 #[.string nm, .slice A n c, .int .i64 nx, .slice (some ⟨b, o, none⟩) m d], .ro (SlR 4 A n (colCells cs)), .ro (RwsIn (some ⟨b, o, none⟩) m l), .ro (SlsIn I ni ins), .ro (IsIn D nd dels), .ro (PrsIn U nu us)])) r.id u.new) rfl rfl rfl rfl (.agg #[.int .i64 r.id, .slice A5 n5 c5]) (fun wv HC => ?_) (fun wv HC hD => ?_) ?_
                · go_simp <;> rfl
                · have hsl : VlsSlot (Mut M ([.cst wr.heap.size 61 #[.int .i64 r.id, .slice r.A r.n r.c], .ro (PrsIn (some ⟨b5, o5, none⟩) (k' + 1) (u :: ut)), .own 61 2 (.slice O q cap) q (rwCells outs), .ro (ValsIn outs), .ro (SlR 4 A2 n2 (colCells cs)), .blk go 40 #[.string nm, .slice A2 n2 c2, .int .i64 (nx + (ni : Int)), .slice O q cap], .blk (w.heap.size + 1 + 1) 40 #[.string ⟨#[]⟩, .slice none 0 0, .int .i64 0, .slice none 0 0], .cst (w.heap.size + 1) 54 #[.slice I ni ci, .slice D nd cd, .slice U nu cu], .cst w.heap.size 40 #[.string nm, .slice A n c, .int .i64 nx, .slice (some ⟨b, o, none⟩) m d], .ro (SlR 4 A n (colCells cs)), .ro (RwsIn (some ⟨b, o, none⟩) m l), .ro (SlsIn I ni ins), .ro (IsIn D nd dels), .ro (PrsIn U nu us)])) u.new (.slice A5 n5 c5) wv := deps_at hD 5 rfl (by kernel_rfl) rfl rfl
                  obtain ⟨A6, n6, c6, e6, h1, h2, h3, h4⟩ := hsl
                  exact ⟨A6, n6, c6, by rw [e6], h1, h2, h3, h4⟩
                simp only [Act.put, List.setIfInBounds_toArray, List.set_cons_succ, List.set_cons_zero]
                refine dw_new #[.int .i64 r.id, .slice A5 n5 c5] 61 104 (RBoxSlot (Mut M ([.cst wr.heap.size 61 #[.int .i64 r.id, .slice r.A r.n r.c], .ro (PrsIn (some ⟨b5, o5, none⟩) (k' + 1) (u :: ut)), .own 61 2 (.slice O q cap) q (rwCells outs), .ro (ValsIn outs), .ro (SlR 4 A2 n2 (colCells cs)), .blk go 40 #[.string nm, .slice A2 n2 c2, .int .i64 (nx + (ni : Int)), .slice O q cap], .blk (w.heap.size + 1 + 1) 40 #[.string ⟨#[]⟩, .slice none 0 0, .int .i64 0, .slice none 0 0], .cst (w.heap.size + 1) 54 #[.slice I ni ci, .slice D nd cd, .slice U nu cu], .cst w.heap.size 40 #[.string nm, .slice A n c, .int .i64 nx, .slice (some ⟨b, o, none⟩) m d], .ro (SlR 4 A n (colCells cs)), .ro (RwsIn (some ⟨b, o, none⟩) m l), .ro (SlsIn I ni ins), .ro (IsIn D nd dels), .ro (PrsIn U nu us)])) r.id u.new) (fun g => .slice (some ⟨g, 0, none⟩) 1 1) rfl rfl rfl rfl (fun wv => ?_) (fun wv HC _hrm hD hro => ?_) ?_
                · go_simp <;> rfl
                · have hsl : RowSlot (Mut M ([.cst wr.heap.size 61 #[.int .i64 r.id, .slice r.A r.n r.c], .ro (PrsIn (some ⟨b5, o5, none⟩) (k' + 1) (u :: ut)), .own 61 2 (.slice O q cap) q (rwCells outs), .ro (ValsIn outs), .ro (SlR 4 A2 n2 (colCells cs)), .blk go 40 #[.string nm, .slice A2 n2 c2, .int .i64 (nx + (ni : Int)), .slice O q cap], .blk (w.heap.size + 1 + 1) 40 #[.string ⟨#[]⟩, .slice none 0 0, .int .i64 0, .slice none 0 0], .cst (w.heap.size + 1) 54 #[.slice I ni ci, .slice D nd cd, .slice U nu cu], .cst w.heap.size 40 #[.string nm, .slice A n c, .int .i64 nx, .slice (some ⟨b, o, none⟩) m d], .ro (SlR 4 A n (colCells cs)), .ro (RwsIn (some ⟨b, o, none⟩) m l), .ro (SlsIn I ni ins), .ro (IsIn D nd dels), .ro (PrsIn U nu us)])) r.id u.new (.agg #[.int .i64 r.id, .slice A5 n5 c5]) wv := deps_at hD 6 rfl (by kernel_rfl) rfl rfl
                  obtain ⟨A6, n6, c6, e6, h1, h2, h3, h4⟩ := hsl
                  obtain ⟨rfl, rfl, rfl⟩ : A5 = A6 ∧ n5 = n6 ∧ c5 = c6 := by
                    injection e6 with e6
                    simp at e6
                    exact e6
                  exact ⟨_, A5, n5, c5, rfl, h1, h2, h3, h4.step (by simp) (fun b hb _ => Below.heap_alloc wv _ b hb) (fun _ _ h => h), ro_block (hro _ HC.mutLt) rfl⟩
                rintro g2 wg HCg hsl
                simp only [Act.put, List.setIfInBounds_toArray, List.set_cons_succ, List.set_cons_zero]
                clear hsl HCg
                refine rel_nil ?_
                rintro wx2 HX
                rintro _hrm HGW
                have hb2 : RBoxSlot (Mut M ([.cst wr.heap.size 61 #[.int .i64 r.id, .slice r.A r.n r.c], .ro (PrsIn (some ⟨b5, o5, none⟩) (k' + 1) (u :: ut)), .own 61 2 (.slice O q cap) q (rwCells outs), .ro (ValsIn outs), .ro (SlR 4 A2 n2 (colCells cs)), .blk go 40 #[.string nm, .slice A2 n2 c2, .int .i64 (nx + (ni : Int)), .slice O q cap], .blk (w.heap.size + 1 + 1) 40 #[.string ⟨#[]⟩, .slice none 0 0, .int .i64 0, .slice none 0 0], .cst (w.heap.size + 1) 54 #[.slice I ni ci, .slice D nd cd, .slice U nu cu], .cst w.heap.size 40 #[.string nm, .slice A n c, .int .i64 nx, .slice (some ⟨b, o, none⟩) m d], .ro (SlR 4 A n (colCells cs)), .ro (RwsIn (some ⟨b, o, none⟩) m l), .ro (SlsIn I ni ins), .ro (IsIn D nd dels), .ro (PrsIn U nu us)])) r.id u.new (.slice (some ⟨g2, 0, none⟩) 1 1) wx2 := (GW_on (d := 104) rfl).1 (HGW 7 _ rfl (by omega))
                clear HGW
                obtain ⟨g3, A6, n6, c6, e6, k0, k1, k2, k3, k4⟩ := hb2
                obtain rfl : g2 = g3 := by injection e6 with e6; injection e6 with e6; injection e6
                clear e6
                have k5 := hid k4.now
                clear k4
                have HRS := hid (show rwCells outs ++ [.int .i64 r.id, .slice A6 n6 c6] = rwCells (outs ++ [⟨r.id, A6, n6, c6, u.new⟩]) from rwCells_snoc1 _ _ _ _ _ _)
                have KA := HX.add k3
                clear HX
                go_wp2_with (at_builtin; go_must (refine wpList_appAllH KA 3 rfl Tryd.elRw k5.out rfl (.tmp 98) (.tmp 104) rfl rfl rfl (by intro z hz; simp at hz; rcases hz with rfl | rfl <;> rfl) (by omega) (by omega) ?_); intro C' cap' w6 hc6 hm6 KB; rw [HRS.out] at KB; simp only [List.set_cons_zero, List.set_cons_succ] at KB; (have F3 := KB.facts); simp only [World.size_alloc, World.size_drew, factsL, cellsF, Nat.reduceAdd, List.toList_toArray, List.set_cons_zero, List.set_cons_succ, List.setIfInBounds_toArray, and_true, true_and] at F3)
                have KC := KB.store 6 rfl 3 (.slice C' (q + 1) cap')
                have KD := KC.swapRo 4 rfl (vals_snoc (r := ⟨r.id, A6, n6, c6, u.new⟩) (KC.ro 4 rfl) (KC.ro 0 rfl))
                have KE := KD.swapRo 2 rfl ((KD.ro 2 rfl).imp fun w2 h2 => PrsIn.tail h2)
                simp only [cellsF, List.set_cons_zero, List.set_cons_succ, List.setIfInBounds_toArray] at KE
                have HGN := hid (show goR dels (l.map Rw.row) (us.map Pr.upd) = List.map Rw.row (outs ++ [⟨r.id, A6, n6, c6, u.new⟩]) ++ goR dels ((l.map Rw.row).drop (j + 1)) (ut.map Pr.upd) by
                  rw [List.map_append, List.append_assoc]
                  exact HG.out.trans (congrArg (outs.map Rw.row ++ ·) HN.out))
                go_roundw
                case rel => exact ⟨j + 1, q + 1, cap', k', ck - 1, _, _, _, ut, by omega, by go_num, rfl, by omega, by omega, by omega, by intro x hx; rcases List.mem_append.1 hx with hx | hx; (exact hoo x hx); (simp at hx; subst hx; exact ⟨hrok.id, k1, k2, huo.1.new⟩), (fun x hx => hov x (List.mem_cons_of_mem _ hx)), HGN, (KE.drop (List.sublist_cons_self _ _)).drop (List.sublist_cons_self _ _)⟩
                case measure => simp [intOf]; omega
            · have hbe : ((u.id : Int) == r.id) = false := by simp [hid_]
              have HN := hid (goR_keep (us := (u :: ut).map Pr.upd) HX.out HCT.out (fun u1 hu => by simp at hu; subst hu; exact hid_))
              go_wp2_with fail
              go_quiet (fail)
              have K2 := K1.drewN nq
              clear K1 F1
              generalize World.drewN _ nq = w8 at *
              have F2 := K2.facts
              simp only [World.size_alloc, World.size_drew, factsL, cellsF, Nat.reduceAdd, List.toList_toArray, List.set_cons_zero, List.set_cons_succ, List.setIfInBounds_toArray, and_true, true_and] at F2
              go_wp2_with fail
              refine wp_region_any (by kernel_rfl) ?_
              refine wpAny_hold 8 133 ([.cst wr.heap.size 61 #[.int .i64 r.id, .slice r.A r.n r.c], .ro (PrsIn (some ⟨b5, o5, none⟩) (k' + 1) (u :: ut)), .own 61 2 (.slice O q cap) q (rwCells outs), .ro (ValsIn outs), .ro (SlR 4 A2 n2 (colCells cs)), .blk go 40 #[.string nm, .slice A2 n2 c2, .int .i64 (nx + (ni : Int)), .slice O q cap], .blk (w.heap.size + 1 + 1) 40 #[.string ⟨#[]⟩, .slice none 0 0, .int .i64 0, .slice none 0 0], .cst (w.heap.size + 1) 54 #[.slice I ni ci, .slice D nd cd, .slice U nu cu], .cst w.heap.size 40 #[.string nm, .slice A n c, .int .i64 nx, .slice (some ⟨b, o, none⟩) m d], .ro (SlR 4 A n (colCells cs)), .ro (RwsIn (some ⟨b, o, none⟩) m l), .ro (SlsIn I ni ins), .ro (IsIn D nd dels), .ro (PrsIn U nu us)]) (spL [(102, VlsSlot (Mut M ([.cst wr.heap.size 61 #[.int .i64 r.id, .slice r.A r.n r.c], .ro (PrsIn (some ⟨b5, o5, none⟩) (k' + 1) (u :: ut)), .own 61 2 (.slice O q cap) q (rwCells outs), .ro (ValsIn outs), .ro (SlR 4 A2 n2 (colCells cs)), .blk go 40 #[.string nm, .slice A2 n2 c2, .int .i64 (nx + (ni : Int)), .slice O q cap], .blk (w.heap.size + 1 + 1) 40 #[.string ⟨#[]⟩, .slice none 0 0, .int .i64 0, .slice none 0 0], .cst (w.heap.size + 1) 54 #[.slice I ni ci, .slice D nd cd, .slice U nu cu], .cst w.heap.size 40 #[.string nm, .slice A n c, .int .i64 nx, .slice (some ⟨b, o, none⟩) m d], .ro (SlR 4 A n (colCells cs)), .ro (RwsIn (some ⟨b, o, none⟩) m l), .ro (SlsIn I ni ins), .ro (IsIn D nd dels), .ro (PrsIn U nu us)])) r.vs), (103, RowSlot (Mut M ([.cst wr.heap.size 61 #[.int .i64 r.id, .slice r.A r.n r.c], .ro (PrsIn (some ⟨b5, o5, none⟩) (k' + 1) (u :: ut)), .own 61 2 (.slice O q cap) q (rwCells outs), .ro (ValsIn outs), .ro (SlR 4 A2 n2 (colCells cs)), .blk go 40 #[.string nm, .slice A2 n2 c2, .int .i64 (nx + (ni : Int)), .slice O q cap], .blk (w.heap.size + 1 + 1) 40 #[.string ⟨#[]⟩, .slice none 0 0, .int .i64 0, .slice none 0 0], .cst (w.heap.size + 1) 54 #[.slice I ni ci, .slice D nd cd, .slice U nu cu], .cst w.heap.size 40 #[.string nm, .slice A n c, .int .i64 nx, .slice (some ⟨b, o, none⟩) m d], .ro (SlR 4 A n (colCells cs)), .ro (RwsIn (some ⟨b, o, none⟩) m l), .ro (SlsIn I ni ins), .ro (IsIn D nd dels), .ro (PrsIn U nu us)])) r.id r.vs), (104, RBoxSlot (Mut M ([.cst wr.heap.size 61 #[.int .i64 r.id, .slice r.A r.n r.c], .ro (PrsIn (some ⟨b5, o5, none⟩) (k' + 1) (u :: ut)), .own 61 2 (.slice O q cap) q (rwCells outs), .ro (ValsIn outs), .ro (SlR 4 A2 n2 (colCells cs)), .blk go 40 #[.string nm, .slice A2 n2 c2, .int .i64 (nx + (ni : Int)), .slice O q cap], .blk (w.heap.size + 1 + 1) 40 #[.string ⟨#[]⟩, .slice none 0 0, .int .i64 0, .slice none 0 0], .cst (w.heap.size + 1) 54 #[.slice I ni ci, .slice D nd cd, .slice U nu cu], .cst w.heap.size 40 #[.string nm, .slice A n c, .int .i64 nx, .slice (some ⟨b, o, none⟩) m d], .ro (SlR 4 A n (colCells cs)), .ro (RwsIn (some ⟨b, o, none⟩) m l), .ro (SlsIn I ni ins), .ro (IsIn D nd dels), .ro (PrsIn U nu us)])) r.id r.vs)]) (by kernel_rfl) (by kernel_rfl) (by kernel_rfl) rfl ?_ (K2.drew) ?_
              · exact stays_cons vlsSlot_mono (stays_cons rowSlot_mono (stays_cons rboxSlot_mono (stays_nil _)))
              simp only [List.take_succ_cons, List.take_zero, List.drop_succ_cons, List.drop_zero, Act.put, List.getElem_toArray, List.getElem_cons_zero, List.getElem_cons_succ, List.setIfInBounds_toArray, List.set_cons_succ, List.set_cons_zero]
              refine dw_val rfl rfl rfl ?_; apply Exists.intro; refine ⟨fun wv HC => ?_, ?_⟩
              ·  go_simp <;> rfl
              simp only [Act.put, List.setIfInBounds_toArray, List.set_cons_succ, List.set_cons_zero]
              refine dw_val rfl rfl rfl ?_; apply Exists.intro; refine ⟨fun wv HC => ?_, ?_⟩
              · have FC := HC.facts; simp only [factsL, cellsF, Nat.reduceAdd, List.toList_toArray, and_true, true_and] at FC; go_simp <;> rfl
              simp only [Act.put, List.setIfInBounds_toArray, List.set_cons_succ, List.set_cons_zero]
              refine dw_val rfl rfl rfl ?_; apply Exists.intro; refine ⟨fun wv HC => ?_, ?_⟩
              ·  go_simp <;> rfl
              simp only [Act.put, List.setIfInBounds_toArray, List.set_cons_succ, List.set_cons_zero]
              refine dw_val rfl rfl rfl ?_; apply Exists.intro; refine ⟨fun wv HC => ?_, ?_⟩
              · have FC := HC.facts; simp only [factsL, cellsF, Nat.reduceAdd, List.toList_toArray, and_true, true_and] at FC; go_simp <;> rfl
              simp only [Act.put, List.setIfInBounds_toArray, List.set_cons_succ, List.set_cons_zero]
              refine dw_val rfl rfl rfl ?_; apply Exists.intro; refine ⟨fun wv HC => ?_, ?_⟩
              ·  go_simp <;> rfl
              simp only [Act.put, List.setIfInBounds_toArray, List.set_cons_succ, List.set_cons_zero]
              refine dw_callR 102 (VlsSlot (Mut M ([.cst wr.heap.size 61 #[.int .i64 r.id, .slice r.A r.n r.c], .ro (PrsIn (some ⟨b5, o5, none⟩) (k' + 1) (u :: ut)), .own 61 2 (.slice O q cap) q (rwCells outs), .ro (ValsIn outs), .ro (SlR 4 A2 n2 (colCells cs)), .blk go 40 #[.string nm, .slice A2 n2 c2, .int .i64 (nx + (ni : Int)), .slice O q cap], .blk (w.heap.size + 1 + 1) 40 #[.string ⟨#[]⟩, .slice none 0 0, .int .i64 0, .slice none 0 0], .cst (w.heap.size + 1) 54 #[.slice I ni ci, .slice D nd cd, .slice U nu cu], .cst w.heap.size 40 #[.string nm, .slice A n c, .int .i64 nx, .slice (some ⟨b, o, none⟩) m d], .ro (SlR 4 A n (colCells cs)), .ro (RwsIn (some ⟨b, o, none⟩) m l), .ro (SlsIn I ni ins), .ro (IsIn D nd dels), .ro (PrsIn U nu us)])) r.vs) (f := 45) (args := #[.slice r.A r.n r.c]) rfl rfl rfl rfl (fun wv => ?_) (fun wv HC hr8 hD => ?_) ?_
              · go_simp <;> rfl
              · refine (cloneVls_any _ wv HC.mutLt r.A r.n r.c r.vs ((HC.ro 10 rfl).imp fun w2 h2 => h2.2 r HRM.out) (by have := HR6.out; omega)).mono ?_
                rintro e w5 ⟨A5, n5, c5, rfl, h50, h51, h52, h53, b5⟩
                exact ⟨_, rfl, ⟨A5, n5, c5, rfl, h50, h51, h52, h53⟩, HC.call b5, RM.below b5⟩
              rintro x wx HCx ⟨A5, n5, c5, rfl, h50, h51, h52, h53⟩
              simp only [Act.put, List.setIfInBounds_toArray, List.set_cons_succ, List.set_cons_zero]
              clear HCx h53
              refine dw_valC 103 (RowSlot (Mut M ([.cst wr.heap.size 61 #[.int .i64 r.id, .slice r.A r.n r.c], .ro (PrsIn (some ⟨b5, o5, none⟩) (k' + 1) (u :: ut)), .own 61 2 (.slice O q cap) q (rwCells outs), .ro (ValsIn outs), .ro (SlR 4 A2 n2 (colCells cs)), .blk go 40 #[.string nm, .slice A2 n2 c2, .int .i64 (nx + (ni : Int)), .slice O q cap], .blk (w.heap.size + 1 + 1) 40 #[.string ⟨#[]⟩, .slice none 0 0, .int .i64 0, .slice none 0 0], .cst (w.heap.size + 1) 54 #[.slice I ni ci, .slice D nd cd, .slice U nu cu], .cst w.heap.size 40 #[.string nm, .slice A n c, .int .i64 nx, .slice (some ⟨b, o, none⟩) m d], .ro (SlR 4 A n (colCells cs)), .ro (RwsIn (some ⟨b, o, none⟩) m l), .ro (SlsIn I ni ins), .ro (IsIn D nd dels), .ro (PrsIn U nu us)])) r.id r.vs) rfl rfl rfl rfl (.agg #[.int .i64 r.id, .slice A5 n5 c5]) (fun wv HC => ?_) (fun wv HC hD => ?_) ?_
              · go_simp <;> rfl
              · have hsl : VlsSlot (Mut M ([.cst wr.heap.size 61 #[.int .i64 r.id, .slice r.A r.n r.c], .ro (PrsIn (some ⟨b5, o5, none⟩) (k' + 1) (u :: ut)), .own 61 2 (.slice O q cap) q (rwCells outs), .ro (ValsIn outs), .ro (SlR 4 A2 n2 (colCells cs)), .blk go 40 #[.string nm, .slice A2 n2 c2, .int .i64 (nx + (ni : Int)), .slice O q cap], .blk (w.heap.size + 1 + 1) 40 #[.string ⟨#[]⟩, .slice none 0 0, .int .i64 0, .slice none 0 0], .cst (w.heap.size + 1) 54 #[.slice I ni ci, .slice D nd cd, .slice U nu cu], .cst w.heap.size 40 #[.string nm, .slice A n c, .int .i64 nx, .slice (some ⟨b, o, none⟩) m d], .ro (SlR 4 A n (colCells cs)), .ro (RwsIn (some ⟨b, o, none⟩) m l), .ro (SlsIn I ni ins), .ro (IsIn D nd dels), .ro (PrsIn U nu us)])) r.vs (.slice A5 n5 c5) wv := deps_at hD 5 rfl (by kernel_rfl) rfl rfl
                obtain ⟨A6, n6, c6, e6, h1, h2, h3, h4⟩ := hsl
                exact ⟨A6, n6, c6, by rw [e6], h1, h2, h3, h4⟩
              simp only [Act.put, List.setIfInBounds_toArray, List.set_cons_succ, List.set_cons_zero]
              refine dw_new #[.int .i64 r.id, .slice A5 n5 c5] 61 104 (RBoxSlot (Mut M ([.cst wr.heap.size 61 #[.int .i64 r.id, .slice r.A r.n r.c], .ro (PrsIn (some ⟨b5, o5, none⟩) (k' + 1) (u :: ut)), .own 61 2 (.slice O q cap) q (rwCells outs), .ro (ValsIn outs), .ro (SlR 4 A2 n2 (colCells cs)), .blk go 40 #[.string nm, .slice A2 n2 c2, .int .i64 (nx + (ni : Int)), .slice O q cap], .blk (w.heap.size + 1 + 1) 40 #[.string ⟨#[]⟩, .slice none 0 0, .int .i64 0, .slice none 0 0], .cst (w.heap.size + 1) 54 #[.slice I ni ci, .slice D nd cd, .slice U nu cu], .cst w.heap.size 40 #[.string nm, .slice A n c, .int .i64 nx, .slice (some ⟨b, o, none⟩) m d], .ro (SlR 4 A n (colCells cs)), .ro (RwsIn (some ⟨b, o, none⟩) m l), .ro (SlsIn I ni ins), .ro (IsIn D nd dels), .ro (PrsIn U nu us)])) r.id r.vs) (fun g => .slice (some ⟨g, 0, none⟩) 1 1) rfl rfl rfl rfl (fun wv => ?_) (fun wv HC _hrm hD hro => ?_) ?_
              · go_simp <;> rfl
              · have hsl : RowSlot (Mut M ([.cst wr.heap.size 61 #[.int .i64 r.id, .slice r.A r.n r.c], .ro (PrsIn (some ⟨b5, o5, none⟩) (k' + 1) (u :: ut)), .own 61 2 (.slice O q cap) q (rwCells outs), .ro (ValsIn outs), .ro (SlR 4 A2 n2 (colCells cs)), .blk go 40 #[.string nm, .slice A2 n2 c2, .int .i64 (nx + (ni : Int)), .slice O q cap], .blk (w.heap.size + 1 + 1) 40 #[.string ⟨#[]⟩, .slice none 0 0, .int .i64 0, .slice none 0 0], .cst (w.heap.size + 1) 54 #[.slice I ni ci, .slice D nd cd, .slice U nu cu], .cst w.heap.size 40 #[.string nm, .slice A n c, .int .i64 nx, .slice (some ⟨b, o, none⟩) m d], .ro (SlR 4 A n (colCells cs)), .ro (RwsIn (some ⟨b, o, none⟩) m l), .ro (SlsIn I ni ins), .ro (IsIn D nd dels), .ro (PrsIn U nu us)])) r.id r.vs (.agg #[.int .i64 r.id, .slice A5 n5 c5]) wv := deps_at hD 6 rfl (by kernel_rfl) rfl rfl
                obtain ⟨A6, n6, c6, e6, h1, h2, h3, h4⟩ := hsl
                obtain ⟨rfl, rfl, rfl⟩ : A5 = A6 ∧ n5 = n6 ∧ c5 = c6 := by
                  injection e6 with e6
                  simp at e6
                  exact e6
                exact ⟨_, A5, n5, c5, rfl, h1, h2, h3, h4.step (by simp) (fun b hb _ => Below.heap_alloc wv _ b hb) (fun _ _ h => h), ro_block (hro _ HC.mutLt) rfl⟩
              rintro g2 wg HCg hsl
              simp only [Act.put, List.setIfInBounds_toArray, List.set_cons_succ, List.set_cons_zero]
              clear hsl HCg
              refine rel_nil ?_
              rintro wx2 HX
              rintro _hrm HGW
              have hb2 : RBoxSlot (Mut M ([.cst wr.heap.size 61 #[.int .i64 r.id, .slice r.A r.n r.c], .ro (PrsIn (some ⟨b5, o5, none⟩) (k' + 1) (u :: ut)), .own 61 2 (.slice O q cap) q (rwCells outs), .ro (ValsIn outs), .ro (SlR 4 A2 n2 (colCells cs)), .blk go 40 #[.string nm, .slice A2 n2 c2, .int .i64 (nx + (ni : Int)), .slice O q cap], .blk (w.heap.size + 1 + 1) 40 #[.string ⟨#[]⟩, .slice none 0 0, .int .i64 0, .slice none 0 0], .cst (w.heap.size + 1) 54 #[.slice I ni ci, .slice D nd cd, .slice U nu cu], .cst w.heap.size 40 #[.string nm, .slice A n c, .int .i64 nx, .slice (some ⟨b, o, none⟩) m d], .ro (SlR 4 A n (colCells cs)), .ro (RwsIn (some ⟨b, o, none⟩) m l), .ro (SlsIn I ni ins), .ro (IsIn D nd dels), .ro (PrsIn U nu us)])) r.id r.vs (.slice (some ⟨g2, 0, none⟩) 1 1) wx2 := (GW_on (d := 104) rfl).1 (HGW 7 _ rfl (by omega))
              clear HGW
              obtain ⟨g3, A6, n6, c6, e6, k0, k1, k2, k3, k4⟩ := hb2
              obtain rfl : g2 = g3 := by injection e6 with e6; injection e6 with e6; injection e6
              clear e6
              have k5 := hid k4.now
              clear k4
              have HRS := hid (show rwCells outs ++ [.int .i64 r.id, .slice A6 n6 c6] = rwCells (outs ++ [⟨r.id, A6, n6, c6, r.vs⟩]) from rwCells_snoc1 _ _ _ _ _ _)
              have KA := HX.add k3
              clear HX
              go_wp2_with (at_builtin; go_must (refine wpList_appAllH KA 3 rfl Tryd.elRw k5.out rfl (.tmp 98) (.tmp 104) rfl rfl rfl (by intro z hz; simp at hz; rcases hz with rfl | rfl <;> rfl) (by omega) (by omega) ?_); intro C' cap' w6 hc6 hm6 KB; rw [HRS.out] at KB; simp only [List.set_cons_zero, List.set_cons_succ] at KB; (have F3 := KB.facts); simp only [World.size_alloc, World.size_drew, factsL, cellsF, Nat.reduceAdd, List.toList_toArray, List.set_cons_zero, List.set_cons_succ, List.setIfInBounds_toArray, and_true, true_and] at F3)
              have KC := KB.store 6 rfl 3 (.slice C' (q + 1) cap')
              have KD := KC.swapRo 4 rfl (vals_snoc (r := ⟨r.id, A6, n6, c6, r.vs⟩) (KC.ro 4 rfl) (KC.ro 0 rfl))
              have KE := KD
              simp only [cellsF, List.set_cons_zero, List.set_cons_succ, List.setIfInBounds_toArray] at KE
              have HGN := hid (show goR dels (l.map Rw.row) (us.map Pr.upd) = List.map Rw.row (outs ++ [⟨r.id, A6, n6, c6, r.vs⟩]) ++ goR dels ((l.map Rw.row).drop (j + 1)) ((u :: ut).map Pr.upd) by
                rw [List.map_append, List.append_assoc]
                exact HG.out.trans (congrArg (outs.map Rw.row ++ ·) HN.out))
              go_roundw
              case rel => exact ⟨j + 1, q + 1, cap', k' + 1, ck, _, _, _, u :: ut, by omega, by go_num, rfl, by omega, hkc, hck, by intro x hx; rcases List.mem_append.1 hx with hx | hx; (exact hoo x hx); (simp at hx; subst hx; exact ⟨hrok.id, k1, k2, hrok.vs⟩), hov, HGN, (KE.drop (List.sublist_cons_self _ _)).drop (List.sublist_cons_self _ _)⟩
              case measure => simp [intOf]; omega
        · have HN := hid (show goR dels (l.map Rw.row) (us.map Pr.upd) = outs.map Rw.row ++ goR dels ((l.map Rw.row).drop (j + 1)) (vs.map Pr.upd) by rw [HG.out, goR_skip HX.out hct])
          go_wp2_with fail
          go_roundw
          case rel => exact ⟨j + 1, q, cap, k, ck, O, V, outs, vs, by omega, by go_num, rfl, by omega, hkc, hck, hoo, hov, HN, K1.drop (List.sublist_cons_self _ _)⟩
          case measure => simp [intOf]; omega
      · obtain rfl : j = m := by omega
        have hdd : decide ((j : Int) < (j : Int)) = false := by simp
        have HGF := hid (show goR dels (l.map Rw.row) (us.map Pr.upd) = outs.map Rw.row ++ insR nx ((ins.map Sl.vs).take 0) by rw [HG.out, goR_end (by rw [List.length_map, HRL.out]; exact Nat.le_refl _)]; rfl)
        have hni2 : ni ≤ 2147483647 := by have := HBIG.out; omega
        have hnin : (ni : Int) ≤ 2147483648 - nx := by have := HBIG.out; omega
        have F1 := H.facts
        simp only [World.size_alloc, World.size_drew, factsL, cellsF, Nat.reduceAdd, List.toList_toArray, List.set_cons_zero, List.set_cons_succ, List.setIfInBounds_toArray, and_true, true_and] at F1
        go_wp2_with fail
        have H2 := H.drop (List.sublist_cons_self _ _)
        clear H F1
        go_loopw [111] (fun iv wr => ∃ (k q cap : Nat) (O : Option Addr) (outs : List Rw), k ≤ ni ∧ iv = .int .i64 k ∧ q ≤ j + k ∧ (∀ r ∈ outs, r.ok) ∧ Hid (outs.map Rw.row = goR dels (l.map Rw.row) (us.map Pr.upd) ++ insR nx ((ins.map Sl.vs).take k)) ∧ Hold M none w wr [.own 61 2 (.slice O q cap) q (rwCells outs), .ro (ValsIn outs), .ro (SlR 4 A2 n2 (colCells cs)), .blk go 40 #[.string nm, .slice A2 n2 c2, .int .i64 (nx + (ni : Int)), .slice O q cap], .blk (w.heap.size + 1 + 1) 40 #[.string ⟨#[]⟩, .slice none 0 0, .int .i64 0, .slice none 0 0], .cst (w.heap.size + 1) 54 #[.slice I ni ci, .slice D nd cd, .slice U nu cu], .cst w.heap.size 40 #[.string nm, .slice A n c, .int .i64 nx, .slice B j d], .ro (SlR 4 A n (colCells cs)), .ro (RwsIn B j l), .ro (SlsIn I ni ins), .ro (IsIn D nd dels), .ro (PrsIn U nu us)]) (fun iv _ => ni - (intOf iv).toNat)
        case atStart => exact ⟨0, q, cap, O, outs, by omega, rfl, by omega, hoo, hid (by rw [HGF.out]; simp [insR]), H2⟩
        case round =>
          clear H2
          obtain ⟨k, q, cap, O, outs, hk, rfl, hq, hoo, HG2, H⟩ := hrel
          by_cases hlt2 : k < ni
          · have hdd2 : decide ((k : Int) < (ni : Int)) = true := by simp; omega
            have k0 : (0 : Int) ≤ (k : Int) := by omega
            have k1 : (k : Int) < (ni : Int) := by omega
            obtain ⟨s, hx⟩ := get_of HIL.out hlt2
            obtain ⟨bi, oi, rfl, hb, c0, _⟩ := (H.ro 9 rfl).now.at_ hx
            have HXI := hid (show (ins.map Sl.vs)[k]? = some s.vs by simp [hx])
            have HSM := hid (List.mem_of_getElem? hx)
            have hsok := HI6.out s HSM.out
            clear hx
            have F2 := H.facts
            simp only [World.size_alloc, World.size_drew, factsL, cellsF, Nat.reduceAdd, List.toList_toArray, List.set_cons_zero, List.set_cons_succ, List.setIfInBounds_toArray, and_true, true_and] at F2
            have hwk : IntKind.i64.wrap (nx + (k : Int)) = nx + (k : Int) := by rw [IntKind.wrap_i64]; omega
            go_wp2_with fail
            refine wp_region_any (by kernel_rfl) ?_
            refine wpAny_hold 10 133 ([.own 61 2 (.slice O q cap) q (rwCells outs), .ro (ValsIn outs), .ro (SlR 4 A2 n2 (colCells cs)), .blk go 40 #[.string nm, .slice A2 n2 c2, .int .i64 (nx + (ni : Int)), .slice O q cap], .blk (w.heap.size + 1 + 1) 40 #[.string ⟨#[]⟩, .slice none 0 0, .int .i64 0, .slice none 0 0], .cst (w.heap.size + 1) 54 #[.slice (some ⟨bi, oi, none⟩) ni ci, .slice D nd cd, .slice U nu cu], .cst w.heap.size 40 #[.string nm, .slice A n c, .int .i64 nx, .slice B j d], .ro (SlR 4 A n (colCells cs)), .ro (RwsIn B j l), .ro (SlsIn (some ⟨bi, oi, none⟩) ni ins), .ro (IsIn D nd dels), .ro (PrsIn U nu us)]) (spL [(123, VlsSlot (Mut M ([.own 61 2 (.slice O q cap) q (rwCells outs), .ro (ValsIn outs), .ro (SlR 4 A2 n2 (colCells cs)), .blk go 40 #[.string nm, .slice A2 n2 c2, .int .i64 (nx + (ni : Int)), .slice O q cap], .blk (w.heap.size + 1 + 1) 40 #[.string ⟨#[]⟩, .slice none 0 0, .int .i64 0, .slice none 0 0], .cst (w.heap.size + 1) 54 #[.slice (some ⟨bi, oi, none⟩) ni ci, .slice D nd cd, .slice U nu cu], .cst w.heap.size 40 #[.string nm, .slice A n c, .int .i64 nx, .slice B j d], .ro (SlR 4 A n (colCells cs)), .ro (RwsIn B j l), .ro (SlsIn (some ⟨bi, oi, none⟩) ni ins), .ro (IsIn D nd dels), .ro (PrsIn U nu us)])) s.vs), (124, RowSlot (Mut M ([.own 61 2 (.slice O q cap) q (rwCells outs), .ro (ValsIn outs), .ro (SlR 4 A2 n2 (colCells cs)), .blk go 40 #[.string nm, .slice A2 n2 c2, .int .i64 (nx + (ni : Int)), .slice O q cap], .blk (w.heap.size + 1 + 1) 40 #[.string ⟨#[]⟩, .slice none 0 0, .int .i64 0, .slice none 0 0], .cst (w.heap.size + 1) 54 #[.slice (some ⟨bi, oi, none⟩) ni ci, .slice D nd cd, .slice U nu cu], .cst w.heap.size 40 #[.string nm, .slice A n c, .int .i64 nx, .slice B j d], .ro (SlR 4 A n (colCells cs)), .ro (RwsIn B j l), .ro (SlsIn (some ⟨bi, oi, none⟩) ni ins), .ro (IsIn D nd dels), .ro (PrsIn U nu us)])) (nx + (k : Int)) s.vs), (125, RBoxSlot (Mut M ([.own 61 2 (.slice O q cap) q (rwCells outs), .ro (ValsIn outs), .ro (SlR 4 A2 n2 (colCells cs)), .blk go 40 #[.string nm, .slice A2 n2 c2, .int .i64 (nx + (ni : Int)), .slice O q cap], .blk (w.heap.size + 1 + 1) 40 #[.string ⟨#[]⟩, .slice none 0 0, .int .i64 0, .slice none 0 0], .cst (w.heap.size + 1) 54 #[.slice (some ⟨bi, oi, none⟩) ni ci, .slice D nd cd, .slice U nu cu], .cst w.heap.size 40 #[.string nm, .slice A n c, .int .i64 nx, .slice B j d], .ro (SlR 4 A n (colCells cs)), .ro (RwsIn B j l), .ro (SlsIn (some ⟨bi, oi, none⟩) ni ins), .ro (IsIn D nd dels), .ro (PrsIn U nu us)])) (nx + (k : Int)) s.vs)]) (by kernel_rfl) (by kernel_rfl) (by kernel_rfl) rfl ?_ (H.drew) ?_
            · exact stays_cons vlsSlot_mono (stays_cons rowSlot_mono (stays_cons rboxSlot_mono (stays_nil _)))
            simp only [List.take_succ_cons, List.take_zero, List.drop_succ_cons, List.drop_zero, Act.put, List.getElem_toArray, List.getElem_cons_zero, List.getElem_cons_succ, List.setIfInBounds_toArray, List.set_cons_succ, List.set_cons_zero]
            refine dw_val rfl rfl rfl ?_; apply Exists.intro; refine ⟨fun wv HC => ?_, ?_⟩
            ·  go_simp <;> rfl
            simp only [Act.put, List.setIfInBounds_toArray, List.set_cons_succ, List.set_cons_zero]
            refine dw_val rfl rfl rfl ?_; apply Exists.intro; refine ⟨fun wv HC => ?_, ?_⟩
            · have FC := HC.facts; simp only [factsL, cellsF, Nat.reduceAdd, List.toList_toArray, and_true, true_and] at FC; go_simp <;> rfl
            simp only [Act.put, List.setIfInBounds_toArray, List.set_cons_succ, List.set_cons_zero]
            refine dw_val rfl rfl rfl ?_; apply Exists.intro; refine ⟨fun wv HC => ?_, ?_⟩
            ·  go_simp <;> rfl
            simp only [Act.put, List.setIfInBounds_toArray, List.set_cons_succ, List.set_cons_zero]
            refine dw_val rfl rfl rfl ?_; apply Exists.intro; refine ⟨fun wv HC => ?_, ?_⟩
            · have FC := HC.facts; simp only [factsL, cellsF, Nat.reduceAdd, List.toList_toArray, and_true, true_and] at FC; go_simp <;> rfl
            simp only [Act.put, List.setIfInBounds_toArray, List.set_cons_succ, List.set_cons_zero]
            refine dw_val rfl rfl rfl ?_; apply Exists.intro; refine ⟨fun wv HC => ?_, ?_⟩
            ·  go_simp <;> rfl
            simp only [Act.put, List.setIfInBounds_toArray, List.set_cons_succ, List.set_cons_zero]
            refine dw_val rfl rfl rfl ?_; apply Exists.intro; refine ⟨fun wv HC => ?_, ?_⟩
            ·  go_simp <;> rfl
            simp only [Act.put, List.setIfInBounds_toArray, List.set_cons_succ, List.set_cons_zero]
            refine dw_val rfl rfl rfl ?_; apply Exists.intro; refine ⟨fun wv HC => ?_, ?_⟩
            ·  go_simp <;> rfl
            simp only [Act.put, List.setIfInBounds_toArray, List.set_cons_succ, List.set_cons_zero]
            refine dw_callR 123 (VlsSlot (Mut M ([.own 61 2 (.slice O q cap) q (rwCells outs), .ro (ValsIn outs), .ro (SlR 4 A2 n2 (colCells cs)), .blk go 40 #[.string nm, .slice A2 n2 c2, .int .i64 (nx + (ni : Int)), .slice O q cap], .blk (w.heap.size + 1 + 1) 40 #[.string ⟨#[]⟩, .slice none 0 0, .int .i64 0, .slice none 0 0], .cst (w.heap.size + 1) 54 #[.slice (some ⟨bi, oi, none⟩) ni ci, .slice D nd cd, .slice U nu cu], .cst w.heap.size 40 #[.string nm, .slice A n c, .int .i64 nx, .slice B j d], .ro (SlR 4 A n (colCells cs)), .ro (RwsIn B j l), .ro (SlsIn (some ⟨bi, oi, none⟩) ni ins), .ro (IsIn D nd dels), .ro (PrsIn U nu us)])) s.vs) (f := 45) (args := #[.slice s.A s.n s.c]) rfl rfl rfl rfl (fun wv => ?_) (fun wv HC hr8 hD => ?_) ?_
            · go_simp <;> rfl
            · refine (cloneVls_any _ wv HC.mutLt s.A s.n s.c s.vs ((HC.ro 9 rfl).imp fun w2 h2 => h2.2 s HSM.out) (by have := hsok.2; omega)).mono ?_
              rintro e w5 ⟨A5, n5, c5, rfl, h50, h51, h52, h53, b5⟩
              exact ⟨_, rfl, ⟨A5, n5, c5, rfl, h50, h51, h52, h53⟩, HC.call b5, RM.below b5⟩
            rintro x wx HCx ⟨A5, n5, c5, rfl, h50, h51, h52, h53⟩
            simp only [Act.put, List.setIfInBounds_toArray, List.set_cons_succ, List.set_cons_zero]
            clear HCx h53
            refine dw_valC 124 (RowSlot (Mut M ([.own 61 2 (.slice O q cap) q (rwCells outs), .ro (ValsIn outs), .ro (SlR 4 A2 n2 (colCells cs)), .blk go 40 #[.string nm, .slice A2 n2 c2, .int .i64 (nx + (ni : Int)), .slice O q cap], .blk (w.heap.size + 1 + 1) 40 #[.string ⟨#[]⟩, .slice none 0 0, .int .i64 0, .slice none 0 0], .cst (w.heap.size + 1) 54 #[.slice (some ⟨bi, oi, none⟩) ni ci, .slice D nd cd, .slice U nu cu], .cst w.heap.size 40 #[.string nm, .slice A n c, .int .i64 nx, .slice B j d], .ro (SlR 4 A n (colCells cs)), .ro (RwsIn B j l), .ro (SlsIn (some ⟨bi, oi, none⟩) ni ins), .ro (IsIn D nd dels), .ro (PrsIn U nu us)])) (nx + (k : Int)) s.vs) rfl rfl rfl rfl (.agg #[.int .i64 (nx + (k : Int)), .slice A5 n5 c5]) (fun wv HC => ?_) (fun wv HC hD => ?_) ?_
            · go_simp <;> rfl
            · have hsl : VlsSlot (Mut M ([.own 61 2 (.slice O q cap) q (rwCells outs), .ro (ValsIn outs), .ro (SlR 4 A2 n2 (colCells cs)), .blk go 40 #[.string nm, .slice A2 n2 c2, .int .i64 (nx + (ni : Int)), .slice O q cap], .blk (w.heap.size + 1 + 1) 40 #[.string ⟨#[]⟩, .slice none 0 0, .int .i64 0, .slice none 0 0], .cst (w.heap.size + 1) 54 #[.slice (some ⟨bi, oi, none⟩) ni ci, .slice D nd cd, .slice U nu cu], .cst w.heap.size 40 #[.string nm, .slice A n c, .int .i64 nx, .slice B j d], .ro (SlR 4 A n (colCells cs)), .ro (RwsIn B j l), .ro (SlsIn (some ⟨bi, oi, none⟩) ni ins), .ro (IsIn D nd dels), .ro (PrsIn U nu us)])) s.vs (.slice A5 n5 c5) wv := deps_at hD 7 rfl (by kernel_rfl) rfl rfl
              obtain ⟨A6, n6, c6, e6, h1, h2, h3, h4⟩ := hsl
              exact ⟨A6, n6, c6, by rw [e6], h1, h2, h3, h4⟩
            simp only [Act.put, List.setIfInBounds_toArray, List.set_cons_succ, List.set_cons_zero]
            refine dw_new #[.int .i64 (nx + (k : Int)), .slice A5 n5 c5] 61 125 (RBoxSlot (Mut M ([.own 61 2 (.slice O q cap) q (rwCells outs), .ro (ValsIn outs), .ro (SlR 4 A2 n2 (colCells cs)), .blk go 40 #[.string nm, .slice A2 n2 c2, .int .i64 (nx + (ni : Int)), .slice O q cap], .blk (w.heap.size + 1 + 1) 40 #[.string ⟨#[]⟩, .slice none 0 0, .int .i64 0, .slice none 0 0], .cst (w.heap.size + 1) 54 #[.slice (some ⟨bi, oi, none⟩) ni ci, .slice D nd cd, .slice U nu cu], .cst w.heap.size 40 #[.string nm, .slice A n c, .int .i64 nx, .slice B j d], .ro (SlR 4 A n (colCells cs)), .ro (RwsIn B j l), .ro (SlsIn (some ⟨bi, oi, none⟩) ni ins), .ro (IsIn D nd dels), .ro (PrsIn U nu us)])) (nx + (k : Int)) s.vs) (fun g => .slice (some ⟨g, 0, none⟩) 1 1) rfl rfl rfl rfl (fun wv => ?_) (fun wv HC _hrm hD hro => ?_) ?_
            · go_simp <;> rfl
            · have hsl : RowSlot (Mut M ([.own 61 2 (.slice O q cap) q (rwCells outs), .ro (ValsIn outs), .ro (SlR 4 A2 n2 (colCells cs)), .blk go 40 #[.string nm, .slice A2 n2 c2, .int .i64 (nx + (ni : Int)), .slice O q cap], .blk (w.heap.size + 1 + 1) 40 #[.string ⟨#[]⟩, .slice none 0 0, .int .i64 0, .slice none 0 0], .cst (w.heap.size + 1) 54 #[.slice (some ⟨bi, oi, none⟩) ni ci, .slice D nd cd, .slice U nu cu], .cst w.heap.size 40 #[.string nm, .slice A n c, .int .i64 nx, .slice B j d], .ro (SlR 4 A n (colCells cs)), .ro (RwsIn B j l), .ro (SlsIn (some ⟨bi, oi, none⟩) ni ins), .ro (IsIn D nd dels), .ro (PrsIn U nu us)])) (nx + (k : Int)) s.vs (.agg #[.int .i64 (nx + (k : Int)), .slice A5 n5 c5]) wv := deps_at hD 8 rfl (by kernel_rfl) rfl rfl
              obtain ⟨A6, n6, c6, e6, h1, h2, h3, h4⟩ := hsl
              obtain ⟨rfl, rfl, rfl⟩ : A5 = A6 ∧ n5 = n6 ∧ c5 = c6 := by
                injection e6 with e6
                simp at e6
                exact e6
              exact ⟨_, A5, n5, c5, rfl, h1, h2, h3, h4.step (by simp) (fun b hb _ => Below.heap_alloc wv _ b hb) (fun _ _ h => h), ro_block (hro _ HC.mutLt) rfl⟩
            rintro g2 wg HCg hsl
            simp only [Act.put, List.setIfInBounds_toArray, List.set_cons_succ, List.set_cons_zero]
            clear hsl HCg
            refine rel_nil ?_
            rintro wx2 HX
            rintro _hrm HGW
            have hb2 : RBoxSlot (Mut M ([.own 61 2 (.slice O q cap) q (rwCells outs), .ro (ValsIn outs), .ro (SlR 4 A2 n2 (colCells cs)), .blk go 40 #[.string nm, .slice A2 n2 c2, .int .i64 (nx + (ni : Int)), .slice O q cap], .blk (w.heap.size + 1 + 1) 40 #[.string ⟨#[]⟩, .slice none 0 0, .int .i64 0, .slice none 0 0], .cst (w.heap.size + 1) 54 #[.slice (some ⟨bi, oi, none⟩) ni ci, .slice D nd cd, .slice U nu cu], .cst w.heap.size 40 #[.string nm, .slice A n c, .int .i64 nx, .slice B j d], .ro (SlR 4 A n (colCells cs)), .ro (RwsIn B j l), .ro (SlsIn (some ⟨bi, oi, none⟩) ni ins), .ro (IsIn D nd dels), .ro (PrsIn U nu us)])) (nx + (k : Int)) s.vs (.slice (some ⟨g2, 0, none⟩) 1 1) wx2 := (GW_on (d := 125) rfl).1 (HGW 9 _ rfl (by omega))
            clear HGW
            obtain ⟨g3, A6, n6, c6, e6, x0, x1, x2, x3, x4⟩ := hb2
            obtain rfl : g2 = g3 := by injection e6 with e6; injection e6 with e6; injection e6
            clear e6
            have k5 := hid x4.now
            clear x4
            have HRS := hid (show rwCells outs ++ [.int .i64 (nx + (k : Int)), .slice A6 n6 c6] = rwCells (outs ++ [⟨nx + (k : Int), A6, n6, c6, s.vs⟩]) from rwCells_snoc1 _ _ _ _ _ _)
            have KA := HX.add x3
            clear HX
            go_wp2_with (at_builtin; go_must (refine wpList_appAllH KA 1 rfl Tryd.elRw k5.out rfl (.tmp 117) (.tmp 125) rfl rfl rfl (by intro z hz; simp at hz; rcases hz with rfl | rfl <;> rfl) (by omega) (by omega) ?_); intro C' cap' w6 hc6 hm6 KB; rw [HRS.out] at KB; simp only [List.set_cons_zero, List.set_cons_succ] at KB; (have F3 := KB.facts); simp only [World.size_alloc, World.size_drew, factsL, cellsF, Nat.reduceAdd, List.toList_toArray, List.set_cons_zero, List.set_cons_succ, List.setIfInBounds_toArray, and_true, true_and] at F3)
            have KC := KB.store 4 rfl 3 (.slice C' (q + 1) cap')
            have KE := KC.swapRo 2 rfl (vals_snoc (r := ⟨nx + (k : Int), A6, n6, c6, s.vs⟩) (KC.ro 2 rfl) (KC.ro 0 rfl))
            simp only [cellsF, List.set_cons_zero, List.set_cons_succ, List.setIfInBounds_toArray] at KE
            have HGN := hid (show List.map Rw.row (outs ++ [⟨nx + (k : Int), A6, n6, c6, s.vs⟩]) = goR dels (l.map Rw.row) (us.map Pr.upd) ++ insR nx ((ins.map Sl.vs).take (k + 1)) by
              rw [List.map_append, HG2.out, insR_snoc HXI.out, List.append_assoc]; rfl)
            go_roundw
            case rel => exact ⟨k + 1, q + 1, cap', _, _, by omega, by go_num, by omega, by intro x hx; rcases List.mem_append.1 hx with hx | hx; (exact hoo x hx); (simp at hx; subst hx; exact ⟨⟨by show _ ≤ nx + (k : Int); omega, by show nx + (k : Int) ≤ _; omega⟩, x1, x2, hsok.1.vs⟩), HGN, KE.drop (List.sublist_cons_self _ _)⟩
            case measure => simp [intOf]; omega
          · obtain rfl : k = ni := by omega
            have hdd2 : decide ((k : Int) < (k : Int)) = false := by simp
            have HOR := hid (show outs.map Rw.row = outR nx (l.map Rw.row) (ins.map Sl.vs) dels (us.map Pr.upd) by rw [HG2.out, List.take_of_length_le (by rw [List.length_map, HIL.out]; exact Nat.le_refl _)]; rfl)
            have hcq := own_caps (H.get 0 rfl)
            have KS := H.sealRow 0 rfl
            simp only [List.set_cons_zero] at KS
            clear H
            have F2 := KS.facts
            simp only [World.size_alloc, World.size_drew, factsL, cellsF, Nat.reduceAdd, List.toList_toArray, List.set_cons_zero, List.set_cons_succ, List.setIfInBounds_toArray, and_true, true_and] at F2
            go_wp2_with fail
            have hRW : Ro _ (Mut M _) (RwsIn O q outs) := (KS.ro 0 rfl).and (KS.ro 1 rfl)
            refine (dup_any _ _ KS.mutLt nm A2 n2 c2 cs (nx + (k : Int)) O q cap outs (KS.ro 2 rfl) hRW (by omega) (by omega) hoo).mono ?_
            rintro e w8 ⟨rfl, b8⟩
            have K8 := KS.call b8
            clear KS b8 F2 hRW
            have F8 := K8.facts
            simp only [World.size_alloc, World.size_drew, factsL, cellsF, Nat.reduceAdd, List.toList_toArray, List.set_cons_zero, List.set_cons_succ, List.setIfInBounds_toArray, and_true, true_and] at F8
            cases hdb : dupB cs (outs.map Rw.row)
            · have HN := hid (show applyC nm cs nx (l.map Rw.row) (ins.map Sl.vs) dels (us.map Pr.upd) = (0, ⟨nm, cs, nx + (k : Int), outs.map Rw.row⟩) by
                unfold applyC; rw [HCB.out, HFE.out, if_neg (by simp), if_neg (by rw [HFZ.out]; simp), if_neg (by simp only [List.length_map]; have := HRL.out; have := HIL.out; have := HDL.out; rw [HRL.out, HIL.out, HDL.out]; exact HBIG.out), ← HOR.out, if_neg (by rw [hdb]; simp), List.length_map, HIL.out])
              clear hdb
              have KN := (((K8.store 4 rfl 0 (.string nm)).store 4 rfl 1 (.slice A2 n2 c2)).store 4 rfl 2 (.int .i64 (nx + (k : Int)))).store 4 rfl 3 (.slice O q cap)
              go_wp2_with fail
              exact bodyPost_ret (v := .tuple #[.agg #[.string nm, .slice A2 n2 c2, .int .i64 (nx + (k : Int)), .slice O q cap], .int .i64 0]) (by simp [results, Tryd.results62, go_sem, F8]) rfl ⟨_, by rw [HN.out], by rw [HN.out]; exact ⟨A2, n2, c2, O, q, cap, outs, rfl, hc2, hc22, hcq.1, hcq.2.1, KN.roOut 2 rfl, (KN.roOut 0 rfl).and (KN.roOut 1 rfl), hoo, rfl⟩, KN.below⟩
            · have HN := hid (show applyC nm cs nx (l.map Rw.row) (ins.map Sl.vs) dels (us.map Pr.upd) = (9, zeroT) by
                unfold applyC; rw [HCB.out, HFE.out, if_neg (by simp), if_neg (by rw [HFZ.out]; simp), if_neg (by simp only [List.length_map]; rw [HRL.out, HIL.out, HDL.out]; exact HBIG.out), ← HOR.out, if_pos hdb])
              clear hdb
              have KN := (((K8.store 4 rfl 0 (.string ⟨#[]⟩)).store 4 rfl 1 (.slice none 0 0)).store 4 rfl 2 (.int .i64 0)).store 4 rfl 3 (.slice none 0 0)
              go_wp2_with fail
              exact bodyPost_ret (v := .tuple #[.agg #[.string ⟨#[]⟩, .slice none 0 0, .int .i64 0, .slice none 0 0], .int .i64 9]) (by simp [results, Tryd.results62, go_sem, F8]) rfl ⟨_, by rw [HN.out], by rw [HN.out]; exact tbAt_zero, KN.below⟩
  · have hfzd : (fitsC cs (us.map Pr.new) (ins.map Sl.vs) != 0) = true := by simp [hfz]
    have HN := hid (show applyC nm cs nx (l.map Rw.row) (ins.map Sl.vs) dels (us.map Pr.upd) = (fitsC cs (us.map Pr.new) (ins.map Sl.vs), zeroT) by unfold applyC; rw [HCB.out, HFE.out, if_neg (by simp), if_pos hfz])
    clear hfz
    have KN := (((K2.store 0 rfl 0 (.string ⟨#[]⟩)).store 0 rfl 1 (.slice none 0 0)).store 0 rfl 2 (.int .i64 0)).store 0 rfl 3 (.slice none 0 0)
    go_wp2_with fail
    exact bodyPost_ret (v := .tuple #[.agg #[.string ⟨#[]⟩, .slice none 0 0, .int .i64 0, .slice none 0 0], .int .i64 (fitsC cs (us.map Pr.new) (ins.map Sl.vs))]) (by simp [results, Tryd.results62, go_sem, F2]) rfl ⟨_, by rw [HN.out], by rw [HN.out]; exact tbAt_zero, KN.below⟩
end Go.Proofs.YtljmclbedpceoaaDoor

namespace Go.Proofs.YtljmclbedpceoaaDoor
open Go.RowKit
set_option linter.unusedVariables false
set_option linter.unusedSimpArgs false

/-- the values that the updates ask for -/
def wantR (us : List Upd) (id : Int) (v : List Vl) : List Vl := us.foldl (fun acc p => if p.1 = id then p.2.2 else acc) v
theorem wantR_cons (u : Upd) (us : List Upd) (id : Int) (v : List Vl) : wantR (u :: us) id v = wantR us id (if u.1 = id then u.2.2 else v) := rfl
theorem wantR_none : ∀ {us : List Upd} {id : Int} {v : List Vl}, (∀ u ∈ us, u.1 ≠ id) → wantR us id v = v
  | [], _, _, _ => rfl
  | u :: us, id, v, h => by
    rw [wantR_cons, if_neg (h u (List.mem_cons_self ..))]
    exact wantR_none fun x hx => h x (List.mem_cons_of_mem _ hx)
def keepR (dels : List Int) (us : List Upd) (rs : List Row) : List Row := (rs.filter fun r => !dels.contains r.1).map fun r => (r.1, wantR us r.1 r.2)
theorem okR_asc {cs : List Col} {nx : Int} : ∀ {lst : Int} {rs : List Row}, okR cs nx lst rs = true → (rs.map (·.1)).Pairwise (· < ·) ∧ ∀ r ∈ rs, lst < r.1 ∧ r.1 < nx
  | _, [], _ => ⟨List.Pairwise.nil, fun _ h => nomatch h⟩
  | lst, r :: rs, h => by
    rw [okR] at h
    simp only [Bool.and_eq_true, decide_eq_true_eq] at h
    obtain ⟨h1, h2⟩ := okR_asc h.2
    refine ⟨?_, fun x hx => ?_⟩
    · rw [List.map_cons, List.pairwise_cons]
      refine ⟨fun a ha => ?_, h1⟩
      obtain ⟨x, hx, rfl⟩ := List.mem_map.1 ha
      exact (h2 x hx).1
    · rcases List.mem_cons.1 hx with rfl | hx
      · exact ⟨h.1.1.1, h.1.1.2⟩
      · exact ⟨Int.lt_trans h.1.1.1 (h2 x hx).1, (h2 x hx).2⟩
theorem rowsK_spec {rs : List Row} {gone : List Int} : ∀ {ids : List Int} {last : Option Int}, rowsK rs gone last ids = true → ids.Pairwise (· < ·) ∧ ∀ id ∈ ids, (getR rs id).isSome = true ∧ gone.contains id = false ∧ ∀ p, last = some p → p < id
  | [], _, _ => ⟨List.Pairwise.nil, fun _ h => nomatch h⟩
  | id :: ids, last, h => by
    rw [rowsK] at h
    simp only [Bool.and_eq_true, Bool.not_eq_true'] at h
    obtain ⟨⟨⟨h1, h2⟩, h3⟩, h4⟩ := h
    obtain ⟨i1, i2⟩ := rowsK_spec h4
    have hl : ∀ p, last = some p → p < id := fun p hp => by
      rw [hp] at h2
      simp only [Option.any_some, decide_eq_false_iff_not] at h2
      omega
    refine ⟨List.pairwise_cons.2 ⟨fun a ha => (i2 a ha).2.2 id rfl, i1⟩, fun x hx => ?_⟩
    rcases List.mem_cons.1 hx with rfl | hx
    · exact ⟨h1, h3, hl⟩
    · exact ⟨(i2 x hx).1, (i2 x hx).2.1, fun p hp => Int.lt_trans (hl p hp) ((i2 x hx).2.2 id rfl)⟩
theorem getR_some {rs : List Row} {id : Int} (h : (getR rs id).isSome = true) : id ∈ rs.map (·.1) := by
  unfold getR at h
  rw [Option.isSome_map] at h
  obtain ⟨r, hr⟩ := Option.isSome_iff_exists.1 h
  have h1 := List.find?_some hr
  have h2 := List.mem_of_find?_eq_some hr
  exact List.mem_map.2 ⟨r, h2, by simpa using h1⟩
theorem goR_eq {dels : List Int} : ∀ (rs : List Row) (us : List Upd), (rs.map (·.1)).Pairwise (· < ·) → (us.map (·.1)).Pairwise (· < ·) → (∀ u ∈ us, u.1 ∈ rs.map (·.1) ∧ dels.contains u.1 = false) → goR dels rs us = keepR dels us rs
  | [], us, _, _, h => by simp [goR, keepR]
  | r :: rs, [], hr, _, _ => by
    have ih := goR_eq (dels := dels) rs [] (List.pairwise_cons.1 hr).2 List.Pairwise.nil (fun _ h => nomatch h)
    rw [goR]
    cases hd : dels.contains r.1
    · simp only [keepR, List.filter_cons, hd, Bool.not_false, if_true, List.map_cons, Bool.false_eq_true, if_false] at ih ⊢
      rw [ih]; rfl
    · simp only [keepR, List.filter_cons, hd, Bool.not_true, if_true, Bool.false_eq_true, if_false] at ih ⊢
      rw [ih]
  | r :: rs, u :: us, hr, hu, h => by
    obtain ⟨r1, r2⟩ := List.pairwise_cons.1 hr
    obtain ⟨u1, u2⟩ := List.pairwise_cons.1 hu
    replace r1 : ∀ x ∈ rs, r.1 < x.1 := fun x hx => r1 _ (List.mem_map_of_mem (f := fun x : Row => x.1) hx)
    replace u1 : ∀ x ∈ us, u.1 < x.1 := fun x hx => u1 _ (List.mem_map_of_mem (f := fun x : Upd => x.1) hx)
    have hin : ∀ x ∈ u :: us, (x.1 = r.1 ∨ x.1 ∈ rs.map (·.1)) ∧ dels.contains x.1 = false := fun x hx => ⟨List.mem_cons.1 (h x hx).1, (h x hx).2⟩
    rw [goR]
    cases hd : dels.contains r.1
    · simp only [Bool.false_eq_true, if_false]
      by_cases hur : u.1 = r.1
      · rw [if_pos hur]
        have ih := goR_eq (dels := dels) rs us r2 u2 fun x hx => by
          obtain ⟨h1, h2⟩ := hin x (List.mem_cons_of_mem _ hx)
          refine ⟨?_, h2⟩
          rcases h1 with h1 | h1
          · have := u1 x hx; omega
          · exact h1
        rw [ih]
        simp only [keepR, List.filter_cons, hd, Bool.not_false, if_true, List.map_cons]
        rw [wantR_cons, if_pos hur, wantR_none fun x hx => by have := u1 x hx; omega]
        congr 1
        refine List.map_congr_left fun x hx => ?_
        have := r1 x (List.mem_filter.1 hx).1
        rw [wantR_cons, if_neg (by omega)]
      · rw [if_neg hur]
        have hmem : ∀ x ∈ u :: us, r.1 < x.1 ∧ x.1 ∈ rs.map (·.1) := fun x hx => by
          have hu0 : r.1 < u.1 := by
            rcases (hin u (List.mem_cons_self ..)).1 with h1 | h1
            · exact absurd h1 hur
            · obtain ⟨y, hy, hyu⟩ := List.mem_map.1 h1
              have := r1 y hy
              have hyu : y.1 = u.1 := hyu
              omega
          have hx1 : r.1 < x.1 := by
            rcases List.mem_cons.1 hx with rfl | hx
            · exact hu0
            · exact Int.lt_trans hu0 (u1 x hx)
          refine ⟨hx1, ?_⟩
          rcases (hin x hx).1 with h1 | h1
          · omega
          · exact h1
        have ih := goR_eq (dels := dels) rs (u :: us) r2 hu fun x hx => ⟨(hmem x hx).2, (h x hx).2⟩
        rw [ih]
        simp only [keepR, List.filter_cons, hd, Bool.not_false, if_true, List.map_cons]
        rw [wantR_none fun x hx => by have := (hmem x hx).1; omega]
    · simp only [if_true]
      have ih := goR_eq (dels := dels) rs (u :: us) r2 hu fun x hx => by
        obtain ⟨h1, h2⟩ := hin x hx
        refine ⟨?_, h2⟩
        rcases h1 with h1 | h1
        · rw [h1, hd] at h2; cases h2
        · exact h1
      rw [ih]
      simp only [keepR, List.filter_cons, hd, Bool.not_true, Bool.false_eq_true, if_false]
/-- What is known of a change that succeeds. -/
structure ApOk (nm : ByteArray) (cs : List Col) (nx : Int) (rs : List Row) (ins : List (List Vl)) (dels : List Int) (us : List Upd) (T : Tb) : Prop where
  tab : tabB nm cs nx rs = true
  tb : T = ⟨nm, cs, nx + ins.length, keepR dels us rs ++ insR nx ins⟩
  asc : (rs.map (·.1)).Pairwise (· < ·)
  low : ∀ r ∈ rs, 0 < r.1 ∧ r.1 < nx
  dasc : dels.Pairwise (· < ·)
  din : ∀ id ∈ dels, id ∈ rs.map (·.1)
  uasc : (us.map (·.1)).Pairwise (· < ·)
  uin : ∀ u ∈ us, u.1 ∈ rs.map (·.1) ∧ dels.contains u.1 = false
  dup : dupB cs (keepR dels us rs ++ insR nx ins) = false
  fits : (∀ u ∈ us, fitsT cs u.2.2 = 0) ∧ ∀ v ∈ ins, fitsT cs v = 0
  lim : (rs.length : Int) - dels.length + ins.length ≤ 100
  nlim : (ins.length : Int) ≤ 2147483648 - nx
theorem tabB_ok {nm : ByteArray} {cs : List Col} {nx : Int} {rs : List Row} (h : tabB nm cs nx rs = true) : schemaB nm cs = true ∧ rs.length ≤ 100 ∧ 1 ≤ nx ∧ nx ≤ 2147483648 ∧ okR cs nx 0 rs = true ∧ dupB cs rs = false := by
  unfold tabB at h
  simp only [Bool.and_eq_true, decide_eq_true_eq, Bool.not_eq_true'] at h
  obtain ⟨⟨⟨⟨⟨h1, h2⟩, h3⟩, h4⟩, h5⟩, h6⟩ := h
  exact ⟨h1, h2, h3, h4, h5, h6⟩
theorem chgB_ok {nm : ByteArray} {cs : List Col} {nx : Int} {rs : List Row} {ins : List (List Vl)} {dels : List Int} {us : List Upd} (h : chgB nm cs nx rs ins dels us = true) :
    tabB nm cs nx rs = true ∧ (dels.Pairwise (· < ·) ∧ ∀ id ∈ dels, id ∈ rs.map (·.1)) ∧ (us.map (·.1)).Pairwise (· < ·) ∧ ∀ u ∈ us, u.1 ∈ rs.map (·.1) ∧ dels.contains u.1 = false := by
  unfold chgB at h
  simp only [Bool.and_eq_true] at h
  obtain ⟨⟨⟨⟨h1, h2⟩, h3⟩, h4⟩, h5⟩ := h
  obtain ⟨a1, a2⟩ := rowsK_spec h2
  obtain ⟨b1, b2⟩ := rowsK_spec h4
  exact ⟨h1, ⟨a1, fun id hd => getR_some (a2 id hd).1⟩, b1, fun u hu => ⟨getR_some (b2 u.1 (List.mem_map_of_mem hu)).1, (b2 u.1 (List.mem_map_of_mem hu)).2.1⟩⟩
theorem apOk_of {nm : ByteArray} {cs : List Col} {nx : Int} {rs : List Row} {ins : List (List Vl)} {dels : List Int} {us : List Upd} {T : Tb} (h : applyC nm cs nx rs ins dels us = (0, T)) : ApOk nm cs nx rs ins dels us T := by
  unfold applyC at h
  split at h
  · injection h with h; omega
  · rename_i hc
    split at h
    · rename_i hf; injection h with h; exact absurd h hf
    · rename_i hf
      split at h
      · injection h with h; omega
      · rename_i hl
        split at h
        · injection h with h; omega
        · rename_i hd
          injection h with _ h
          obtain ⟨h1, ⟨h2, h3⟩, h4, h5⟩ := chgB_ok (by simpa using hc)
          obtain ⟨_, _, _, _, k5, _⟩ := tabB_ok h1
          obtain ⟨k6, k7⟩ := okR_asc k5
          have hg := goR_eq (dels := dels) rs us k6 h4 h5
          have hfc := fitsC_all (Decidable.not_not.1 hf)
          refine ⟨h1, ?_, k6, k7, h2, h3, h4, h5, ?_, ⟨fun u hu => hfc.1 _ (List.mem_map_of_mem hu), hfc.2⟩, by omega, by omega⟩
          · rw [← h]; unfold outR; rw [hg]
          · unfold outR at hd; rw [hg] at hd; simpa using hd
theorem find_uniq {l : List Row} (h : (l.map (·.1)).Pairwise (· < ·)) {r : Row} (hr : r ∈ l) : l.find? (fun x => x.1 == r.1) = some r := by
  induction l with
  | nil => cases hr
  | cons x l ih =>
    obtain ⟨h1, h2⟩ := List.pairwise_cons.1 h
    rcases List.mem_cons.1 hr with rfl | hr
    · simp
    · have : x.1 < r.1 := h1 r.1 (List.mem_map_of_mem (f := fun x : Row => x.1) hr)
      rw [List.find?_cons, show (x.1 == r.1) = false by rw [beq_eq_false_iff_ne]; omega]
      exact ih h2 hr
theorem getR_none {l : List Row} {id : Int} (h : ∀ r ∈ l, r.1 ≠ id) : getR l id = none := by
  unfold getR
  rw [List.find?_eq_none.2 fun x hx => by simpa using h x hx]; rfl
theorem getR_app (a b : List Row) (id : Int) : getR (a ++ b) id = (getR a id).or (getR b id) := by
  unfold getR
  rw [List.find?_append]
  cases a.find? (fun r => r.1 == id) <;> simp
theorem insR_at : ∀ (ins : List (List Vl)) (nx : Int) (i : Nat), getR (insR nx ins) (nx + (i : Int)) = ins[i]? := by
  intro ins nx i
  have key : ∀ (l : List (List Vl)) (k : Nat) (i : Nat), k ≤ i → getR ((l.zipIdx k).map fun p => (nx + (p.2 : Int), p.1)) (nx + (i : Int)) = l[i - k]? := by
    intro l
    induction l with
    | nil => intro k i _; simp [getR]
    | cons v l ih =>
      intro k i hki
      rw [List.zipIdx_cons, List.map_cons]
      by_cases h : k = i
      · subst h
        simp [getR]
      · have h2 := ih (k + 1) i (by omega)
        have e : i - k = (i - (k + 1)) + 1 := by omega
        rw [e, List.getElem?_cons_succ, ← h2]
        unfold getR
        rw [List.find?_cons, show ((nx + (k : Int), v).1 == nx + (i : Int)) = false by rw [beq_eq_false_iff_ne]; show nx + (k : Int) ≠ _; omega]
  have := key ins 0 i (by omega)
  simpa [insR] using this
theorem insR_ge {ins : List (List Vl)} {nx : Int} : ∀ r ∈ insR nx ins, nx ≤ r.1 := fun r hr => by
  unfold insR at hr
  obtain ⟨p, _, rfl⟩ := List.mem_map.1 hr
  show nx ≤ nx + (p.2 : Int)
  omega
section
variable {nm : ByteArray} {cs : List Col} {nx : Int} {rs : List Row} {ins : List (List Vl)} {dels : List Int} {us : List Upd} {T : Tb}
theorem ApOk.asc2 (h : ApOk nm cs nx rs ins dels us T) : ((keepR dels us rs).map (·.1)).Pairwise (· < ·) := by
  have e : (keepR dels us rs).map (·.1) = (rs.filter fun r => !dels.contains r.1).map (·.1) := by simp [keepR]
  rw [e]
  exact List.Pairwise.sublist (List.Sublist.map _ List.filter_sublist) h.asc
/-- a row of before -/
theorem ApOk.old (h : ApOk nm cs nx rs ins dels us T) {r : Row} (hr : r ∈ rs) : getR T.rs r.1 = if dels.contains r.1 then none else some (wantR us r.1 r.2) := by
  rw [h.tb]
  show getR (keepR dels us rs ++ insR nx ins) r.1 = _
  rw [getR_app, getR_none (l := insR nx ins) fun x hx => by have := insR_ge x hx; have := (h.low r hr).2; omega, Option.or_none]
  cases hd : dels.contains r.1
  · have hm : (r.1, wantR us r.1 r.2) ∈ keepR dels us rs := List.mem_map.2 ⟨r, List.mem_filter.2 ⟨hr, by simp only [hd]; rfl⟩, rfl⟩
    have := find_uniq h.asc2 hm
    unfold getR
    rw [this]; simp
  · rw [getR_none fun x hx => ?_]
    · simp
    · obtain ⟨y, hy, rfl⟩ := List.mem_map.1 hx
      have := (List.mem_filter.1 hy).2
      intro e
      have e : y.1 = r.1 := e
      rw [e, hd] at this
      cases this
/-- a new row -/
theorem ApOk.new (h : ApOk nm cs nx rs ins dels us T) (i : Nat) : getR T.rs (nx + (i : Int)) = ins[i]? := by
  rw [h.tb]
  show getR (keepR dels us rs ++ insR nx ins) _ = _
  rw [getR_app, getR_none (l := keepR dels us rs) fun x hx => ?_, Option.none_or, insR_at]
  obtain ⟨y, hy, rfl⟩ := List.mem_map.1 hx
  have := (h.low y (List.mem_filter.1 hy).1).2
  show y.1 ≠ _
  omega
theorem ApOk.len (h : ApOk nm cs nx rs ins dels us T) : (T.rs.length : Int) = rs.length - dels.length + ins.length := by
  rw [h.tb]
  show ((keepR dels us rs ++ insR nx ins).length : Int) = _
  have h1 : (insR nx ins).length = ins.length := by simp [insR]
  have h2 : (keepR dels us rs).length = (rs.filter fun r => !dels.contains r.1).length := by simp [keepR]
  have hnd : (rs.map (·.1)).Nodup := h.asc.imp fun h => by omega
  have hdn : dels.Nodup := h.dasc.imp fun h => by omega
  have hp : ((rs.map (·.1)).filter fun id => dels.contains id).Perm dels := (List.perm_ext_iff_of_nodup (hnd.sublist List.filter_sublist) hdn).2 fun a => by
    simp only [List.mem_filter, List.contains_iff_mem]
    exact ⟨fun k => k.2, fun k => ⟨h.din a k, k⟩⟩
  have h3 : (rs.filter fun r => dels.contains r.1).length = dels.length := by
    rw [← hp.length_eq, List.filter_map, List.length_map]; rfl
  have h4 : (rs.filter fun r => dels.contains r.1).length + (rs.filter fun r => !dels.contains r.1).length = rs.length := by
    have : ∀ l : List Row, (l.filter fun r => dels.contains r.1).length + (l.filter fun r => !dels.contains r.1).length = l.length := by
      intro l
      induction l with
      | nil => rfl
      | cons x l ih => cases hx : dels.contains x.1 <;> simp only [List.filter_cons, hx, if_true, if_false, Bool.not_true, Bool.not_false, List.length_cons, Bool.false_eq_true] <;> omega
    exact this rs
  rw [List.length_append, h1, h2]
  omega
end
end Go.Proofs.YtljmclbedpceoaaDoor

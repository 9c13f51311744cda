/- DApPl: the steps of delta.Apply's loops. No program in sight. -/
import Derived.Test.YtjpgbhakkfgecaaDoorDAppSaidMD
import Derived.Test.YtjpgbhakkfgecaaDoorDAppSaidME
import Derived.Test.YtjpgbhakkfgecaaDoorDAppSaidMA
import Derived.Test.YtjpgbhakkfgecaaDoorDAppSaidMB
import Derived.Test.YtjpgbhakkfgecaaDoorDAppSaidMC
namespace Go.Proofs.YtjpgbhakkfgecaaDoor
open Go.RowKit
set_option linter.unusedVariables false
set_option linter.unusedSimpArgs false

/-- the second table is the first one some changes later -/
def LaterOk (t t' : Tb) : Prop := t'.nm = t.nm ∧ t'.cs = t.cs ∧ t.nx ≤ t'.nx ∧ ∀ r ∈ t'.rs, (getR t.rs r.1).isSome = true ∨ t.nx ≤ r.1
theorem getR_isSome {rs : List Row} {id : Int} (h : id ∈ rs.map (·.1)) : (getR rs id).isSome = true := by
  unfold getR
  rw [Option.isSome_map, List.find?_isSome]
  obtain ⟨x, hx, rfl⟩ := List.mem_map.1 h
  exact ⟨x, hx, by simp⟩
theorem LaterOk.refl (t : Tb) : LaterOk t t := ⟨rfl, rfl, Int.le_refl _, fun r hr => .inl (getR_isSome (List.mem_map_of_mem (f := fun x : Row => x.1) hr))⟩
theorem LaterOk.trans {a b c : Tb} (h : LaterOk a b) (k : LaterOk b c) : LaterOk a c := by
  obtain ⟨h1, h2, h3, h4⟩ := h
  obtain ⟨k1, k2, k3, k4⟩ := k
  refine ⟨k1.trans h1, k2.trans h2, by omega, fun r hr => ?_⟩
  rcases k4 r hr with h5 | h5
  · obtain ⟨x, hx, he⟩ := List.mem_map.1 (getR_some h5)
    rcases h4 x hx with h6 | h6
    · exact .inl (by rw [← he]; exact h6)
    · exact .inr (by rw [← he]; exact h6)
  · exact .inr (by omega)
theorem ApOk.later {nm : ByteArray} {cs : List Col} {nx : Int} {rs : List Row} {ins : List (List Vl)} {dels : List Int} {us : List Upd} {T : Tb} (h : ApOk nm cs nx rs ins dels us T) : LaterOk ⟨nm, cs, nx, rs⟩ T := by
  rw [h.tb]
  refine ⟨rfl, rfl, by show nx ≤ nx + (ins.length : Int); omega, fun r hr => ?_⟩
  rcases List.mem_append.1 hr with hr | hr
  · obtain ⟨y, hy, rfl⟩ := List.mem_map.1 hr
    have h1 : getR rs y.1 |>.isSome := getR_isSome (List.mem_map_of_mem (f := fun x : Row => x.1) (List.mem_filter.1 hy).1)
    exact .inl h1
  · right
    unfold insR at hr
    obtain ⟨p, hp, rfl⟩ := List.mem_map.1 hr
    show nx ≤ nx + _
    omega
theorem ApOk.vtab {t : Tb} {ins : List (List Vl)} {dels : List Int} {us : List Upd} {T : Tb} (hv : VTab t) (h : ApOk t.nm t.cs t.nx t.rs ins dels us T) : VTab T := by
  have h2 := h.tab2
  have h3 : T.nm = t.nm ∧ T.cs = t.cs := by rw [h.tb]; exact ⟨rfl, rfl⟩
  exact ⟨by rw [h3.1, h3.2]; exact hv.sch, h2⟩
/-- what holds two numbers one behind the other is apart from a block that holds the zero table -/
theorem Ro.apartPair {w : World} {Q : Nat → Prop} {size n : Nat} {A : Option Addr} {xs : List Value} (h : Ro w Q (SlR size A n xs)) {ga : Nat} {t : TypeId} (hg : w.heap[ga]? = some (.cells zeroTc t (0, 0))) (hx : n = 0 ∨ ∃ x y : Int, xs[0]? = some (.int .i64 x) ∧ xs[1]? = some (.int .i64 y)) : Ro w (fun b => b = ga ∨ Q b) (SlR size A n xs) := by
  rcases hx with rfl | ⟨x0, y0, hx0, hy0⟩
  · exact fun w2 _ _ => ⟨(show Rd w w.heap.size size A 0 xs from h.now).1, fun h0 => absurd h0 (by omega)⟩
  · intro w2 h1 h2
    have hgl : ga < w.heap.size := Blk.lt (t := t) (cs := zeroTc) hg
    have hgs : (w2.heap.setIfInBounds ga (.cells zeroTc t (0, 0)))[ga]? = some (.cells zeroTc t (0, 0)) := by
      rw [Array.getElem?_setIfInBounds, if_pos rfl, if_pos (by omega)]
    have hne : ∀ b, b ≠ ga → (w2.heap.setIfInBounds ga (.cells zeroTc t (0, 0)))[b]? = w2.heap[b]? := fun b hb => by
      rw [Array.getElem?_setIfInBounds, if_neg (fun e => hb e.symm)]
    have h3 : Rd { w2 with heap := w2.heap.setIfInBounds ga (.cells zeroTc t (0, 0)) } _ size A n xs := h { w2 with heap := w2.heap.setIfInBounds ga (.cells zeroTc t (0, 0)) } (by simpa using h1) (fun b hb hn => by
      by_cases e : b = ga
      · subst e; exact hgs.trans hg.symm
      · exact (hne b e).trans (h2 b hb (fun hm => hm.elim e hn)))
    refine ⟨h3.1, fun hn => ?_⟩
    obtain ⟨b, o, e, hb, hc⟩ := h3.2 hn
    have hbg : b ≠ ga := by
      rintro rfl
      have h4 := hc 0 _ hx0
      have h5 := hc 1 _ hy0
      rw [cell_of_row _ _ _ _ _ _ hgs] at h4 h5
      rcases o with _ | _ | _ | _ | o <;> simp [zeroTc] at h4 h5
    refine ⟨b, o, e, by simpa using hb, fun j u hu => ?_⟩
    rw [← hc j u hu]
    exact (World.cell?_of_block (w := w2) (w' := { w2 with heap := w2.heap.setIfInBounds ga (.cells zeroTc t (0, 0)) }) (a := ⟨b, o + j, none⟩) (hne b hbg)).symm
theorem vls_apart {w : World} {Q : Nat → Prop} {A : Option Addr} {n : Nat} {vs : List Vl} (h : Ro w Q (VlsIn A n vs)) {ga : Nat} {t : TypeId} (hg : w.heap[ga]? = some (.cells zeroTc t (0, 0))) : Ro w (fun b => b = ga ∨ Q b) (VlsIn A n vs) := by
  have hl := VlsIn.len h.now
  exact (show Ro w Q (SlR 3 A n (vlCells vs)) from h).apartPair hg (by
    cases vs with
    | nil => left; simpa using hl.symm
    | cons v vs => exact .inr ⟨v.k, v.i, rfl, rfl⟩)
theorem rws_apart {w : World} {Q : Nat → Prop} {B : Option Addr} {m : Nat} {l : List Rw} (h : Ro w Q (RwsIn B m l)) {ga : Nat} {t : TypeId} (hg : w.heap[ga]? = some (.cells zeroTc t (0, 0))) (hx : ∀ r ∈ l, r.id ≠ 0) : Ro w (fun b => b = ga ∨ Q b) (RwsIn B m l) := by
  have hl := h.now.len
  have h1 : Ro w Q (SlR 2 B m (rwCells l)) := h.imp fun w2 h2 => h2.1
  have k1 := h1.apartBlk hg (by
    cases l with
    | nil => left; simpa using hl.symm
    | cons r l => exact .inr ⟨.int .i64 r.id, rfl, int_apart (hx r (by simp))⟩)
  refine k1.and fun w2 g1 g2 r hr => ?_
  have h2 : Ro w Q (VlsIn r.A r.n r.vs) := h.imp fun w2 h2 => h2.2 r hr
  exact vls_apart h2 hg w2 g1 g2
theorem rapply_slot (M : Nat → Prop) (w : World) (hM : ∀ b, M b → b < w.heap.size) (v c : Value) (t : Tb) (ins : List (List Vl)) (dels : List Int) (us : List Upd) (hT : TbAt w M v t) (hC : ChgSlot M ins dels us c w) (hs : t.nm.size ≤ maxLen) (hcs : ∀ x ∈ t.cs, x.name.size ≤ maxLen)
    (hr : t.rs.length ≤ 1000000) (hrl : ∀ r ∈ t.rs, r.2.length ≤ 1000000) (hi : ins.length ≤ 1000000) (hd : dels.length ≤ 1000000) (hu : us.length ≤ 1000000) :
    Calls Tryd.prog 49 #[v, c] w fun e w' => ∃ u, e = .returned u ∧ ApSlot M (applyC t.nm t.cs t.nx t.rs ins dels us) u w' ∧ Below w.heap.size w w' := by
  obtain ⟨A, n, cc, B, m, d, l, rfl, h1, h2, h3, h4, h5, h6, h7, h8⟩ := hT
  obtain ⟨x, y, z, rfl, ⟨I, ni, ci, pi, rfl, i1, i2, rfl, i4, i5⟩, ⟨D, nd, cd, rfl, d1, d2, d3⟩, ⟨U, nu, cu, pu, rfl, u1, u2, rfl, u4, u5⟩⟩ := hC
  have hml := h6.now.len
  have hil := i5.now.len
  have hul := u5.now.len
  have hdl : dels.length = nd := (show Rd w w.heap.size 1 D nd (iCells dels) from d3.now).1 |> fun h => by simpa [iCells] using h
  have hrn : ∀ r ∈ l, r.n ≤ 4398046511104 := fun r hr' => by
    have h9 := hrl r.row (by rw [← h8]; exact List.mem_map_of_mem hr')
    have h10 : r.vs.length = r.n := VlsIn.len (h6.now.2 r hr')
    have h11 : r.row.2 = r.vs := rfl
    rw [h11] at h9
    omega
  rw [← h8] at hr
  simp only [List.length_map] at hr hi hu
  have := rapply_any M w hM t.nm A n cc t.cs t.nx B m d l I ni ci pi D nd cd dels U nu cu pu h5 h6 i5 d3 u5 (by omega) (by omega) h7 hrn (fun p hp => Nat.le_trans (u4 p hp).oc (u4 p hp).oc2) hs hcs (by omega) (by omega) (by omega) i4 u4
  rw [h8] at this
  refine this.mono ?_
  rintro e w' ⟨v, rfl, hv, b⟩
  exact ⟨_, rfl, ⟨v, rfl, hv⟩, b⟩
def ChgSl (M : Nat → Prop) (u : Value) (w : World) : Prop := ∃ (ins : List (List Vl)) (dels : List Int) (us : List Upd), ChgSlot M ins dels us u w ∧ ins.length ≤ 2000 ∧ dels.length ≤ 2000 ∧ us.length ≤ 2000
theorem chgSl_mono {M : Nat → Prop} (u : Value) (w w' : World) (hr : RM M w w') (h : ChgSl M u w) : ChgSl M u w' := by
  obtain ⟨i, d, s, h1, h2⟩ := h
  exact ⟨i, d, s, chgSlot_mono _ _ _ hr h1, h2⟩
/-- what Apply answers of a table and some change -/
def ApE (M : Nat → Prop) (t : Tb) (u : Value) (w : World) : Prop := ∃ (ins : List (List Vl)) (dels : List Int) (us : List Upd), ApSlot M (applyC t.nm t.cs t.nx t.rs ins dels us) u w
theorem apE_mono {M : Nat → Prop} {t : Tb} (u : Value) (w w' : World) (hr : RM M w w') (h : ApE M t u w) : ApE M t u w' := by
  obtain ⟨i, d, s, h1⟩ := h
  exact ⟨i, d, s, apSlot_mono _ _ _ hr h1⟩
set_option maxHeartbeats 8000000 in
set_option maxRecDepth 100000 in
theorem later_any (M : Nat → Prop) (T : Nat) (w : World) (hM : ∀ b, M b → b < w.heap.size) (ht : Tp w T) (hMT : ∀ b, M b → T ≤ b) (v : Value) (t : Tb) (hT : TbAt w (Mut M [.tp T]) v t) (hv : VTab t) (hW : Ro w (Mut M [.tp T]) Wds) (hw : 1 < T) :
    Calls Tryd.prog 16 #[.pointer (some ⟨T, 0, none⟩), v] w fun e w' => ∃ (v' : Value) (t' : Tb), e = .returned v' ∧ TbAt w' M v' t' ∧ VTab t' ∧ LaterOk t t' ∧ Tp w' T ∧ w.grownBy w' (some T) := by
  obtain ⟨A, n, c, B, m, d, l, rfl, h1, h2, h3, h4, h5, h6, h7, h8⟩ := hT
  have K0 := (((((Hold.startT M w T hM ht hMT).add h6).add (h5.less (mut_none rfl))).add ((hW.less (mut_none rfl)).less (mut_none rfl))).alloc #[.string t.nm, .slice A n c, .int .i64 t.nx, .slice B m d] 27).alloc #[.string ⟨#[]⟩, .slice none 0 0, .int .i64 0, .slice none 0 0] 27
  simp only [World.size_alloc] at K0
  clear h5 h6 hW
  go_enter Tryd.func16, Tryd.ntmps16
  go_wp2_with fail
  obtain ⟨g3, hg3⟩ : ∃ g, g = w.heap.size := ⟨_, rfl⟩
  obtain ⟨g4, hg4⟩ : ∃ g, g = g3 + 1 := ⟨_, rfl⟩
  rw [← hg3, ← hg4] at K0 ⊢
  generalize (w.alloc _).alloc _ = w1 at K0 ⊢
  have HGX := hid hg3
  clear hg3 hg4
  have K1 : Hold M (some T) w w1 [.blk g3 27 #[.string t.nm, .slice A n c, .int .i64 t.nx, .slice B m d], .blk g4 27 #[.string ⟨#[]⟩, .slice none 0 0, .int .i64 0, .slice none 0 0], .ro Wds, .ro (ColsIn A n t.cs), .ro (RwsIn B m l), .tp T] := K0.perm (List.Perm.swap _ _ _)
  clear K0
  refine (next_any T 3 _ (K1.tp_ 5 rfl) (by omega) (by omega)).mono ?_
  rintro e w2 ⟨i0, rfl, i00, i01, t2, g2⟩
  obtain ⟨i0, rfl⟩ := Int.eq_ofNat_of_zero_le i00
  have K2 := Hold.callT K1 5 rfl g2 t2
  clear K1 g2 t2
  have s0 : IntKind.i64.wrap (1 + (i0 : Int)) = 1 + (i0 : Int) := by rw [IntKind.wrap_i64]; omega
  go_wp2_with fail
  clear s0
  go_loopw [5] (fun iv wr => ∃ (i n c m d : Nat) (A B : Option Addr) (l : List Rw) (tc : Tb), i ≤ 3 ∧ iv = .int .i64 i ∧ n ≤ c ∧ c ≤ 9223372036854775807 ∧ m ≤ d ∧ d ≤ 9223372036854775807 ∧ Hid ((∀ r ∈ l, r.ok) ∧ l.map Rw.row = tc.rs) ∧ Hid (VTab tc) ∧ Hid (LaterOk t tc) ∧ Hold M (some T) w wr [.blk g3 27 #[.string tc.nm, .slice A n c, .int .i64 tc.nx, .slice B m d], .blk g4 27 #[.string ⟨#[]⟩, .slice none 0 0, .int .i64 0, .slice none 0 0], .ro Wds, .ro (ColsIn A n tc.cs), .ro (RwsIn B m l), .tp T]) (fun iv _ => (intOf iv).toNat)
  case atStart => exact ⟨i0 + 1, n, c, m, d, A, B, l, t, by omega, by congr 1; omega, h1, h2, h3, h4, hid ⟨h7, h8⟩, hid hv, hid (LaterOk.refl t), K2⟩
  case round =>
    clear K2 h1 h2 h3 h4 h7 h8 hv i00 i01
    obtain ⟨i, n, c, m, d, A, B, l, tc, hi, rfl, hnc, hc, hmd, hd, HLO, HVT, HLT, H⟩ := hrel
    by_cases hpos : 0 < i
    · obtain ⟨i, rfl⟩ : ∃ i', i = i' + 1 := ⟨i - 1, by omega⟩
      have hdd : decide (((i + 1 : Nat) : Int) > 0) = true := by rw [decide_eq_true_iff]; omega
      clear hpos
      have FH := H.facts
      simp only [factsL, cellsF, Nat.reduceAdd, zf, zl] at FH
      go_wp2_with fail
      obtain ⟨KL, hKL, KN⟩ := H.name
      have HF : Hid (∀ wv, Hold M (some T) w wv KL → wv.cell? ⟨g3, 0, none⟩ = some (.string tc.nm) ∧ wv.cell? ⟨g3, 1, none⟩ = some (.slice A n c) ∧ wv.cell? ⟨g3, 2, none⟩ = some (.int .i64 tc.nx) ∧ wv.cell? ⟨g3, 3, none⟩ = some (.slice B m d) ∧ g3 < wv.heap.size) := hid fun wv HC => by
        rw [hKL] at HC
        have y := HC.blk_ 0 rfl
        exact ⟨cell_of_row _ _ 0 _ _ _ y, cell_of_row _ _ 1 _ _ _ y, cell_of_row _ _ 2 _ _ _ y, cell_of_row _ _ 3 _ _ _ y, Blk.lt y⟩
      have HX : Hid (∀ wv, Hold M (some T) w wv KL → TbAt wv (Mut M KL) (.agg #[.string tc.nm, .slice A n c, .int .i64 tc.nx, .slice B m d]) tc ∧ Tp wv T ∧ (∀ b, Mut M KL b → T ≤ b) ∧ Ro wv (Mut M KL) Wds) := hid fun wv HC => by
        rw [hKL] at HC ⊢
        exact ⟨⟨A, n, c, B, m, d, l, rfl, hnc, hc, hmd, hd, HC.ro 3 rfl, HC.ro 4 rfl, HLO.out.1, HLO.out.2⟩, HC.tp_ 5 rfl, (HC.get 5 rfl).2, HC.ro 2 rfl⟩
      have HKL := hid hKL
      have HNCD := hid (And.intro hnc (And.intro hc (And.intro hmd hd)))
      clear hKL H FH hnc hc hmd hd
      obtain ⟨Hb, hHb⟩ : ∃ Hb, Hb = wr.drew.heap.size := ⟨_, rfl⟩
      have HHb := hid hHb
      clear hHb
      refine wp_region_any (by kernel_rfl) ?_
      refine wpAny_holdE [7] 9 27 (KL) (spL [(19, ChgSl (Mut M KL)), (20, ApE (Mut M KL) tc), (15, ApE (Mut M KL) tc), (6, NewSlot (Mut M KL) Hb 27 #[.string ⟨#[]⟩, .slice none 0 0, .int .i64 0, .slice none 0 0])]) (by kernel_rfl) (fun _ d _ _ _ h => by cases d <;> exact h) (by kernel_rfl) (by kernel_rfl) rfl ?_ (KN.drew) ?_
      · exact stays_cons chgSl_mono (stays_cons apE_mono (stays_cons apE_mono (stays_cons newSlot_mono (stays_nil _))))
      simp only [zd, Act.put, List.getElem_toArray, List.getElem_cons_zero, List.getElem_cons_succ, zl]
      refine dw_val rfl rfl rfl ?_; apply Exists.intro; refine ⟨fun wv HC => ?_, ?_⟩
      · obtain ⟨f0, f1, f2, f3, f4⟩ := HF.out _ HC; go_simp <;> rfl
      simp only [Act.put, zl]
      refine dw_val rfl rfl rfl ?_; apply Exists.intro; refine ⟨fun wv HC => ?_, ?_⟩
      ·  go_simp <;> rfl
      simp only [Act.put, zl]
      refine dw_val rfl rfl rfl ?_; apply Exists.intro; refine ⟨fun wv HC => ?_, ?_⟩
      · obtain ⟨f0, f1, f2, f3, f4⟩ := HF.out _ HC; go_simp <;> rfl
      simp only [Act.put, zl]
      refine dw_callR 19 (ChgSl (Mut M KL)) (f := 50) (args := #[.pointer (some ⟨T, 0, none⟩), .agg #[.string tc.nm, .slice A n c, .int .i64 tc.nx, .slice B m d]]) rfl rfl rfl rfl (fun wv => ?_) (fun wv HC hrm hD => ?_) ?_
      · go_simp <;> rfl
      · refine (chgof_slot (Mut M KL) T wv HC.mutLt (HX.out _ HC).2.1 (HX.out _ HC).2.2.1 _ tc (tbAt_less (HX.out _ HC).1 (mut_tp (i := 5) (by rw [HKL.out]; rfl))) HVT.out ((HX.out _ HC).2.2.2.less (mut_tp (i := 5) (by rw [HKL.out]; rfl))) hw).mono ?_
        rintro e w5 ⟨v5, i5, d5, u5, rfl, hc5, hb1, hb2, hb3, t5, g5'⟩
        have hvr := HVT.out.rows
        exact ⟨_, rfl, ⟨i5, d5, u5, hc5, by omega, by omega, by omega⟩, Hold.callT HC 5 (by rw [HKL.out]; rfl) g5' t5, RM.grown g5' (.inr ⟨_, List.mem_of_getElem? (i := 5) (by rw [HKL.out]; rfl), rfl⟩)⟩
      rintro s19 wx HCx hs19
      clear HCx hs19
      simp only [Act.put, zl]
      refine dw_callR 20 (ApE (Mut M KL) tc) (f := 49) (args := #[.agg #[.string tc.nm, .slice A n c, .int .i64 tc.nx, .slice B m d], s19]) rfl rfl rfl rfl (fun wv => ?_) (fun wv HC hrm hD => ?_) ?_
      · go_simp <;> rfl
      · have hsl : ChgSl (Mut M KL) s19 wv := deps_at hD 3 rfl (by kernel_rfl) rfl rfl
        obtain ⟨i5, d5, u5, h5, hb1, hb2, hb3⟩ := hsl
        have hvr := HVT.out.rows
        refine (rapply_slot _ wv HC.mutLt _ _ tc i5 d5 u5 (HX.out _ HC).1 h5 HVT.out.sch.nm HVT.out.sch.cs (by omega) (fun r hr => by have := HVT.out.len r hr; omega) (by omega) (by omega) (by omega)).mono ?_
        rintro e w6 ⟨u6, rfl, hv6, b6⟩
        exact ⟨_, rfl, ⟨i5, d5, u5, hv6⟩, HC.call b6, RM.below b6⟩
      rintro u wx HCx ⟨i5, d5, u5, v5, rfl, Ab, nb, cb, Bb, mb, db, lb, hv5, -, -, -, -, -, -, -, -⟩
      obtain ⟨E5, hE5⟩ : ∃ E5 : Int × Tb, E5 = applyC tc.nm tc.cs tc.nx tc.rs i5 d5 u5 := ⟨_, rfl⟩
      rw [← hE5] at hv5 ⊢
      obtain ⟨e5, T5⟩ := E5
      dsimp only at hv5 ⊢
      subst hv5
      clear HCx hE5
      simp only [Act.put, zl]
      refine dw_valC 15 (ApE (Mut M KL) tc) rfl rfl rfl rfl (.tuple #[.agg #[.string T5.nm, .slice Ab nb cb, .int .i64 T5.nx, .slice Bb mb db], .int .i64 e5]) (fun wv HC => ?_) (fun wv HC hD => ?_) ?_
      · go_simp <;> rfl
      · exact deps_at hD 4 rfl (by kernel_rfl) rfl rfl
      simp only [Act.put, zl]
      refine dw_val rfl rfl rfl ?_; apply Exists.intro; refine ⟨fun wv HC => ?_, ?_⟩
      ·  go_simp <;> rfl
      simp only [Act.put, zl]
      refine dw_val rfl rfl rfl ?_; apply Exists.intro; refine ⟨fun wv HC => ?_, ?_⟩
      ·  go_simp <;> rfl
      simp only [Act.put, zl]
      refine dw_new #[.string ⟨#[]⟩, .slice none 0 0, .int .i64 0, .slice none 0 0] 27 6 (NewSlot (Mut M KL) Hb 27 #[.string ⟨#[]⟩, .slice none 0 0, .int .i64 0, .slice none 0 0]) (fun g => .pointer (some ⟨g, 0, none⟩)) rfl rfl rfl rfl (fun wv => ?_) (fun wv HC hrm hD hro => ?_) ?_
      · go_simp <;> rfl
      · exact ⟨_, rfl, by have := hrm.1; rw [HHb.out]; exact this, hro _ HC.mutLt⟩
      rintro gb wg HCg hsl
      simp only [Act.put, zl]
      clear hsl HCg
      refine rel_nil ?_
      rintro wxb HY
      rintro _hrm HGW
      have hap : ApE (Mut M KL) tc (.tuple #[.agg #[.string T5.nm, .slice Ab nb cb, .int .i64 T5.nx, .slice Bb mb db], .int .i64 e5]) wxb := (GW_on (d := 15) rfl).1 (HGW 5 _ rfl (by omega))
      have hns : NewSlot (Mut M KL) Hb 27 #[.string ⟨#[]⟩, .slice none 0 0, .int .i64 0, .slice none 0 0] (.pointer (some ⟨gb, 0, none⟩)) wxb := (GW_on (d := 6) rfl).1 (HGW 8 _ rfl (by omega))
      clear HGW
      obtain ⟨g7, hg7, hgH, hgB⟩ := hns
      obtain rfl : gb = g7 := by injection hg7 with hg7; injection hg7 with hg7; injection hg7
      clear hg7
      rw [HHb.out] at hgH
      have HB := Hold.addFreshBlk KN.drew HY _hrm hgH hgB.now
      have hgn := hgB.now
      obtain ⟨i6, d6, u6, v6, hv6, TT⟩ := hap
      obtain ⟨E6, hE6⟩ : ∃ E6 : Int × Tb, E6 = applyC tc.nm tc.cs tc.nx tc.rs i6 d6 u6 := ⟨_, rfl⟩
      rw [← hE6] at hv6 TT
      obtain ⟨e6, T6⟩ := E6
      dsimp only at hv6 TT
      obtain ⟨rfl, rfl⟩ : _ = v6 ∧ e5 = e6 := by injection hv6 with hv6; simpa using hv6
      obtain ⟨A6, n6, c6, B6, m6, d6', l6, ev, k1, k2, k3, k4, k5, k6, k7, k8⟩ := TT
      have hst : ∃ (A' : Option Addr) (n' c' : Nat) (B' : Option Addr) (m' d' : Nat), Value.agg #[.string T5.nm, .slice Ab nb cb, .int .i64 T5.nx, .slice Bb mb db] = .agg #[.string T6.nm, .slice A' n' c', .int .i64 T6.nx, .slice B' m' d'] ∧ A' = A6 ∧ n' = n6 ∧ c' = c6 ∧ B' = B6 ∧ m' = m6 ∧ d' = d6' := ⟨A6, n6, c6, B6, m6, d6', ev, rfl, rfl, rfl, rfl, rfl, rfl⟩
      clear hst
      obtain ⟨e1, e2, e3, e4, e7, e8, e9, e10⟩ : T5.nm = T6.nm ∧ Ab = A6 ∧ nb = n6 ∧ cb = c6 ∧ T5.nx = T6.nx ∧ Bb = B6 ∧ mb = m6 ∧ db = d6' := by
        injection ev with ev
        simp only [Array.mk.injEq, List.cons.injEq, Value.string.injEq, Value.slice.injEq, Value.int.injEq, and_true, true_and] at ev
        obtain ⟨a1, ⟨a2, a3, a4⟩, a5, a6, a7, a8⟩ := ev
        exact ⟨a1, a2, a3, a4, a5, a6, a7, a8⟩
      subst e2 e3 e4 e8 e9 e10
      rw [e1, e7]
      clear e1 e7 ev hv6 T5
      have hcd : e5 = 0 → ApOk tc.nm tc.cs tc.nx tc.rs i6 d6 u6 T6 := fun h0 => apOk_of (by rw [← hE6, h0])
      have hnz : ∀ r ∈ l6, r.id ≠ 0 := fun r hr => by
        by_cases h0 : e5 = 0
        · have h9 := ((okR_asc (tabB_ok (hcd h0).tab2).2.2.2.2.1).2 r.row (by rw [← k8]; exact List.mem_map_of_mem hr)).1
          have h10 : r.row.1 = r.id := rfl
          rw [h10] at h9
          omega
        · have hz : T6 = zeroT := by
            have h9 := apC_zero (nm := tc.nm) (cs := tc.cs) (nx := tc.nx) (rs := tc.rs) (ins := i6) (dels := d6) (us := u6) (by rw [← hE6]; exact h0)
            rw [← hE6] at h9
            exact h9
          rw [hz] at k8
          rw [List.map_eq_nil_iff.1 k8] at hr
          cases hr
      have HK := hid (And.intro k1 (And.intro k2 (And.intro k3 (And.intro k4 (And.intro k7 k8)))))
      have HCD := hid hcd
      have K3 := (HB.add ((rws_apart k6 (t := 27) hgn hnz).less fun b hb => (mut_cons.1 hb).elim (fun hf => Or.inl (by have hf : some gb = some b := hf; injection hf with hf; exact hf.symm)) Or.inr)).add (((k5.colsOff hgn).less fun b hb => (mut_cons.1 hb).elim (fun hf => Or.inr (by have hf : some gb = some b := hf; injection hf with hf; exact hf.symm)) Or.inl).less (mut_none rfl))
      clear hcd hnz hE6 k1 k2 k3 k4 k5 k6 k7 k8 hgn hgB hgH HY _hrm HHb KN HF HX
      rw [HKL.out] at K3
      clear HB
      have FB := K3.facts
      simp only [factsL, cellsF, Nat.reduceAdd, zf, zl] at FB
      have NK := K3.nes
      simp only [nesL, neF, and_true, true_and] at NK
      have K6 := (((K3.store 2 rfl 0 (.string T6.nm)).store 2 rfl 1 (.slice Ab nb cb)).store 2 rfl 2 (.int .i64 T6.nx)).store 2 rfl 3 (.slice Bb mb db)
      simp only [List.set_cons_zero, List.set_cons_succ, List.setIfInBounds_toArray] at K6
      have s1 : IntKind.i64.wrap (((i + 1 : Nat) : Int) - 1) = (i : Int) := by rw [IntKind.wrap_i64]; omega
      have s2 : IntKind.i64.wrap ((i : Int) + 1 - 1) = (i : Int) := by rw [IntKind.wrap_i64]; omega
      by_cases h0 : e5 = 0
      · have hb0 : (e5 == 0) = true := by simp [h0]
        have hap := HCD.out h0
        have HV2 := hid (hap.vtab HVT.out)
        have HL2 := hid (HLT.out.trans hap.later)
        clear hap h0
        have K7 := (((K6.store 3 rfl 0 (.string T6.nm)).store 3 rfl 1 (.slice Ab nb cb)).store 3 rfl 2 (.int .i64 T6.nx)).store 3 rfl 3 (.slice Bb mb db)
        simp only [List.set_cons_zero, List.set_cons_succ, List.setIfInBounds_toArray] at K7
        have K8a : Hold M (some T) w _ [.ro (ColsIn Ab nb T6.cs), .ro (RwsIn Bb mb l6), .blk g3 27 #[.string T6.nm, .slice Ab nb cb, .int .i64 T6.nx, .slice Bb mb db], .blk g4 27 #[.string ⟨#[]⟩, .slice none 0 0, .int .i64 0, .slice none 0 0], .ro Wds, .tp T] := K7.drop (List.Sublist.cons_cons _ (List.Sublist.cons_cons _ (List.Sublist.cons _ (List.Sublist.cons_cons _ (List.Sublist.cons_cons _ (List.Sublist.cons_cons _ (List.Sublist.cons _ (List.Sublist.cons _ (List.Sublist.refl _)))))))))
        have K8b : Hold M (some T) w _ [.ro (RwsIn Bb mb l6), .blk g3 27 #[.string T6.nm, .slice Ab nb cb, .int .i64 T6.nx, .slice Bb mb db], .blk g4 27 #[.string ⟨#[]⟩, .slice none 0 0, .int .i64 0, .slice none 0 0], .ro Wds, .ro (ColsIn Ab nb T6.cs), .tp T] := K8a.sinkN 4
        have K8 : Hold M (some T) w _ [.blk g3 27 #[.string T6.nm, .slice Ab nb cb, .int .i64 T6.nx, .slice Bb mb db], .blk g4 27 #[.string ⟨#[]⟩, .slice none 0 0, .int .i64 0, .slice none 0 0], .ro Wds, .ro (ColsIn Ab nb T6.cs), .ro (RwsIn Bb mb l6), .tp T] := K8b.sinkN 4
        clear K8a K8b K7
        go_wp2_with fail
        go_roundw
        case rel => exact ⟨i, nb, cb, mb, db, Ab, Bb, l6, T6, by omega, by first | rfl | go_num, HK.out.1, HK.out.2.1, HK.out.2.2.1, HK.out.2.2.2.1, hid ⟨HK.out.2.2.2.2.1, HK.out.2.2.2.2.2⟩, HV2, HL2, K8⟩
        case measure => simp [intOf] <;> omega
      · have hb0 : (e5 == 0) = false := by simpa using h0
        clear h0
        have K8 := K6.drop (List.Sublist.cons _ (List.Sublist.cons _ (List.sublist_cons_self _ _)))
        go_wp2_with fail
        go_roundw
        case rel => exact ⟨i, n, c, m, d, A, B, l, tc, by omega, by first | rfl | go_num, HNCD.out.1, HNCD.out.2.1, HNCD.out.2.2.1, HNCD.out.2.2.2, HLO, HVT, HLT, K8⟩
        case measure => simp [intOf] <;> omega
    · obtain rfl : i = 0 := by omega
      have hdd : decide (((0 : Nat) : Int) > 0) = false := by decide
      have F := H.facts
      simp only [factsL, cellsF, Nat.reduceAdd, zf, zl] at F
      have NK := H.nes
      simp only [nesL, neF, and_true, true_and] at NK
      have KN := (((H.store 1 rfl 0 (.string tc.nm)).store 1 rfl 1 (.slice A n c)).store 1 rfl 2 (.int .i64 tc.nx)).store 1 rfl 3 (.slice B m d)
      have r1 := KN.roOut 3 rfl
      have r2 := KN.roOut 4 rfl
      go_wp2_with fail
      exact bodyPost_ret (v := .agg #[.string tc.nm, .slice A n c, .int .i64 tc.nx, .slice B m d]) (by simp [results, Tryd.results16, go_sem, F, NK]) rfl ⟨_, tc, rfl, ⟨A, n, c, B, m, d, l, rfl, hnc, hc, hmd, hd, r1, r2, HLO.out.1, HLO.out.2⟩, HVT.out, HLT.out, KN.tp_ 5 rfl, KN.grow⟩
end Go.Proofs.YtjpgbhakkfgecaaDoor

namespace Go.Proofs.YtjpgbhakkfgecaaDoor
open Go.RowKit
set_option linter.unusedVariables false
set_option linter.unusedSimpArgs false

/-- a row handed back, its values in memory -/
def RowOne (w : World) (M : Nat → Prop) (id : Int) (vs : List Vl) (e : Ending) (w' : World) : Prop := ∃ (A : Option Addr) (n c : Nat), e = .returned (.agg #[.int .i64 id, .slice A n c]) ∧ n = vs.length ∧ n ≤ c ∧ c ≤ 9223372036854775807 ∧ Ro w' M (VlsIn A n vs) ∧ Below w.heap.size w w'
set_option maxHeartbeats 2000000 in
set_option maxRecDepth 100000 in
theorem dcopied_any (M : Nat → Prop) (w : World) (hM : ∀ b, M b → b < w.heap.size) (id : Int) (A : Option Addr) (n c : Nat) (vs : List Vl) (hD : Ro w M (VlsIn A n vs)) (hn : n ≤ 4398046511104) : Calls Tryd.prog 61 #[.agg #[.int .i64 id, .slice A n c]] w fun e w' => RowOne w M id vs e w' := by
  have K0 := ((Hold.start M w hM).add (hD.less (by simp [Mut]))).alloc_cst #[.int .i64 id, .slice A n c] 53 |>.alloc #[.int .i64 0, .slice none 0 0] 53
  simp only [World.size_alloc] at K0
  clear hD
  go_enter Tryd.func61, Tryd.ntmps61
  go_wp2_with fail
  obtain ⟨g1, hg1⟩ : ∃ g, g = w.heap.size := ⟨_, rfl⟩
  obtain ⟨g2, hg2⟩ : ∃ g, g = g1 + 1 := ⟨_, rfl⟩
  rw [← hg1, ← hg2] at K0 ⊢
  generalize (w.alloc _).alloc _ = w1 at K0 ⊢
  have HG := hid hg1
  clear hg1 hg2
  obtain ⟨KL, hKL, KN⟩ := K0.name
  have HF : Hid (∀ wv, Hold M none w wv KL → (wv.cell? ⟨g1, 0, none⟩ = some (.int .i64 id) ∧ wv.cell? ⟨g1, 1, none⟩ = some (.slice A n c) ∧ g1 < wv.heap.size) ∧ Ro wv (Mut M KL) (VlsIn A n vs)) := hid fun wv HC => by
    rw [hKL] at HC ⊢
    have y1 := HC.cst_ 1 rfl
    exact ⟨⟨cell_of_row _ _ 0 _ _ _ y1, cell_of_row _ _ 1 _ _ _ y1, Blk.lt y1⟩, HC.ro 2 rfl⟩
  have HKL := hid hKL
  clear hKL K0
  refine wp_region_any (by kernel_rfl) ?_
  refine wpAny_hold 6 9 (KL) (spL [(7, VlsSlot (Mut M KL) vs)]) (by kernel_rfl) (by kernel_rfl) (by kernel_rfl) rfl ?_ (KN.drew) ?_
  · exact stays_cons vlsSlot_mono (stays_nil _)
  simp only [zd, Act.put, List.getElem_toArray, List.getElem_cons_zero, List.getElem_cons_succ, zl]
  refine dw_val rfl rfl rfl ?_; apply Exists.intro; refine ⟨fun wv HC => ?_, ?_⟩
  ·  go_simp <;> rfl
  simp only [Act.put, zl]
  refine dw_val rfl rfl rfl ?_; apply Exists.intro; refine ⟨fun wv HC => ?_, ?_⟩
  · obtain ⟨⟨f0, f1, f2⟩, _⟩ := HF.out _ HC; go_simp <;> rfl
  simp only [Act.put, zl]
  refine dw_val rfl rfl rfl ?_; apply Exists.intro; refine ⟨fun wv HC => ?_, ?_⟩
  ·  go_simp <;> rfl
  simp only [Act.put, zl]
  refine dw_val rfl rfl rfl ?_; apply Exists.intro; refine ⟨fun wv HC => ?_, ?_⟩
  · obtain ⟨⟨f0, f1, f2⟩, _⟩ := HF.out _ HC; go_simp <;> rfl
  simp only [Act.put, zl]
  refine dw_callR 7 (VlsSlot (Mut M KL) vs) (f := 63) (args := #[.slice A n c]) rfl rfl rfl rfl (fun wv => ?_) (fun wv HC hrm hD => ?_) ?_
  · go_simp <;> rfl
  · refine (cloneVls_any _ wv HC.mutLt A n c vs (HF.out _ HC).2 hn).mono ?_
    rintro e w5 ⟨A5, n5, c5, rfl, h50, h51, h52, h53, b5⟩
    exact ⟨_, rfl, ⟨A5, n5, c5, rfl, h50, h51, h52, h53⟩, HC.call b5, RM.below b5⟩
  rintro x_ wx HCx ⟨A5, n5, c5, rfl, -, -, -, -⟩
  simp only [Act.put, zl]
  clear HCx
  refine dw_val rfl rfl rfl ⟨.agg #[.int .i64 id, .slice A5 n5 c5], fun wv HC => ?_, ?_⟩
  · go_simp <;> rfl
  simp only [Act.put, zl]
  refine rel_nil ?_
  rintro wx2 HX
  rintro _hrm HGW
  have hb : VlsSlot (Mut M KL) vs (.slice A5 n5 c5) wx2 := (GW_on (d := 7) rfl).1 (HGW 4 _ rfl (by omega))
  clear HGW _hrm
  obtain ⟨A6, n6, c6, e6, k0_, k1_, k2_, k3_⟩ := hb
  obtain ⟨rfl, rfl, rfl⟩ : A5 = A6 ∧ n5 = n6 ∧ c5 = c6 := by injection e6 with h1 h2 h3; exact ⟨h1, h2, h3⟩
  clear e6
  have K1 := HX.add k3_
  rw [HKL.out] at K1
  have F1 := K1.facts
  simp only [factsL, cellsF, Nat.reduceAdd, zf, zl] at F1
  have H0 := hid k0_
  clear HF KN k3_ HX k0_
  have KN := (K1.store 1 rfl 0 (.int .i64 id)).store 1 rfl 1 (.slice A5 n5 c5)
  have r1 := KN.roOut 0 rfl
  go_wp2_with fail
  exact bodyPost_ret (v := .agg #[.int .i64 id, .slice A5 n5 c5]) (by simp [results, Tryd.results61, go_sem, F1]) rfl ⟨A5, n5, c5, rfl, H0.out, k1_, k2_, r1, KN.below⟩
set_option maxHeartbeats 2000000 in
set_option maxRecDepth 100000 in
theorem rcopyrow_any (M : Nat → Prop) (w : World) (hM : ∀ b, M b → b < w.heap.size) (id : Int) (A : Option Addr) (n c : Nat) (vs : List Vl) (hD : Ro w M (VlsIn A n vs)) (hn : n ≤ 4398046511104) : Calls Tryd.prog 55 #[.agg #[.int .i64 id, .slice A n c]] w fun e w' => RowOne w M id vs e w' := by
  have K0 := ((Hold.start M w hM).add (hD.less (by simp [Mut]))).alloc_cst #[.int .i64 id, .slice A n c] 53 |>.alloc #[.int .i64 0, .slice none 0 0] 53
  simp only [World.size_alloc] at K0
  clear hD
  go_enter Tryd.func55, Tryd.ntmps55
  go_wp2_with fail
  obtain ⟨g1, hg1⟩ : ∃ g, g = w.heap.size := ⟨_, rfl⟩
  obtain ⟨g2, hg2⟩ : ∃ g, g = g1 + 1 := ⟨_, rfl⟩
  rw [← hg1, ← hg2] at K0 ⊢
  generalize (w.alloc _).alloc _ = w1 at K0 ⊢
  have HG := hid hg1
  clear hg1 hg2
  obtain ⟨KL, hKL, KN⟩ := K0.name
  have HF : Hid (∀ wv, Hold M none w wv KL → (wv.cell? ⟨g1, 0, none⟩ = some (.int .i64 id) ∧ wv.cell? ⟨g1, 1, none⟩ = some (.slice A n c) ∧ g1 < wv.heap.size) ∧ Ro wv (Mut M KL) (VlsIn A n vs)) := hid fun wv HC => by
    rw [hKL] at HC ⊢
    have y1 := HC.cst_ 1 rfl
    exact ⟨⟨cell_of_row _ _ 0 _ _ _ y1, cell_of_row _ _ 1 _ _ _ y1, Blk.lt y1⟩, HC.ro 2 rfl⟩
  have HKL := hid hKL
  clear hKL K0
  refine wp_region_any (by kernel_rfl) ?_
  refine wpAny_hold 6 9 (KL) (spL [(7, VlsSlot (Mut M KL) vs)]) (by kernel_rfl) (by kernel_rfl) (by kernel_rfl) rfl ?_ (KN.drew) ?_
  · exact stays_cons vlsSlot_mono (stays_nil _)
  simp only [zd, Act.put, List.getElem_toArray, List.getElem_cons_zero, List.getElem_cons_succ, zl]
  refine dw_val rfl rfl rfl ?_; apply Exists.intro; refine ⟨fun wv HC => ?_, ?_⟩
  ·  go_simp <;> rfl
  simp only [Act.put, zl]
  refine dw_val rfl rfl rfl ?_; apply Exists.intro; refine ⟨fun wv HC => ?_, ?_⟩
  · obtain ⟨⟨f0, f1, f2⟩, _⟩ := HF.out _ HC; go_simp <;> rfl
  simp only [Act.put, zl]
  refine dw_val rfl rfl rfl ?_; apply Exists.intro; refine ⟨fun wv HC => ?_, ?_⟩
  ·  go_simp <;> rfl
  simp only [Act.put, zl]
  refine dw_val rfl rfl rfl ?_; apply Exists.intro; refine ⟨fun wv HC => ?_, ?_⟩
  · obtain ⟨⟨f0, f1, f2⟩, _⟩ := HF.out _ HC; go_simp <;> rfl
  simp only [Act.put, zl]
  refine dw_callR 7 (VlsSlot (Mut M KL) vs) (f := 56) (args := #[.slice A n c]) rfl rfl rfl rfl (fun wv => ?_) (fun wv HC hrm hD => ?_) ?_
  · go_simp <;> rfl
  · refine (copyVls_any _ wv HC.mutLt A n c vs (HF.out _ HC).2 hn).mono ?_
    rintro e w5 ⟨A5, n5, c5, rfl, h50, h51, h52, h53, b5⟩
    exact ⟨_, rfl, ⟨A5, n5, c5, rfl, h50, h51, h52, h53⟩, HC.call b5, RM.below b5⟩
  rintro x_ wx HCx ⟨A5, n5, c5, rfl, -, -, -, -⟩
  simp only [Act.put, zl]
  clear HCx
  refine dw_val rfl rfl rfl ⟨.agg #[.int .i64 id, .slice A5 n5 c5], fun wv HC => ?_, ?_⟩
  · go_simp <;> rfl
  simp only [Act.put, zl]
  refine rel_nil ?_
  rintro wx2 HX
  rintro _hrm HGW
  have hb : VlsSlot (Mut M KL) vs (.slice A5 n5 c5) wx2 := (GW_on (d := 7) rfl).1 (HGW 4 _ rfl (by omega))
  clear HGW _hrm
  obtain ⟨A6, n6, c6, e6, k0_, k1_, k2_, k3_⟩ := hb
  obtain ⟨rfl, rfl, rfl⟩ : A5 = A6 ∧ n5 = n6 ∧ c5 = c6 := by injection e6 with h1 h2 h3; exact ⟨h1, h2, h3⟩
  clear e6
  have K1 := HX.add k3_
  rw [HKL.out] at K1
  have F1 := K1.facts
  simp only [factsL, cellsF, Nat.reduceAdd, zf, zl] at F1
  have H0 := hid k0_
  clear HF KN k3_ HX k0_
  have KN := (K1.store 1 rfl 0 (.int .i64 id)).store 1 rfl 1 (.slice A5 n5 c5)
  have r1 := KN.roOut 0 rfl
  go_wp2_with fail
  exact bodyPost_ret (v := .agg #[.int .i64 id, .slice A5 n5 c5]) (by simp [results, Tryd.results55, go_sem, F1]) rfl ⟨A5, n5, c5, rfl, H0.out, k1_, k2_, r1, KN.below⟩
set_option maxHeartbeats 1000000 in
set_option maxRecDepth 100000 in
theorem dsameschema_any (w : World) (nm : ByteArray) (A : Option Addr) (n c : Nat) (cs : List Col) (nm2 : ByteArray) (B : Option Addr) (m d : Nat) (ds : List Col) (hD : ColsIn A n cs w) (hE : ColsIn B m ds w) (hn : n ≤ 4398046511104) :
    Calls Tryd.prog 60 #[.agg #[.string nm, .slice A n c], .agg #[.string nm2, .slice B m d]] w fun e w' => e = .returned (.bool (decide (nm = nm2 ∧ cs = ds))) ∧ Below w.heap.size w w' := by
  have K0 := ((((Hold.start None_ w (fun b hb => hb.elim)).add (Rd.ro hE (Nat.le_refl _) (by simp [Mut, None_]) : Ro w _ (ColsIn B m ds))).add (Rd.ro hD (Nat.le_refl _) (by simp [Mut, None_, Hp.foot]) : Ro w _ (ColsIn A n cs))).alloc_cst #[.string nm, .slice A n c] 24).alloc_cst #[.string nm2, .slice B m d] 24
  rw [World.size_alloc] at K0
  have F0 := K0.facts
  simp only [factsL, cellsF, Nat.reduceAdd, zf, zl] at F0
  clear hD hE
  by_cases hi : nm = nm2
  · have h1 : (nm.toList == nm2.toList) = true := by simp [hi]
    have HI := hid hi; clear hi
    go_enter Tryd.func60, Tryd.ntmps60
    go_wp2_with fail
    refine (eqCols_any _ A n c cs B m d ds (K0.ro 2 rfl).now (K0.ro 3 rfl).now hn).mono ?_
    rintro e w1 ⟨rfl, q, rfl⟩
    have K1 := K0.drewN q
    have HB := hid (show decide (nm = nm2 ∧ cs = ds) = decide (cs = ds) by simp [HI.out])
    go_wp2_with fail
    go_ret
    exact ⟨by rw [HB.out] <;> first | rfl | simp, K1.below⟩
  · have h1 : (nm.toList == nm2.toList) = false := by rw [beq_eq_false_iff_ne]; exact fun h => hi (bytesEq h)
    have HB := hid (show decide (nm = nm2 ∧ cs = ds) = false by simp [hi])
    clear hi
    go_enter Tryd.func60, Tryd.ntmps60
    go_wp2_with fail
    go_ret
    exact ⟨by rw [HB.out] <;> rfl, K0.below⟩
end Go.Proofs.YtjpgbhakkfgecaaDoor

namespace Go.Proofs.YtjpgbhakkfgecaaDoor
open Go.RowKit
set_option linter.unusedVariables false
set_option linter.unusedSimpArgs false

set_option maxHeartbeats 8000000 in
set_option maxRecDepth 100000 in
theorem dbetw_any (M : Nat → Prop) (w : World) (hM : ∀ b, M b → b < w.heap.size) (va vb : Value) (a b : Tb) (hTa : TbAt w M va a) (hTb : TbAt w M vb b) (hsa : a.nm.size ≤ maxLen) (hca : ∀ x ∈ a.cs, x.name.size ≤ maxLen) (hra : a.rs.length ≤ 4398046511104) (hsb : b.nm.size ≤ maxLen) (hcb : ∀ x ∈ b.cs, x.name.size ≤ maxLen) (hrb : b.rs.length ≤ 4398046511104) :
    Calls Tryd.prog 22 #[va, vb] w fun e w' => BetRet w M (betweenC a b) e w' := by
  obtain ⟨aA, an, ac, aB, am, ad, la, rfl, a1, a2, a3, a4, a5, a6, a7, a8⟩ := hTa
  obtain ⟨bA, bn, bc, bB, bm, bd, lb, rfl, b1, b2, b3, b4, b5, b6, b7, b8⟩ := hTb
  have HAL := hid (show la.length = am from a6.now.len)
  have HBL := hid (show lb.length = bm from b6.now.len)
  have HAR := hid a8
  have HBR := hid b8
  have HAO := hid a7
  have HBO := hid b7
  have HAE := hid a6.now
  have HBE := hid b6.now
  have HAC := hid (show a.cs.length = an from cols_n a5.now)
  have ham : am ≤ 4398046511104 := by have := HAL.out; have h := congrArg List.length a8; rw [List.length_map] at h; omega
  have hbm : bm ≤ 4398046511104 := by have := HBL.out; have h := congrArg List.length b8; rw [List.length_map] at h; omega
  have K0 := (((((((Hold.start M w hM).add (b6.less (by simp [Mut]))).add (b5.less (by simp [Mut, Hp.foot]))).add (a6.less (by simp [Mut, Hp.foot]))).add (a5.less (by simp [Mut, Hp.foot]))).alloc_cst #[.string a.nm, .slice aA an ac, .int .i64 a.nx, .slice aB am ad] 27).alloc_cst #[.string b.nm, .slice bA bn bc, .int .i64 b.nx, .slice bB bm bd] 27).alloc #[.string ⟨#[]⟩, .slice none 0 0, .slice none 0 0, .slice none 0 0] 41
  simp only [World.size_alloc] at K0
  have F0 := K0.facts
  simp only [factsL, cellsF, Nat.reduceAdd, zf, zl] at F0
  clear a5 a6 a7 a8 b5 b6 b7 b8
  go_enter Tryd.func22, Tryd.ntmps22
  go_wp2
  go_step3
  go_wp2_with fail
  obtain ⟨g2, hg2⟩ : ∃ g, g = w.heap.size := ⟨_, rfl⟩
  obtain ⟨g3, hg3⟩ : ∃ g, g = g2 + 1 := ⟨_, rfl⟩
  obtain ⟨g4, hg4⟩ : ∃ g, g = g3 + 1 := ⟨_, rfl⟩
  rw [← hg2, ← hg3, ← hg4] at K0 ⊢
  clear F0
  generalize ((w.alloc _).alloc _).alloc _ = w1 at K0 ⊢
  have HGX := hid hg2
  clear hg2 hg3 hg4
  have hv := tvalid_any _ _ K0.mutLt a.nm aA an ac a.cs a.nx aB am ad la (K0.ro 3 rfl) (K0.ro 4 rfl) (by omega) (by omega) HAO.out hsa hca
  rw [HAR.out] at hv
  refine hv.mono ?_
  clear hv
  rintro e w2 ⟨rfl, b1_⟩
  have K1 := K0.call b1_
  clear K0 b1_
  have F1 := K1.facts
  simp only [factsL, cellsF, Nat.reduceAdd, zf, zl] at F1
  cases hva : tabB a.nm a.cs a.nx a.rs
  · have HN := hid (betC_a (b := b) hva)
    clear hva
    have KN := (((K1.store 0 rfl 0 (.string ⟨#[]⟩)).store 0 rfl 1 (.slice none 0 0)).store 0 rfl 2 (.slice none 0 0)).store 0 rfl 3 (.slice none 0 0)
    go_wp2_with fail
    exact bodyPost_ret (v := .tuple #[.agg #[.string ⟨#[]⟩, .slice none 0 0, .slice none 0 0, .slice none 0 0], .bool false]) (by simp [results, Tryd.results22, go_sem, F1]) rfl ⟨_, by rw [HN.out], by rw [HN.out]; exact dlAt_zero, KN.below⟩
  have HVA := hid hva
  clear hva
  go_wp2_with fail
  have hv := tvalid_any _ _ K1.mutLt b.nm bA bn bc b.cs b.nx bB bm bd lb (K1.ro 5 rfl) (K1.ro 6 rfl) (by omega) (by omega) HBO.out hsb hcb
  rw [HBR.out] at hv
  refine hv.mono ?_
  clear hv
  rintro e w3 ⟨rfl, b1_⟩
  have K2 := K1.call b1_
  clear K1 b1_ F1
  have F2 := K2.facts
  simp only [factsL, cellsF, Nat.reduceAdd, zf, zl] at F2
  cases hvb : tabB b.nm b.cs b.nx b.rs
  · have HN := hid (betC_b (a := a) hvb)
    clear hvb
    have KN := (((K2.store 0 rfl 0 (.string ⟨#[]⟩)).store 0 rfl 1 (.slice none 0 0)).store 0 rfl 2 (.slice none 0 0)).store 0 rfl 3 (.slice none 0 0)
    go_wp2_with fail
    exact bodyPost_ret (v := .tuple #[.agg #[.string ⟨#[]⟩, .slice none 0 0, .slice none 0 0, .slice none 0 0], .bool false]) (by simp [results, Tryd.results22, go_sem, F2]) rfl ⟨_, by rw [HN.out], by rw [HN.out]; exact dlAt_zero, KN.below⟩
  have HVB := hid hvb
  clear hvb hsa hca hsb hcb
  have han6 : an ≤ 6 := by have := tabB_cols HVA.out; have := HAC.out; omega
  have ham1 : am ≤ 100 := by have := (tabB_rows HVA.out).1; have h := congrArg List.length HAR.out; rw [List.length_map] at h; have := HAL.out; omega
  have hbm1 : bm ≤ 100 := by have := (tabB_rows HVB.out).1; have h := congrArg List.length HBR.out; rw [List.length_map] at h; have := HBL.out; omega
  have HSA := hid (rw_short HAE.out (by rw [HAR.out]; exact HVA.out))
  have HSB := hid (rw_short HBE.out (by rw [HBR.out]; exact HVB.out))
  clear ham hbm hra hrb
  go_wp2_with fail
  refine (dsameschema_any _ a.nm aA an ac a.cs b.nm bA bn bc b.cs (K2.ro 3 rfl).now (K2.ro 5 rfl).now (by omega)).mono ?_
  rintro e w4 ⟨rfl, b1_⟩
  have K3 := K2.call b1_
  clear K2 b1_ F2
  have F3 := K3.facts
  simp only [factsL, cellsF, Nat.reduceAdd, zf, zl] at F3
  cases hss : decide (a.nm = b.nm ∧ a.cs = b.cs)
  · have HN := hid (betC_s hss)
    clear hss
    have KN := (((K3.store 0 rfl 0 (.string ⟨#[]⟩)).store 0 rfl 1 (.slice none 0 0)).store 0 rfl 2 (.slice none 0 0)).store 0 rfl 3 (.slice none 0 0)
    go_wp2_with fail
    exact bodyPost_ret (v := .tuple #[.agg #[.string ⟨#[]⟩, .slice none 0 0, .slice none 0 0, .slice none 0 0], .bool false]) (by simp [results, Tryd.results22, go_sem, F3]) rfl ⟨_, by rw [HN.out], by rw [HN.out]; exact dlAt_zero, KN.below⟩
  have HEQ := hid (of_decide_eq_true hss)
  clear hss
  by_cases hnx : b.nx < a.nx
  · have hd : decide (b.nx < a.nx) = true := by simpa using hnx
    have HN := hid (betC_n hnx)
    clear hnx
    have KN := (((K3.store 0 rfl 0 (.string ⟨#[]⟩)).store 0 rfl 1 (.slice none 0 0)).store 0 rfl 2 (.slice none 0 0)).store 0 rfl 3 (.slice none 0 0)
    go_wp2_with fail
    exact bodyPost_ret (v := .tuple #[.agg #[.string ⟨#[]⟩, .slice none 0 0, .slice none 0 0, .slice none 0 0], .bool false]) (by simp [results, Tryd.results22, go_sem, F3]) rfl ⟨_, by rw [HN.out], by rw [HN.out]; exact dlAt_zero, KN.below⟩
  have hd : decide (b.nx < a.nx) = false := by simpa using hnx
  have HST := hid (BSt.zero HVA.out HVB.out HEQ.out (show a.nx ≤ b.nx by omega))
  clear hnx
  have K4 := K3.alloc #[.string a.nm, .slice none 0 0, .slice none 0 0, .slice none 0 0] 41
  go_wp2
  go_step3
  go_wp2
  obtain ⟨g6, hg6⟩ : ∃ g, g = w4.heap.size := ⟨_, rfl⟩
  rw [← hg6] at K4 ⊢
  have HG6 := hid hg6
  clear hg6 hd F3 K3
  generalize World.alloc w4 _ = w5 at K4 ⊢
  have K5 := ((((((K4.add (show Ro _ _ (PrVals []) from fun _ _ _ r hr => nomatch hr)).add (ro_vals_nil _ _)).add (ro_vals_nil _ _)).nil 99 3).nil 53 2).nil 53 2)
  have K6 := K5.add (show Ro _ _ (RwsIn aB am (la.drop 0)) from K5.ro 11 rfl)
  clear K4 K5
  go_loopg [7, 46] bm (fun gh bv iv wr => ∃ (j p np cp ni ci nd cd nu cu : Nat) (Ap I D U : Option Addr) (li ld : List Rw) (lu : List Pr), j + gh = bm ∧ iv = .int .i64 j ∧ bv = .slice Ap np cp ∧ np + p = am ∧ p ≤ am ∧ ni ≤ j ∧ nd ≤ p ∧ nu ≤ j ∧ np ≤ cp ∧ cp ≤ 9223372036854775807 ∧ Hid (BSt a b j p li ld lu) ∧ Hold M none w wr [.ro (RwsIn Ap np (la.drop p)), .own 53 2 (.slice I ni ci) ni (rwCells li), .own 53 2 (.slice D nd cd) nd (rwCells ld), .own 99 3 (.slice U nu cu) nu (prCells lu), .ro (ValsIn li), .ro (ValsIn ld), .ro (PrVals lu), .blk g6 41 #[.string a.nm, .slice I ni ci, .slice D nd cd, .slice U nu cu], .blk g4 41 #[.string ⟨#[]⟩, .slice none 0 0, .slice none 0 0, .slice none 0 0], .cst g3 27 #[.string b.nm, .slice bA bn bc, .int .i64 b.nx, .slice bB bm bd], .cst g2 27 #[.string a.nm, .slice aA an ac, .int .i64 a.nx, .slice aB am ad], .ro (ColsIn aA an a.cs), .ro (RwsIn aB am la), .ro (ColsIn bA bn b.cs), .ro (RwsIn bB bm lb)])
  case atStart => exact ⟨0, 0, am, ad, 0, 0, 0, 0, 0, 0, aB, none, none, none, [], [], [], by omega, rfl, rfl, by omega, by omega, by omega, by omega, by omega, a3, a4, HST, K6⟩
  case round =>
    clear K6
    obtain ⟨j, p, np, cp, ni, ci, nd, cd, nu, cu, Ap, I, D, U, li, ld, lu, hj, rfl, rfl, hnp, hpm, hni, hnd, hnu, hncp, hcp, HBS, H⟩ := hrel
    obtain ⟨wo, rfl⟩ : ∃ wo : World, wo = wr := ⟨_, rfl⟩
    cases gk with
    | succ go =>
      have hlt : j < bm := by omega
      have hd : decide ((j : Int) < (bm : Int)) = true := by simp; omega
      have j0 : (0 : Int) ≤ (j : Int) := by omega
      have j1 : (j : Int) < (bm : Int) := by omega
      obtain ⟨r, hr⟩ := get_of HBL.out hlt
      obtain ⟨bb, bo, rfl, hbb, c0, c1, _⟩ := (H.ro 14 rfl).now.at_ hr
      have HRR := hid (show b.rs[j]? = some r.row by rw [← HBR.out, List.getElem?_map, hr]; rfl)
      have HRO := hid (HBO.out r (List.mem_of_getElem? hr))
      have hrn6 := HSB.out r (List.mem_of_getElem? hr)
      have hxr : Ro wo _ (VlsIn r.A r.n r.vs) := (H.ro 14 rfl).imp fun w2 h2 => h2.2 r (List.mem_of_getElem? hr)
      obtain ⟨rid, rA, rn, rc, rvs⟩ := r
      dsimp only at *
      clear hr
      have K1 := (H.add hxr).alloc_cst #[.int .i64 rid, .slice rA rn rc] 53
      clear H hxr
      obtain ⟨g9, hg9⟩ : ∃ g, g = wo.heap.size := ⟨_, rfl⟩
      rw [← hg9] at K1
      go_wp2_with fail
      rw [← hg9]
      have HG9 := hid hg9
      clear hg9 c0 c1
      generalize World.alloc wo _ = wo2 at K1 ⊢
      go_loopg [7] np (fun gh bv wq => ∃ (p np cp nd cd : Nat) (Ap D : Option Addr) (ld : List Rw), gh = np ∧ bv = .slice Ap np cp ∧ np + p = am ∧ p ≤ am ∧ nd ≤ p ∧ np ≤ cp ∧ cp ≤ 9223372036854775807 ∧ Hid (BSt a b j p li ld lu) ∧ Hold M none w wq [.cst g9 53 #[.int .i64 rid, .slice rA rn rc], .ro (VlsIn rA rn rvs), .ro (RwsIn Ap np (la.drop p)), .own 53 2 (.slice I ni ci) ni (rwCells li), .own 53 2 (.slice D nd cd) nd (rwCells ld), .own 99 3 (.slice U nu cu) nu (prCells lu), .ro (ValsIn li), .ro (ValsIn ld), .ro (PrVals lu), .blk g6 41 #[.string a.nm, .slice I ni ci, .slice D nd cd, .slice U nu cu], .blk g4 41 #[.string ⟨#[]⟩, .slice none 0 0, .slice none 0 0, .slice none 0 0], .cst g3 27 #[.string b.nm, .slice bA bn bc, .int .i64 b.nx, .slice (some ⟨bb, bo, none⟩) bm bd], .cst g2 27 #[.string a.nm, .slice aA an ac, .int .i64 a.nx, .slice aB am ad], .ro (ColsIn aA an a.cs), .ro (RwsIn aB am la), .ro (ColsIn bA bn b.cs), .ro (RwsIn (some ⟨bb, bo, none⟩) bm lb)])
      case atStart => exact ⟨p, np, cp, nd, cd, Ap, D, ld, rfl, rfl, hnp, hpm, hnd, hncp, hcp, HBS, K1⟩
      case round =>
        clear K1 HBS hnp hpm hnd hncp hcp
        clear p np cp nd cd Ap D ld
        obtain ⟨p, np, cp, nd, cd, Ap, D, ld, hgh, rfl, hnp, hpm, hnd, hncp, hcp, HBS, H2⟩ := hrel
        cases gk with
        | succ gi =>
          have hnp0 : 0 < np := by omega
          have hq1 : decide ((np : Int) > 0) = true := by rw [decide_eq_true_iff]; omega
          have hq2 : ((0 : Int) < (np : Int)) := by omega
          obtain ⟨x, hx⟩ := get_of HAL.out (show p < am by omega)
          have HXX := hid (show a.rs[p]? = some x.row by rw [← HAR.out, List.getElem?_map, hx]; rfl)
          have HXO := hid (HAO.out x (List.mem_of_getElem? hx))
          have hxn6 := HSA.out x (List.mem_of_getElem? hx)
          have hdr := drop_cons hx
          have hbf := H2.ro 2 rfl
          rw [hdr] at hbf
          obtain ⟨bx, ox, rfl, _⟩ := hbf.tailRws
          have HDR := hid hdr
          obtain ⟨b', o', e', hbx', x0, x1, _⟩ := hbf.now.at_ (k := 0) rfl
          obtain ⟨rfl, rfl⟩ : bx = b' ∧ ox = o' := by injection e' with e'; injection e' with e1 e2; exact ⟨e1, e2⟩
          simp only [Nat.zero_mul, Nat.add_zero] at x0 x1
          clear hx hdr hbf e'
          obtain ⟨xid, xA, xn, xc, xvs⟩ := x
          dsimp only at *
          have F2 := H2.facts
          simp only [factsL, cellsF, Nat.reduceAdd, zf, zl] at F2
          by_cases hle : xid ≤ rid
          · have hd2 : decide (xid ≤ rid) = true := by simpa using hle
            go_wp2_with fail
            go_quiet (fail)
            have H3 := H2.drewN nq
            clear H2 F2 x0 x1
            obtain ⟨w3, hw3⟩ : ∃ w3, w3 = wr.drewN nq := ⟨_, rfl⟩
            rw [← hw3] at H3 ⊢
            clear hw3
            have hbf : Ro w3 _ (RwsIn (some ⟨bx, ox, none⟩) np (⟨xid, xA, xn, xc, xvs⟩ :: la.drop (p + 1))) := (H3.ro 2 rfl).imp fun w2 h2 => by rw [← HDR.out]; exact h2
            obtain ⟨bx', ox', e', hnxt⟩ := hbf.tailRws
            obtain ⟨rfl, rfl⟩ : bx = bx' ∧ ox = ox' := by injection e' with e'; injection e' with e1 e2; exact ⟨e1, e2⟩
            obtain ⟨b', o', e2', hbx', x0, x1, _⟩ := hbf.now.at_ (k := 0) rfl
            obtain ⟨rfl, rfl⟩ : bx = b' ∧ ox = o' := by injection e2' with e2'; injection e2' with e1 e2; exact ⟨e1, e2⟩
            simp only [Nat.zero_mul, Nat.add_zero] at x0 x1
            have hxx : Ro w3 _ (VlsIn xA xn xvs) := hbf.imp fun w2 h2 => h2.2 _ (List.mem_cons_self ..)
            have K2 := (H3.add hxx).alloc_cst #[.int .i64 xid, .slice xA xn xc] 53
            clear e' e2' hbf hxx
            have hnp1 : 1 ≤ np := by omega
            by_cases hc1 : cp = 1
            · have HZ := hid (show la.drop (p + 1) = [] from List.drop_of_length_le (by rw [HAL.out]; omega))
              have KX := K2.swapRo 4 rfl (Ro.nilRws (A := some ⟨bx, ox, none⟩) (n := np - 1) (l := la.drop (p + 1)) (by omega) HZ.out)
              simp only [List.set_cons_zero, List.set_cons_succ] at KX
              clear K2 H3 hnxt
              have FK := KX.facts
              simp only [factsL, cellsF, Nat.reduceAdd, zf, zl] at FK
              by_cases hlt3 : xid < rid
              · have hd4 : decide (xid < rid) = true := by simpa using hlt3
                obtain ⟨KL, hKL, KN⟩ := KX.name
                have HF : Hid (∀ wv, Hold M none w wv KL → (wv.cell? ⟨g6, 2, none⟩ = some (.slice D nd cd) ∧ g6 < wv.heap.size) ∧ wv.cell? ⟨w3.heap.size, 0, none⟩ = some (.int .i64 xid) ∧ wv.cell? ⟨w3.heap.size, 1, none⟩ = some (.slice xA xn xc) ∧ w3.heap.size < wv.heap.size) := hid fun wv HC => by
                  rw [hKL] at HC
                  have y1 := HC.blk_ 11 rfl
                  have y2 := HC.cst_ 0 rfl
                  exact ⟨⟨cell_of_row _ _ 2 _ _ _ y1, Blk.lt y1⟩, cell_of_row _ _ 0 _ _ _ y2, cell_of_row _ _ 1 _ _ _ y2, Blk.lt y2⟩
                have HRX : Hid (∀ wv, Hold M none w wv KL → Ro wv (Mut M KL) (VlsIn xA xn xvs)) := hid fun wv HC => by
                  rw [hKL] at HC ⊢
                  exact HC.ro 1 rfl
                have HKL := hid hKL
                clear hKL KX
                go_wp2_with fail
                refine wp_region_any (by kernel_rfl) ?_
                refine wpAny_hold 5 128 (KL) (spL [(75, RowSlot (Mut M KL) xid xvs), (76, RBoxSlot (Mut M KL) xid xvs)]) (by kernel_rfl) (by kernel_rfl) (by kernel_rfl) rfl ?_ (KN.drew) ?_
                · exact stays_cons rowSlot_mono (stays_cons rboxSlot_mono (stays_nil _))
                simp only [zd, Act.put, List.getElem_toArray, List.getElem_cons_zero, List.getElem_cons_succ, zl]
                refine dw_val rfl rfl rfl ?_; apply Exists.intro; refine ⟨fun wv HC => ?_, ?_⟩
                ·  go_simp <;> rfl
                simp only [Act.put, zl]
                refine dw_val rfl rfl rfl ?_; apply Exists.intro; refine ⟨fun wv HC => ?_, ?_⟩
                · obtain ⟨⟨f0, f1⟩, f2, f3, f4⟩ := HF.out _ HC; go_simp <;> rfl
                simp only [Act.put, zl]
                refine dw_val rfl rfl rfl ?_; apply Exists.intro; refine ⟨fun wv HC => ?_, ?_⟩
                · obtain ⟨⟨f0, f1⟩, f2, f3, f4⟩ := HF.out _ HC; go_simp <;> rfl
                simp only [Act.put, zl]
                refine dw_callR 75 (RowSlot (Mut M KL) xid xvs) (f := 61) (args := #[.agg #[.int .i64 xid, .slice xA xn xc]]) rfl rfl rfl rfl (fun wv => ?_) (fun wv HC hrm hD => ?_) ?_
                · go_simp <;> rfl
                · refine (dcopied_any _ wv HC.mutLt xid xA xn xc xvs (HRX.out _ HC) (by omega)).mono ?_
                  rintro e w5 ⟨A5, n5, c5, rfl, h50, h51, h52, h53, b5⟩
                  exact ⟨_, rfl, ⟨A5, n5, c5, rfl, h50, h51, h52, h53⟩, HC.call b5, RM.below b5⟩
                rintro x_ wx HCx ⟨A5, n5, c5, rfl, -, -, -, -⟩
                clear HCx
                simp only [Act.put, zl]
                refine dw_new #[.int .i64 xid, .slice A5 n5 c5] 53 76 (RBoxSlot (Mut M KL) xid xvs) (fun g => .slice (some ⟨g, 0, none⟩) 1 1) rfl rfl rfl rfl (fun wv => ?_) (fun wv HC _hrm hD hro => ?_) ?_
                · go_simp <;> rfl
                · have hsl : RowSlot (Mut M KL) xid xvs (.agg #[.int .i64 xid, .slice A5 n5 c5]) wv := deps_at hD 3 rfl (by kernel_rfl) rfl rfl
                  obtain ⟨A6, n6, c6, e6, h1, h2, h3, h4⟩ := hsl
                  obtain ⟨rfl, rfl, rfl⟩ : A5 = A6 ∧ n5 = n6 ∧ c5 = c6 := by
                    injection e6 with e6
                    simp at e6
                    exact e6
                  exact ⟨_, A5, n5, c5, rfl, h1, h2, h3, h4.step (by simp) (fun b hb _ => Below.heap_alloc wv _ b hb) (fun _ _ h => h), ro_block (hro _ HC.mutLt) rfl⟩
                rintro gn wg HCg hsl
                simp only [Act.put, zl]
                clear hsl HCg
                refine rel_nil ?_
                rintro wx2 HX
                rintro _hrm HGW
                have hb2 : RBoxSlot (Mut M KL) xid xvs (.slice (some ⟨gn, 0, none⟩) 1 1) wx2 := (GW_on (d := 76) rfl).1 (HGW 4 _ rfl (by omega))
                clear HGW _hrm
                obtain ⟨gq, A6, n6, c6, e6, k0_, k1_, k2_, k3_, k4_⟩ := hb2
                obtain rfl : gn = gq := by injection e6 with e6; injection e6 with e6; injection e6
                clear e6
                rw [HKL.out] at HX k3_
                have k5 := hid k4_.now
                have HK0 := hid (And.intro k0_ (And.intro k1_ k2_))
                clear k4_ k0_ k1_ k2_ HF HRX KN
                have HRS := hid (show rwCells ld ++ [.int .i64 xid, .slice A6 n6 c6] = rwCells (ld ++ [⟨xid, A6, n6, c6, xvs⟩]) from rwCells_snoc1 _ _ _ _ _ _)
                have KA := HX.add k3_
                clear HX k3_
                have FKA := KA.facts
                simp only [factsL, cellsF, Nat.reduceAdd, zf, zl] at FKA
                go_wp2_with (at_builtin; go_must (refine wpList_appAllH KA 7 rfl Tryd.elRw k5.out rfl (.tmp 73) (.tmp 76) rfl rfl rfl (by intro z hz; simp at hz; rcases hz with rfl | rfl <;> rfl) (by omega) (by omega) ?_); intro C' cap' w6 hc6 hm6 KB; rw [HRS.out] at KB; simp only [List.set_cons_zero, List.set_cons_succ] at KB; (have F3 := KB.facts); simp only [factsL, cellsF, Nat.reduceAdd, zf, zl] at F3)
                have KD := KB.store 12 rfl 2 (.slice C' (nd + 1) cap')
                have KE := (KD.swapRo 10 rfl (vals_snoc (r := ⟨xid, A6, n6, c6, xvs⟩) (KD.ro 10 rfl) (KD.ro 0 rfl))).drop (List.sublist_cons_self _ _)
                clear KB KD FKA k5
                have HBN := hid (HBS.out.left HXX.out HRR.out hlt3 (y := ⟨xid, A6, n6, c6, xvs⟩) rfl ⟨HXO.out.id, HK0.out.2.1, HK0.out.2.2, HXO.out.vs⟩)
                have KZ := KE.drop (List.Sublist.cons _ (List.sublist_cons_self _ _))
                go_roundg gi
                case measure => omega
                case rel => exact ⟨p + 1, np - 1, 0, nd + 1, cap', (some ⟨bx, ox, none⟩), C', _, by omega, by first | rfl | (simp <;> omega), by omega, by omega, by omega, by omega, by omega, HBN, KZ⟩
              · obtain rfl : xid = rid := by omega
                have hd4 : decide (xid < xid) = false := by simp
                clear hlt3
                go_wp2_with fail
                refine (eqVls_any _ xA xn xc xvs rA rn rc rvs (KX.ro 1 rfl).now (KX.ro 3 rfl).now (by omega)).mono ?_
                rintro e w7 ⟨rfl, q7, rfl⟩
                have KY := KX.drewN q7
                clear KX FK
                have FK := KY.facts
                simp only [factsL, cellsF, Nat.reduceAdd, zf, zl] at FK
                by_cases hvv : xvs = rvs
                · rw [decide_eq_true hvv]
                  have HBN := hid (HBS.out.same HXX.out HRR.out rfl hvv)
                  clear hvv
                  have KZ := KY.drop (List.Sublist.cons _ (List.Sublist.cons _ (List.Sublist.cons _ (List.sublist_cons_self _ _))))
                  go_wp2_with fail
                  go_roundg go
                  case measure => omega
                  case rel => exact ⟨j + 1, p + 1, np - 1, 0, ni, ci, nd, cd, nu, cu, (some ⟨bx, ox, none⟩), I, D, U, li, ld, lu, by omega, by first | rfl | go_num, by first | rfl | (simp <;> omega), by omega, by omega, by omega, by omega, by omega, by omega, by omega, HBN, KZ⟩
                · rw [decide_eq_false hvv]
                  have HNE := hid hvv
                  clear hvv
                  obtain ⟨KL, hKL, KN⟩ := KY.name
                  have HF : Hid (∀ wv, Hold M none w wv KL → (wv.cell? ⟨g6, 3, none⟩ = some (.slice U nu cu) ∧ g6 < wv.heap.size) ∧ wv.cell? ⟨g9, 0, none⟩ = some (.int .i64 xid) ∧ wv.cell? ⟨g9, 1, none⟩ = some (.slice rA rn rc) ∧ g9 < wv.heap.size ∧ wv.cell? ⟨w3.heap.size, 0, none⟩ = some (.int .i64 xid) ∧ wv.cell? ⟨w3.heap.size, 1, none⟩ = some (.slice xA xn xc) ∧ w3.heap.size < wv.heap.size) := hid fun wv HC => by
                    rw [hKL] at HC
                    have y1 := HC.blk_ 11 rfl
                    have y2 := HC.cst_ 2 rfl
                    have y3 := HC.cst_ 0 rfl
                    exact ⟨⟨cell_of_row _ _ 3 _ _ _ y1, Blk.lt y1⟩, cell_of_row _ _ 0 _ _ _ y2, cell_of_row _ _ 1 _ _ _ y2, Blk.lt y2, cell_of_row _ _ 0 _ _ _ y3, cell_of_row _ _ 1 _ _ _ y3, Blk.lt y3⟩
                  have HRX : Hid (∀ wv, Hold M none w wv KL → Ro wv (Mut M KL) (VlsIn xA xn xvs) ∧ Ro wv (Mut M KL) (VlsIn rA rn rvs)) := hid fun wv HC => by
                    rw [hKL] at HC ⊢
                    exact ⟨HC.ro 1 rfl, HC.ro 3 rfl⟩
                  have HKL := hid hKL
                  clear hKL KY
                  go_wp2_with fail
                  refine wp_region_any (by kernel_rfl) ?_
                  refine wpAny_hold 12 128 (KL) (spL [(91, VlsSlot (Mut M KL) xvs), (94, VlsSlot (Mut M KL) rvs), (95, PrSlot (Mut M KL) (xid, xvs, rvs)), (96, PrsSlot (Mut M KL) [(xid, xvs, rvs)])]) (by kernel_rfl) (by kernel_rfl) (by kernel_rfl) rfl ?_ (KN.drew) ?_
                  · exact stays_cons vlsSlot_mono (stays_cons vlsSlot_mono (stays_cons prSlot_mono (stays_cons prsSlot_mono (stays_nil _))))
                  simp only [zd, Act.put, List.getElem_toArray, List.getElem_cons_zero, List.getElem_cons_succ, zl]
                  refine dw_val rfl rfl rfl ?_; apply Exists.intro; refine ⟨fun wv HC => ?_, ?_⟩
                  ·  go_simp <;> rfl
                  simp only [Act.put, zl]
                  refine dw_val rfl rfl rfl ?_; apply Exists.intro; refine ⟨fun wv HC => ?_, ?_⟩
                  · obtain ⟨⟨f0, f1⟩, f2, f3, f4, f5, f6, f7⟩ := HF.out _ HC; go_simp <;> rfl
                  simp only [Act.put, zl]
                  refine dw_val rfl rfl rfl ?_; apply Exists.intro; refine ⟨fun wv HC => ?_, ?_⟩
                  ·  go_simp <;> rfl
                  simp only [Act.put, zl]
                  refine dw_val rfl rfl rfl ?_; apply Exists.intro; refine ⟨fun wv HC => ?_, ?_⟩
                  · obtain ⟨⟨f0, f1⟩, f2, f3, f4, f5, f6, f7⟩ := HF.out _ HC; go_simp <;> rfl
                  simp only [Act.put, zl]
                  refine dw_val rfl rfl rfl ?_; apply Exists.intro; refine ⟨fun wv HC => ?_, ?_⟩
                  ·  go_simp <;> rfl
                  simp only [Act.put, zl]
                  refine dw_val rfl rfl rfl ?_; apply Exists.intro; refine ⟨fun wv HC => ?_, ?_⟩
                  · obtain ⟨⟨f0, f1⟩, f2, f3, f4, f5, f6, f7⟩ := HF.out _ HC; go_simp <;> rfl
                  simp only [Act.put, zl]
                  refine dw_callR 91 (VlsSlot (Mut M KL) xvs) (f := 63) (args := #[.slice xA xn xc]) rfl rfl rfl rfl (fun wv => ?_) (fun wv HC hrm hD => ?_) ?_
                  · go_simp <;> rfl
                  · refine (cloneVls_any _ wv HC.mutLt xA xn xc xvs (HRX.out _ HC).1 (by omega)).mono ?_
                    rintro e w5 ⟨A5, n5, c5, rfl, h50, h51, h52, h53, b5⟩
                    exact ⟨_, rfl, ⟨A5, n5, c5, rfl, h50, h51, h52, h53⟩, HC.call b5, RM.below b5⟩
                  rintro x_ wx HCx ⟨A91, n91, c91, rfl, -, -, -, -⟩
                  clear HCx
                  simp only [Act.put, zl]
                  refine dw_val rfl rfl rfl ?_; apply Exists.intro; refine ⟨fun wv HC => ?_, ?_⟩
                  ·  go_simp <;> rfl
                  simp only [Act.put, zl]
                  refine dw_val rfl rfl rfl ?_; apply Exists.intro; refine ⟨fun wv HC => ?_, ?_⟩
                  · obtain ⟨⟨f0, f1⟩, f2, f3, f4, f5, f6, f7⟩ := HF.out _ HC; go_simp <;> rfl
                  simp only [Act.put, zl]
                  refine dw_callR 94 (VlsSlot (Mut M KL) rvs) (f := 63) (args := #[.slice rA rn rc]) rfl rfl rfl rfl (fun wv => ?_) (fun wv HC hrm hD => ?_) ?_
                  · go_simp <;> rfl
                  · refine (cloneVls_any _ wv HC.mutLt rA rn rc rvs (HRX.out _ HC).2 (by omega)).mono ?_
                    rintro e w5 ⟨A5, n5, c5, rfl, h50, h51, h52, h53, b5⟩
                    exact ⟨_, rfl, ⟨A5, n5, c5, rfl, h50, h51, h52, h53⟩, HC.call b5, RM.below b5⟩
                  rintro x_ wx HCx ⟨A94, n94, c94, rfl, -, -, -, -⟩
                  clear HCx
                  simp only [Act.put, zl]
                  refine dw_valC 95 (PrSlot (Mut M KL) (xid, xvs, rvs)) rfl rfl rfl rfl (.agg #[.int .i64 xid, .slice A91 n91 c91, .slice A94 n94 c94]) (fun wv HC => ?_) (fun wv HC hD => ?_) ?_
                  · go_simp <;> rfl
                  · have ha : VlsSlot (Mut M KL) xvs (.slice A91 n91 c91) wv := deps_at hD 6 rfl (by kernel_rfl) rfl rfl
                    have hb : VlsSlot (Mut M KL) rvs (.slice A94 n94 c94) wv := deps_at hD 9 rfl (by kernel_rfl) rfl rfl
                    exact prSlot_of HXO.out.id HXO.out.vs HRO.out.vs ha hb
                  simp only [Act.put, zl]
                  refine dw_new #[.int .i64 xid, .slice A91 n91 c91, .slice A94 n94 c94] 99 96 (PrsSlot (Mut M KL) [(xid, xvs, rvs)]) (fun g => .slice (some ⟨g, 0, none⟩) 1 1) rfl rfl rfl rfl (fun wv => ?_) (fun wv HC _hrm hD hro => ?_) ?_
                  · go_simp <;> rfl
                  · have hrr := RM.alloc (Mut M KL) wv (.cells #[.int .i64 xid, .slice A91 n91 c91, .slice A94 n94 c94] 99)
                    have h0 : PrSlot (Mut M KL) (xid, xvs, rvs) (.agg #[.int .i64 xid, .slice A91 n91 c91, .slice A94 n94 c94]) wv := deps_at hD 10 rfl (by kernel_rfl) rfl rfl
                    replace h0 := prSlot_mono _ _ _ hrr h0
                    exact prsSlot_one (hro _ HC.mutLt) (fun i j k e1 => Value.agg.inj e1) h0
                  rintro g96 wg HCg hsl
                  simp only [Act.put, zl]
                  clear hsl HCg
                  refine rel_nil ?_
                  rintro wx5 HX5
                  rintro _hrm HGW
                  have hb2 : PrsSlot (Mut M KL) [(xid, xvs, rvs)] (.slice (some ⟨g96, 0, none⟩) 1 1) wx5 := (GW_on (d := 96) rfl).1 (HGW 11 _ rfl (by omega))
                  clear HGW _hrm
                  obtain ⟨Aq, nq, cq, pq, heq, -, -, hpm, hpok, hpr⟩ := hb2
                  obtain ⟨rfl, rfl, rfl⟩ : some ⟨g96, 0, none⟩ = Aq ∧ 1 = nq ∧ 1 = cq := by injection heq with h1 h2 h3; exact ⟨h1, h2, h3⟩
                  clear heq
                  obtain ⟨pr, rfl, hpu⟩ : ∃ pr, pq = [pr] ∧ pr.upd = (xid, xvs, rvs) := by
                    obtain ⟨pr, h1, h2⟩ := List.map_eq_singleton_iff.1 hpm
                    exact ⟨pr, h1, h2⟩
                  rw [HKL.out] at HX5 hpr
                  have HPE := hid (show prCells lu ++ prCells [pr] = prCells (lu ++ [pr]) by simp [prCells])
                  have KA := HX5.add (hpr.imp fun w h => (h.2 : PrVals [pr] w))
                  have k5 := hid ((hpr.imp fun w h => h.1).now)
                  have HBN := hid (HBS.out.turn HXX.out HRR.out rfl HNE.out hpu (hpok pr (List.mem_singleton.2 rfl)))
                  clear HX5 hpr hpm hpok hpu HF HRX KN
                  have FKA := KA.facts
                  simp only [factsL, cellsF, Nat.reduceAdd, zf, zl] at FKA
                  go_wp2_with (at_builtin; go_must (refine wpList_appAllH KA 8 rfl Tryd.elPr k5.out rfl (.tmp 86) (.tmp 96) rfl rfl rfl (prCells_one _) (by omega) (by omega) ?_); intro C' cap' w6 hc6 hm6 KB; rw [HPE.out] at KB; simp only [List.set_cons_zero, List.set_cons_succ] at KB; (have FB := KB.facts); simp only [factsL, cellsF, Nat.reduceAdd, zf, zl] at FB)
                  have KD := KB.store 12 rfl 3 (.slice C' (nu + 1) cap')
                  have KZ := (KD.swapRo 11 rfl (prVals_app (KD.ro 11 rfl) (KD.ro 0 rfl))).drop (List.Sublist.cons _ (List.Sublist.cons _ (List.Sublist.cons _ (List.Sublist.cons _ (List.sublist_cons_self _ _)))))
                  clear KB KD FKA k5
                  go_roundg go
                  case measure => omega
                  case rel => exact ⟨j + 1, p + 1, np - 1, 0, ni, ci, nd, cd, nu + 1, cap', (some ⟨bx, ox, none⟩), I, D, C', li, ld, _, by omega, by first | rfl | go_num, by first | rfl | (simp <;> omega), by omega, by omega, by omega, by omega, by omega, by omega, by omega, HBN, KZ⟩
            · have KX := K2.swapRo 4 rfl (hnxt.step (by simp) (fun b hb _ => Below.heap_alloc w3 _ b hb) (fun b hb h => (mut_none rfl b ((mut_none rfl b h)))))
              simp only [List.set_cons_zero, List.set_cons_succ] at KX
              clear K2 H3 hnxt
              have FK := KX.facts
              simp only [factsL, cellsF, Nat.reduceAdd, zf, zl] at FK
              by_cases hlt3 : xid < rid
              · have hd4 : decide (xid < rid) = true := by simpa using hlt3
                obtain ⟨KL, hKL, KN⟩ := KX.name
                have HF : Hid (∀ wv, Hold M none w wv KL → (wv.cell? ⟨g6, 2, none⟩ = some (.slice D nd cd) ∧ g6 < wv.heap.size) ∧ wv.cell? ⟨w3.heap.size, 0, none⟩ = some (.int .i64 xid) ∧ wv.cell? ⟨w3.heap.size, 1, none⟩ = some (.slice xA xn xc) ∧ w3.heap.size < wv.heap.size) := hid fun wv HC => by
                  rw [hKL] at HC
                  have y1 := HC.blk_ 11 rfl
                  have y2 := HC.cst_ 0 rfl
                  exact ⟨⟨cell_of_row _ _ 2 _ _ _ y1, Blk.lt y1⟩, cell_of_row _ _ 0 _ _ _ y2, cell_of_row _ _ 1 _ _ _ y2, Blk.lt y2⟩
                have HRX : Hid (∀ wv, Hold M none w wv KL → Ro wv (Mut M KL) (VlsIn xA xn xvs)) := hid fun wv HC => by
                  rw [hKL] at HC ⊢
                  exact HC.ro 1 rfl
                have HKL := hid hKL
                clear hKL KX
                go_wp2_with fail
                refine wp_region_any (by kernel_rfl) ?_
                refine wpAny_hold 5 128 (KL) (spL [(75, RowSlot (Mut M KL) xid xvs), (76, RBoxSlot (Mut M KL) xid xvs)]) (by kernel_rfl) (by kernel_rfl) (by kernel_rfl) rfl ?_ (KN.drew) ?_
                · exact stays_cons rowSlot_mono (stays_cons rboxSlot_mono (stays_nil _))
                simp only [zd, Act.put, List.getElem_toArray, List.getElem_cons_zero, List.getElem_cons_succ, zl]
                refine dw_val rfl rfl rfl ?_; apply Exists.intro; refine ⟨fun wv HC => ?_, ?_⟩
                ·  go_simp <;> rfl
                simp only [Act.put, zl]
                refine dw_val rfl rfl rfl ?_; apply Exists.intro; refine ⟨fun wv HC => ?_, ?_⟩
                · obtain ⟨⟨f0, f1⟩, f2, f3, f4⟩ := HF.out _ HC; go_simp <;> rfl
                simp only [Act.put, zl]
                refine dw_val rfl rfl rfl ?_; apply Exists.intro; refine ⟨fun wv HC => ?_, ?_⟩
                · obtain ⟨⟨f0, f1⟩, f2, f3, f4⟩ := HF.out _ HC; go_simp <;> rfl
                simp only [Act.put, zl]
                refine dw_callR 75 (RowSlot (Mut M KL) xid xvs) (f := 61) (args := #[.agg #[.int .i64 xid, .slice xA xn xc]]) rfl rfl rfl rfl (fun wv => ?_) (fun wv HC hrm hD => ?_) ?_
                · go_simp <;> rfl
                · refine (dcopied_any _ wv HC.mutLt xid xA xn xc xvs (HRX.out _ HC) (by omega)).mono ?_
                  rintro e w5 ⟨A5, n5, c5, rfl, h50, h51, h52, h53, b5⟩
                  exact ⟨_, rfl, ⟨A5, n5, c5, rfl, h50, h51, h52, h53⟩, HC.call b5, RM.below b5⟩
                rintro x_ wx HCx ⟨A5, n5, c5, rfl, -, -, -, -⟩
                clear HCx
                simp only [Act.put, zl]
                refine dw_new #[.int .i64 xid, .slice A5 n5 c5] 53 76 (RBoxSlot (Mut M KL) xid xvs) (fun g => .slice (some ⟨g, 0, none⟩) 1 1) rfl rfl rfl rfl (fun wv => ?_) (fun wv HC _hrm hD hro => ?_) ?_
                · go_simp <;> rfl
                · have hsl : RowSlot (Mut M KL) xid xvs (.agg #[.int .i64 xid, .slice A5 n5 c5]) wv := deps_at hD 3 rfl (by kernel_rfl) rfl rfl
                  obtain ⟨A6, n6, c6, e6, h1, h2, h3, h4⟩ := hsl
                  obtain ⟨rfl, rfl, rfl⟩ : A5 = A6 ∧ n5 = n6 ∧ c5 = c6 := by
                    injection e6 with e6
                    simp at e6
                    exact e6
                  exact ⟨_, A5, n5, c5, rfl, h1, h2, h3, h4.step (by simp) (fun b hb _ => Below.heap_alloc wv _ b hb) (fun _ _ h => h), ro_block (hro _ HC.mutLt) rfl⟩
                rintro gn wg HCg hsl
                simp only [Act.put, zl]
                clear hsl HCg
                refine rel_nil ?_
                rintro wx2 HX
                rintro _hrm HGW
                have hb2 : RBoxSlot (Mut M KL) xid xvs (.slice (some ⟨gn, 0, none⟩) 1 1) wx2 := (GW_on (d := 76) rfl).1 (HGW 4 _ rfl (by omega))
                clear HGW _hrm
                obtain ⟨gq, A6, n6, c6, e6, k0_, k1_, k2_, k3_, k4_⟩ := hb2
                obtain rfl : gn = gq := by injection e6 with e6; injection e6 with e6; injection e6
                clear e6
                rw [HKL.out] at HX k3_
                have k5 := hid k4_.now
                have HK0 := hid (And.intro k0_ (And.intro k1_ k2_))
                clear k4_ k0_ k1_ k2_ HF HRX KN
                have HRS := hid (show rwCells ld ++ [.int .i64 xid, .slice A6 n6 c6] = rwCells (ld ++ [⟨xid, A6, n6, c6, xvs⟩]) from rwCells_snoc1 _ _ _ _ _ _)
                have KA := HX.add k3_
                clear HX k3_
                have FKA := KA.facts
                simp only [factsL, cellsF, Nat.reduceAdd, zf, zl] at FKA
                go_wp2_with (at_builtin; go_must (refine wpList_appAllH KA 7 rfl Tryd.elRw k5.out rfl (.tmp 73) (.tmp 76) rfl rfl rfl (by intro z hz; simp at hz; rcases hz with rfl | rfl <;> rfl) (by omega) (by omega) ?_); intro C' cap' w6 hc6 hm6 KB; rw [HRS.out] at KB; simp only [List.set_cons_zero, List.set_cons_succ] at KB; (have F3 := KB.facts); simp only [factsL, cellsF, Nat.reduceAdd, zf, zl] at F3)
                have KD := KB.store 12 rfl 2 (.slice C' (nd + 1) cap')
                have KE := (KD.swapRo 10 rfl (vals_snoc (r := ⟨xid, A6, n6, c6, xvs⟩) (KD.ro 10 rfl) (KD.ro 0 rfl))).drop (List.sublist_cons_self _ _)
                clear KB KD FKA k5
                have HBN := hid (HBS.out.left HXX.out HRR.out hlt3 (y := ⟨xid, A6, n6, c6, xvs⟩) rfl ⟨HXO.out.id, HK0.out.2.1, HK0.out.2.2, HXO.out.vs⟩)
                have KZ := KE.drop (List.Sublist.cons _ (List.sublist_cons_self _ _))
                go_roundg gi
                case measure => omega
                case rel => exact ⟨p + 1, np - 1, (cp - 1), nd + 1, cap', (some ⟨bx, ox + 2, none⟩), C', _, by omega, by first | rfl | (simp <;> omega), by omega, by omega, by omega, by omega, by omega, HBN, KZ⟩
              · obtain rfl : xid = rid := by omega
                have hd4 : decide (xid < xid) = false := by simp
                clear hlt3
                go_wp2_with fail
                refine (eqVls_any _ xA xn xc xvs rA rn rc rvs (KX.ro 1 rfl).now (KX.ro 3 rfl).now (by omega)).mono ?_
                rintro e w7 ⟨rfl, q7, rfl⟩
                have KY := KX.drewN q7
                clear KX FK
                have FK := KY.facts
                simp only [factsL, cellsF, Nat.reduceAdd, zf, zl] at FK
                by_cases hvv : xvs = rvs
                · rw [decide_eq_true hvv]
                  have HBN := hid (HBS.out.same HXX.out HRR.out rfl hvv)
                  clear hvv
                  have KZ := KY.drop (List.Sublist.cons _ (List.Sublist.cons _ (List.Sublist.cons _ (List.sublist_cons_self _ _))))
                  go_wp2_with fail
                  go_roundg go
                  case measure => omega
                  case rel => exact ⟨j + 1, p + 1, np - 1, (cp - 1), ni, ci, nd, cd, nu, cu, (some ⟨bx, ox + 2, none⟩), I, D, U, li, ld, lu, by omega, by first | rfl | go_num, by first | rfl | (simp <;> omega), by omega, by omega, by omega, by omega, by omega, by omega, by omega, HBN, KZ⟩
                · rw [decide_eq_false hvv]
                  have HNE := hid hvv
                  clear hvv
                  obtain ⟨KL, hKL, KN⟩ := KY.name
                  have HF : Hid (∀ wv, Hold M none w wv KL → (wv.cell? ⟨g6, 3, none⟩ = some (.slice U nu cu) ∧ g6 < wv.heap.size) ∧ wv.cell? ⟨g9, 0, none⟩ = some (.int .i64 xid) ∧ wv.cell? ⟨g9, 1, none⟩ = some (.slice rA rn rc) ∧ g9 < wv.heap.size ∧ wv.cell? ⟨w3.heap.size, 0, none⟩ = some (.int .i64 xid) ∧ wv.cell? ⟨w3.heap.size, 1, none⟩ = some (.slice xA xn xc) ∧ w3.heap.size < wv.heap.size) := hid fun wv HC => by
                    rw [hKL] at HC
                    have y1 := HC.blk_ 11 rfl
                    have y2 := HC.cst_ 2 rfl
                    have y3 := HC.cst_ 0 rfl
                    exact ⟨⟨cell_of_row _ _ 3 _ _ _ y1, Blk.lt y1⟩, cell_of_row _ _ 0 _ _ _ y2, cell_of_row _ _ 1 _ _ _ y2, Blk.lt y2, cell_of_row _ _ 0 _ _ _ y3, cell_of_row _ _ 1 _ _ _ y3, Blk.lt y3⟩
                  have HRX : Hid (∀ wv, Hold M none w wv KL → Ro wv (Mut M KL) (VlsIn xA xn xvs) ∧ Ro wv (Mut M KL) (VlsIn rA rn rvs)) := hid fun wv HC => by
                    rw [hKL] at HC ⊢
                    exact ⟨HC.ro 1 rfl, HC.ro 3 rfl⟩
                  have HKL := hid hKL
                  clear hKL KY
                  go_wp2_with fail
                  refine wp_region_any (by kernel_rfl) ?_
                  refine wpAny_hold 12 128 (KL) (spL [(91, VlsSlot (Mut M KL) xvs), (94, VlsSlot (Mut M KL) rvs), (95, PrSlot (Mut M KL) (xid, xvs, rvs)), (96, PrsSlot (Mut M KL) [(xid, xvs, rvs)])]) (by kernel_rfl) (by kernel_rfl) (by kernel_rfl) rfl ?_ (KN.drew) ?_
                  · exact stays_cons vlsSlot_mono (stays_cons vlsSlot_mono (stays_cons prSlot_mono (stays_cons prsSlot_mono (stays_nil _))))
                  simp only [zd, Act.put, List.getElem_toArray, List.getElem_cons_zero, List.getElem_cons_succ, zl]
                  refine dw_val rfl rfl rfl ?_; apply Exists.intro; refine ⟨fun wv HC => ?_, ?_⟩
                  ·  go_simp <;> rfl
                  simp only [Act.put, zl]
                  refine dw_val rfl rfl rfl ?_; apply Exists.intro; refine ⟨fun wv HC => ?_, ?_⟩
                  · obtain ⟨⟨f0, f1⟩, f2, f3, f4, f5, f6, f7⟩ := HF.out _ HC; go_simp <;> rfl
                  simp only [Act.put, zl]
                  refine dw_val rfl rfl rfl ?_; apply Exists.intro; refine ⟨fun wv HC => ?_, ?_⟩
                  ·  go_simp <;> rfl
                  simp only [Act.put, zl]
                  refine dw_val rfl rfl rfl ?_; apply Exists.intro; refine ⟨fun wv HC => ?_, ?_⟩
                  · obtain ⟨⟨f0, f1⟩, f2, f3, f4, f5, f6, f7⟩ := HF.out _ HC; go_simp <;> rfl
                  simp only [Act.put, zl]
                  refine dw_val rfl rfl rfl ?_; apply Exists.intro; refine ⟨fun wv HC => ?_, ?_⟩
                  ·  go_simp <;> rfl
                  simp only [Act.put, zl]
                  refine dw_val rfl rfl rfl ?_; apply Exists.intro; refine ⟨fun wv HC => ?_, ?_⟩
                  · obtain ⟨⟨f0, f1⟩, f2, f3, f4, f5, f6, f7⟩ := HF.out _ HC; go_simp <;> rfl
                  simp only [Act.put, zl]
                  refine dw_callR 91 (VlsSlot (Mut M KL) xvs) (f := 63) (args := #[.slice xA xn xc]) rfl rfl rfl rfl (fun wv => ?_) (fun wv HC hrm hD => ?_) ?_
                  · go_simp <;> rfl
                  · refine (cloneVls_any _ wv HC.mutLt xA xn xc xvs (HRX.out _ HC).1 (by omega)).mono ?_
                    rintro e w5 ⟨A5, n5, c5, rfl, h50, h51, h52, h53, b5⟩
                    exact ⟨_, rfl, ⟨A5, n5, c5, rfl, h50, h51, h52, h53⟩, HC.call b5, RM.below b5⟩
                  rintro x_ wx HCx ⟨A91, n91, c91, rfl, -, -, -, -⟩
                  clear HCx
                  simp only [Act.put, zl]
                  refine dw_val rfl rfl rfl ?_; apply Exists.intro; refine ⟨fun wv HC => ?_, ?_⟩
                  ·  go_simp <;> rfl
                  simp only [Act.put, zl]
                  refine dw_val rfl rfl rfl ?_; apply Exists.intro; refine ⟨fun wv HC => ?_, ?_⟩
                  · obtain ⟨⟨f0, f1⟩, f2, f3, f4, f5, f6, f7⟩ := HF.out _ HC; go_simp <;> rfl
                  simp only [Act.put, zl]
                  refine dw_callR 94 (VlsSlot (Mut M KL) rvs) (f := 63) (args := #[.slice rA rn rc]) rfl rfl rfl rfl (fun wv => ?_) (fun wv HC hrm hD => ?_) ?_
                  · go_simp <;> rfl
                  · refine (cloneVls_any _ wv HC.mutLt rA rn rc rvs (HRX.out _ HC).2 (by omega)).mono ?_
                    rintro e w5 ⟨A5, n5, c5, rfl, h50, h51, h52, h53, b5⟩
                    exact ⟨_, rfl, ⟨A5, n5, c5, rfl, h50, h51, h52, h53⟩, HC.call b5, RM.below b5⟩
                  rintro x_ wx HCx ⟨A94, n94, c94, rfl, -, -, -, -⟩
                  clear HCx
                  simp only [Act.put, zl]
                  refine dw_valC 95 (PrSlot (Mut M KL) (xid, xvs, rvs)) rfl rfl rfl rfl (.agg #[.int .i64 xid, .slice A91 n91 c91, .slice A94 n94 c94]) (fun wv HC => ?_) (fun wv HC hD => ?_) ?_
                  · go_simp <;> rfl
                  · have ha : VlsSlot (Mut M KL) xvs (.slice A91 n91 c91) wv := deps_at hD 6 rfl (by kernel_rfl) rfl rfl
                    have hb : VlsSlot (Mut M KL) rvs (.slice A94 n94 c94) wv := deps_at hD 9 rfl (by kernel_rfl) rfl rfl
                    exact prSlot_of HXO.out.id HXO.out.vs HRO.out.vs ha hb
                  simp only [Act.put, zl]
                  refine dw_new #[.int .i64 xid, .slice A91 n91 c91, .slice A94 n94 c94] 99 96 (PrsSlot (Mut M KL) [(xid, xvs, rvs)]) (fun g => .slice (some ⟨g, 0, none⟩) 1 1) rfl rfl rfl rfl (fun wv => ?_) (fun wv HC _hrm hD hro => ?_) ?_
                  · go_simp <;> rfl
                  · have hrr := RM.alloc (Mut M KL) wv (.cells #[.int .i64 xid, .slice A91 n91 c91, .slice A94 n94 c94] 99)
                    have h0 : PrSlot (Mut M KL) (xid, xvs, rvs) (.agg #[.int .i64 xid, .slice A91 n91 c91, .slice A94 n94 c94]) wv := deps_at hD 10 rfl (by kernel_rfl) rfl rfl
                    replace h0 := prSlot_mono _ _ _ hrr h0
                    exact prsSlot_one (hro _ HC.mutLt) (fun i j k e1 => Value.agg.inj e1) h0
                  rintro g96 wg HCg hsl
                  simp only [Act.put, zl]
                  clear hsl HCg
                  refine rel_nil ?_
                  rintro wx5 HX5
                  rintro _hrm HGW
                  have hb2 : PrsSlot (Mut M KL) [(xid, xvs, rvs)] (.slice (some ⟨g96, 0, none⟩) 1 1) wx5 := (GW_on (d := 96) rfl).1 (HGW 11 _ rfl (by omega))
                  clear HGW _hrm
                  obtain ⟨Aq, nq, cq, pq, heq, -, -, hpm, hpok, hpr⟩ := hb2
                  obtain ⟨rfl, rfl, rfl⟩ : some ⟨g96, 0, none⟩ = Aq ∧ 1 = nq ∧ 1 = cq := by injection heq with h1 h2 h3; exact ⟨h1, h2, h3⟩
                  clear heq
                  obtain ⟨pr, rfl, hpu⟩ : ∃ pr, pq = [pr] ∧ pr.upd = (xid, xvs, rvs) := by
                    obtain ⟨pr, h1, h2⟩ := List.map_eq_singleton_iff.1 hpm
                    exact ⟨pr, h1, h2⟩
                  rw [HKL.out] at HX5 hpr
                  have HPE := hid (show prCells lu ++ prCells [pr] = prCells (lu ++ [pr]) by simp [prCells])
                  have KA := HX5.add (hpr.imp fun w h => (h.2 : PrVals [pr] w))
                  have k5 := hid ((hpr.imp fun w h => h.1).now)
                  have HBN := hid (HBS.out.turn HXX.out HRR.out rfl HNE.out hpu (hpok pr (List.mem_singleton.2 rfl)))
                  clear HX5 hpr hpm hpok hpu HF HRX KN
                  have FKA := KA.facts
                  simp only [factsL, cellsF, Nat.reduceAdd, zf, zl] at FKA
                  go_wp2_with (at_builtin; go_must (refine wpList_appAllH KA 8 rfl Tryd.elPr k5.out rfl (.tmp 86) (.tmp 96) rfl rfl rfl (prCells_one _) (by omega) (by omega) ?_); intro C' cap' w6 hc6 hm6 KB; rw [HPE.out] at KB; simp only [List.set_cons_zero, List.set_cons_succ] at KB; (have FB := KB.facts); simp only [factsL, cellsF, Nat.reduceAdd, zf, zl] at FB)
                  have KD := KB.store 12 rfl 3 (.slice C' (nu + 1) cap')
                  have KZ := (KD.swapRo 11 rfl (prVals_app (KD.ro 11 rfl) (KD.ro 0 rfl))).drop (List.Sublist.cons _ (List.Sublist.cons _ (List.Sublist.cons _ (List.Sublist.cons _ (List.sublist_cons_self _ _)))))
                  clear KB KD FKA k5
                  go_roundg go
                  case measure => omega
                  case rel => exact ⟨j + 1, p + 1, np - 1, (cp - 1), ni, ci, nd, cd, nu + 1, cap', (some ⟨bx, ox + 2, none⟩), I, D, C', li, ld, _, by omega, by first | rfl | go_num, by first | rfl | (simp <;> omega), by omega, by omega, by omega, by omega, by omega, by omega, by omega, HBN, KZ⟩
          · have hd2 : decide (xid ≤ rid) = false := by simpa using hle
            have HRGT := hid (show ∀ x, a.rs[p]? = some x → rid < x.1 from fun x hx => by rw [HXX.out] at hx; injection hx with hx; subst hx; show rid < xid; omega)
            go_wp2_with fail
            go_quiet (fail)
            have H3 := H2.drewN nq
            clear H2 F2 x0 x1
            generalize wr.drewN nq = w3 at H3 ⊢
            by_cases hrn : rid < a.nx
            · have hd3 : decide (rid < a.nx) = true := by simpa using hrn
              have HN := hid (HBS.out.bad HRR.out HRGT.out hrn)
              clear hrn
              have FK := H3.facts
              simp only [factsL, cellsF, Nat.reduceAdd, zf, zl] at FK
              have KN := (((H3.store 10 rfl 0 (.string ⟨#[]⟩)).store 10 rfl 1 (.slice none 0 0)).store 10 rfl 2 (.slice none 0 0)).store 10 rfl 3 (.slice none 0 0)
              go_wp2_with fail
              (try rw [Exit.noGoto_ret])
              exact bodyPost_ret (v := .tuple #[.agg #[.string ⟨#[]⟩, .slice none 0 0, .slice none 0 0, .slice none 0 0], .bool false]) (by simp [results, Tryd.results22, go_sem, FK]) rfl ⟨_, by rw [HN.out], by rw [HN.out]; exact dlAt_zero, KN.below⟩
            · have hd3 : decide (rid < a.nx) = false := by simpa using hrn
              have HRN := hid (show a.nx ≤ rid by omega)
              clear hrn
              have FK := H3.facts
              simp only [factsL, cellsF, Nat.reduceAdd, zf, zl] at FK
              obtain ⟨KL, hKL, KN⟩ := H3.name
              have HF : Hid (∀ wv, Hold M none w wv KL → (wv.cell? ⟨g6, 1, none⟩ = some (.slice I ni ci) ∧ g6 < wv.heap.size) ∧ wv.cell? ⟨g9, 0, none⟩ = some (.int .i64 rid) ∧ wv.cell? ⟨g9, 1, none⟩ = some (.slice rA rn rc) ∧ g9 < wv.heap.size) := hid fun wv HC => by
                rw [hKL] at HC
                have y1 := HC.blk_ 9 rfl
                have y2 := HC.cst_ 0 rfl
                exact ⟨⟨cell_of_row _ _ 1 _ _ _ y1, Blk.lt y1⟩, cell_of_row _ _ 0 _ _ _ y2, cell_of_row _ _ 1 _ _ _ y2, Blk.lt y2⟩
              have HRX : Hid (∀ wv, Hold M none w wv KL → Ro wv (Mut M KL) (VlsIn rA rn rvs)) := hid fun wv HC => by
                rw [hKL] at HC ⊢
                exact HC.ro 1 rfl
              have HKL := hid hKL
              clear hKL H3
              go_wp2_with fail
              refine wp_region_any (by kernel_rfl) ?_
              refine wpAny_hold 5 128 (KL) (spL [(108, RowSlot (Mut M KL) rid rvs), (109, RBoxSlot (Mut M KL) rid rvs)]) (by kernel_rfl) (by kernel_rfl) (by kernel_rfl) rfl ?_ (KN.drew) ?_
              · exact stays_cons rowSlot_mono (stays_cons rboxSlot_mono (stays_nil _))
              simp only [zd, Act.put, List.getElem_toArray, List.getElem_cons_zero, List.getElem_cons_succ, zl]
              refine dw_val rfl rfl rfl ?_; apply Exists.intro; refine ⟨fun wv HC => ?_, ?_⟩
              ·  go_simp <;> rfl
              simp only [Act.put, zl]
              refine dw_val rfl rfl rfl ?_; apply Exists.intro; refine ⟨fun wv HC => ?_, ?_⟩
              · obtain ⟨⟨f0, f1⟩, f2, f3, f4⟩ := HF.out _ HC; go_simp <;> rfl
              simp only [Act.put, zl]
              refine dw_val rfl rfl rfl ?_; apply Exists.intro; refine ⟨fun wv HC => ?_, ?_⟩
              · obtain ⟨⟨f0, f1⟩, f2, f3, f4⟩ := HF.out _ HC; go_simp <;> rfl
              simp only [Act.put, zl]
              refine dw_callR 108 (RowSlot (Mut M KL) rid rvs) (f := 61) (args := #[.agg #[.int .i64 rid, .slice rA rn rc]]) rfl rfl rfl rfl (fun wv => ?_) (fun wv HC hrm hD => ?_) ?_
              · go_simp <;> rfl
              · refine (dcopied_any _ wv HC.mutLt rid rA rn rc rvs (HRX.out _ HC) (by omega)).mono ?_
                rintro e w5 ⟨A5, n5, c5, rfl, h50, h51, h52, h53, b5⟩
                exact ⟨_, rfl, ⟨A5, n5, c5, rfl, h50, h51, h52, h53⟩, HC.call b5, RM.below b5⟩
              rintro x_ wx HCx ⟨A5, n5, c5, rfl, -, -, -, -⟩
              clear HCx
              simp only [Act.put, zl]
              refine dw_new #[.int .i64 rid, .slice A5 n5 c5] 53 109 (RBoxSlot (Mut M KL) rid rvs) (fun g => .slice (some ⟨g, 0, none⟩) 1 1) rfl rfl rfl rfl (fun wv => ?_) (fun wv HC _hrm hD hro => ?_) ?_
              · go_simp <;> rfl
              · have hsl : RowSlot (Mut M KL) rid rvs (.agg #[.int .i64 rid, .slice A5 n5 c5]) wv := deps_at hD 3 rfl (by kernel_rfl) rfl rfl
                obtain ⟨A6, n6, c6, e6, h1, h2, h3, h4⟩ := hsl
                obtain ⟨rfl, rfl, rfl⟩ : A5 = A6 ∧ n5 = n6 ∧ c5 = c6 := by
                  injection e6 with e6
                  simp at e6
                  exact e6
                exact ⟨_, A5, n5, c5, rfl, h1, h2, h3, h4.step (by simp) (fun b hb _ => Below.heap_alloc wv _ b hb) (fun _ _ h => h), ro_block (hro _ HC.mutLt) rfl⟩
              rintro gn wg HCg hsl
              simp only [Act.put, zl]
              clear hsl HCg
              refine rel_nil ?_
              rintro wx2 HX
              rintro _hrm HGW
              have hb2 : RBoxSlot (Mut M KL) rid rvs (.slice (some ⟨gn, 0, none⟩) 1 1) wx2 := (GW_on (d := 109) rfl).1 (HGW 4 _ rfl (by omega))
              clear HGW _hrm
              obtain ⟨gq, A6, n6, c6, e6, k0_, k1_, k2_, k3_, k4_⟩ := hb2
              obtain rfl : gn = gq := by injection e6 with e6; injection e6 with e6; injection e6
              clear e6
              rw [HKL.out] at HX k3_
              have k5 := hid k4_.now
              have HK0 := hid (And.intro k0_ (And.intro k1_ k2_))
              clear k4_ k0_ k1_ k2_ HF HRX KN
              have HRS := hid (show rwCells li ++ [.int .i64 rid, .slice A6 n6 c6] = rwCells (li ++ [⟨rid, A6, n6, c6, rvs⟩]) from rwCells_snoc1 _ _ _ _ _ _)
              have KA := HX.add k3_
              clear HX k3_
              have FKA := KA.facts
              simp only [factsL, cellsF, Nat.reduceAdd, zf, zl] at FKA
              go_wp2_with (at_builtin; go_must (refine wpList_appAllH KA 4 rfl Tryd.elRw k5.out rfl (.tmp 106) (.tmp 109) rfl rfl rfl (by intro z hz; simp at hz; rcases hz with rfl | rfl <;> rfl) (by omega) (by omega) ?_); intro C' cap' w6 hc6 hm6 KB; rw [HRS.out] at KB; simp only [List.set_cons_zero, List.set_cons_succ] at KB; (have F3 := KB.facts); simp only [factsL, cellsF, Nat.reduceAdd, zf, zl] at F3)
              have KD := KB.store 10 rfl 1 (.slice C' (ni + 1) cap')
              have KE := (KD.swapRo 7 rfl (vals_snoc (r := ⟨rid, A6, n6, c6, rvs⟩) (KD.ro 7 rfl) (KD.ro 0 rfl))).drop (List.sublist_cons_self _ _)
              clear KB KD FKA k5
              have HBN := hid (HBS.out.right HRR.out HRGT.out HRN.out (y := ⟨rid, A6, n6, c6, rvs⟩) rfl ⟨HRO.out.id, HK0.out.2.1, HK0.out.2.2, HRO.out.vs⟩)
              have KZ := KE.drop (List.Sublist.cons _ (List.sublist_cons_self _ _))
              go_roundg go
              case measure => omega
              case rel => exact ⟨j + 1, p, _, cp, ni + 1, cap', nd, cd, nu, cu, _, C', D, U, _, ld, lu, by omega, by first | rfl | go_num, rfl, by omega, by omega, by omega, by omega, by omega, by omega, by omega, HBN, KZ⟩
        | zero =>
          obtain rfl : np = 0 := by omega
          have HRGT := hid (show ∀ x, a.rs[p]? = some x → rid < x.1 from fun x hx => by
            have h1 := (List.getElem?_eq_some_iff.1 hx).1
            have h2 := congrArg List.length HAR.out
            rw [List.length_map, HAL.out] at h2
            omega)
          have F2 := H2.facts
          simp only [factsL, cellsF, Nat.reduceAdd, zf, zl] at F2
          go_wp2_with fail
          go_quiet (fail)
          have H3 := H2.drewN nq
          clear H2 F2
          generalize wr.drewN nq = w3 at H3 ⊢
          by_cases hrn : rid < a.nx
          · have hd3 : decide (rid < a.nx) = true := by simpa using hrn
            have HN := hid (HBS.out.bad HRR.out HRGT.out hrn)
            clear hrn
            have FK := H3.facts
            simp only [factsL, cellsF, Nat.reduceAdd, zf, zl] at FK
            have KN := (((H3.store 10 rfl 0 (.string ⟨#[]⟩)).store 10 rfl 1 (.slice none 0 0)).store 10 rfl 2 (.slice none 0 0)).store 10 rfl 3 (.slice none 0 0)
            go_wp2_with fail
            (try rw [Exit.noGoto_ret])
            exact bodyPost_ret (v := .tuple #[.agg #[.string ⟨#[]⟩, .slice none 0 0, .slice none 0 0, .slice none 0 0], .bool false]) (by simp [results, Tryd.results22, go_sem, FK]) rfl ⟨_, by rw [HN.out], by rw [HN.out]; exact dlAt_zero, KN.below⟩
          · have hd3 : decide (rid < a.nx) = false := by simpa using hrn
            have HRN := hid (show a.nx ≤ rid by omega)
            clear hrn
            have FK := H3.facts
            simp only [factsL, cellsF, Nat.reduceAdd, zf, zl] at FK
            obtain ⟨KL, hKL, KN⟩ := H3.name
            have HF : Hid (∀ wv, Hold M none w wv KL → (wv.cell? ⟨g6, 1, none⟩ = some (.slice I ni ci) ∧ g6 < wv.heap.size) ∧ wv.cell? ⟨g9, 0, none⟩ = some (.int .i64 rid) ∧ wv.cell? ⟨g9, 1, none⟩ = some (.slice rA rn rc) ∧ g9 < wv.heap.size) := hid fun wv HC => by
              rw [hKL] at HC
              have y1 := HC.blk_ 9 rfl
              have y2 := HC.cst_ 0 rfl
              exact ⟨⟨cell_of_row _ _ 1 _ _ _ y1, Blk.lt y1⟩, cell_of_row _ _ 0 _ _ _ y2, cell_of_row _ _ 1 _ _ _ y2, Blk.lt y2⟩
            have HRX : Hid (∀ wv, Hold M none w wv KL → Ro wv (Mut M KL) (VlsIn rA rn rvs)) := hid fun wv HC => by
              rw [hKL] at HC ⊢
              exact HC.ro 1 rfl
            have HKL := hid hKL
            clear hKL H3
            go_wp2_with fail
            refine wp_region_any (by kernel_rfl) ?_
            refine wpAny_hold 5 128 (KL) (spL [(108, RowSlot (Mut M KL) rid rvs), (109, RBoxSlot (Mut M KL) rid rvs)]) (by kernel_rfl) (by kernel_rfl) (by kernel_rfl) rfl ?_ (KN.drew) ?_
            · exact stays_cons rowSlot_mono (stays_cons rboxSlot_mono (stays_nil _))
            simp only [zd, Act.put, List.getElem_toArray, List.getElem_cons_zero, List.getElem_cons_succ, zl]
            refine dw_val rfl rfl rfl ?_; apply Exists.intro; refine ⟨fun wv HC => ?_, ?_⟩
            ·  go_simp <;> rfl
            simp only [Act.put, zl]
            refine dw_val rfl rfl rfl ?_; apply Exists.intro; refine ⟨fun wv HC => ?_, ?_⟩
            · obtain ⟨⟨f0, f1⟩, f2, f3, f4⟩ := HF.out _ HC; go_simp <;> rfl
            simp only [Act.put, zl]
            refine dw_val rfl rfl rfl ?_; apply Exists.intro; refine ⟨fun wv HC => ?_, ?_⟩
            · obtain ⟨⟨f0, f1⟩, f2, f3, f4⟩ := HF.out _ HC; go_simp <;> rfl
            simp only [Act.put, zl]
            refine dw_callR 108 (RowSlot (Mut M KL) rid rvs) (f := 61) (args := #[.agg #[.int .i64 rid, .slice rA rn rc]]) rfl rfl rfl rfl (fun wv => ?_) (fun wv HC hrm hD => ?_) ?_
            · go_simp <;> rfl
            · refine (dcopied_any _ wv HC.mutLt rid rA rn rc rvs (HRX.out _ HC) (by omega)).mono ?_
              rintro e w5 ⟨A5, n5, c5, rfl, h50, h51, h52, h53, b5⟩
              exact ⟨_, rfl, ⟨A5, n5, c5, rfl, h50, h51, h52, h53⟩, HC.call b5, RM.below b5⟩
            rintro x_ wx HCx ⟨A5, n5, c5, rfl, -, -, -, -⟩
            clear HCx
            simp only [Act.put, zl]
            refine dw_new #[.int .i64 rid, .slice A5 n5 c5] 53 109 (RBoxSlot (Mut M KL) rid rvs) (fun g => .slice (some ⟨g, 0, none⟩) 1 1) rfl rfl rfl rfl (fun wv => ?_) (fun wv HC _hrm hD hro => ?_) ?_
            · go_simp <;> rfl
            · have hsl : RowSlot (Mut M KL) rid rvs (.agg #[.int .i64 rid, .slice A5 n5 c5]) wv := deps_at hD 3 rfl (by kernel_rfl) rfl rfl
              obtain ⟨A6, n6, c6, e6, h1, h2, h3, h4⟩ := hsl
              obtain ⟨rfl, rfl, rfl⟩ : A5 = A6 ∧ n5 = n6 ∧ c5 = c6 := by
                injection e6 with e6
                simp at e6
                exact e6
              exact ⟨_, A5, n5, c5, rfl, h1, h2, h3, h4.step (by simp) (fun b hb _ => Below.heap_alloc wv _ b hb) (fun _ _ h => h), ro_block (hro _ HC.mutLt) rfl⟩
            rintro gn wg HCg hsl
            simp only [Act.put, zl]
            clear hsl HCg
            refine rel_nil ?_
            rintro wx2 HX
            rintro _hrm HGW
            have hb2 : RBoxSlot (Mut M KL) rid rvs (.slice (some ⟨gn, 0, none⟩) 1 1) wx2 := (GW_on (d := 109) rfl).1 (HGW 4 _ rfl (by omega))
            clear HGW _hrm
            obtain ⟨gq, A6, n6, c6, e6, k0_, k1_, k2_, k3_, k4_⟩ := hb2
            obtain rfl : gn = gq := by injection e6 with e6; injection e6 with e6; injection e6
            clear e6
            rw [HKL.out] at HX k3_
            have k5 := hid k4_.now
            have HK0 := hid (And.intro k0_ (And.intro k1_ k2_))
            clear k4_ k0_ k1_ k2_ HF HRX KN
            have HRS := hid (show rwCells li ++ [.int .i64 rid, .slice A6 n6 c6] = rwCells (li ++ [⟨rid, A6, n6, c6, rvs⟩]) from rwCells_snoc1 _ _ _ _ _ _)
            have KA := HX.add k3_
            clear HX k3_
            have FKA := KA.facts
            simp only [factsL, cellsF, Nat.reduceAdd, zf, zl] at FKA
            go_wp2_with (at_builtin; go_must (refine wpList_appAllH KA 4 rfl Tryd.elRw k5.out rfl (.tmp 106) (.tmp 109) rfl rfl rfl (by intro z hz; simp at hz; rcases hz with rfl | rfl <;> rfl) (by omega) (by omega) ?_); intro C' cap' w6 hc6 hm6 KB; rw [HRS.out] at KB; simp only [List.set_cons_zero, List.set_cons_succ] at KB; (have F3 := KB.facts); simp only [factsL, cellsF, Nat.reduceAdd, zf, zl] at F3)
            have KD := KB.store 10 rfl 1 (.slice C' (ni + 1) cap')
            have KE := (KD.swapRo 7 rfl (vals_snoc (r := ⟨rid, A6, n6, c6, rvs⟩) (KD.ro 7 rfl) (KD.ro 0 rfl))).drop (List.sublist_cons_self _ _)
            clear KB KD FKA k5
            have HBN := hid (HBS.out.right HRR.out HRGT.out HRN.out (y := ⟨rid, A6, n6, c6, rvs⟩) rfl ⟨HRO.out.id, HK0.out.2.1, HK0.out.2.2, HRO.out.vs⟩)
            have KZ := KE.drop (List.Sublist.cons _ (List.sublist_cons_self _ _))
            go_roundg go
            case measure => omega
            case rel => exact ⟨j + 1, p, _, cp, ni + 1, cap', nd, cd, nu, cu, _, C', D, U, _, ld, lu, by omega, by first | rfl | go_num, rfl, by omega, by omega, by omega, by omega, by omega, by omega, by omega, HBN, KZ⟩
    | zero =>
      obtain rfl : j = bm := by omega
      have hd : decide ((j : Int) < (j : Int)) = false := by simp
      have HBJ := hid (show b.rs.length ≤ j by rw [← HBR.out, List.length_map, HBL.out]; exact Nat.le_refl _)
      go_wp2_with fail
      (try rw [Exit.noGoto_ret])
      go_loopw [115] (fun iv wr => ∃ (k nd cd : Nat) (D : Option Addr) (ld : List Rw), k ≤ np ∧ iv = .int .i64 k ∧ nd ≤ p + k ∧ Hid (BSt a b j (p + k) li ld lu) ∧ Hold M none w wr [.ro (RwsIn Ap np (la.drop p)), .own 53 2 (.slice I ni ci) ni (rwCells li), .own 53 2 (.slice D nd cd) nd (rwCells ld), .own 99 3 (.slice U nu cu) nu (prCells lu), .ro (ValsIn li), .ro (ValsIn ld), .ro (PrVals lu), .blk g6 41 #[.string a.nm, .slice I ni ci, .slice D nd cd, .slice U nu cu], .blk g4 41 #[.string ⟨#[]⟩, .slice none 0 0, .slice none 0 0, .slice none 0 0], .cst g3 27 #[.string b.nm, .slice bA bn bc, .int .i64 b.nx, .slice bB j bd], .cst g2 27 #[.string a.nm, .slice aA an ac, .int .i64 a.nx, .slice aB am ad], .ro (ColsIn aA an a.cs), .ro (RwsIn aB am la), .ro (ColsIn bA bn b.cs), .ro (RwsIn bB j lb)]) (fun iv _ => np - (intOf iv).toNat)
      case atStart => exact ⟨0, nd, cd, D, ld, by omega, rfl, by omega, HBS, H⟩
      case round =>
        clear H HBS hnd
        clear nd cd D ld
        obtain ⟨k, nd, cd, D, ld, hk, rfl, hnd, HBS, H⟩ := hrel
        by_cases hlt : k < np
        · have hd5 : decide ((k : Int) < (np : Int)) = true := by simp; omega
          have k0 : (0 : Int) ≤ (k : Int) := by omega
          have k1 : (k : Int) < (np : Int) := by omega
          obtain ⟨x, hx⟩ := get_of HAL.out (show p + k < am by omega)
          have HXX := hid (show a.rs[p + k]? = some x.row by rw [← HAR.out, List.getElem?_map, hx]; rfl)
          have HXO := hid (HAO.out x (List.mem_of_getElem? hx))
          have hxn6 := HSA.out x (List.mem_of_getElem? hx)
          have hx2 : (la.drop p)[k]? = some x := by rw [List.getElem?_drop]; exact hx
          obtain ⟨bx, ox, rfl, hbx', x0, x1, _⟩ := (H.ro 0 rfl).now.at_ hx2
          have hxx : Ro wr _ (VlsIn x.A x.n x.vs) := (H.ro 0 rfl).imp fun w2 h2 => h2.2 x (List.mem_of_getElem? hx2)
          clear hx hx2
          obtain ⟨xid, xA, xn, xc, xvs⟩ := x
          dsimp only at *
          have KX := (H.add hxx).alloc_cst #[.int .i64 xid, .slice xA xn xc] 53
          clear H hxx
          obtain ⟨KL, hKL, KN⟩ := KX.name
          have HF : Hid (∀ wv, Hold M none w wv KL → (wv.cell? ⟨g6, 2, none⟩ = some (.slice D nd cd) ∧ g6 < wv.heap.size) ∧ wv.cell? ⟨wr.heap.size, 0, none⟩ = some (.int .i64 xid) ∧ wv.cell? ⟨wr.heap.size, 1, none⟩ = some (.slice xA xn xc) ∧ wr.heap.size < wv.heap.size) := hid fun wv HC => by
            rw [hKL] at HC
            have y1 := HC.blk_ 9 rfl
            have y2 := HC.cst_ 0 rfl
            exact ⟨⟨cell_of_row _ _ 2 _ _ _ y1, Blk.lt y1⟩, cell_of_row _ _ 0 _ _ _ y2, cell_of_row _ _ 1 _ _ _ y2, Blk.lt y2⟩
          have HRX : Hid (∀ wv, Hold M none w wv KL → Ro wv (Mut M KL) (VlsIn xA xn xvs)) := hid fun wv HC => by
            rw [hKL] at HC ⊢
            exact HC.ro 1 rfl
          have HKL := hid hKL
          clear hKL KX
          go_wp2_with fail
          refine wp_region_any (by kernel_rfl) ?_
          refine wpAny_hold 5 128 (KL) (spL [(122, RowSlot (Mut M KL) xid xvs), (123, RBoxSlot (Mut M KL) xid xvs)]) (by kernel_rfl) (by kernel_rfl) (by kernel_rfl) rfl ?_ (KN.drew) ?_
          · exact stays_cons rowSlot_mono (stays_cons rboxSlot_mono (stays_nil _))
          simp only [zd, Act.put, List.getElem_toArray, List.getElem_cons_zero, List.getElem_cons_succ, zl]
          refine dw_val rfl rfl rfl ?_; apply Exists.intro; refine ⟨fun wv HC => ?_, ?_⟩
          ·  go_simp <;> rfl
          simp only [Act.put, zl]
          refine dw_val rfl rfl rfl ?_; apply Exists.intro; refine ⟨fun wv HC => ?_, ?_⟩
          · obtain ⟨⟨f0, f1⟩, f2, f3, f4⟩ := HF.out _ HC; go_simp <;> rfl
          simp only [Act.put, zl]
          refine dw_val rfl rfl rfl ?_; apply Exists.intro; refine ⟨fun wv HC => ?_, ?_⟩
          · obtain ⟨⟨f0, f1⟩, f2, f3, f4⟩ := HF.out _ HC; go_simp <;> rfl
          simp only [Act.put, zl]
          refine dw_callR 122 (RowSlot (Mut M KL) xid xvs) (f := 61) (args := #[.agg #[.int .i64 xid, .slice xA xn xc]]) rfl rfl rfl rfl (fun wv => ?_) (fun wv HC hrm hD => ?_) ?_
          · go_simp <;> rfl
          · refine (dcopied_any _ wv HC.mutLt xid xA xn xc xvs (HRX.out _ HC) (by omega)).mono ?_
            rintro e w5 ⟨A5, n5, c5, rfl, h50, h51, h52, h53, b5⟩
            exact ⟨_, rfl, ⟨A5, n5, c5, rfl, h50, h51, h52, h53⟩, HC.call b5, RM.below b5⟩
          rintro x_ wx HCx ⟨A5, n5, c5, rfl, -, -, -, -⟩
          clear HCx
          simp only [Act.put, zl]
          refine dw_new #[.int .i64 xid, .slice A5 n5 c5] 53 123 (RBoxSlot (Mut M KL) xid xvs) (fun g => .slice (some ⟨g, 0, none⟩) 1 1) rfl rfl rfl rfl (fun wv => ?_) (fun wv HC _hrm hD hro => ?_) ?_
          · go_simp <;> rfl
          · have hsl : RowSlot (Mut M KL) xid xvs (.agg #[.int .i64 xid, .slice A5 n5 c5]) wv := deps_at hD 3 rfl (by kernel_rfl) rfl rfl
            obtain ⟨A6, n6, c6, e6, h1, h2, h3, h4⟩ := hsl
            obtain ⟨rfl, rfl, rfl⟩ : A5 = A6 ∧ n5 = n6 ∧ c5 = c6 := by
              injection e6 with e6
              simp at e6
              exact e6
            exact ⟨_, A5, n5, c5, rfl, h1, h2, h3, h4.step (by simp) (fun b hb _ => Below.heap_alloc wv _ b hb) (fun _ _ h => h), ro_block (hro _ HC.mutLt) rfl⟩
          rintro gn wg HCg hsl
          simp only [Act.put, zl]
          clear hsl HCg
          refine rel_nil ?_
          rintro wx2 HX
          rintro _hrm HGW
          have hb2 : RBoxSlot (Mut M KL) xid xvs (.slice (some ⟨gn, 0, none⟩) 1 1) wx2 := (GW_on (d := 123) rfl).1 (HGW 4 _ rfl (by omega))
          clear HGW _hrm
          obtain ⟨gq, A6, n6, c6, e6, k0_, k1_, k2_, k3_, k4_⟩ := hb2
          obtain rfl : gn = gq := by injection e6 with e6; injection e6 with e6; injection e6
          clear e6
          rw [HKL.out] at HX k3_
          have k5 := hid k4_.now
          have HK0 := hid (And.intro k0_ (And.intro k1_ k2_))
          clear k4_ k0_ k1_ k2_ HF HRX KN
          have HRS := hid (show rwCells ld ++ [.int .i64 xid, .slice A6 n6 c6] = rwCells (ld ++ [⟨xid, A6, n6, c6, xvs⟩]) from rwCells_snoc1 _ _ _ _ _ _)
          have KA := HX.add k3_
          clear HX k3_
          have FKA := KA.facts
          simp only [factsL, cellsF, Nat.reduceAdd, zf, zl] at FKA
          go_wp2_with (at_builtin; go_must (refine wpList_appAllH KA 5 rfl Tryd.elRw k5.out rfl (.tmp 120) (.tmp 123) rfl rfl rfl (by intro z hz; simp at hz; rcases hz with rfl | rfl <;> rfl) (by omega) (by omega) ?_); intro C' cap' w6 hc6 hm6 KB; rw [HRS.out] at KB; simp only [List.set_cons_zero, List.set_cons_succ] at KB; (have F3 := KB.facts); simp only [factsL, cellsF, Nat.reduceAdd, zf, zl] at F3)
          have KD := KB.store 10 rfl 2 (.slice C' (nd + 1) cap')
          have KE := (KD.swapRo 8 rfl (vals_snoc (r := ⟨xid, A6, n6, c6, xvs⟩) (KD.ro 8 rfl) (KD.ro 0 rfl))).drop (List.sublist_cons_self _ _)
          clear KB KD FKA k5
          have HBN := hid (HBS.out.tail HBJ.out HXX.out (y := ⟨xid, A6, n6, c6, xvs⟩) rfl ⟨HXO.out.id, HK0.out.2.1, HK0.out.2.2, HXO.out.vs⟩)
          have KZ := KE.drop (List.Sublist.cons _ (List.sublist_cons_self _ _))
          go_roundw
          case rel => exact ⟨k + 1, nd + 1, cap', C', _, by omega, by first | rfl | go_num, by omega, HBN, KZ⟩
          case measure => simp [intOf]; omega
        · obtain rfl : np = k := by omega
          have hd5 : decide ((np : Int) < (np : Int)) = false := by simp
          have HFIN := hid (HBS.out.fin HBJ.out (by rw [← HAR.out, List.length_map, HAL.out]; omega))
          have F := H.facts
          simp only [factsL, cellsF, Nat.reduceAdd, zf, zl] at F
          obtain ⟨hi1, hi2, _⟩ := own_caps (H.get 1 rfl)
          obtain ⟨hd1, hd2, _⟩ := own_caps (H.get 2 rfl)
          obtain ⟨hu1, hu2, _⟩ := own_caps (H.get 3 rfl)
          have KS := H.sealRow 1 rfl
          simp only [List.set_cons_zero, List.set_cons_succ] at KS
          have KS2 := KS.sealRow 2 rfl
          simp only [List.set_cons_zero, List.set_cons_succ] at KS2
          have KS3 := KS2.sealRow 3 rfl
          simp only [List.set_cons_zero, List.set_cons_succ] at KS3
          have KN := (((KS3.store 8 rfl 0 (.string a.nm)).store 8 rfl 1 (.slice I ni ci)).store 8 rfl 2 (.slice D nd cd)).store 8 rfl 3 (.slice U nu cu)
          have r1 := (KN.roOut 1 rfl).and (KN.roOut 4 rfl)
          have r2 := (KN.roOut 2 rfl).and (KN.roOut 5 rfl)
          have r3 := (KN.roOut 3 rfl).and (KN.roOut 6 rfl)
          have NK := H.nes
          simp only [nesL, neF, and_true, true_and] at NK
          clear KS KS2 KS3 H
          go_wp2_with fail
          (try rw [Exit.noGoto_ret])
          exact bodyPost_ret (v := .tuple #[.agg #[.string a.nm, .slice I ni ci, .slice D nd cd, .slice U nu cu], .bool true]) (by simp [results, Tryd.results22, go_sem, F, NK]) rfl ⟨_, by rw [HFIN.out], by rw [HFIN.out]; exact ⟨I, ni, ci, D, nd, cd, U, nu, cu, li, ld, lu, rfl, ⟨hi1, hi2⟩, ⟨hd1, hd2⟩, ⟨hu1, hu2⟩, r1, r2, r3, HBS.out.ok1, HBS.out.ok2, HBS.out.ok3, rfl, rfl, rfl⟩, KN.below⟩
end Go.Proofs.YtjpgbhakkfgecaaDoor

namespace Go.Proofs.YtjpgbhakkfgecaaDoor
open Go.RowKit
set_option linter.unusedVariables false
set_option linter.unusedSimpArgs false
set_option linter.unusedSectionVars false

/-- numbers upward -/
def ascB (l : List Int) : Bool := decide (l.Pairwise (· < ·))
/-- the numbers of a difference are in order -/
def ordD (d : Dl) : Bool := ascB (d.ins.map (·.1)) && ascB (d.del.map (·.1)) && ascB (d.upd.map (·.1)) && d.upd.all fun u => !(d.del.any fun x => decide (x.1 = u.1))
/-- what it takes away is there -/
def presD (t : Tb) (d : Dl) : Bool := (d.del.all fun r => decide (r ∈ t.rs)) && d.upd.all fun u => decide ((u.1, u.2.1) ∈ t.rs)
def nxD (nx : Int) (ins : List Row) : Int := ins.foldl (fun a r => max a (min r.1 2147483648 + 1)) nx
def keepD (t : Tb) (d : Dl) : List Row := (t.rs.filter fun r => !(d.del.any fun x => decide (x.1 = r.1))).map fun r => (r.1, (findU d.upd r.1).getD r.2)
def outD (t : Tb) (d : Dl) : Tb := ⟨t.nm, t.cs, nxD t.nx d.ins, keepD t d ++ d.ins⟩
def fstD (t : Tb) (d : Dl) : Bool := match d.ins with | [] => true | r :: _ => decide (t.nx ≤ r.1)
def applyD (t : Tb) (d : Dl) : Bool × Tb := if tabB t.nm t.cs t.nx t.rs && decide (d.nm = t.nm) && ordD d && fstD t d && presD t d && tabB (outD t d).nm (outD t d).cs (outD t d).nx (outD t d).rs then (true, outD t d) else (false, zeroT)
theorem nxD_le {n : Int} : ∀ {ins : List Row} {nx : Int}, nx ≤ n → (∀ r ∈ ins, r.1 < n) → nxD nx ins ≤ n
  | [], _, h, _ => h
  | r :: ins, nx, h, k => by
    have h1 := k r (List.mem_cons_self ..)
    exact nxD_le (ins := ins) (nx := max nx (min r.1 2147483648 + 1)) (by omega) fun x hx => k x (List.mem_cons_of_mem _ hx)
theorem nxD_ge : ∀ {ins : List Row} {nx : Int}, nx ≤ nxD nx ins
  | [], _ => Int.le_refl _
  | r :: ins, nx => Int.le_trans (by omega) (nxD_ge (ins := ins) (nx := max nx (min r.1 2147483648 + 1)))
theorem findU_none {us : List Upd} {id : Int} (h : ∀ u ∈ us, u.1 ≠ id) : findU us id = none := by
  unfold findU
  rw [Option.map_eq_none_iff, List.find?_eq_none]
  intro u hu
  simpa using h u hu
def betD (a b : Tb) : Dl := ⟨a.nm, offR a.rs b.rs, offR b.rs a.rs, turnR a.rs b.rs⟩
section
variable {a b : Tb} (ha : tabB a.nm a.cs a.nx a.rs = true) (hb : tabB b.nm b.cs b.nx b.rs = true) (hl : LaterOk a b)
include ha hb hl
theorem betC_later : betweenC a b = (true, betD a b) := by
  obtain ⟨h1, h2, h3, h4⟩ := hl
  have : betB a b = true := by
    unfold betB
    rw [ha, hb, decide_eq_true (show a.nm = b.nm ∧ a.cs = b.cs from ⟨h1.symm, h2.symm⟩), decide_eq_true h3]
    simp only [Bool.and_self, Bool.true_and, List.all_eq_true, Bool.or_eq_true, decide_eq_true_eq]
    exact h4
  unfold betweenC
  rw [this]; rfl
end
end Go.Proofs.YtjpgbhakkfgecaaDoor

namespace Go.Proofs.YtjpgbhakkfgecaaDoor
open Go.RowKit
set_option linter.unusedVariables false
set_option linter.unusedSimpArgs false

theorem asc_yes {l : List Int} {k : Nat} {x y : Int} (hk : 1 ≤ k) (hx : l[k - 1]? = some x) (hy : l[k]? = some y) (h : (l.take k).Pairwise (· < ·)) (hxy : x < y) : (l.take (k + 1)).Pairwise (· < ·) := by
  rw [List.take_add_one, hy, Option.toList_some, List.pairwise_append]
  refine ⟨h, List.pairwise_singleton _ _, fun a ha b hb => ?_⟩
  obtain rfl := List.mem_singleton.1 hb
  obtain ⟨i, hi, rfl⟩ := List.getElem_of_mem ha
  have hik : i < k := by rw [List.length_take] at hi; omega
  have hkl : k < l.length := (List.getElem?_eq_some_iff.1 hy).1
  have hx2 : l[k - 1] = x := (List.getElem?_eq_some_iff.1 hx).2
  rw [List.getElem_take]
  by_cases h1 : i = k - 1
  · subst h1; rw [hx2]; exact hxy
  · have h2 := List.pairwise_iff_getElem.1 h i (k - 1) (by omega) (by rw [List.length_take]; omega) (by omega)
    rw [List.getElem_take, List.getElem_take, hx2] at h2
    omega
theorem asc_no {l : List Int} {k : Nat} {x y : Int} (hk : 1 ≤ k) (hx : l[k - 1]? = some x) (hy : l[k]? = some y) (hxy : ¬ x < y) : ascB l = false := by
  unfold ascB
  rw [decide_eq_false_iff_not]
  intro h
  obtain ⟨h1, h2⟩ := List.getElem?_eq_some_iff.1 hx
  obtain ⟨h3, h4⟩ := List.getElem?_eq_some_iff.1 hy
  have := List.pairwise_iff_getElem.1 h (k - 1) k h1 h3 (by omega)
  rw [h2, h4] at this
  exact hxy this
theorem asc_one {l : List Int} : (l.take 1).Pairwise (· < ·) := by
  match l with
  | [] => exact List.Pairwise.nil
  | x :: l => exact List.pairwise_singleton _ _
set_option maxHeartbeats 2000000 in
set_option maxRecDepth 100000 in
theorem dasc_any (w : World) (A : Option Addr) (n c : Nat) (xs : List Int) (hD : IsIn A n xs w) (hn : n ≤ 4398046511104) :
    Calls Tryd.prog 99 #[.slice A n c] w fun e w' => e = .returned (.bool (ascB xs)) ∧ Below w.heap.size w w' := by
  have HL := hid (show xs.length = n from IsIn.len hD)
  have K0 := (Hold.start None_ w (fun b hb => hb.elim)).add (Rd.ro hD (Nat.le_refl _) (by simp [Mut, None_]) : Ro w _ (IsIn A n xs))
  clear hD
  go_enter Tryd.func99, Tryd.ntmps99
  go_wp2_with fail
  go_loopw [3] (fun i wr => ∃ (k : Nat), 1 ≤ k ∧ (k ≤ n ∨ k = 1) ∧ i = .int .i64 k ∧ Hid ((xs.take k).Pairwise (· < ·)) ∧ Hold None_ none w wr [.ro (IsIn A n xs)]) (fun i _ => n - (intOf i).toNat)
  case atStart => exact ⟨1, by omega, by omega, rfl, hid asc_one, K0⟩
  case round =>
    clear K0
    obtain ⟨k, hk1, hk2, rfl, HP, H⟩ := hrel
    by_cases hlt : k < n
    · have hd : decide ((k : Int) < (n : Int)) = true := by simp; omega
      obtain ⟨x, hx⟩ := get_of HL.out (show k - 1 < n by omega)
      obtain ⟨y, hy⟩ := get_of HL.out hlt
      obtain ⟨g, o, rfl, hb, hcc⟩ := IsIn.cells (H.ro 0 rfl).now (show 0 < n by omega)
      have c1 := hcc (k - 1) (by rw [HL.out]; omega)
      have c2 := hcc k (by rw [HL.out]; omega)
      rw [show xs.getD (k - 1) 0 = x by simp [List.getD, hx]] at c1
      rw [show xs.getD k 0 = y by simp [List.getD, hy]] at c2
      clear hcc
      have HX := hid hx
      have HY := hid hy
      clear hx hy
      obtain ⟨k, rfl⟩ : ∃ k', k = k' + 1 := ⟨k - 1, by omega⟩
      rw [show k + 1 - 1 = k by omega] at c1 HX
      have s1 : IntKind.i64.wrap (((k + 1 : Nat) : Int) - 1) = (k : Int) := by rw [IntKind.wrap_i64]; omega
      have s2 : IntKind.i64.wrap ((k : Int) + 1 - 1) = (k : Int) := by rw [IntKind.wrap_i64]; omega
      have i0 : (0 : Int) ≤ (k : Int) := by omega
      have i1 : (k : Int) < (n : Int) := by omega
      have i2 : (0 : Int) ≤ ((k + 1 : Nat) : Int) := by omega
      have i3 : ((k + 1 : Nat) : Int) < (n : Int) := by omega
      have i4 : (0 : Int) ≤ (k : Int) + 1 := by omega
      have i5 : (k : Int) + 1 < (n : Int) := by omega
      have i6 : ((k : Int) + 1).toNat = k + 1 := by omega
      by_cases hxy : x < y
      · have hd2 : decide (x ≥ y) = false := by simpa using hxy
        have hd3 : decide (y ≤ x) = false := by simpa using hxy
        have HN := hid (asc_yes hk1 (by rw [show k + 1 - 1 = k by omega]; exact HX.out) HY.out HP.out hxy)
        clear hxy
        go_wp2_with fail
        go_quiet (fail)
        have H3 := H.drewN nq
        go_wp2_with fail
        go_roundw
        case rel => exact ⟨k + 1 + 1, by omega, by omega, by go_num, HN, H3⟩
        case measure => simp [intOf]; omega
      · have hd2 : decide (x ≥ y) = true := by simp; omega
        have hd3 : decide (y ≤ x) = true := by simp; omega
        have HN := hid (asc_no hk1 (by rw [show k + 1 - 1 = k by omega]; exact HX.out) HY.out hxy)
        clear hxy
        go_wp2_with fail
        go_quiet (fail)
        have H3 := H.drewN nq
        go_wp2_with fail
        go_ret
        exact ⟨by rw [HN.out] <;> rfl, H3.below⟩
    · have hd : decide ((k : Int) < (n : Int)) = false := by simp; omega
      have HN := hid (show ascB xs = true by
        have h := HP.out
        rw [List.take_of_length_le (by rw [HL.out]; omega)] at h
        unfold ascB; exact decide_eq_true h)
      go_wp2_with fail
      go_ret
      exact ⟨by rw [HN.out] <;> rfl, H.below⟩
end Go.Proofs.YtjpgbhakkfgecaaDoor

namespace Go.Proofs.YtjpgbhakkfgecaaDoor
open Go.RowKit
set_option linter.unusedVariables false
set_option linter.unusedSimpArgs false

theorem any_cont (ld : List Rw) (i : Int) : ((ld.map Rw.row).any fun x => decide (x.1 = i)) = (ld.map Rw.id).contains i := by
  rw [Bool.eq_iff_iff, List.any_eq_true, List.contains_iff_mem]
  constructor
  · rintro ⟨x, hx, h⟩
    obtain ⟨r, hr, rfl⟩ := List.mem_map.1 hx
    exact List.mem_map.2 ⟨r, hr, of_decide_eq_true h⟩
  · intro h
    obtain ⟨r, hr, rfl⟩ := List.mem_map.1 h
    exact ⟨_, List.mem_map_of_mem hr, decide_eq_true rfl⟩
theorem ord_eq {d : Dl} {li ld : List Rw} {lu : List Pr} (e1 : li.map Rw.row = d.ins) (e2 : ld.map Rw.row = d.del) (e3 : lu.map Pr.upd = d.upd) : ordD d = (ascB (li.map Rw.id) && ascB (ld.map Rw.id) && ascB (lu.map Pr.id) && lu.all fun p => !(ld.map Rw.id).contains p.id) := by
  unfold ordD
  rw [← e1, ← e2, ← e3, List.map_map, List.map_map, List.map_map, List.all_map]
  simp only [any_cont]
  rfl
theorem ord_yes {d : Dl} {li ld : List Rw} {lu : List Pr} (e1 : li.map Rw.row = d.ins) (e2 : ld.map Rw.row = d.del) (e3 : lu.map Pr.upd = d.upd) (h : (lu.all fun p => !(ld.map Rw.id).contains p.id) = true) : ordD d = (ascB (li.map Rw.id) && ascB (ld.map Rw.id) && ascB (lu.map Pr.id)) := by
  rw [ord_eq e1 e2 e3, h, Bool.and_true]
theorem ord_no {d : Dl} {li ld : List Rw} {lu : List Pr} (e1 : li.map Rw.row = d.ins) (e2 : ld.map Rw.row = d.del) (e3 : lu.map Pr.upd = d.upd) {k : Nat} {x : Pr} (hx : lu[k]? = some x) (h : (ld.map Rw.id).contains x.id = true) : ordD d = false := by
  rw [ord_eq e1 e2 e3]
  have : (lu.all fun p => !(ld.map Rw.id).contains p.id) = false := by
    rw [List.all_eq_false]
    exact ⟨x, List.mem_of_getElem? hx, by rw [h]; simp⟩
  rw [this, Bool.and_false]
theorem ord_step {ld : List Rw} {lu : List Pr} {k : Nat} {x : Pr} (hx : lu[k]? = some x) (h : ((lu.take k).all fun p => !(ld.map Rw.id).contains p.id) = true) (hc : (ld.map Rw.id).contains x.id = false) : ((lu.take (k + 1)).all fun p => !(ld.map Rw.id).contains p.id) = true := by
  rw [List.take_add_one, hx, List.all_append, h, Option.toList_some]
  simp only [List.all_cons, List.all_nil, hc, Bool.not_false, Bool.and_true]
set_option maxHeartbeats 4000000 in
set_option maxRecDepth 100000 in
theorem dord_any (w : World) (v : Value) (d : Dl) (h : DlAt w None_ v d) (hni : d.ins.length ≤ 4398046511104) (hnd : d.del.length ≤ 4398046511104) (hnu : d.upd.length ≤ 4398046511104) :
    Calls Tryd.prog 64 #[v] w fun e w' => e = .returned (.bool (ordD d)) ∧ Below w.heap.size w w' := by
  obtain ⟨I, ni, ci, D, nd, cd, U, nu, cu, li, ld, lu, rfl, -, -, -, r1, r2, r3, -, -, -, e1, e2, e3⟩ := h
  have HI := hid (show li.length = ni from r1.now.len)
  have HD := hid (show ld.length = nd from r2.now.len)
  have HU := hid (show lu.length = nu from r3.now.len)
  have hi : ni ≤ 4398046511104 := by have := HI.out; have h := congrArg List.length e1; rw [List.length_map] at h; omega
  have hd0 : nd ≤ 4398046511104 := by have := HD.out; have h := congrArg List.length e2; rw [List.length_map] at h; omega
  have hu : nu ≤ 4398046511104 := by have := HU.out; have h := congrArg List.length e3; rw [List.length_map] at h; omega
  have HE := hid (And.intro e1 (And.intro e2 e3))
  generalize hnm : d.nm = nm at *
  have K0 := ((((((((Hold.start None_ w (fun b hb => hb.elim)).add (r3.less (by simp [Mut]))).add (r2.less (by simp [Mut, Hp.foot]))).add (r1.less (by simp [Mut, Hp.foot]))).alloc_cst #[.string nm, .slice I ni ci, .slice D nd cd, .slice U nu cu] 41).nil 3 1).nil 3 1).nil 3 1)
  have F0 := K0.facts
  simp only [factsL, cellsF, Nat.reduceAdd, zf, zl] at F0
  clear r1 r2 r3 e1 e2 e3 hni hnd hnu
  go_enter Tryd.func64, Tryd.ntmps64
  go_wp2_with fail
  obtain ⟨gd, hgd⟩ : ∃ g, g = w.heap.size := ⟨_, rfl⟩
  rw [← hgd] at K0 ⊢
  clear F0
  generalize World.alloc w _ = w1 at K0 ⊢
  have HGX := hid hgd
  clear hgd
  go_loopw [3, 15] (fun lv iv wr => ∃ (k cap : Nat) (A : Option Addr), k ≤ ni ∧ lv = .slice A k cap ∧ iv = .int .i64 k ∧ Hold None_ none w wr [.own 3 1 (.slice A k cap) k (iCells ((li.take k).map Rw.id)), .own 3 1 (.slice none 0 0) 0 [], .own 3 1 (.slice none 0 0) 0 [], .cst gd 41 #[.string nm, .slice I ni ci, .slice D nd cd, .slice U nu cu], .ro (RwsIn I ni li), .ro (RwsIn D nd ld), .ro (PrsIn U nu lu)]) (fun _ iv _ => ni - (intOf iv).toNat)
  case atStart => exact ⟨0, 0, none, by omega, rfl, rfl, K0⟩
  case round =>
    clear K0
    obtain ⟨k, cap, A, hk, rfl, rfl, H⟩ := hrel
    by_cases hlt : k < ni
    · have hd : decide ((k : Int) < (ni : Int)) = true := by simp; omega
      have i0 : (0 : Int) ≤ (k : Int) := by omega
      have i1 : (k : Int) < (ni : Int) := by omega
      obtain ⟨x, hx⟩ := get_of HI.out hlt
      obtain ⟨bb, oo, rfl, hbb, c0, c1, _⟩ := (H.ro 4 rfl).now.at_ hx
      have HCE := hid (show iCells ((li.take k).map Rw.id) ++ (#[Value.int .i64 x.id]).toList = iCells ((li.take (k + 1)).map Rw.id) by rw [List.take_add_one, hx]; simp [iCells])
      clear hx
      have K1 := H.alloc_cst #[.int .i64 x.id, .slice x.A x.n x.c] 53
      clear H
      go_wp2_with (at_builtin; go_must (refine wpList_appH K1 1 rfl Tryd.elIntK #[.int .i64 x.id] rfl (.tmp 19) (.tmp 22) rfl rfl (wr.heap.size + 1) (by first | rfl | simp) rfl rfl (by intro u hu; simp at hu; rcases hu with rfl; rfl) (by omega) (by omega) ?_); intro g9 cap9 w9 hc9 hm9 KB; rw [HCE.out] at KB; simp only [List.set_cons_zero, List.set_cons_succ] at KB; (have FB := KB.facts); simp only [factsL, cellsF, Nat.reduceAdd, zf, zl] at FB)
      have KC := KB.drop (List.sublist_cons_self _ _)
      go_roundw
      case rel => exact ⟨k + 1, cap9, _, by omega, by first | rfl | go_num, by first | rfl | go_num, KC⟩
      case measure => simp [intOf]; omega
    · obtain rfl : ni = k := by omega
      have hd : decide ((ni : Int) < (ni : Int)) = false := by simp
      have K2 : Hold None_ none w wr [.own 3 1 (.slice A ni cap) ni (iCells (li.map Rw.id)), .own 3 1 (.slice none 0 0) 0 [], .own 3 1 (.slice none 0 0) 0 [], .cst gd 41 #[.string nm, .slice I ni ci, .slice D nd cd, .slice U nu cu], .ro (RwsIn I ni li), .ro (RwsIn D nd ld), .ro (PrsIn U nu lu)] := by
        have h := H
        rw [List.take_of_length_le (by rw [HI.out]; exact Nat.le_refl _)] at h
        exact h
      clear H
      have F2 := K2.facts
      simp only [factsL, cellsF, Nat.reduceAdd, zf, zl] at F2
      go_wp2_with fail
      obtain ⟨cap1, hcap1⟩ : ∃ c, c = cap := ⟨_, rfl⟩
      obtain ⟨A1, hA1⟩ : ∃ c, c = A := ⟨_, rfl⟩
      rw [← hcap1, ← hA1] at K2 ⊢
      clear hcap1 hA1 F2
      go_loopw [4, 28] (fun lv iv wr => ∃ (k cap : Nat) (A : Option Addr), k ≤ nd ∧ lv = .slice A k cap ∧ iv = .int .i64 k ∧ Hold None_ none w wr [.own 3 1 (.slice A1 ni cap1) ni (iCells (li.map Rw.id)), .own 3 1 (.slice A k cap) k (iCells ((ld.take k).map Rw.id)), .own 3 1 (.slice none 0 0) 0 [], .cst gd 41 #[.string nm, .slice I ni ci, .slice D nd cd, .slice U nu cu], .ro (RwsIn I ni li), .ro (RwsIn D nd ld), .ro (PrsIn U nu lu)]) (fun _ iv _ => nd - (intOf iv).toNat)
      case atStart => exact ⟨0, 0, none, by omega, rfl, rfl, K2⟩
      case round =>
        clear K2
        obtain ⟨k, cap, A, hk, rfl, rfl, H⟩ := hrel
        by_cases hlt : k < nd
        · have hd : decide ((k : Int) < (nd : Int)) = true := by simp; omega
          have i0 : (0 : Int) ≤ (k : Int) := by omega
          have i1 : (k : Int) < (nd : Int) := by omega
          obtain ⟨x, hx⟩ := get_of HD.out hlt
          obtain ⟨bb, oo, rfl, hbb, c0, c1, _⟩ := (H.ro 5 rfl).now.at_ hx
          have HCE := hid (show iCells ((ld.take k).map Rw.id) ++ (#[Value.int .i64 x.id]).toList = iCells ((ld.take (k + 1)).map Rw.id) by rw [List.take_add_one, hx]; simp [iCells])
          clear hx
          have K1 := H.alloc_cst #[.int .i64 x.id, .slice x.A x.n x.c] 53
          clear H
          go_wp2_with (at_builtin; go_must (refine wpList_appH K1 2 rfl Tryd.elIntK #[.int .i64 x.id] rfl (.tmp 32) (.tmp 35) rfl rfl (wr.heap.size + 1) (by first | rfl | simp) rfl rfl (by intro u hu; simp at hu; rcases hu with rfl; rfl) (by omega) (by omega) ?_); intro g9 cap9 w9 hc9 hm9 KB; rw [HCE.out] at KB; simp only [List.set_cons_zero, List.set_cons_succ] at KB; (have FB := KB.facts); simp only [factsL, cellsF, Nat.reduceAdd, zf, zl] at FB)
          have KC := KB.drop (List.sublist_cons_self _ _)
          go_roundw
          case rel => exact ⟨k + 1, cap9, _, by omega, by first | rfl | go_num, by first | rfl | go_num, KC⟩
          case measure => simp [intOf]; omega
        · obtain rfl : nd = k := by omega
          have hd : decide ((nd : Int) < (nd : Int)) = false := by simp
          have K3 : Hold None_ none w wr [.own 3 1 (.slice A1 ni cap1) ni (iCells (li.map Rw.id)), .own 3 1 (.slice A nd cap) nd (iCells (ld.map Rw.id)), .own 3 1 (.slice none 0 0) 0 [], .cst gd 41 #[.string nm, .slice I ni ci, .slice D nd cd, .slice U nu cu], .ro (RwsIn I ni li), .ro (RwsIn D nd ld), .ro (PrsIn U nu lu)] := by
            have h := H
            rw [List.take_of_length_le (by rw [HD.out]; exact Nat.le_refl _)] at h
            exact h
          clear H
          have F3 := K3.facts
          simp only [factsL, cellsF, Nat.reduceAdd, zf, zl] at F3
          go_wp2_with fail
          obtain ⟨cap2, hcap2⟩ : ∃ c, c = cap := ⟨_, rfl⟩
          obtain ⟨A2, hA2⟩ : ∃ c, c = A := ⟨_, rfl⟩
          rw [← hcap2, ← hA2] at K3 ⊢
          clear hcap2 hA2 F3
          go_loopw [5, 41] (fun lv iv wr => ∃ (k cap : Nat) (A : Option Addr), k ≤ nu ∧ lv = .slice A k cap ∧ Hid ((lu.take k).all (fun p => !(ld.map Rw.id).contains p.id) = true) ∧ iv = .int .i64 k ∧ Hold None_ none w wr [.own 3 1 (.slice A1 ni cap1) ni (iCells (li.map Rw.id)), .own 3 1 (.slice A2 nd cap2) nd (iCells (ld.map Rw.id)), .own 3 1 (.slice A k cap) k (iCells ((lu.take k).map Pr.id)), .cst gd 41 #[.string nm, .slice I ni ci, .slice D nd cd, .slice U nu cu], .ro (RwsIn I ni li), .ro (RwsIn D nd ld), .ro (PrsIn U nu lu)]) (fun _ iv _ => nu - (intOf iv).toNat)
          case atStart => exact ⟨0, 0, none, by omega, rfl, hid (by simp), rfl, K3⟩
          case round =>
            clear K3
            obtain ⟨k, cap, A, hk, rfl, HCN, rfl, H⟩ := hrel
            by_cases hlt : k < nu
            · have hd : decide ((k : Int) < (nu : Int)) = true := by simp; omega
              have i0 : (0 : Int) ≤ (k : Int) := by omega
              have i1 : (k : Int) < (nu : Int) := by omega
              obtain ⟨x, hx⟩ := get_of HU.out hlt
              obtain ⟨bb, oo, rfl, hbb, c0, c1, c2, _⟩ := (H.ro 6 rfl).now.at_ hx
              have HCE := hid (show iCells ((lu.take k).map Pr.id) ++ (#[Value.int .i64 x.id]).toList = iCells ((lu.take (k + 1)).map Pr.id) by rw [List.take_add_one, hx]; simp [iCells])
              have HX := hid hx
              clear hx
              have K1 := H.alloc_cst #[.int .i64 x.id, .slice x.oA x.on x.oc, .slice x.nA x.nn x.nc] 99
              clear H
              go_wp2_with (at_builtin; go_must (refine wpList_appH K1 3 rfl Tryd.elIntK #[.int .i64 x.id] rfl (.tmp 45) (.tmp 48) rfl rfl (wr.heap.size + 1) (by first | rfl | simp) rfl rfl (by intro u hu; simp at hu; rcases hu with rfl; rfl) (by omega) (by omega) ?_); intro g9 cap9 w9 hc9 hm9 KB; rw [HCE.out] at KB; simp only [List.set_cons_zero, List.set_cons_succ] at KB; (have FB := KB.facts); simp only [factsL, cellsF, Nat.reduceAdd, zf, zl] at FB)
              refine (kcont_any _ A2 nd cap2 (ld.map Rw.id) x.id (Rd.of_own (KB.get 2 rfl)) (by omega)).mono ?_
              rintro e w5 ⟨rfl, rfl⟩
              cases hc : (ld.map Rw.id).contains x.id
              · have HN := hid (ord_step HX.out HCN.out hc)
                clear hc
                go_wp2_with fail
                have KC := KB.drop (List.sublist_cons_self _ _)
                go_roundw
                case rel => exact ⟨k + 1, cap9, _, by omega, by first | rfl | go_num, HN, by first | rfl | go_num, KC⟩
                case measure => simp [intOf]; omega
              · have HN := hid (ord_no HE.out.1 HE.out.2.1 HE.out.2.2 HX.out hc)
                clear hc
                go_wp2_with fail
                go_ret
                exact ⟨by rw [HN.out] <;> rfl, KB.below⟩
            · obtain rfl : nu = k := by omega
              have hd : decide ((nu : Int) < (nu : Int)) = false := by simp
              have K4 : Hold None_ none w wr [.own 3 1 (.slice A1 ni cap1) ni (iCells (li.map Rw.id)), .own 3 1 (.slice A2 nd cap2) nd (iCells (ld.map Rw.id)), .own 3 1 (.slice A nu cap) nu (iCells (lu.map Pr.id)), .cst gd 41 #[.string nm, .slice I ni ci, .slice D nd cd, .slice U nu cu], .ro (RwsIn I ni li), .ro (RwsIn D nd ld), .ro (PrsIn U nu lu)] := by
                have h := H
                rw [List.take_of_length_le (by rw [HU.out]; exact Nat.le_refl _)] at h
                exact h
              have HO := hid (ord_yes HE.out.1 HE.out.2.1 HE.out.2.2 (by have h := HCN.out; rwa [List.take_of_length_le (by rw [HU.out]; exact Nat.le_refl _)] at h))
              clear H
              have F4 := K4.facts
              simp only [factsL, cellsF, Nat.reduceAdd, zf, zl] at F4
              go_wp2_with fail
              refine (dasc_any _ A1 ni cap1 (li.map Rw.id) (Rd.of_own (K4.get 0 rfl)) (by omega)).mono ?_
              rintro e w6 ⟨rfl, b6⟩
              have K5 := K4.call b6
              clear K4 F4 b6
              cases h1 : ascB (li.map Rw.id)
              · have HN := hid (show ordD d = false by rw [HO.out, h1]; rfl)
                go_wp2_with fail
                go_ret
                exact ⟨by rw [HN.out] <;> rfl, K5.below⟩
              · go_wp2_with fail
                refine (dasc_any _ A2 nd cap2 (ld.map Rw.id) (Rd.of_own (K5.get 1 rfl)) (by omega)).mono ?_
                rintro e w7 ⟨rfl, b7⟩
                have K6 := K5.call b7
                clear K5 b7
                cases h2 : ascB (ld.map Rw.id)
                · have HN := hid (show ordD d = false by rw [HO.out, h1, h2]; rfl)
                  go_wp2_with fail
                  go_ret
                  exact ⟨by rw [HN.out] <;> rfl, K6.below⟩
                · go_wp2_with fail
                  refine (dasc_any _ A nu cap (lu.map Pr.id) (Rd.of_own (K6.get 2 rfl)) (by omega)).mono ?_
                  rintro e w8 ⟨rfl, b8⟩
                  have K7 := K6.call b8
                  have HN := hid (show ordD d = ascB (lu.map Pr.id) by rw [HO.out, h1, h2]; simp)
                  go_wp2_with fail
                  go_ret
                  exact ⟨by rw [HN.out] <;> rfl, K7.below⟩

end Go.Proofs.YtjpgbhakkfgecaaDoor

namespace Go.Proofs.YtjpgbhakkfgecaaDoor
open Go.RowKit
set_option linter.unusedVariables false
set_option linter.unusedSimpArgs false

abbrev presV (b4 b5 : Nat) : Value := .func (.func 100) #[] #[.pointer (some ⟨b4, 0, none⟩), .pointer (some ⟨b5, 0, none⟩)]
abbrev goneV (b : Nat) : Value := .func (.func 68) #[] #[.pointer (some ⟨b, 0, none⟩)]
abbrev pairV (b : Nat) : Value := .func (.func 70) #[] #[.pointer (some ⟨b, 0, none⟩)]
set_option maxHeartbeats 1000000 in
theorem dpres_any (w : World) (x : Rw) (b4 b5 : Nat) (id : Int) (W : Option Addr) (wn wc : Nat) (ws : List Vl) (t4 t5 : TypeId) (h4 : w.heap[b4]? = some (.cells #[.int .i64 id] t4 (0, 0))) (h5 : w.heap[b5]? = some (.cells #[.slice W wn wc] t5 (0, 0))) (hx : VlsIn x.A x.n x.vs w) (hw : VlsIn W wn ws w) (hn : x.n ≤ 4398046511104) :
    Calls Tryd.prog 100 #[.agg #[.int .i64 x.id, .slice x.A x.n x.c], .pointer (some ⟨b4, 0, none⟩), .pointer (some ⟨b5, 0, none⟩)] w fun e w' => e = .returned (.bool (decide (x.row = (id, ws)))) ∧ Below w.heap.size w w' := by
  have hb4 : b4 < w.heap.size := Blk.lt (t := t4) (cs := #[.int .i64 id]) h4
  have hb5 : b5 < w.heap.size := Blk.lt (t := t5) (cs := #[.slice W wn wc]) h5
  have K0 := (((((Hold.start None_ w (fun b hb => hb.elim)).add (Rd.ro hw (Nat.le_refl _) (by simp [Mut, None_]) : Ro w _ (VlsIn W wn ws))).add (Rd.ro hx (Nat.le_refl _) (by simp [Mut, None_, Hp.foot]) : Ro w _ (VlsIn x.A x.n x.vs))).addCst (g := b5) (t := t5) (cs := #[.slice W wn wc]) (fun w2 h1 h2 => (h2 b5 hb5 (by simp [Mut, None_, Hp.foot])).trans h5)).addCst (g := b4) (t := t4) (cs := #[.int .i64 id]) (fun w2 h1 h2 => (h2 b4 hb4 (by simp [Mut, None_, Hp.foot])).trans h4)).alloc_cst #[.int .i64 x.id, .slice x.A x.n x.c] 53
  have F0 := K0.facts
  simp only [factsL, cellsF, Nat.reduceAdd, zf, zl] at F0
  clear hx hw h4 h5
  by_cases hi : x.id = id
  · have h1 : (x.id == id) = true := by simp [hi]
    have HI := hid hi; clear hi
    go_enter Tryd.func100, Tryd.ntmps100
    go_wp2_with fail
    refine (eqVls_any _ x.A x.n x.c x.vs W wn wc ws (K0.ro 3 rfl).now (K0.ro 4 rfl).now hn).mono ?_
    rintro e w1 ⟨rfl, q, rfl⟩
    have K1 := K0.drewN q
    have HB := hid (show decide (x.row = (id, ws)) = decide (x.vs = ws) by simp [Rw.row, HI.out])
    go_wp2_with fail
    go_ret
    exact ⟨by rw [HB.out] <;> first | rfl | simp, K1.below⟩
  · have h1 : (x.id == id) = false := by simpa using hi
    have HB := hid (show decide (x.row = (id, ws)) = false by simp [Rw.row, hi])
    clear hi
    go_enter Tryd.func100, Tryd.ntmps100
    go_wp2_with fail
    go_ret
    exact ⟨by rw [HB.out] <;> rfl, K0.below⟩
set_option maxHeartbeats 1000000 in
theorem dgone_any (w : World) (x : Rw) (b : Nat) (id : Int) (A : Option Addr) (n c : Nat) (t : TypeId) (hb : w.heap[b]? = some (.cells #[.int .i64 id, .slice A n c] t (0, 0))) :
    Calls Tryd.prog 68 #[.agg #[.int .i64 x.id, .slice x.A x.n x.c], .pointer (some ⟨b, 0, none⟩)] w fun e w' => e = .returned (.bool (decide (x.id = id))) ∧ Below w.heap.size w w' := by
  have hbl : b < w.heap.size := Blk.lt (t := t) (cs := #[.int .i64 id, .slice A n c]) hb
  have K0 := ((Hold.begin_ w).addCst (g := b) (t := t) (cs := #[.int .i64 id, .slice A n c]) (fun w2 h1 h2 => (h2 b hbl (by simp [Mut, None_])).trans hb)).alloc_cst #[.int .i64 x.id, .slice x.A x.n x.c] 53
  have F0 := K0.facts
  simp only [factsL, cellsF, Nat.reduceAdd, zf, zl] at F0
  by_cases hi : x.id = id
  · have h1 : (x.id == id) = true := by simp [hi]
    have HB := hid (show decide (x.id = id) = true by simp [hi])
    clear hi
    go_enter Tryd.func68, Tryd.ntmps68
    go_wp2_with fail
    go_ret
    exact ⟨by rw [HB.out] <;> first | rfl | simp, K0.below⟩
  · have h1 : (x.id == id) = false := by simpa using hi
    have HB := hid (show decide (x.id = id) = false by simp [hi])
    clear hi
    go_enter Tryd.func68, Tryd.ntmps68
    go_wp2_with fail
    go_ret
    exact ⟨by rw [HB.out] <;> first | rfl | simp, K0.below⟩
set_option maxHeartbeats 1000000 in
theorem dpair_any (w : World) (x : Pr) (b : Nat) (id : Int) (A : Option Addr) (n c : Nat) (t : TypeId) (hb : w.heap[b]? = some (.cells #[.int .i64 id, .slice A n c] t (0, 0))) :
    Calls Tryd.prog 70 #[.agg #[.int .i64 x.id, .slice x.oA x.on x.oc, .slice x.nA x.nn x.nc], .pointer (some ⟨b, 0, none⟩)] w fun e w' => e = .returned (.bool (decide (x.id = id))) ∧ Below w.heap.size w w' := by
  have hbl : b < w.heap.size := Blk.lt (t := t) (cs := #[.int .i64 id, .slice A n c]) hb
  have K0 := ((Hold.begin_ w).addCst (g := b) (t := t) (cs := #[.int .i64 id, .slice A n c]) (fun w2 h1 h2 => (h2 b hbl (by simp [Mut, None_])).trans hb)).alloc_cst #[.int .i64 x.id, .slice x.oA x.on x.oc, .slice x.nA x.nn x.nc] 99
  have F0 := K0.facts
  simp only [factsL, cellsF, Nat.reduceAdd, zf, zl] at F0
  by_cases hi : x.id = id
  · have h1 : (x.id == id) = true := by simp [hi]
    have HB := hid (show decide (x.id = id) = true by simp [hi])
    clear hi
    go_enter Tryd.func70, Tryd.ntmps70
    go_wp2_with fail
    go_ret
    exact ⟨by rw [HB.out] <;> first | rfl | simp, K0.below⟩
  · have h1 : (x.id == id) = false := by simpa using hi
    have HB := hid (show decide (x.id = id) = false by simp [hi])
    clear hi
    go_enter Tryd.func70, Tryd.ntmps70
    go_wp2_with fail
    go_ret
    exact ⟨by rw [HB.out] <;> first | rfl | simp, K0.below⟩
set_option maxHeartbeats 2000000 in
set_option maxRecDepth 100000 in
theorem dpresI_any (M : Nat → Prop) (w : World) (hM : ∀ b, M b → b < w.heap.size) (A : Option Addr) (n c : Nat) (l : List Rw) (b4 b5 : Nat) (id : Int) (W : Option Addr) (wn wc : Nat) (ws : List Vl) (t4 t5 : TypeId) (h4 : Ro w M (fun w => w.heap[b4]? = some (.cells #[.int .i64 id] t4 (0, 0)))) (h5 : Ro w M (fun w => w.heap[b5]? = some (.cells #[.slice W wn wc] t5 (0, 0)))) (hw : Ro w M (VlsIn W wn ws)) (hrn : ∀ x ∈ l, x.n ≤ 4398046511104) (hD : Ro w M (RwsIn A n l)) (hn : n ≤ 4611686018427387904) :
    Calls Tryd.prog 101 #[.slice A n c, presV b4 b5] w fun e w' => (∃ r : Int, e = .returned (.int .i64 r) ∧ ((∃ (k : Nat) (x : Rw), l[k]? = some x ∧ decide (x.row = (id, ws)) = true ∧ (∀ (j : Nat) (x : Rw), j < k → l[j]? = some x → decide (x.row = (id, ws)) = false) ∧ r = k) ∨ (r = -1 ∧ ∀ x ∈ l, decide (x.row = (id, ws)) = false))) ∧ Below w.heap.size w w' := by
  have HL := hid hD.now.len
  have K0 := ((((Hold.start M w hM).add (h5.less (by simp [Mut]))).add (h4.less (by simp [Mut, Hp.foot]))).add (hw.less (by simp [Mut, Hp.foot]))).add (hD.less (by simp [Mut, Hp.foot]))
  go_enter Tryd.func101, Tryd.ntmps101
  go_wp2_with fail
  go_loopw [8] (fun iv wr => ∃ (k : Nat), k ≤ n ∧ iv = .int .i64 k ∧ Hid (∀ (j : Nat) (x : Rw), j < k → l[j]? = some x → decide (x.row = (id, ws)) = false) ∧ Hold M none w wr [.ro (RwsIn A n l), .ro (VlsIn W wn ws), .ro (fun w => w.heap[b4]? = some (.cells #[.int .i64 id] t4 (0, 0))), .ro (fun w => w.heap[b5]? = some (.cells #[.slice W wn wc] t5 (0, 0)))]) (fun iv _ => n - (intOf iv).toNat)
  case atStart => exact ⟨0, by omega, rfl, hid (fun j x hj => by omega), K0⟩
  case round =>
    clear K0
    obtain ⟨k, hk, rfl, HC, H⟩ := hrel
    by_cases hlt : k < n
    · have hd : decide ((k : Int) < (n : Int)) = true := by simp; omega
      have i0 : (0 : Int) ≤ (k : Int) := by omega
      have i1 : (k : Int) < (n : Int) := by omega
      obtain ⟨x, hx⟩ := get_of HL.out hlt
      obtain ⟨b, o, rfl, hb, c0, c1, _⟩ := (H.ro 0 rfl).now.at_ hx
      have HX := hid hx
      clear hx
      go_wp2_with fail
      refine (dpres_any wr x b4 b5 id W wn wc ws t4 t5 (H.ro 2 rfl).now (H.ro 3 rfl).now ((H.ro 0 rfl).now.2 x (List.mem_of_getElem? HX.out)) (H.ro 1 rfl).now (hrn x (List.mem_of_getElem? HX.out))).mono ?_
      rintro e w1 ⟨rfl, b1⟩
      have K1 := H.call b1
      clear H b1
      cases hz : decide (x.row = (id, ws))
      · have HN := hid (show ∀ (j : Nat) (x : Rw), j < k + 1 → l[j]? = some x → decide (x.row = (id, ws)) = false from fun j y hj hy => by
          rcases Nat.lt_or_ge j k with h | h
          · exact HC.out j y h hy
          · obtain rfl : j = k := by omega
            have hx := HX.out
            rw [hx] at hy; injection hy with hy; subst hy; exact hz)
        clear hz
        go_wp2_with fail
        go_roundw
        case rel => exact ⟨k + 1, by omega, by go_num, HN, K1⟩
        case measure => simp [intOf]; omega
      · have HZ := hid hz
        clear hz
        go_wp2_with fail
        go_ret
        exact ⟨⟨k, rfl, .inl ⟨k, x, HX.out, HZ.out, HC.out, rfl⟩⟩, K1.below⟩
    · obtain rfl : n = k := by omega
      have hd : decide ((n : Int) < (n : Int)) = false := by simp
      go_wp2_with fail
      go_ret
      exact ⟨⟨-1, rfl, .inr ⟨rfl, fun x hx => by
        obtain ⟨j, hj⟩ := List.getElem?_of_mem hx
        exact HC.out j x (by have := (List.getElem?_eq_some_iff.1 hj).1; rw [HL.out] at this; exact this) hj⟩⟩, H.below⟩
theorem dpresC_any (M : Nat → Prop) (w : World) (hM : ∀ b, M b → b < w.heap.size) (A : Option Addr) (n c : Nat) (l : List Rw) (b4 b5 : Nat) (id : Int) (W : Option Addr) (wn wc : Nat) (ws : List Vl) (t4 t5 : TypeId) (h4 : Ro w M (fun w => w.heap[b4]? = some (.cells #[.int .i64 id] t4 (0, 0)))) (h5 : Ro w M (fun w => w.heap[b5]? = some (.cells #[.slice W wn wc] t5 (0, 0)))) (hw : Ro w M (VlsIn W wn ws)) (hrn : ∀ x ∈ l, x.n ≤ 4398046511104) (hD : Ro w M (RwsIn A n l)) (hn : n ≤ 4611686018427387904) :
    Calls Tryd.prog 67 #[.slice A n c, presV b4 b5] w fun e w' => e = .returned (.bool (l.any fun x => decide (x.row = (id, ws)))) ∧ Below w.heap.size w w' := by
  go_enter Tryd.func67, Tryd.ntmps67
  go_wp2_with fail
  refine (dpresI_any M w hM A n c l b4 b5 id W wn wc ws t4 t5 h4 h5 hw hrn hD hn).mono ?_
  rintro e w1 ⟨⟨r, rfl, hr⟩, b1⟩
  have HB := hid b1
  clear b1
  rcases hr with ⟨k, x, hx, hp, _, rfl⟩ | ⟨rfl, hall⟩
  · have h0 : decide ((k : Int) ≥ 0) = true := by simp
    have HN := hid (show (l.any fun x => decide (x.row = (id, ws))) = true from by rw [List.any_eq_true]; exact ⟨x, List.mem_of_getElem? hx, hp⟩)
    clear hx hp
    go_wp2_with fail
    go_ret
    exact ⟨by rw [HN.out] <;> first | rfl | simp, HB.out⟩
  · have HN := hid (show (l.any fun x => decide (x.row = (id, ws))) = false from by rw [List.any_eq_false]; intro x hx; rw [hall x hx]; simp)
    clear hall
    go_wp2_with fail
    go_ret
    exact ⟨by rw [HN.out] <;> first | rfl | simp, HB.out⟩
set_option maxHeartbeats 2000000 in
set_option maxRecDepth 100000 in
theorem dgoneI_any (M : Nat → Prop) (w : World) (hM : ∀ b, M b → b < w.heap.size) (A : Option Addr) (n c : Nat) (l : List Rw) (b : Nat) (id : Int) (A2 : Option Addr) (n2 c2 : Nat) (t : TypeId) (hb : Ro w M (fun w => w.heap[b]? = some (.cells #[.int .i64 id, .slice A2 n2 c2] t (0, 0)))) (hD : Ro w M (RwsIn A n l)) (hn : n ≤ 4611686018427387904) :
    Calls Tryd.prog 101 #[.slice A n c, goneV b] w fun e w' => (∃ r : Int, e = .returned (.int .i64 r) ∧ ((∃ (k : Nat) (x : Rw), l[k]? = some x ∧ decide (x.id = id) = true ∧ (∀ (j : Nat) (x : Rw), j < k → l[j]? = some x → decide (x.id = id) = false) ∧ r = k) ∨ (r = -1 ∧ ∀ x ∈ l, decide (x.id = id) = false))) ∧ Below w.heap.size w w' := by
  have HL := hid hD.now.len
  have K0 := ((Hold.start M w hM).add (hb.less (by simp [Mut]))).add (hD.less (by simp [Mut, Hp.foot]))
  go_enter Tryd.func101, Tryd.ntmps101
  go_wp2_with fail
  go_loopw [8] (fun iv wr => ∃ (k : Nat), k ≤ n ∧ iv = .int .i64 k ∧ Hid (∀ (j : Nat) (x : Rw), j < k → l[j]? = some x → decide (x.id = id) = false) ∧ Hold M none w wr [.ro (RwsIn A n l), .ro (fun w => w.heap[b]? = some (.cells #[.int .i64 id, .slice A2 n2 c2] t (0, 0)))]) (fun iv _ => n - (intOf iv).toNat)
  case atStart => exact ⟨0, by omega, rfl, hid (fun j x hj => by omega), K0⟩
  case round =>
    clear K0
    obtain ⟨k, hk, rfl, HC, H⟩ := hrel
    by_cases hlt : k < n
    · have hd : decide ((k : Int) < (n : Int)) = true := by simp; omega
      have i0 : (0 : Int) ≤ (k : Int) := by omega
      have i1 : (k : Int) < (n : Int) := by omega
      obtain ⟨x, hx⟩ := get_of HL.out hlt
      obtain ⟨b_, o, rfl, hb_, c0, c1, _⟩ := (H.ro 0 rfl).now.at_ hx
      have HX := hid hx
      clear hx
      go_wp2_with fail
      refine (dgone_any wr x b id A2 n2 c2 t (H.ro 1 rfl).now).mono ?_
      rintro e w1 ⟨rfl, b1⟩
      have K1 := H.call b1
      clear H b1
      cases hz : decide (x.id = id)
      · have HN := hid (show ∀ (j : Nat) (x : Rw), j < k + 1 → l[j]? = some x → decide (x.id = id) = false from fun j y hj hy => by
          rcases Nat.lt_or_ge j k with h | h
          · exact HC.out j y h hy
          · obtain rfl : j = k := by omega
            have hx := HX.out
            rw [hx] at hy; injection hy with hy; subst hy; exact hz)
        clear hz
        go_wp2_with fail
        go_roundw
        case rel => exact ⟨k + 1, by omega, by go_num, HN, K1⟩
        case measure => simp [intOf]; omega
      · have HZ := hid hz
        clear hz
        go_wp2_with fail
        go_ret
        exact ⟨⟨k, rfl, .inl ⟨k, x, HX.out, HZ.out, HC.out, rfl⟩⟩, K1.below⟩
    · obtain rfl : n = k := by omega
      have hd : decide ((n : Int) < (n : Int)) = false := by simp
      go_wp2_with fail
      go_ret
      exact ⟨⟨-1, rfl, .inr ⟨rfl, fun x hx => by
        obtain ⟨j, hj⟩ := List.getElem?_of_mem hx
        exact HC.out j x (by have := (List.getElem?_eq_some_iff.1 hj).1; rw [HL.out] at this; exact this) hj⟩⟩, H.below⟩
theorem dgoneC_any (M : Nat → Prop) (w : World) (hM : ∀ b, M b → b < w.heap.size) (A : Option Addr) (n c : Nat) (l : List Rw) (b : Nat) (id : Int) (A2 : Option Addr) (n2 c2 : Nat) (t : TypeId) (hb : Ro w M (fun w => w.heap[b]? = some (.cells #[.int .i64 id, .slice A2 n2 c2] t (0, 0)))) (hD : Ro w M (RwsIn A n l)) (hn : n ≤ 4611686018427387904) :
    Calls Tryd.prog 67 #[.slice A n c, goneV b] w fun e w' => e = .returned (.bool (l.any fun x => decide (x.id = id))) ∧ Below w.heap.size w w' := by
  go_enter Tryd.func67, Tryd.ntmps67
  go_wp2_with fail
  refine (dgoneI_any M w hM A n c l b id A2 n2 c2 t hb hD hn).mono ?_
  rintro e w1 ⟨⟨r, rfl, hr⟩, b1⟩
  have HB := hid b1
  clear b1
  rcases hr with ⟨k, x, hx, hp, _, rfl⟩ | ⟨rfl, hall⟩
  · have h0 : decide ((k : Int) ≥ 0) = true := by simp
    have HN := hid (show (l.any fun x => decide (x.id = id)) = true from by rw [List.any_eq_true]; exact ⟨x, List.mem_of_getElem? hx, hp⟩)
    clear hx hp
    go_wp2_with fail
    go_ret
    exact ⟨by rw [HN.out] <;> first | rfl | simp, HB.out⟩
  · have HN := hid (show (l.any fun x => decide (x.id = id)) = false from by rw [List.any_eq_false]; intro x hx; rw [hall x hx]; simp)
    clear hall
    go_wp2_with fail
    go_ret
    exact ⟨by rw [HN.out] <;> first | rfl | simp, HB.out⟩
set_option maxHeartbeats 2000000 in
set_option maxRecDepth 100000 in
theorem dpairI_any (M : Nat → Prop) (w : World) (hM : ∀ b, M b → b < w.heap.size) (A : Option Addr) (n c : Nat) (l : List Pr) (b : Nat) (id : Int) (A2 : Option Addr) (n2 c2 : Nat) (t : TypeId) (hb : Ro w M (fun w => w.heap[b]? = some (.cells #[.int .i64 id, .slice A2 n2 c2] t (0, 0)))) (hD : Ro w M (PrsIn A n l)) (hn : n ≤ 4611686018427387904) :
    Calls Tryd.prog 69 #[.slice A n c, pairV b] w fun e w' => (∃ r : Int, e = .returned (.int .i64 r) ∧ ((∃ (k : Nat) (x : Pr), l[k]? = some x ∧ decide (x.id = id) = true ∧ (∀ (j : Nat) (x : Pr), j < k → l[j]? = some x → decide (x.id = id) = false) ∧ r = k) ∨ (r = -1 ∧ ∀ x ∈ l, decide (x.id = id) = false))) ∧ Below w.heap.size w w' := by
  have HL := hid hD.now.len
  have K0 := ((Hold.start M w hM).add (hb.less (by simp [Mut]))).add (hD.less (by simp [Mut, Hp.foot]))
  go_enter Tryd.func69, Tryd.ntmps69
  go_wp2_with fail
  go_loopw [8] (fun iv wr => ∃ (k : Nat), k ≤ n ∧ iv = .int .i64 k ∧ Hid (∀ (j : Nat) (x : Pr), j < k → l[j]? = some x → decide (x.id = id) = false) ∧ Hold M none w wr [.ro (PrsIn A n l), .ro (fun w => w.heap[b]? = some (.cells #[.int .i64 id, .slice A2 n2 c2] t (0, 0)))]) (fun iv _ => n - (intOf iv).toNat)
  case atStart => exact ⟨0, by omega, rfl, hid (fun j x hj => by omega), K0⟩
  case round =>
    clear K0
    obtain ⟨k, hk, rfl, HC, H⟩ := hrel
    by_cases hlt : k < n
    · have hd : decide ((k : Int) < (n : Int)) = true := by simp; omega
      have i0 : (0 : Int) ≤ (k : Int) := by omega
      have i1 : (k : Int) < (n : Int) := by omega
      obtain ⟨x, hx⟩ := get_of HL.out hlt
      obtain ⟨b_, o, rfl, hb_, c0, c1, c2_, _⟩ := (H.ro 0 rfl).now.at_ hx
      have HX := hid hx
      clear hx
      go_wp2_with fail
      refine (dpair_any wr x b id A2 n2 c2 t (H.ro 1 rfl).now).mono ?_
      rintro e w1 ⟨rfl, b1⟩
      have K1 := H.call b1
      clear H b1
      cases hz : decide (x.id = id)
      · have HN := hid (show ∀ (j : Nat) (x : Pr), j < k + 1 → l[j]? = some x → decide (x.id = id) = false from fun j y hj hy => by
          rcases Nat.lt_or_ge j k with h | h
          · exact HC.out j y h hy
          · obtain rfl : j = k := by omega
            have hx := HX.out
            rw [hx] at hy; injection hy with hy; subst hy; exact hz)
        clear hz
        go_wp2_with fail
        go_roundw
        case rel => exact ⟨k + 1, by omega, by go_num, HN, K1⟩
        case measure => simp [intOf]; omega
      · have HZ := hid hz
        clear hz
        go_wp2_with fail
        go_ret
        exact ⟨⟨k, rfl, .inl ⟨k, x, HX.out, HZ.out, HC.out, rfl⟩⟩, K1.below⟩
    · obtain rfl : n = k := by omega
      have hd : decide ((n : Int) < (n : Int)) = false := by simp
      go_wp2_with fail
      go_ret
      exact ⟨⟨-1, rfl, .inr ⟨rfl, fun x hx => by
        obtain ⟨j, hj⟩ := List.getElem?_of_mem hx
        exact HC.out j x (by have := (List.getElem?_eq_some_iff.1 hj).1; rw [HL.out] at this; exact this) hj⟩⟩, H.below⟩
end Go.Proofs.YtjpgbhakkfgecaaDoor

namespace Go.Proofs.YtjpgbhakkfgecaaDoor
open Go.RowKit
set_option linter.unusedVariables false
set_option linter.unusedSimpArgs false

set_option maxHeartbeats 2000000 in
set_option maxRecDepth 100000 in
theorem dpresent_any (M : Nat → Prop) (w : World) (hM : ∀ b, M b → b < w.heap.size) (nm : ByteArray) (A : Option Addr) (n c : Nat) (nx : Int) (B : Option Addr) (m d : Nat) (l : List Rw) (id : Int) (W : Option Addr) (wn wc : Nat) (ws : List Vl) (hD : Ro w M (RwsIn B m l)) (hw : Ro w M (VlsIn W wn ws)) (hm : m ≤ 4611686018427387904) (hrn : ∀ x ∈ l, x.n ≤ 4398046511104) :
    Calls Tryd.prog 66 #[.agg #[.string nm, .slice A n c, .int .i64 nx, .slice B m d], .int .i64 id, .slice W wn wc] w fun e w' => e = .returned (.bool (l.any fun x => decide (x.row = (id, ws)))) ∧ Below w.heap.size w w' := by
  have K0 := (((((Hold.start M w hM).add (hw.less (by simp [Mut]))).add (hD.less (by simp [Mut, Hp.foot]))).alloc_cst #[.string nm, .slice A n c, .int .i64 nx, .slice B m d] 27).alloc_cst #[.int .i64 id] 3).alloc_cst #[.slice W wn wc] 51
  simp only [World.size_alloc] at K0
  have F0 := K0.facts
  simp only [factsL, cellsF, Nat.reduceAdd, zf, zl] at F0
  clear hD hw
  go_enter Tryd.func66, Tryd.ntmps66
  go_wp2_with fail
  refine (dpresC_any _ _ K0.mutLt B m d l _ _ id W wn wc ws _ _ (K0.get 1 rfl) (K0.get 0 rfl) (K0.ro 4 rfl) hrn (K0.ro 3 rfl) hm).mono ?_
  rintro e w1 ⟨rfl, b1⟩
  have K1 := K0.call b1
  clear F0 b1
  go_wp2_with fail
  go_ret
  exact ⟨by first | rfl | simp, K1.below⟩
end Go.Proofs.YtjpgbhakkfgecaaDoor

namespace Go.Proofs.YtjpgbhakkfgecaaDoor
open Go.RowKit
set_option linter.unusedVariables false
set_option linter.unusedSimpArgs false

def keepL (d : Dl) (l : List Row) : List Row := (l.filter fun r => !(d.del.any fun x => decide (x.1 = r.1))).map fun r => (r.1, (findU d.upd r.1).getD r.2)
theorem keepL_gone {d : Dl} {l : List Row} {k : Nat} {r : Row} (hr : l[k]? = some r) (h : (d.del.any fun x => decide (x.1 = r.1)) = true) : keepL d (l.take (k + 1)) = keepL d (l.take k) := by
  unfold keepL
  rw [List.take_add_one, hr, Option.toList_some, List.filter_append]
  simp [List.filter_cons, h]
theorem keepL_stay {d : Dl} {l : List Row} {k : Nat} {r : Row} (hr : l[k]? = some r) (h : (d.del.any fun x => decide (x.1 = r.1)) = false) : keepL d (l.take (k + 1)) = keepL d (l.take k) ++ [(r.1, (findU d.upd r.1).getD r.2)] := by
  unfold keepL
  rw [List.take_add_one, hr, Option.toList_some, List.filter_append]
  simp [List.filter_cons, h]
theorem keepL_turn {d : Dl} {l : List Row} {k : Nat} {r : Row} (hr : l[k]? = some r) (h : (d.del.any fun x => decide (x.1 = r.1)) = false) {v : List Vl} (hu : findU d.upd r.1 = some v) : keepL d (l.take (k + 1)) = keepL d (l.take k) ++ [(r.1, v)] := by
  rw [keepL_stay hr h, hu]; rfl
theorem keepL_same {d : Dl} {l : List Row} {k : Nat} {r : Row} (hr : l[k]? = some r) (h : (d.del.any fun x => decide (x.1 = r.1)) = false) (hu : findU d.upd r.1 = none) : keepL d (l.take (k + 1)) = keepL d (l.take k) ++ [r] := by
  rw [keepL_stay hr h, hu]; rfl
theorem keepL_all {t : Tb} {d : Dl} {k : Nat} (h : t.rs.length ≤ k) : keepL d (t.rs.take k) = keepD t d := by
  rw [List.take_of_length_le h]; rfl
theorem nxD_take {nx : Int} {l : List Row} {k : Nat} {r : Row} (hr : l[k]? = some r) : nxD nx (l.take (k + 1)) = max (nxD nx (l.take k)) (min r.1 2147483648 + 1) := by
  unfold nxD
  rw [List.take_add_one, hr, Option.toList_some, List.foldl_append]
  rfl
theorem applyD_1 {t : Tb} {d : Dl} (h : tabB t.nm t.cs t.nx t.rs = false) : applyD t d = (false, zeroT) := by
  unfold applyD; rw [h]; rfl
theorem applyD_2 {t : Tb} {d : Dl} (h : d.nm ≠ t.nm) : applyD t d = (false, zeroT) := by
  unfold applyD; rw [decide_eq_false h]; simp
theorem applyD_3 {t : Tb} {d : Dl} (h : ordD d = false) : applyD t d = (false, zeroT) := by
  unfold applyD; rw [h]; simp
theorem applyD_4 {t : Tb} {d : Dl} (h : fstD t d = false) : applyD t d = (false, zeroT) := by
  unfold applyD; rw [h]; simp
theorem applyD_5 {t : Tb} {d : Dl} (h : presD t d = false) : applyD t d = (false, zeroT) := by
  unfold applyD; rw [h]; simp
theorem applyD_6 {t : Tb} {d : Dl} (h : tabB (outD t d).nm (outD t d).cs (outD t d).nx (outD t d).rs = false) : applyD t d = (false, zeroT) := by
  unfold applyD; rw [h]; simp
theorem applyD_ok {t : Tb} {d : Dl} (h1 : tabB t.nm t.cs t.nx t.rs = true) (h2 : d.nm = t.nm) (h3 : ordD d = true) (h4 : fstD t d = true) (h5 : presD t d = true) (h6 : tabB (outD t d).nm (outD t d).cs (outD t d).nx (outD t d).rs = true) : applyD t d = (true, outD t d) := by
  unfold applyD; rw [h1, h3, h4, h5, h6, decide_eq_true h2]; rfl
theorem fstD_nil {t : Tb} {d : Dl} (h : d.ins = []) : fstD t d = true := by unfold fstD; rw [h]
theorem fstD_at {t : Tb} {d : Dl} {r : Row} (h : d.ins[0]? = some r) : fstD t d = decide (t.nx ≤ r.1) := by
  unfold fstD
  cases hd : d.ins with
  | nil => rw [hd] at h; simp at h
  | cons x l => rw [hd] at h; simp at h; subst h; rfl
theorem presD_del {t : Tb} {d : Dl} {r : Row} (hr : r ∈ d.del) (h : r ∉ t.rs) : presD t d = false := by
  unfold presD
  have : (d.del.all fun r => decide (r ∈ t.rs)) = false := by rw [List.all_eq_false]; exact ⟨r, hr, by simpa using h⟩
  rw [this]; rfl
theorem presD_upd {t : Tb} {d : Dl} {u : Upd} (hu : u ∈ d.upd) (h : (u.1, u.2.1) ∉ t.rs) : presD t d = false := by
  unfold presD
  have : (d.upd.all fun u => decide ((u.1, u.2.1) ∈ t.rs)) = false := by rw [List.all_eq_false]; exact ⟨u, hu, by simpa using h⟩
  rw [this]; simp
theorem presD_ok {t : Tb} {d : Dl} (h1 : ∀ r ∈ d.del, r ∈ t.rs) (h2 : ∀ u ∈ d.upd, (u.1, u.2.1) ∈ t.rs) : presD t d = true := by
  unfold presD
  simp only [Bool.and_eq_true, List.all_eq_true, decide_eq_true_eq]
  exact ⟨h1, h2⟩
theorem any_row {l : List Rw} {rs : List Row} (h : l.map Rw.row = rs) (q : Row) : (l.any fun x => decide (x.row = q)) = decide (q ∈ rs) := by
  subst h
  rw [Bool.eq_iff_iff, List.any_eq_true, decide_eq_true_eq, List.mem_map]
  simp
theorem any_id {l : List Rw} {rs : List Row} (h : l.map Rw.row = rs) (i : Int) : (l.any fun x => decide (x.id = i)) = rs.any fun x => decide (x.1 = i) := by
  subst h
  rw [List.any_map]; rfl
theorem findU_at {l : List Pr} {us : List Upd} (h : l.map Pr.upd = us) {k : Nat} {x : Pr} {i : Int} (hx : l[k]? = some x) (hi : decide (x.id = i) = true) (hb : ∀ (j : Nat) (y : Pr), j < k → l[j]? = some y → decide (y.id = i) = false) : findU us i = some x.new := by
  subst h
  induction l generalizing k with
  | nil => simp at hx
  | cons a l ih =>
    unfold findU at ih ⊢
    rw [List.map_cons, List.find?_cons]
    cases k with
    | zero =>
      simp at hx; subst hx
      have : (a.upd.1 == i) = true := by simpa [Pr.upd] using hi
      rw [this]; rfl
    | succ k =>
      have h0 := hb 0 a (by omega) rfl
      have : (a.upd.1 == i) = false := by simpa [Pr.upd] using h0
      rw [this]
      exact ih (k := k) (by simpa using hx) fun j y hj hy => hb (j + 1) y (by omega) (by simpa using hy)
theorem findU_no {l : List Pr} {us : List Upd} (h : l.map Pr.upd = us) {i : Int} (hb : ∀ y ∈ l, decide (y.id = i) = false) : findU us i = none := findU_none fun u hu => by
  subst h
  obtain ⟨y, hy, rfl⟩ := List.mem_map.1 hu
  exact of_decide_eq_false (hb y hy)
end Go.Proofs.YtjpgbhakkfgecaaDoor

/- Te: a table in memory as an element, and lists of tables. No program in sight. -/
import Derived.Test.YtedogodccblfeaaGreatDoorSUndSaidMB
import Derived.Test.YtedogodccblfeaaGreatDoorSUndSaidMA
import Derived.IntWalk
import Derived.Laws.BytesArg
import Derived.StillTailTactics
namespace Go.Proofs.YtedogodccblfeaaGreatDoor
open Go.RowKit
set_option linter.unusedVariables false
set_option linter.unusedSimpArgs false

/-- A table drawn: a valid one of the schema. -/
def DrawnTab (w : World) (T : Nat) (M : Nat → Prop) (nm : ByteArray) (cs : List Col) (N : Nat) (e : Ending) (w' : World) : Prop :=
  ∃ (v : Value) (nx : Int) (rs : List Row), e = .returned v ∧ TbAt w' M v ⟨nm, cs, nx, rs⟩ ∧ tabB nm cs nx rs = true ∧ rs.length ≤ N ∧ Tp w' T ∧ w.grownBy w' (some T)
theorem mut_tp {M : Nat → Prop} {L : List Hp} {T i : Nat} (hi : L[i]? = some (.tp T)) : ∀ b, Mut (Mut M L) [.tp T] b → Mut M L b := fun b hb => by
  rcases hb with hb | ⟨k, hk, hf⟩
  · exact hb
  · simp only [List.mem_singleton] at hk
    subst hk
    exact .inr ⟨_, List.mem_of_getElem? hi, hf⟩
theorem findFrom_none {α : Type} {p : α → Bool} : ∀ (l : List α) (k : Nat), (∀ (i : Nat) (x : α), l[i]? = some x → p x = false) → findFrom p k l = -1
  | [], _, _ => rfl
  | x :: l, k, h => by
    rw [findFrom, if_neg (by rw [h 0 x rfl]; simp)]
    exact findFrom_none l (k + 1) fun i y hy => h (i + 1) y (by simpa using hy)
/-- what the first loop knows of the key -/
def KeyUp (cs : List Col) (k : Nat) (q : Int) : Prop := (q = -1 ∧ ∀ i x, i < k → cs[i]? = some x → x.key = false) ∨ (0 ≤ q ∧ q = findB Col.key cs)
theorem keyUp_end {cs : List Col} {q : Int} (h : KeyUp cs cs.length q) : q = findB Col.key cs := by
  rcases h with ⟨rfl, h⟩ | ⟨_, h⟩
  · exact (findFrom_none cs 0 fun i x hx => h i x (List.getElem?_eq_some_iff.1 hx).1 hx).symm
  · exact h
theorem keyUp_no {cs : List Col} {k : Nat} {q : Int} {x : Col} (h : KeyUp cs k q) (hx : cs[k]? = some x) (hk : x.key = false) : KeyUp cs (k + 1) q := by
  rcases h with ⟨rfl, h⟩ | h
  · refine .inl ⟨rfl, fun i y hi hy => ?_⟩
    rcases Nat.lt_or_ge i k with h' | h'
    · exact h i y h' hy
    · obtain rfl : i = k := by omega
      rw [hx] at hy
      injection hy with hy
      rw [← hy]; exact hk
  · exact .inr h
theorem keyUp_yes {cs : List Col} {k : Nat} {x : Col} (ho : KeyOne cs) (hx : cs[k]? = some x) (hk : x.key = true) : KeyUp cs (k + 1) (k : Int) := .inr ⟨by omega, (ho k x hx hk).symm⟩
/-- what is known of the rows -/
structure RowsOk (cs : List Col) (nx : Int) (rs : List Rw) : Prop where
  ok : okR cs nx 0 (rs.map Rw.row) = true
  dup : dupB cs (rs.map Rw.row) = false
  rok : ∀ r ∈ rs, r.ok
/-- is the new row's key new so far? -/
def Fresh (q : Int) (rs : List Rw) (vr : List Vl) (fr : Bool) : Prop := fr = true → q < 0 ∨ ∀ x ∈ rs, x.vs[q.toNat]? ≠ vr[q.toNat]?
theorem fresh_neg {q : Int} {rs : List Rw} {vr : List Vl} {fr : Bool} (h : q < 0) : Fresh q rs vr fr := fun _ => .inl h
theorem fresh_false {q : Int} {rs : List Rw} {vr : List Vl} : Fresh q rs vr false := fun h => nomatch h
theorem fresh_step {q : Nat} {rs : List Rw} {vr : List Vl} {j : Nat} {x : Rw} {vx vy : Vl} {fr : Bool} (hx : rs[j]? = some x) (h1 : x.vs[q]? = some vx) (h2 : vr[q]? = some vy) (h : Fresh q (rs.take j) vr true) (hf : fr = decide (vx ≠ vy)) : Fresh q (rs.take (j + 1)) vr fr := by
  intro hfr
  rw [hfr] at hf
  have hne : vx ≠ vy := of_decide_eq_true hf.symm
  refine .inr fun y hy => ?_
  rw [List.take_add_one, hx] at hy
  rcases List.mem_append.1 hy with hy | hy
  · exact (h rfl).resolve_left (by omega) y hy
  · simp at hy
    subst hy
    simp only [Int.toNat_natCast]
    rw [h1, h2]
    intro e
    injection e with e
    exact hne e
theorem rows_new {cs : List Col} {nx nx' : Int} {rs : List Rw} {x : Rw} (h : RowsOk cs nx rs) (hid : x.id = nx) (h1 : 0 < nx) (h2 : nx < nx') (hf : fitsT cs x.vs = 0) (hok : x.ok) (hfr : findB Col.key cs < 0 ∨ ∀ y ∈ rs, y.vs[(findB Col.key cs).toNat]? ≠ x.vs[(findB Col.key cs).toNat]?) : RowsOk cs nx' (rs ++ [x]) := by
  refine ⟨?_, ?_, fun y hy => ?_⟩
  · rw [List.map_append]
    show okR cs nx' 0 (rs.map Rw.row ++ [(x.id, x.vs)]) = true
    rw [hid]
    exact okR_snoc hf h2 h1 h.ok
  · rw [List.map_append]
    refine dupB_snoc (id := x.id) (vs := x.vs) h.dup (hfr.imp (fun h => h) fun h y hy => ?_)
    obtain ⟨z, hz, rfl⟩ := List.mem_map.1 hy
    exact .inr (h z hz)
  · rcases List.mem_append.1 hy with hy | hy
    · exact h.rok y hy
    · simp at hy; subst hy; exact hok
theorem rows_up {cs : List Col} {nx nx' : Int} {rs : List Rw} (h : RowsOk cs nx rs) (h2 : nx ≤ nx') : RowsOk cs nx' rs := ⟨okR_mono h2 h.ok, h.dup, h.rok⟩
set_option maxHeartbeats 4000000 in
set_option maxRecDepth 100000 in
theorem tof_any (M : Nat → Prop) (T : Nat) (w : World) (hM : ∀ b, M b → b < w.heap.size) (ht : Tp w T) (hMT : ∀ b, M b → T ≤ b) (nm : ByteArray) (A : Option Addr) (n c : Nat) (cs : List Col) (N : Nat) (hD : Ro w (Mut M [.tp T]) (ColsIn A n cs)) (hW : Ro w (Mut M [.tp T]) Wds) (hT : 2 < T)
    (hn : n ≤ 1000) (hnc : n ≤ c) (hc : c ≤ 9223372036854775807) (hok : ∀ x ∈ cs, ColOk x) (hsch : schemaB nm cs = true) (hkey : KeyOne cs) (hN : N ≤ 50) : Calls Tryz.prog 30 #[.pointer (some ⟨T, 0, none⟩), .agg #[.string nm, .slice A n c], .int .i64 N] w fun e w' => DrawnTab w T M nm cs N e w' := by
  have HL := hid (cols_n hD.now)
  have HOKC := hid hok
  have HKEY := hid hkey
  have HSCH := hid hsch
  clear hok hkey hsch
  have K0 := ((((Hold.startT M w T hM ht hMT).add hD).add (hW.less (mut_none rfl))).alloc_cst #[.string nm, .slice A n c] 49).alloc #[.string ⟨#[]⟩, .slice none 0 0, .int .i64 0, .slice none 0 0] 58
  rw [World.size_alloc] at K0
  clear hD hW
  go_enter Tryz.func30, Tryz.ntmps30
  go_wp2_with fail
  obtain ⟨gs, hgs⟩ : ∃ gs, gs = w.heap.size := ⟨_, rfl⟩
  obtain ⟨g6, hg6⟩ : ∃ g6, g6 = gs + 1 := ⟨_, rfl⟩
  rw [← hgs, ← hg6] at K0 ⊢
  generalize (w.alloc _).alloc _ = w1 at K0 ⊢
  have HGS := hid hgs
  have HG6 := hid hg6
  clear hgs hg6
  obtain ⟨H, hH⟩ : ∃ H, H = w1.drew.heap.size := ⟨_, rfl⟩
  have HH := hid hH
  clear hH
  refine wp_region_any (by kernel_rfl) ?_
  refine wpAny_hold 6 90 ([.blk g6 58 #[.string ⟨#[]⟩, .slice none 0 0, .int .i64 0, .slice none 0 0], .cst gs 49 #[.string nm, .slice A n c], .ro Wds, .ro (ColsIn A n cs), .tp T]) (spL [(18, fun u _ => NatB 3 u), (7, NewSlot (Mut M ([.blk g6 58 #[.string ⟨#[]⟩, .slice none 0 0, .int .i64 0, .slice none 0 0], .cst gs 49 #[.string nm, .slice A n c], .ro Wds, .ro (ColsIn A n cs), .tp T])) H 58 #[.string ⟨#[]⟩, .slice none 0 0, .int .i64 0, .slice none 0 0])]) (by kernel_rfl) (by kernel_rfl) (by kernel_rfl) rfl ?_ (K0.drew) ?_
  · exact stays_cons (fun _ _ _ _ h => h) (stays_cons newSlot_mono (stays_nil _))
  simp only [List.take_succ_cons, List.take_zero, List.drop_succ_cons, List.drop_zero, Act.put, List.getElem_toArray, List.getElem_cons_zero, List.getElem_cons_succ, List.setIfInBounds_toArray, List.set_cons_succ, List.set_cons_zero]
  refine dw_val rfl rfl rfl ?_; apply Exists.intro; refine ⟨fun wv HC => ?_, ?_⟩
  · have FC := HC.facts; simp only [factsL, cellsF, Nat.reduceAdd, List.toList_toArray, and_true, true_and] at FC; go_simp <;> rfl
  simp only [Act.put, List.setIfInBounds_toArray, List.set_cons_succ, List.set_cons_zero]
  refine dw_val rfl rfl rfl ?_; apply Exists.intro; refine ⟨fun wv HC => ?_, ?_⟩
  ·  go_simp <;> rfl
  simp only [Act.put, List.setIfInBounds_toArray, List.set_cons_succ, List.set_cons_zero]
  refine dw_next 3 4 rfl 18 rfl rfl rfl rfl (fun wv => ?_) ?_
  · go_simp <;> rfl
  rintro r hr
  simp only [Act.put, List.setIfInBounds_toArray, List.set_cons_succ, List.set_cons_zero]
  have s1 : IntKind.i64.wrap (1 + (r : Int)) = 1 + (r : Int) := by rw [IntKind.wrap_i64]; omega
  refine dw_val rfl rfl rfl ?_; apply Exists.intro; refine ⟨fun wv HC => ?_, ?_⟩
  ·  go_simp <;> rfl
  simp only [Act.put, List.setIfInBounds_toArray, List.set_cons_succ, List.set_cons_zero]
  refine dw_val rfl rfl rfl ?_; apply Exists.intro; refine ⟨fun wv HC => ?_, ?_⟩
  ·  go_simp <;> rfl
  simp only [Act.put, List.setIfInBounds_toArray, List.set_cons_succ, List.set_cons_zero]
  refine dw_new #[.string ⟨#[]⟩, .slice none 0 0, .int .i64 0, .slice none 0 0] 58 7 (NewSlot (Mut M ([.blk g6 58 #[.string ⟨#[]⟩, .slice none 0 0, .int .i64 0, .slice none 0 0], .cst gs 49 #[.string nm, .slice A n c], .ro Wds, .ro (ColsIn A n cs), .tp T])) H 58 #[.string ⟨#[]⟩, .slice none 0 0, .int .i64 0, .slice none 0 0]) (fun g => .pointer (some ⟨g, 0, none⟩)) rfl rfl rfl rfl (fun wv => ?_) (fun wv HC hrm hD hro => ?_) ?_
  · go_simp <;> rfl
  · exact ⟨_, rfl, by have := hrm.1; rw [HH.out]; exact this, hro _ HC.mutLt⟩
  rintro g7 wg HCg hsl
  simp only [Act.put, List.setIfInBounds_toArray, List.set_cons_succ, List.set_cons_zero]
  clear hsl HCg s1
  refine rel_nil ?_
  rintro wx1 HX
  rintro _hrm HGW
  have hns : NewSlot (Mut M ([.blk g6 58 #[.string ⟨#[]⟩, .slice none 0 0, .int .i64 0, .slice none 0 0], .cst gs 49 #[.string nm, .slice A n c], .ro Wds, .ro (ColsIn A n cs), .tp T])) H 58 #[.string ⟨#[]⟩, .slice none 0 0, .int .i64 0, .slice none 0 0] (.pointer (some ⟨g7, 0, none⟩)) wx1 := (GW_on (d := 7) rfl).1 (HGW 5 _ rfl (by omega))
  clear HGW
  obtain ⟨gq, hgq, hgH, hgB⟩ := hns
  obtain rfl : g7 = gq := by injection hgq with hgq; injection hgq with hgq; injection hgq
  clear hgq
  rw [HH.out] at hgH
  have HB := Hold.addFreshBlk K0.drew HX _hrm hgH hgB.now
  clear hgB hgH HX _hrm K0 HH
  have FB := HB.facts
  simp only [factsL, cellsF, Nat.reduceAdd, List.toList_toArray, and_true, true_and] at FB
  have K1 := (((HB.store 0 rfl 0 (.string nm)).store 0 rfl 1 (.slice A n c)).store 0 rfl 2 (.int .i64 (1 + (r : Int)))).store 0 rfl 3 (.slice none 0 0)
  have F1 := K1.facts
  simp only [World.size_alloc, World.size_drew, factsL, cellsF, Nat.reduceAdd, List.toList_toArray, List.set_cons_zero, List.set_cons_succ, List.setIfInBounds_toArray, and_true, true_and] at F1
  simp only [List.set_cons_zero, List.set_cons_succ, List.setIfInBounds_toArray] at K1
  clear HB
  go_wp2_with fail
  generalize (((wx1.setCell _ _).setCell _ _).setCell _ _).setCell _ _ = w2 at K1 ⊢
  clear F1 FB
  go_loopw [8, 24] (fun qv iv wr => ∃ (k : Nat) (q : Int), k ≤ n ∧ iv = .int .i64 k ∧ qv = .int .i64 q ∧ Hid (KeyUp cs k q) ∧ Hold M (some T) w wr ([.blk g7 58 #[.string nm, .slice A n c, .int .i64 (1 + (r : Int)), .slice none 0 0], .blk g6 58 #[.string ⟨#[]⟩, .slice none 0 0, .int .i64 0, .slice none 0 0], .cst gs 49 #[.string nm, .slice A n c], .ro Wds, .ro (ColsIn A n cs), .tp T])) (fun _ iv _ => n - (intOf iv).toNat)
  case atStart => exact ⟨0, -1, by omega, rfl, rfl, hid (.inl ⟨rfl, fun i x hi => absurd hi (by omega)⟩), K1⟩
  case round =>
    clear K1
    obtain ⟨k, q, hk, rfl, rfl, HQ, H⟩ := hrel
    by_cases hlt : k < n
    · have hd : decide ((k : Int) < (n : Int)) = true := by simp; omega
      have k0 : (0 : Int) ≤ (k : Int) := by omega
      have k1 : (k : Int) < (n : Int) := by omega
      obtain ⟨⟨xn, xt, xnn, xk⟩, hx⟩ := get_col HL.out hlt
      obtain ⟨g, o, rfl, hgb, c0, c1, c2, c3⟩ := (RdC.of_sl (H.ro 4 rfl).now).at_ hx
      dsimp only at c0 c1 c2 c3
      have HX := hid hx
      clear hx
      have K2 := H.alloc_cst #[.string xn, .int .i64 xt, .bool xnn, .bool xk] 147
      clear H
      have F2 := K2.facts
      simp only [World.size_alloc, World.size_drew, factsL, cellsF, Nat.reduceAdd, List.toList_toArray, List.set_cons_zero, List.set_cons_succ, List.setIfInBounds_toArray, and_true, true_and] at F2
      cases xk
      · have HN := hid (keyUp_no HQ.out HX.out rfl)
        go_wp2_with fail
        have K3 := K2.drop (List.sublist_cons_self _ _)
        go_roundw
        case rel => exact ⟨k + 1, q, by omega, by go_num, by first | rfl | trivial, HN, K3⟩
        case measure => simp [intOf]; omega
      · have HN := hid (keyUp_yes HKEY.out HX.out rfl)
        go_wp2_with fail
        have K3 := K2.drop (List.sublist_cons_self _ _)
        go_roundw
        case rel => exact ⟨k + 1, k, by omega, by go_num, by first | rfl | trivial, HN, K3⟩
        case measure => simp [intOf]; omega
    · obtain rfl : k = n := by omega
      have hd : decide ((k : Int) < (k : Int)) = false := by simp
      clear hlt
      have HKQ := hid (show q = findB Col.key cs from keyUp_end (by have h := HQ.out; rwa [← HL.out] at h))
      clear HQ
      go_wp2_with fail
      refine (next_any T ((N : Int) + 1) _ (H.tp_ 5 rfl) (by omega) (by omega)).mono ?_
      rintro e w3 ⟨i0, rfl, i00, i01, t3, g3⟩
      obtain ⟨i0, rfl⟩ := Int.eq_ofNat_of_zero_le i00
      have K2 := (((Hold.callT H 5 rfl g3 t3).add (ro_vals_nil _ _)).nil 119 2)
      clear H g3 t3
      have hi0 : i0 ≤ N := by omega
      clear i00 i01
      go_wp2_with fail
      clear hd
      go_loopw [11] (fun iv wr => ∃ (i k2 cap : Nat) (nx : Int) (O : Option Addr) (rs : List Rw), iv = .int .i64 i ∧ i + k2 ≤ N ∧ 1 ≤ nx ∧ nx ≤ 3 + 2 * ((N : Int) - i) ∧ Hid (RowsOk cs nx rs) ∧ Hold M (some T) w wr ([.own 119 2 (.slice O k2 cap) k2 (rwCells rs), .ro (ValsIn rs), .blk g7 58 #[.string nm, .slice A k c, .int .i64 nx, .slice O k2 cap], .blk g6 58 #[.string ⟨#[]⟩, .slice none 0 0, .int .i64 0, .slice none 0 0], .cst gs 49 #[.string nm, .slice A k c], .ro Wds, .ro (ColsIn A k cs), .tp T])) (fun iv _ => (intOf iv).toNat)
      case atStart => exact ⟨i0, 0, 0, 1 + (r : Int), none, [], rfl, by omega, by omega, by omega, hid ⟨rfl, by rcases Int.lt_or_le (findB Col.key cs) 0 with h | h <;> rfl, fun r hr => nomatch hr⟩, K2⟩
      case round =>
        clear K2 hi0
        obtain ⟨i, k2, cap, nx, O, rs, rfl, hik, hnx, hnx2, HR, H⟩ := hrel
        by_cases hlt : 0 < i
        · obtain ⟨i, rfl⟩ : ∃ i', i = i' + 1 := ⟨i - 1, by omega⟩
          have hd : decide (((i + 1 : Nat) : Int) > 0) = true := by rw [decide_eq_true_iff]; omega
          clear hlt
          have F2 := H.facts
          simp only [World.size_alloc, World.size_drew, factsL, cellsF, Nat.reduceAdd, List.toList_toArray, List.set_cons_zero, List.set_cons_succ, List.setIfInBounds_toArray, and_true, true_and] at F2
          go_wp2_with fail
          refine (trow_any (Mut M _) T _ H.mutLt (H.tp_ 7 rfl) (H.get 7 rfl).2 nm A k c cs ((H.ro 6 rfl).less (mut_tp (i := 7) rfl)) ((H.ro 5 rfl).less (mut_tp (i := 7) rfl)) hT hn HOKC.out).mono ?_
          rintro e w4 ⟨Ar, nr, cr, vr, rfl, hnr, hvr, hfr, ho, t4, g4⟩
          have K3a := Hold.addOwn H (Hold.callT H 7 rfl g4 t4) (RM.grown g4 (.inr ⟨_, List.mem_of_getElem? (i := 7) rfl, rfl⟩)) ho
          obtain ⟨hcr1, hcr2, _⟩ := own_caps (K3a.get 0 rfl)
          have K3 := K3a.sealRow 0 rfl
          simp only [List.set_cons_zero] at K3
          have HNR := hid hnr
          have HFR := hid hfr
          have HVR := hid hvr
          clear K3a H ho t4 g4 hnr hfr hvr F2
          have F3 := K3.facts
          simp only [World.size_alloc, World.size_drew, factsL, cellsF, Nat.reduceAdd, List.toList_toArray, List.set_cons_zero, List.set_cons_succ, List.setIfInBounds_toArray, and_true, true_and] at F3
          go_wp2_with fail
          clear F3
          go_loopw [13, 47] (fun fv jv wr => ∃ (j : Nat) (fr : Bool), j ≤ k2 ∧ jv = .int .i64 j ∧ fv = .bool fr ∧ Hid (Fresh q (rs.take j) vr fr) ∧ Hold M (some T) w wr ([.ro (VlsIn Ar nr vr), .own 119 2 (.slice O k2 cap) k2 (rwCells rs), .ro (ValsIn rs), .blk g7 58 #[.string nm, .slice A k c, .int .i64 nx, .slice O k2 cap], .blk g6 58 #[.string ⟨#[]⟩, .slice none 0 0, .int .i64 0, .slice none 0 0], .cst gs 49 #[.string nm, .slice A k c], .ro Wds, .ro (ColsIn A k cs), .tp T])) (fun _ jv _ => k2 - (intOf jv).toNat)
          case atStart => exact ⟨0, true, by omega, rfl, rfl, hid (fun _ => .inr fun x hx => (by simp at hx)), K3⟩
          case round =>
            clear K3 hd
            obtain ⟨j, fr, hj, rfl, rfl, HFS, H⟩ := hrel
            have hRW : RwsIn O k2 rs wr := ⟨Rd.of_own (H.get 1 rfl), (H.ro 2 rfl).now⟩
            have HLR := hid hRW.len
            by_cases hlt : j < k2
            · have hd : decide ((j : Int) < (k2 : Int)) = true := by simp; omega
              have j0 : (0 : Int) ≤ (j : Int) := by omega
              have j1 : (j : Int) < (k2 : Int) := by omega
              obtain ⟨x, hx⟩ := get_of HLR.out hlt
              obtain ⟨b, o, rfl, hb, c0, c1, hxv⟩ := hRW.at_ hx
              have HX := hid hx
              have HXV := hid (show x.vs.length = x.n from hxv.len)
              have HXF := hid (show fitsT cs x.vs = 0 from okR_fits HR.out.ok _ (List.mem_map_of_mem (f := Rw.row) (List.mem_of_getElem? hx)))
              have hxr : Ro wr _ (VlsIn x.A x.n x.vs) := (H.ro 2 rfl).imp fun w2 h2 => h2 x (List.mem_of_getElem? hx)
              clear hx hxv hRW
              have K4 := (H.add hxr).alloc_cst #[.int .i64 x.id, .slice x.A x.n x.c] 119
              obtain ⟨gx, hgx⟩ : ∃ gx, gx = wr.heap.size := ⟨_, rfl⟩
              rw [← hgx] at K4
              clear H hxr
              obtain ⟨xid, xA, xn, xc, xvs⟩ := x
              dsimp only at *
              go_wp2_with fail
              rw [← hgx]
              have HGX := hid hgx
              clear hgx c0 c1
              generalize wr.alloc _ = w5 at K4 ⊢
              obtain ⟨KL, hKL, K5⟩ := K4.name
              clear K4
              cases fr
              · have HKL := hid hKL
                clear hKL
                refine wp_region_any (by kernel_rfl) ?_
                refine wpAny_hold 18 90 (KL) (spL []) (by kernel_rfl) (by kernel_rfl) (by kernel_rfl) rfl ?_ (K5.drew) ?_
                · exact stays_nil _
                simp only [List.take_succ_cons, List.take_zero, List.drop_succ_cons, List.drop_zero, Act.put, List.getElem_toArray, List.getElem_cons_zero, List.getElem_cons_succ, List.setIfInBounds_toArray, List.set_cons_succ, List.set_cons_zero]
                refine dw_val rfl rfl rfl ?_; apply Exists.intro; refine ⟨fun wv HC => ?_, ?_⟩
                ·  go_simp <;> rfl
                simp only [Act.put, List.setIfInBounds_toArray, List.set_cons_succ, List.set_cons_zero]
                refine dw_val rfl rfl rfl ?_; apply Exists.intro; refine ⟨fun wv HC => ?_, ?_⟩
                ·  go_simp <;> rfl
                simp only [Act.put, List.setIfInBounds_toArray, List.set_cons_succ, List.set_cons_zero]
                refine dw_skip rfl rfl rfl ?_
                simp only [Act.put, List.setIfInBounds_toArray, List.set_cons_succ, List.set_cons_zero]
                refine dw_skip rfl rfl rfl ?_
                simp only [Act.put, List.setIfInBounds_toArray, List.set_cons_succ, List.set_cons_zero]
                refine dw_skip rfl rfl rfl ?_
                simp only [Act.put, List.setIfInBounds_toArray, List.set_cons_succ, List.set_cons_zero]
                refine dw_skip rfl rfl rfl ?_
                simp only [Act.put, List.setIfInBounds_toArray, List.set_cons_succ, List.set_cons_zero]
                refine dw_skip rfl rfl rfl ?_
                simp only [Act.put, List.setIfInBounds_toArray, List.set_cons_succ, List.set_cons_zero]
                refine dw_skip rfl rfl rfl ?_
                simp only [Act.put, List.setIfInBounds_toArray, List.set_cons_succ, List.set_cons_zero]
                refine dw_skip rfl rfl rfl ?_
                simp only [Act.put, List.setIfInBounds_toArray, List.set_cons_succ, List.set_cons_zero]
                refine dw_skip rfl rfl rfl ?_
                simp only [Act.put, List.setIfInBounds_toArray, List.set_cons_succ, List.set_cons_zero]
                refine dw_skip rfl rfl rfl ?_
                simp only [Act.put, List.setIfInBounds_toArray, List.set_cons_succ, List.set_cons_zero]
                refine dw_skip rfl rfl rfl ?_
                simp only [Act.put, List.setIfInBounds_toArray, List.set_cons_succ, List.set_cons_zero]
                refine dw_skip rfl rfl rfl ?_
                simp only [Act.put, List.setIfInBounds_toArray, List.set_cons_succ, List.set_cons_zero]
                refine dw_skip rfl rfl rfl ?_
                simp only [Act.put, List.setIfInBounds_toArray, List.set_cons_succ, List.set_cons_zero]
                refine dw_skip rfl rfl rfl ?_
                simp only [Act.put, List.setIfInBounds_toArray, List.set_cons_succ, List.set_cons_zero]
                refine dw_skip rfl rfl rfl ?_
                simp only [Act.put, List.setIfInBounds_toArray, List.set_cons_succ, List.set_cons_zero]
                refine dw_val rfl rfl rfl ?_; apply Exists.intro; refine ⟨fun wv HC => ?_, ?_⟩
                ·  go_simp <;> rfl
                simp only [Act.put, List.setIfInBounds_toArray, List.set_cons_succ, List.set_cons_zero]
                refine dw_val rfl rfl rfl ?_; apply Exists.intro; refine ⟨fun wv HC => ?_, ?_⟩
                ·  go_simp <;> rfl
                simp only [Act.put, List.setIfInBounds_toArray, List.set_cons_succ, List.set_cons_zero]
                refine rel_nil ?_
                rintro wx4 HX4
                rintro _hrm _HG
                rw [HKL.out] at HX4
                clear _hrm _HG
                have HQ := hid ((fresh_false : Fresh q (rs.take (j + 1)) vr false))
                have K6 := HX4.drop (List.Sublist.cons _ (List.sublist_cons_self _ _))
                have F5 := K6.facts
                simp only [World.size_alloc, World.size_drew, factsL, cellsF, Nat.reduceAdd, List.toList_toArray, List.set_cons_zero, List.set_cons_succ, List.setIfInBounds_toArray, and_true, true_and] at F5
                go_wp2_with fail
                go_roundw
                case rel => exact ⟨j + 1, _, by omega, by go_num, by first | rfl | trivial | simp, HQ, K6⟩
                case measure => simp [intOf]; omega
              · by_cases hq : q < 0
                · have hq1 : decide (q < 0) = true := by simpa using hq
                  have HKL := hid hKL
                  have HQN := hid hq
                  clear hKL hq
                  refine wp_region_any (by kernel_rfl) ?_
                  refine wpAny_hold 18 90 (KL) (spL []) (by kernel_rfl) (by kernel_rfl) (by kernel_rfl) rfl ?_ (K5.drew) ?_
                  · exact stays_nil _
                  simp only [List.take_succ_cons, List.take_zero, List.drop_succ_cons, List.drop_zero, Act.put, List.getElem_toArray, List.getElem_cons_zero, List.getElem_cons_succ, List.setIfInBounds_toArray, List.set_cons_succ, List.set_cons_zero]
                  refine dw_val rfl rfl rfl ?_; apply Exists.intro; refine ⟨fun wv HC => ?_, ?_⟩
                  ·  go_simp <;> rfl
                  simp only [Act.put, List.setIfInBounds_toArray, List.set_cons_succ, List.set_cons_zero]
                  refine dw_val rfl rfl rfl ?_; apply Exists.intro; refine ⟨fun wv HC => ?_, ?_⟩
                  ·  go_simp <;> rfl
                  simp only [Act.put, List.setIfInBounds_toArray, List.set_cons_succ, List.set_cons_zero]
                  refine dw_val rfl rfl rfl ?_; apply Exists.intro; refine ⟨fun wv HC => ?_, ?_⟩
                  ·  go_simp <;> rfl
                  simp only [Act.put, List.setIfInBounds_toArray, List.set_cons_succ, List.set_cons_zero]
                  refine dw_val rfl rfl rfl ?_; apply Exists.intro; refine ⟨fun wv HC => ?_, ?_⟩
                  ·  go_simp <;> rfl
                  simp only [Act.put, List.setIfInBounds_toArray, List.set_cons_succ, List.set_cons_zero]
                  refine dw_val rfl rfl rfl ?_; apply Exists.intro; refine ⟨fun wv HC => ?_, ?_⟩
                  ·  go_simp <;> rfl
                  simp only [Act.put, List.setIfInBounds_toArray, List.set_cons_succ, List.set_cons_zero]
                  refine dw_skip rfl rfl rfl ?_
                  simp only [Act.put, List.setIfInBounds_toArray, List.set_cons_succ, List.set_cons_zero]
                  refine dw_skip rfl rfl rfl ?_
                  simp only [Act.put, List.setIfInBounds_toArray, List.set_cons_succ, List.set_cons_zero]
                  refine dw_skip rfl rfl rfl ?_
                  simp only [Act.put, List.setIfInBounds_toArray, List.set_cons_succ, List.set_cons_zero]
                  refine dw_skip rfl rfl rfl ?_
                  simp only [Act.put, List.setIfInBounds_toArray, List.set_cons_succ, List.set_cons_zero]
                  refine dw_skip rfl rfl rfl ?_
                  simp only [Act.put, List.setIfInBounds_toArray, List.set_cons_succ, List.set_cons_zero]
                  refine dw_skip rfl rfl rfl ?_
                  simp only [Act.put, List.setIfInBounds_toArray, List.set_cons_succ, List.set_cons_zero]
                  refine dw_skip rfl rfl rfl ?_
                  simp only [Act.put, List.setIfInBounds_toArray, List.set_cons_succ, List.set_cons_zero]
                  refine dw_skip rfl rfl rfl ?_
                  simp only [Act.put, List.setIfInBounds_toArray, List.set_cons_succ, List.set_cons_zero]
                  refine dw_skip rfl rfl rfl ?_
                  simp only [Act.put, List.setIfInBounds_toArray, List.set_cons_succ, List.set_cons_zero]
                  refine dw_skip rfl rfl rfl ?_
                  simp only [Act.put, List.setIfInBounds_toArray, List.set_cons_succ, List.set_cons_zero]
                  refine dw_val rfl rfl rfl ?_; apply Exists.intro; refine ⟨fun wv HC => ?_, ?_⟩
                  ·  go_simp <;> rfl
                  simp only [Act.put, List.setIfInBounds_toArray, List.set_cons_succ, List.set_cons_zero]
                  refine dw_val rfl rfl rfl ?_; apply Exists.intro; refine ⟨fun wv HC => ?_, ?_⟩
                  ·  go_simp <;> rfl
                  simp only [Act.put, List.setIfInBounds_toArray, List.set_cons_succ, List.set_cons_zero]
                  refine dw_val rfl rfl rfl ?_; apply Exists.intro; refine ⟨fun wv HC => ?_, ?_⟩
                  ·  go_simp <;> rfl
                  simp only [Act.put, List.setIfInBounds_toArray, List.set_cons_succ, List.set_cons_zero]
                  refine rel_nil ?_
                  rintro wx4 HX4
                  rintro _hrm _HG
                  rw [HKL.out] at HX4
                  clear _hrm _HG
                  have HQ := hid ((fresh_neg HQN.out : Fresh q (rs.take (j + 1)) vr true))
                  have K6 := HX4.drop (List.Sublist.cons _ (List.sublist_cons_self _ _))
                  have F5 := K6.facts
                  simp only [World.size_alloc, World.size_drew, factsL, cellsF, Nat.reduceAdd, List.toList_toArray, List.set_cons_zero, List.set_cons_succ, List.setIfInBounds_toArray, and_true, true_and] at F5
                  go_wp2_with fail
                  go_roundw
                  case rel => exact ⟨j + 1, _, by omega, by go_num, by first | rfl | trivial | simp, HQ, K6⟩
                  case measure => simp [intOf]; omega
                · obtain ⟨κ, rfl⟩ := Int.eq_ofNat_of_zero_le (show 0 ≤ q by omega)
                  have hq1 : decide ((κ : Int) < 0) = false := by rw [decide_eq_false_iff_not]; omega
                  clear hq
                  have hκ : κ < cs.length := key_lt HKQ.out
                  have q0 : (0 : Int) ≤ (κ : Int) := by omega
                  have q1 : (κ : Int) < (xn : Int) := by have h := fitsT_len HXF.out; have h2 := HXV.out; omega
                  have q2 : (κ : Int) < (nr : Int) := by have h := fitsAll_len HFR.out; have h2 := HNR.out; omega
                  clear hκ
                  obtain ⟨vx, hvx⟩ := get_of HXV.out (show κ < xn by omega)
                  obtain ⟨vy, hvy⟩ := get_of HNR.out.symm (show κ < nr by omega)
                  have K6 := K5
                  rw [hKL] at K6
                  obtain ⟨bx, ox, rfl, rx⟩ := (K6.ro 1 rfl).vlsAt hvx
                  obtain ⟨by_, oy, rfl, ry⟩ := (K6.ro 2 rfl).vlsAt hvy
                  have K7 := (K6.add rx).add (ry.less (mut_none rfl))
                  clear K6 K5 hKL rx ry
                  obtain ⟨KM, hKM, K5⟩ := K7.name
                  clear K7
                  have HF : Hid (∀ wv, Hold M (some T) w wv KM → (wv.cell? ⟨gx, 1, none⟩ = some (.slice (some ⟨bx, ox, none⟩) xn xc) ∧ gx < wv.heap.size) ∧ (bx < wv.heap.size ∧ wv.cell? ⟨bx, ox + κ * 3, none⟩ = some (.int .i64 vx.k) ∧ wv.cell? ⟨bx, ox + κ * 3 + 1, none⟩ = some (.int .i64 vx.i) ∧ wv.cell? ⟨bx, ox + κ * 3 + 2, none⟩ = some (.string vx.s)) ∧ by_ < wv.heap.size ∧ wv.cell? ⟨by_, oy + κ * 3, none⟩ = some (.int .i64 vy.k) ∧ wv.cell? ⟨by_, oy + κ * 3 + 1, none⟩ = some (.int .i64 vy.i) ∧ wv.cell? ⟨by_, oy + κ * 3 + 2, none⟩ = some (.string vy.s)) := hid fun wv HC => by
                    rw [hKM] at HC
                    have y1 := HC.cst_ 2 rfl
                    exact ⟨⟨cell_of_row _ _ 1 _ _ _ y1, Blk.lt y1⟩, (HC.ro 1 rfl).now, (HC.ro 0 rfl).now⟩
                  have HKL := hid hKM
                  have HVX := hid hvx
                  have HVY := hid hvy
                  clear hKM hvx hvy
                  refine wp_region_any (by kernel_rfl) ?_
                  refine wpAny_hold 18 90 (KM) (spL []) (by kernel_rfl) (by kernel_rfl) (by kernel_rfl) rfl ?_ (K5.drew) ?_
                  · exact stays_nil _
                  simp only [List.take_succ_cons, List.take_zero, List.drop_succ_cons, List.drop_zero, Act.put, List.getElem_toArray, List.getElem_cons_zero, List.getElem_cons_succ, List.setIfInBounds_toArray, List.set_cons_succ, List.set_cons_zero]
                  refine dw_val rfl rfl rfl ?_; apply Exists.intro; refine ⟨fun wv HC => ?_, ?_⟩
                  · obtain ⟨⟨f0, f1⟩, ⟨f2, f3, f4, f5⟩, f6, f7, f8, f9⟩ := HF.out _ HC; go_simp <;> rfl
                  simp only [Act.put, List.setIfInBounds_toArray, List.set_cons_succ, List.set_cons_zero]
                  refine dw_val rfl rfl rfl ?_; apply Exists.intro; refine ⟨fun wv HC => ?_, ?_⟩
                  · obtain ⟨⟨f0, f1⟩, ⟨f2, f3, f4, f5⟩, f6, f7, f8, f9⟩ := HF.out _ HC; go_simp <;> rfl
                  simp only [Act.put, List.setIfInBounds_toArray, List.set_cons_succ, List.set_cons_zero]
                  refine dw_val rfl rfl rfl ?_; apply Exists.intro; refine ⟨fun wv HC => ?_, ?_⟩
                  · obtain ⟨⟨f0, f1⟩, ⟨f2, f3, f4, f5⟩, f6, f7, f8, f9⟩ := HF.out _ HC; go_simp <;> rfl
                  simp only [Act.put, List.setIfInBounds_toArray, List.set_cons_succ, List.set_cons_zero]
                  refine dw_val rfl rfl rfl ?_; apply Exists.intro; refine ⟨fun wv HC => ?_, ?_⟩
                  · obtain ⟨⟨f0, f1⟩, ⟨f2, f3, f4, f5⟩, f6, f7, f8, f9⟩ := HF.out _ HC; go_simp <;> rfl
                  simp only [Act.put, List.setIfInBounds_toArray, List.set_cons_succ, List.set_cons_zero]
                  refine dw_val rfl rfl rfl ?_; apply Exists.intro; refine ⟨fun wv HC => ?_, ?_⟩
                  · obtain ⟨⟨f0, f1⟩, ⟨f2, f3, f4, f5⟩, f6, f7, f8, f9⟩ := HF.out _ HC; go_simp <;> rfl
                  simp only [Act.put, List.setIfInBounds_toArray, List.set_cons_succ, List.set_cons_zero]
                  refine dw_val rfl rfl rfl ?_; apply Exists.intro; refine ⟨fun wv HC => ?_, ?_⟩
                  · obtain ⟨⟨f0, f1⟩, ⟨f2, f3, f4, f5⟩, f6, f7, f8, f9⟩ := HF.out _ HC; go_simp <;> rfl
                  simp only [Act.put, List.setIfInBounds_toArray, List.set_cons_succ, List.set_cons_zero]
                  refine dw_val rfl rfl rfl ?_; apply Exists.intro; refine ⟨fun wv HC => ?_, ?_⟩
                  · obtain ⟨⟨f0, f1⟩, ⟨f2, f3, f4, f5⟩, f6, f7, f8, f9⟩ := HF.out _ HC; go_simp <;> rfl
                  simp only [Act.put, List.setIfInBounds_toArray, List.set_cons_succ, List.set_cons_zero]
                  refine dw_val rfl rfl rfl ?_; apply Exists.intro; refine ⟨fun wv HC => ?_, ?_⟩
                  · obtain ⟨⟨f0, f1⟩, ⟨f2, f3, f4, f5⟩, f6, f7, f8, f9⟩ := HF.out _ HC; go_simp <;> rfl
                  simp only [Act.put, List.setIfInBounds_toArray, List.set_cons_succ, List.set_cons_zero]
                  refine dw_val rfl rfl rfl ?_; apply Exists.intro; refine ⟨fun wv HC => ?_, ?_⟩
                  · obtain ⟨⟨f0, f1⟩, ⟨f2, f3, f4, f5⟩, f6, f7, f8, f9⟩ := HF.out _ HC; go_simp <;> rfl
                  simp only [Act.put, List.setIfInBounds_toArray, List.set_cons_succ, List.set_cons_zero]
                  refine dw_val rfl rfl rfl ?_; apply Exists.intro; refine ⟨fun wv HC => ?_, ?_⟩
                  · obtain ⟨⟨f0, f1⟩, ⟨f2, f3, f4, f5⟩, f6, f7, f8, f9⟩ := HF.out _ HC; go_simp <;> rfl
                  simp only [Act.put, List.setIfInBounds_toArray, List.set_cons_succ, List.set_cons_zero]
                  refine dw_val rfl rfl rfl ?_; apply Exists.intro; refine ⟨fun wv HC => ?_, ?_⟩
                  · obtain ⟨⟨f0, f1⟩, ⟨f2, f3, f4, f5⟩, f6, f7, f8, f9⟩ := HF.out _ HC; go_simp <;> rfl
                  simp only [Act.put, List.setIfInBounds_toArray, List.set_cons_succ, List.set_cons_zero]
                  refine dw_val rfl rfl rfl ?_; apply Exists.intro; refine ⟨fun wv HC => ?_, ?_⟩
                  · obtain ⟨⟨f0, f1⟩, ⟨f2, f3, f4, f5⟩, f6, f7, f8, f9⟩ := HF.out _ HC; go_simp <;> rfl
                  simp only [Act.put, List.setIfInBounds_toArray, List.set_cons_succ, List.set_cons_zero]
                  refine dw_val rfl rfl rfl ?_; apply Exists.intro; refine ⟨fun wv HC => ?_, ?_⟩
                  · obtain ⟨⟨f0, f1⟩, ⟨f2, f3, f4, f5⟩, f6, f7, f8, f9⟩ := HF.out _ HC; go_simp <;> rfl
                  simp only [Act.put, List.setIfInBounds_toArray, List.set_cons_succ, List.set_cons_zero]
                  refine dw_val rfl rfl rfl ?_; apply Exists.intro; refine ⟨fun wv HC => ?_, ?_⟩
                  · obtain ⟨⟨f0, f1⟩, ⟨f2, f3, f4, f5⟩, f6, f7, f8, f9⟩ := HF.out _ HC; go_simp <;> rfl
                  simp only [Act.put, List.setIfInBounds_toArray, List.set_cons_succ, List.set_cons_zero]
                  refine dw_val rfl rfl rfl ⟨.bool (decide (vx ≠ vy)), fun wv HC => ?_, ?_⟩
                  · by_cases h0 : vx.k = vy.k
                    · have e0 : (vx.k == vy.k) = true := by simp [h0]
                      by_cases h1 : vx.i = vy.i
                      · have e1 : (vx.i == vy.i) = true := by simp [h1]
                        by_cases h2 : vx.s = vy.s
                        · have e2 : (vx.s.toList == vy.s.toList) = true := by simp [h2]
                          have e3 : decide (vx ≠ vy) = false := by rw [decide_eq_false_iff_not]; exact fun h => h (vl_ext h0 h1 h2)
                          rw [e3]
                          clear h0 h1 h2
                          go_simp <;> rfl
                        · have e2 : (vx.s.toList == vy.s.toList) = false := by rw [beq_eq_false_iff_ne]; exact fun h => h2 (bytesEq h)
                          have e3 : decide (vx ≠ vy) = true := by rw [decide_eq_true_iff]; rintro rfl; exact h2 rfl
                          rw [e3]
                          clear h0 h1 h2
                          go_simp <;> rfl
                      · have e1 : (vx.i == vy.i) = false := by simpa using h1
                        have e3 : decide (vx ≠ vy) = true := by rw [decide_eq_true_iff]; rintro rfl; exact h1 rfl
                        rw [e3]
                        clear h0 h1
                        go_simp <;> rfl
                    · have e0 : (vx.k == vy.k) = false := by simpa using h0
                      have e3 : decide (vx ≠ vy) = true := by rw [decide_eq_true_iff]; rintro rfl; exact h0 rfl
                      rw [e3]
                      clear h0
                      go_simp <;> rfl
                  simp only [Act.put, List.setIfInBounds_toArray, List.set_cons_succ, List.set_cons_zero]
                  refine dw_val rfl rfl rfl ?_; apply Exists.intro; refine ⟨fun wv HC => ?_, ?_⟩
                  ·  go_simp <;> rfl
                  simp only [Act.put, List.setIfInBounds_toArray, List.set_cons_succ, List.set_cons_zero]
                  refine dw_val rfl rfl rfl ?_; apply Exists.intro; refine ⟨fun wv HC => ?_, ?_⟩
                  ·  go_simp <;> rfl
                  simp only [Act.put, List.setIfInBounds_toArray, List.set_cons_succ, List.set_cons_zero]
                  refine dw_val rfl rfl rfl ?_; apply Exists.intro; refine ⟨fun wv HC => ?_, ?_⟩
                  ·  go_simp <;> rfl
                  simp only [Act.put, List.setIfInBounds_toArray, List.set_cons_succ, List.set_cons_zero]
                  refine rel_nil ?_
                  rintro wx4 HX4
                  rintro _hrm _HG
                  rw [HKL.out] at HX4
                  clear _hrm _HG
                  have HQ := hid ((fresh_step HX.out (by simpa using HVX.out) HVY.out HFS.out rfl : Fresh (κ : Int) (rs.take (j + 1)) vr (decide (vx ≠ vy))))
                  have K6 := HX4.drop (List.Sublist.cons _ (List.Sublist.cons _ (List.Sublist.cons _ (List.sublist_cons_self _ _))))
                  have F5 := K6.facts
                  simp only [World.size_alloc, World.size_drew, factsL, cellsF, Nat.reduceAdd, List.toList_toArray, List.set_cons_zero, List.set_cons_succ, List.setIfInBounds_toArray, and_true, true_and] at F5
                  go_wp2_with fail
                  go_roundw
                  case rel => exact ⟨j + 1, _, by omega, by go_num, by first | rfl | trivial | simp, HQ, K6⟩
                  case measure => simp [intOf]; omega
            · obtain rfl : j = k2 := by omega
              have hd : decide ((j : Int) < (j : Int)) = false := by simp
              clear hlt
              have HFE := hid (show Fresh q rs vr fr by have h := HFS.out; rwa [List.take_of_length_le (by rw [HLR.out]; exact Nat.le_refl _)] at h)
              clear hRW HFS
              have F3 := H.facts
              simp only [World.size_alloc, World.size_drew, factsL, cellsF, Nat.reduceAdd, List.toList_toArray, List.set_cons_zero, List.set_cons_succ, List.setIfInBounds_toArray, and_true, true_and] at F3
              cases fr
              · go_wp2_with fail
                clear F3 hd
                have K4 := H.drop (List.sublist_cons_self _ _)
                clear H
                refine wp_region_any (by kernel_rfl) ?_
                refine wpAny_hold 10 90 ([.own 119 2 (.slice O j cap) j (rwCells rs), .ro (ValsIn rs), .blk g7 58 #[.string nm, .slice A k c, .int .i64 nx, .slice O j cap], .blk g6 58 #[.string ⟨#[]⟩, .slice none 0 0, .int .i64 0, .slice none 0 0], .cst gs 49 #[.string nm, .slice A k c], .ro Wds, .ro (ColsIn A k cs), .tp T]) (spL [(82, fun u _ => NatB 2 u), (84, fun u _ => NatB 2 u)]) (by kernel_rfl) (by kernel_rfl) (by kernel_rfl) rfl ?_ (K4.drew) ?_
                · exact stays_cons (fun _ _ _ _ h => h) (stays_cons (fun _ _ _ _ h => h) (stays_nil _))
                simp only [List.take_succ_cons, List.take_zero, List.drop_succ_cons, List.drop_zero, Act.put, List.getElem_toArray, List.getElem_cons_zero, List.getElem_cons_succ, List.setIfInBounds_toArray, List.set_cons_succ, List.set_cons_zero]
                refine dw_val rfl rfl rfl ?_; apply Exists.intro; refine ⟨fun wv HC => ?_, ?_⟩
                ·  go_simp <;> rfl
                simp only [Act.put, List.setIfInBounds_toArray, List.set_cons_succ, List.set_cons_zero]
                refine dw_val rfl rfl rfl ?_; apply Exists.intro; refine ⟨fun wv HC => ?_, ?_⟩
                · have FC := HC.facts; simp only [factsL, cellsF, Nat.reduceAdd, List.toList_toArray, and_true, true_and] at FC; go_simp <;> rfl
                simp only [Act.put, List.setIfInBounds_toArray, List.set_cons_succ, List.set_cons_zero]
                refine dw_val rfl rfl rfl ?_; apply Exists.intro; refine ⟨fun wv HC => ?_, ?_⟩
                ·  go_simp <;> rfl
                simp only [Act.put, List.setIfInBounds_toArray, List.set_cons_succ, List.set_cons_zero]
                refine dw_next 2 7 rfl 82 rfl rfl rfl rfl (fun wv => ?_) ?_
                · go_simp <;> rfl
                rintro a ha
                simp only [Act.put, List.setIfInBounds_toArray, List.set_cons_succ, List.set_cons_zero]
                refine dw_val rfl rfl rfl ?_; apply Exists.intro; refine ⟨fun wv HC => ?_, ?_⟩
                ·  go_simp <;> rfl
                simp only [Act.put, List.setIfInBounds_toArray, List.set_cons_succ, List.set_cons_zero]
                refine dw_next 2 7 rfl 84 rfl rfl rfl rfl (fun wv => ?_) ?_
                · go_simp <;> rfl
                rintro b hb
                simp only [Act.put, List.setIfInBounds_toArray, List.set_cons_succ, List.set_cons_zero]
                obtain ⟨m, hm, hm1⟩ : ∃ m : Nat, (a : Int) * (b : Int) = (m : Int) ∧ m ≤ 1 := ⟨a * b, by simp, by
                  obtain rfl | rfl : a = 0 ∨ a = 1 := by omega
                  · simp
                  · omega⟩
                have s1 : IntKind.i64.wrap ((a : Int) * (b : Int)) = (m : Int) := by rw [hm, IntKind.wrap_i64]; omega
                have s2 : IntKind.i64.wrap (1 + (m : Int)) = 1 + (m : Int) := by rw [IntKind.wrap_i64]; omega
                have s3 : IntKind.i64.wrap (nx + (1 + (m : Int))) = nx + (1 + (m : Int)) := by rw [IntKind.wrap_i64]; omega
                clear hm
                refine dw_val rfl rfl rfl ?_; apply Exists.intro; refine ⟨fun wv HC => ?_, ?_⟩
                ·  go_simp <;> rfl
                simp only [Act.put, List.setIfInBounds_toArray, List.set_cons_succ, List.set_cons_zero]
                refine dw_val rfl rfl rfl ?_; apply Exists.intro; refine ⟨fun wv HC => ?_, ?_⟩
                ·  go_simp <;> rfl
                simp only [Act.put, List.setIfInBounds_toArray, List.set_cons_succ, List.set_cons_zero]
                refine dw_val rfl rfl rfl ?_; apply Exists.intro; refine ⟨fun wv HC => ?_, ?_⟩
                ·  go_simp <;> rfl
                simp only [Act.put, List.setIfInBounds_toArray, List.set_cons_succ, List.set_cons_zero]
                refine dw_val rfl rfl rfl ?_; apply Exists.intro; refine ⟨fun wv HC => ?_, ?_⟩
                ·  go_simp <;> rfl
                simp only [Act.put, List.setIfInBounds_toArray, List.set_cons_succ, List.set_cons_zero]
                refine rel_nil ?_
                rintro wx5 HX5
                rintro _hrm _HG
                clear _hrm _HG s1 s2 s3
                have F6 := HX5.facts
                simp only [World.size_alloc, World.size_drew, factsL, cellsF, Nat.reduceAdd, List.toList_toArray, List.set_cons_zero, List.set_cons_succ, List.setIfInBounds_toArray, and_true, true_and] at F6
                have K9 := HX5.store 2 rfl 2 (.int .i64 (nx + (1 + (m : Int))))
                simp only [List.set_cons_zero, List.set_cons_succ, List.setIfInBounds_toArray] at K9
                have HRN := hid (rows_up HR.out (show nx ≤ nx + (1 + (m : Int)) by omega))
                go_wp2_with fail
                go_roundw
                case rel => exact ⟨i, j, cap, nx + (1 + (m : Int)), _, _, by first | rfl | go_num, by omega, by omega, by omega, HRN, K9⟩
                case measure => simp [intOf] <;> omega
              · have hx2 : (rwCells rs ++ (#[Value.int .i64 nx, .slice Ar nr cr]).toList) = rwCells (rs ++ [⟨nx, Ar, nr, cr, vr⟩]) := rwCells_snoc1 _ _ _ _ _ _
                have HCE := hid hx2
                clear hx2
                go_wp2_with (at_builtin; go_must (refine wpList_appH H 1 rfl Tryz.elRw #[.int .i64 nx, .slice Ar nr cr] rfl (.tmp 71) (.tmp 76) rfl rfl _ rfl rfl rfl (by intro u hu; simp at hu; rcases hu with rfl | rfl <;> rfl) (by omega) (by omega) ?_); intro g9 cap9 w9 hc9 hm9 KB; rw [HCE.out] at KB; simp only [List.set_cons_zero, List.set_cons_succ] at KB; (have FB := KB.facts); simp only [World.size_alloc, World.size_drew, factsL, cellsF, Nat.reduceAdd, List.toList_toArray, List.set_cons_zero, List.set_cons_succ, List.setIfInBounds_toArray, and_true, true_and] at FB)
                clear F3 hd
                have KC := KB.store 3 rfl 3 (.slice (some ⟨g9, 0, none⟩) (j + 1) cap9)
                have KD := (KC.swapRo 2 rfl (vals_snoc (r := ⟨nx, Ar, nr, cr, vr⟩) (KC.ro 2 rfl) (KC.ro 0 rfl))).drop (List.sublist_cons_self _ _)
                simp only [List.set_cons_zero, List.set_cons_succ, List.setIfInBounds_toArray] at KD
                generalize World.setCell _ _ _ = w10 at KD ⊢
                clear KB KC FB H
                refine wp_region_any (by kernel_rfl) ?_
                refine wpAny_hold 10 90 ([.own 119 2 (.slice (some ⟨g9, 0, none⟩) (j + 1) cap9) (j + 1) (rwCells (rs ++ [⟨nx, Ar, nr, cr, vr⟩])), .ro (ValsIn (rs ++ [⟨nx, Ar, nr, cr, vr⟩])), .blk g7 58 #[.string nm, .slice A k c, .int .i64 nx, .slice (some ⟨g9, 0, none⟩) (j + 1) cap9], .blk g6 58 #[.string ⟨#[]⟩, .slice none 0 0, .int .i64 0, .slice none 0 0], .cst gs 49 #[.string nm, .slice A k c], .ro Wds, .ro (ColsIn A k cs), .tp T]) (spL [(82, fun u _ => NatB 2 u), (84, fun u _ => NatB 2 u)]) (by kernel_rfl) (by kernel_rfl) (by kernel_rfl) rfl ?_ (KD.drew) ?_
                · exact stays_cons (fun _ _ _ _ h => h) (stays_cons (fun _ _ _ _ h => h) (stays_nil _))
                simp only [List.take_succ_cons, List.take_zero, List.drop_succ_cons, List.drop_zero, Act.put, List.getElem_toArray, List.getElem_cons_zero, List.getElem_cons_succ, List.setIfInBounds_toArray, List.set_cons_succ, List.set_cons_zero]
                refine dw_val rfl rfl rfl ?_; apply Exists.intro; refine ⟨fun wv HC => ?_, ?_⟩
                ·  go_simp <;> rfl
                simp only [Act.put, List.setIfInBounds_toArray, List.set_cons_succ, List.set_cons_zero]
                refine dw_val rfl rfl rfl ?_; apply Exists.intro; refine ⟨fun wv HC => ?_, ?_⟩
                · have FC := HC.facts; simp only [factsL, cellsF, Nat.reduceAdd, List.toList_toArray, and_true, true_and] at FC; go_simp <;> rfl
                simp only [Act.put, List.setIfInBounds_toArray, List.set_cons_succ, List.set_cons_zero]
                refine dw_val rfl rfl rfl ?_; apply Exists.intro; refine ⟨fun wv HC => ?_, ?_⟩
                ·  go_simp <;> rfl
                simp only [Act.put, List.setIfInBounds_toArray, List.set_cons_succ, List.set_cons_zero]
                refine dw_next 2 7 rfl 82 rfl rfl rfl rfl (fun wv => ?_) ?_
                · go_simp <;> rfl
                rintro a ha
                simp only [Act.put, List.setIfInBounds_toArray, List.set_cons_succ, List.set_cons_zero]
                refine dw_val rfl rfl rfl ?_; apply Exists.intro; refine ⟨fun wv HC => ?_, ?_⟩
                ·  go_simp <;> rfl
                simp only [Act.put, List.setIfInBounds_toArray, List.set_cons_succ, List.set_cons_zero]
                refine dw_next 2 7 rfl 84 rfl rfl rfl rfl (fun wv => ?_) ?_
                · go_simp <;> rfl
                rintro b hb
                simp only [Act.put, List.setIfInBounds_toArray, List.set_cons_succ, List.set_cons_zero]
                obtain ⟨m, hm, hm1⟩ : ∃ m : Nat, (a : Int) * (b : Int) = (m : Int) ∧ m ≤ 1 := ⟨a * b, by simp, by
                  obtain rfl | rfl : a = 0 ∨ a = 1 := by omega
                  · simp
                  · omega⟩
                have s1 : IntKind.i64.wrap ((a : Int) * (b : Int)) = (m : Int) := by rw [hm, IntKind.wrap_i64]; omega
                have s2 : IntKind.i64.wrap (1 + (m : Int)) = 1 + (m : Int) := by rw [IntKind.wrap_i64]; omega
                have s3 : IntKind.i64.wrap (nx + (1 + (m : Int))) = nx + (1 + (m : Int)) := by rw [IntKind.wrap_i64]; omega
                clear hm
                refine dw_val rfl rfl rfl ?_; apply Exists.intro; refine ⟨fun wv HC => ?_, ?_⟩
                ·  go_simp <;> rfl
                simp only [Act.put, List.setIfInBounds_toArray, List.set_cons_succ, List.set_cons_zero]
                refine dw_val rfl rfl rfl ?_; apply Exists.intro; refine ⟨fun wv HC => ?_, ?_⟩
                ·  go_simp <;> rfl
                simp only [Act.put, List.setIfInBounds_toArray, List.set_cons_succ, List.set_cons_zero]
                refine dw_val rfl rfl rfl ?_; apply Exists.intro; refine ⟨fun wv HC => ?_, ?_⟩
                ·  go_simp <;> rfl
                simp only [Act.put, List.setIfInBounds_toArray, List.set_cons_succ, List.set_cons_zero]
                refine dw_val rfl rfl rfl ?_; apply Exists.intro; refine ⟨fun wv HC => ?_, ?_⟩
                ·  go_simp <;> rfl
                simp only [Act.put, List.setIfInBounds_toArray, List.set_cons_succ, List.set_cons_zero]
                refine rel_nil ?_
                rintro wx5 HX5
                rintro _hrm _HG
                clear _hrm _HG s1 s2 s3
                have F6 := HX5.facts
                simp only [World.size_alloc, World.size_drew, factsL, cellsF, Nat.reduceAdd, List.toList_toArray, List.set_cons_zero, List.set_cons_succ, List.setIfInBounds_toArray, and_true, true_and] at F6
                have K9 := HX5.store 2 rfl 2 (.int .i64 (nx + (1 + (m : Int))))
                simp only [List.set_cons_zero, List.set_cons_succ, List.setIfInBounds_toArray] at K9
                have HRN := hid (rows_new (x := ⟨nx, Ar, nr, cr, vr⟩) HR.out rfl (by omega) (show nx < nx + (1 + (m : Int)) by omega) (fitsT_all HFR.out) ⟨by show I64 nx; unfold I64; omega, hcr1, hcr2, HVR.out⟩ (by have h := HFE.out rfl; rwa [HKQ.out] at h))
                go_wp2_with fail
                go_roundw
                case rel => exact ⟨i, (j + 1), cap9, nx + (1 + (m : Int)), _, _, by first | rfl | go_num, by omega, by omega, by omega, HRN, K9⟩
                case measure => simp [intOf] <;> omega
        · obtain rfl : i = 0 := by omega
          have hd : decide (((0 : Nat) : Int) > 0) = false := by decide
          have F := H.facts
          simp only [World.size_alloc, World.size_drew, factsL, cellsF, Nat.reduceAdd, List.toList_toArray, List.set_cons_zero, List.set_cons_succ, List.setIfInBounds_toArray, and_true, true_and] at F
          obtain ⟨hcq1, hcq2, _⟩ := own_caps (H.get 0 rfl)
          have KS := H.sealRow 0 rfl
          simp only [List.set_cons_zero] at KS
          have KN := (((KS.store 3 rfl 0 (.string nm)).store 3 rfl 1 (.slice A k c)).store 3 rfl 2 (.int .i64 nx)).store 3 rfl 3 (.slice O k2 cap)
          clear KS
          go_wp2_with fail
          exact bodyPost_ret (v := .agg #[.string nm, .slice A k c, .int .i64 nx, .slice O k2 cap]) (by simp [results, Tryz.results30, go_sem, F]) rfl ⟨_, nx, rs.map Rw.row, rfl, ⟨A, k, c, O, k2, cap, rs, rfl, hnc, hc, hcq1, hcq2, KN.roOut 6 rfl, (KN.roOut 0 rfl).and (KN.roOut 1 rfl), HR.out.rok, rfl⟩, tab_ok HSCH.out (by have h := Rd.of_own (H.get 0 rfl); have h2 := h.1; rw [rwCells_len] at h2; simp; omega) (by omega) (by omega) HR.out.ok HR.out.dup, by have h := Rd.of_own (H.get 0 rfl); have h2 := h.1; rw [rwCells_len] at h2; simp; omega, KN.tp_ 7 rfl, KN.grow⟩
end Go.Proofs.YtedogodccblfeaaGreatDoor

namespace Go.Proofs.YtedogodccblfeaaGreatDoor
open Go.RowKit
set_option linter.unusedVariables false
set_option linter.unusedSimpArgs false
section
variable {P : Program} {ops : Array Oper} {C : World → Prop} {G : Option Tmp → Value → World → Prop} {R : World → World → Prop} {F : Act → Prop} {o : Oper} {rest : List Oper} {a : Act} {k : Nat} {S0 : Array Bool}
/-- an operation that hands back some value of its class -/
theorem rel_step (hS : S0.getD k false = false) (hw : Region.wanted o (yielded ops a.tmps) = true) (d : Tmp) (hd : o.dst = some d) (hg : ∀ w, C w → Deps ops G o a w → ∃ u w', (execOp a.eval o).run P w = .ok (.value u) w' ∧ G (some d) u w' ∧ C w' ∧ R w w')
    (hn : ∀ u w, C w → G (some d) u w → wpRel P ops C G R S0 F (k + 1) rest (a.put (some d) u)) : wpRel P ops C G R S0 F k (o :: rest) a := by
  unfold wpRel
  rw [hS, if_neg (by simp)]
  refine ⟨by unfold StepOk; simp only [hw, if_true]; intro w hC hD; obtain ⟨u, w', hr, h1, h2, h3⟩ := hg w hC hD; unfold Good; rw [hr, hd]; exact ⟨h1, h2, h3⟩, fun x _ hx => ?_⟩
  obtain ⟨w, hC, h⟩ := hx d hd
  rw [hd]; exact hn x w hC h
end
theorem own_ro {w : World} {M : Nat → Prop} {b0 : Nat} (hM : ∀ b, M b → b < b0) {e : TypeId} {size n c : Nat} {A : Option Addr} {xs : List Value} (h : w.ownsRow b0 e size (.slice A n c) n xs) : Ro w M (SlR size A n xs) :=
  fun w2 h1 h2 => Rd.of_own (own_RM hM ⟨h1, h2⟩ h)
/-- append(nil, xs...): a list of one's own -/
theorem run_cloneNil {P : Program} {t e : TypeId} {size bytes : Nat} {z : Value} (hE : ElemT P t e size bytes z) (ty : TypeId) (w : World) {A : Option Addr} {m c : Nat} {ys : List Value} (hr : SlR size A m ys w) (h1 : ∀ u ∈ ys, u.oneCell' = true) (hq : m < 140737488355328) (hb : m * bytes ≤ 140737488355328) :
    ∃ C' cap' w', (Builtin.append_ #[t, t] ty #[.slice none 0 0, .slice A m c]).run P w = .ok (.slice C' m cap') w' ∧ m ≤ cap' ∧ cap' ≤ 9223372036854775807 ∧ w'.ownsRow w.heap.size e size (.slice C' m cap') m ys ∧ Below w.heap.size w w' := by
  obtain ⟨i0, hi1, hi2, hi3, hi4⟩ := info_parts hE.hi
  have hown := World.ownsRow_nil w w.heap.size e size
  have hz : A = none → m = 0 := fun hA => by
    rcases Nat.eq_zero_or_pos m with h0 | h0
    · exact h0
    · obtain ⟨b, o, h, _⟩ := hr.2 h0
      rw [hA] at h; cases h
  rcases A with _ | ad
  · obtain rfl := hz rfl
    have hn : ys = [] := List.eq_nil_of_length_eq_zero (by simpa using hr.1)
    subst hn
    exact ⟨none, 0, w, run_append_self w _ t _ _ i0 size hE.ht hi1 _ _ _ hown c, by omega, by omega, hown, Below.refl _ _⟩
  · have hcells : ∀ j u, ys[j]? = some u → w.cell? (ad.add j) = some u := by
      intro j u hu
      have hpos : 0 < m := by
        rcases Nat.eq_zero_or_pos m with h0 | h0
        · have hn : ys = [] := List.eq_nil_of_length_eq_zero (by have := hr.1; rw [h0] at this; simpa using this)
          rw [hn] at hu; simp at hu
        · exact h0
      obtain ⟨b, o', hA, _, hc⟩ := hr.2 hpos
      injection hA with hA
      subst hA
      have := hc j u hu
      rwa [Addr.add_lit]
    obtain ⟨v', w', hrun, h2, h3, _, h5⟩ := run_append_own_at (P := P) w w.heap.size t ty e i0 z size bytes hE.ht hi1 hi2 hi3 hi4 hE.hzs hE.hsz _ 0 [] hown ad m c ys hr.1 hcells h1 (by unfold maxLen; omega) (by rw [Nat.zero_add]; exact hb) (Nat.le_refl _)
    rw [Nat.zero_add, List.nil_append] at h2
    obtain ⟨C', cap', rfl⟩ := own_form h2
    have hc := own_caps h2
    exact ⟨C', cap', w', hrun, hc.1, hc.2.1, h2, ⟨h3.os, h3.tape, h3.output, h3.size, fun k hk => h3.block k hk (by simp [Value.ownBlock])⟩⟩
section
variable {P : Program} {M : Nat → Prop} {row : Option Nat} {w0 w1 : World} {L : List Hp} {sp : SpW} {F : Act → Prop} {S0 : Array Bool}
variable {ops : Array Oper} {o : Oper} {rest : List Oper} {a : Act} {k : Nat}
theorem dw_clone {t e : TypeId} {size bytes : Nat} {z : Value} (hE : ElemT P t e size bytes z) (d : Tmp) (V : Value → World → Prop) (hS : S0.getD k false = false) (hw : Region.wanted o (yielded ops a.tmps) = true) (hd : o.dst = some d) (hsp : sp d = some V)
    (s x : Operand) (ho : o.op = .call { callee := .builtin .append, args := #[s, x], argTypes := #[t, t] }) (hs : a.eval s = .slice none 0 0) {A : Option Addr} {m c : Nat} {ys : List Value} (hx : a.eval x = .slice A m c) (h1 : ∀ u ∈ ys, u.oneCell' = true) (hq : m < 140737488355328) (hb : m * bytes ≤ 140737488355328)
    (hr : ∀ w, Hold M row w0 w L → Deps ops (GW sp) o a w → SlR size A m ys w) (hV : ∀ C' cap' w', Hold M row w0 w' L → m ≤ cap' → cap' ≤ 9223372036854775807 → Ro w' (Mut M L) (SlR size C' m ys) → V (.slice C' m cap') w')
    (hn : ∀ u w, Hold M row w0 w L → V u w → wpRel P ops (HC M row w0 w1 L) (GW sp) (RM (Mut M L)) S0 F (k + 1) rest (a.put (some d) u)) : wpRel P ops (HC M row w0 w1 L) (GW sp) (RM (Mut M L)) S0 F k (o :: rest) a := by
  refine rel_step hS hw d hd (fun w hC hD => ?_) fun u w hC hu => hn u w hC.1 ((GW_on hsp).1 hu)
  obtain ⟨C', cap', w', hrun, c1, c2, ho2, hb2⟩ := run_cloneNil hE o.type w (hr w hC.1 hD) (c := c) h1 hq hb
  have hH := hC.1.call hb2
  refine ⟨.slice C' m cap', w', ?_, (GW_on hsp).2 (hV C' cap' w' hH c1 c2 (own_ro hC.1.mutLt ho2)), ⟨hH, hC.2.trans (RM.below hb2)⟩, RM.below hb2⟩
  unfold execOp
  simp only [ho, resolve, invoke, builtin, Sem.run_bind, Sem.run_pure, Result.andThen_ok, List.map_toArray, List.map_cons, List.map_nil, hs, hx, hrun]
end
theorem vlCells_set : ∀ (l : List Vl) (k : Nat) (v : Vl), k < l.length → (((vlCells l).set (k * 3) (.int .i64 v.k)).set (k * 3 + 1) (.int .i64 v.i)).set (k * 3 + 2) (.string v.s) = vlCells (l.set k v)
  | [], k, v, h => by simp at h
  | x :: l, 0, v, h => by simp [vlCells, Vl.cells]
  | x :: l, k + 1, v, h => by
    have ih := vlCells_set l k v (by simpa using h)
    have e : ∀ (ys : List Value) (j : Nat) (u : Value), (x.cells ++ ys).set (j + 3) u = x.cells ++ ys.set j u := fun ys j u => by
      rw [List.set_append_right _ _ (by simp [Vl.cells])]
      simp [Vl.cells]
    have e0 : vlCells (x :: l) = x.cells ++ vlCells l := by simp [vlCells]
    have e1 : vlCells ((x :: l).set (k + 1) v) = x.cells ++ vlCells (l.set k v) := by simp [vlCells]
    rw [e0, e1, show (k + 1) * 3 = k * 3 + 3 by omega, e, show k * 3 + 3 + 1 = (k * 3 + 1) + 3 by omega, e, show k * 3 + 3 + 2 = (k * 3 + 2) + 3 by omega, e, ih]
/-- a value stored into an own row of values -/
theorem Hold.putVl {M : Nat → Prop} {row : Option Nat} {w0 w : World} {L : List Hp} (h : Hold M row w0 w L) (i : Nat) {e : TypeId} {n cap g : Nat} {vs : List Vl} (hi : L[i]? = some (.own e 3 (.slice (some ⟨g, 0, none⟩) n cap) n (vlCells vs))) (k : Nat) (hk : k < vs.length) (v : Vl) :
    Hold M row w0 (((w.setCell ⟨g, k * 3, none⟩ (.int .i64 v.k)).setCell ⟨g, k * 3 + 1, none⟩ (.int .i64 v.i)).setCell ⟨g, k * 3 + 2, none⟩ (.string v.s)) (L.set i (.own e 3 (.slice (some ⟨g, 0, none⟩) n cap) n (vlCells (vs.set k v)))) := by
  have hil := (List.getElem?_eq_some_iff.1 hi).1
  have h1 := h.put_ i hi (k * 3) (.int .i64 v.k)
  have hs : ∀ x : Hp, (L.set i x)[i]? = some x := fun x => by rw [List.getElem?_set, if_pos rfl, if_pos hil]
  have h2 := h1.put_ i (hs _) (k * 3 + 1) (.int .i64 v.i)
  rw [List.set_set] at h2
  have h3 := h2.put_ i (hs _) (k * 3 + 2) (.string v.s)
  rw [List.set_set, vlCells_set vs k v hk] at h3
  exact h3
theorem own_vl {w : World} {base g n cap k : Nat} {e : TypeId} {l : List Vl} {v : Vl} (h : w.ownsRow base e 3 (.slice (some ⟨g, 0, none⟩) n cap) n (vlCells l)) (hv : l[k]? = some v) :
    (w.cell? ⟨g, k * 3, none⟩ = some (.int .i64 v.k) ∧ w.cell? ⟨g, k * 3 + 1, none⟩ = some (.int .i64 v.i) ∧ w.cell? ⟨g, k * 3 + 2, none⟩ = some (.string v.s)) ∧
    (w.frozen? ⟨g, k * 3, none⟩ = false ∧ w.frozen? ⟨g, k * 3 + 1, none⟩ = false ∧ w.frozen? ⟨g, k * 3 + 2, none⟩ = false) ∧ g < w.heap.size := by
  have hk := (List.getElem?_eq_some_iff.1 hv).1
  have hl : l.length = n := by have := h.1; rw [vlCells_len] at this; omega
  have c0 := flat_get Vl.cells 3 (fun _ => rfl) l k 0 v (by omega) hv
  have c1 := flat_get Vl.cells 3 (fun _ => rfl) l k 1 v (by omega) hv
  have c2 := flat_get Vl.cells 3 (fun _ => rfl) l k 2 v (by omega) hv
  exact ⟨⟨(h.cellAt _ (by omega)).trans c0, (h.cellAt _ (by omega)).trans c1, (h.cellAt _ (by omega)).trans c2⟩, ⟨h.frozenAt _, h.frozenAt _, h.frozenAt _⟩, (h.lt g rfl).2⟩
theorem oks_set {l : List Vl} {k : Nat} {v : Vl} (h : ∀ x ∈ l, x.ok) (hv : v.ok) : ∀ x ∈ l.set k v, x.ok := fun x hx => by
  rcases List.mem_or_eq_of_mem_set hx with hx | rfl
  · exact h x hx
  · exact hv
end Go.Proofs.YtedogodccblfeaaGreatDoor

namespace Go.Proofs.YtedogodccblfeaaGreatDoor
open Go.RowKit
set_option linter.unusedVariables false
set_option linter.unusedSimpArgs false
section
variable {P : Program} {M : Nat → Prop} {row : Option Nat} {w0 w1 : World} {L : List Hp} {sp : SpW} {F : Act → Prop} {S0 : Array Bool}
variable {ops : Array Oper} {o : Oper} {rest : List Oper} {a : Act} {k : Nat}
/-- append(nil, xs...): the copy is the call's own -/
theorem dw_cloneO {t e : TypeId} {size bytes : Nat} {z : Value} (hE : ElemT P t e size bytes z) (d : Tmp) (V : Value → World → Prop) (hS : S0.getD k false = false) (hw : Region.wanted o (yielded ops a.tmps) = true) (hd : o.dst = some d) (hsp : sp d = some V)
    (s x : Operand) (ho : o.op = .call { callee := .builtin .append, args := #[s, x], argTypes := #[t, t] }) (hs : a.eval s = .slice none 0 0) {A : Option Addr} {m c : Nat} {ys : List Value} (hx : a.eval x = .slice A m c) (h1 : ∀ u ∈ ys, u.oneCell' = true) (hq : m < 140737488355328) (hb : m * bytes ≤ 140737488355328)
    (hr : ∀ w, Hold M row w0 w L → Deps ops (GW sp) o a w → SlR size A m ys w) (hV : ∀ C' cap' w w', Hold M row w0 w L → RM (Mut M L) w1 w → Hold M row w0 w' L → m ≤ cap' → cap' ≤ 9223372036854775807 → w'.ownsRow w.heap.size e size (.slice C' m cap') m ys → V (.slice C' m cap') w')
    (hn : ∀ u w, Hold M row w0 w L → V u w → wpRel P ops (HC M row w0 w1 L) (GW sp) (RM (Mut M L)) S0 F (k + 1) rest (a.put (some d) u)) : wpRel P ops (HC M row w0 w1 L) (GW sp) (RM (Mut M L)) S0 F k (o :: rest) a := by
  refine rel_step hS hw d hd (fun w hC hD => ?_) fun u w hC hu => hn u w hC.1 ((GW_on hsp).1 hu)
  obtain ⟨C', cap', w', hrun, c1, c2, ho2, hb2⟩ := run_cloneNil hE o.type w (hr w hC.1 hD) (c := c) h1 hq hb
  have hH := hC.1.call hb2
  refine ⟨.slice C' m cap', w', ?_, (GW_on hsp).2 (hV C' cap' w w' hC.1 hC.2 hH c1 c2 ho2), ⟨hH, hC.2.trans (RM.below hb2)⟩, RM.below hb2⟩
  unfold execOp
  simp only [ho, resolve, invoke, builtin, Sem.run_bind, Sem.run_pure, Result.andThen_ok, List.map_toArray, List.map_cons, List.map_nil, hs, hx, hrun]
end
/-- an own row, as a statement that stays -/
theorem Ro.own {w : World} {M : Nat → Prop} {b0 b1 : Nat} (hM : ∀ b, M b → b < b1) (h01 : b0 ≤ b1) {e : TypeId} {size n : Nat} {v : Value} {xs : List Value} (h : w.ownsRow b1 e size v n xs) : Ro w M (fun w => w.ownsRow b0 e size v n xs) :=
  fun w2 h1 h2 => own_base h01 (own_RM hM ⟨h1, h2⟩ h)
/-- the rows' values are own rows, each at the head of its block -/
def OwnVals (VT : TypeId) (b0 : Nat) (l : List Rw) (w : World) : Prop := ∀ r ∈ l, w.ownsRow b0 VT 3 (.slice r.A r.n r.c) r.n (vlCells r.vs)
/-- said of a world in which the caller's blocks lie below b0 -/
theorem OwnVals.ro {VT : TypeId} {b0 : Nat} {l : List Rw} {w : World} {M : Nat → Prop} (hM : ∀ b, M b → b < b0) (h : OwnVals VT b0 l w) : Ro w M (ValsIn l) := fun w2 h1 h2 r hr => Rd.of_own (own_RM hM ⟨h1, h2⟩ (h r hr))
/-- an own list's slot, whatever the element -/
def OwnSl (e : TypeId) (size b0 : Nat) (xs : List Value) (u : Value) (w : World) : Prop := ∃ (A : Option Addr) (n c : Nat), u = .slice A n c ∧ n * size = xs.length ∧ n ≤ c ∧ c ≤ 9223372036854775807 ∧ w.ownsRow b0 e size (.slice A n c) n xs
theorem ownSl_mono {M : Nat → Prop} {e : TypeId} {size b0 : Nat} {xs : List Value} (hM : ∀ b, M b → b < b0) (u : Value) (w w' : World) (hr : RM M w w') (h : OwnSl e size b0 xs u w) : OwnSl e size b0 xs u w' := by
  obtain ⟨A, n, c, h1, h2, h3, h4, h5⟩ := h
  exact ⟨A, n, c, h1, h2, h3, h4, own_RM hM hr h5⟩
theorem OwnVals.far {VT : TypeId} {b0 g : Nat} {l : List Rw} {w : World} {t : TypeId} {cs : Array Value} (h : OwnVals VT b0 l w) (hg : Blk w g t cs) (hne : t ≠ VT) (j : Nat) (u : Value) : OwnVals VT b0 l (w.setCell ⟨g, j, none⟩ u) := fun r hr => by
  have ho := h r hr
  refine ⟨ho.1, ?_⟩
  rcases ho.2 with hz | ⟨g', cap, cur, hv, hb, hh, rest⟩
  · exact .inl hz
  · have hn : g' ≠ g := by
      rintro rfl
      have hg2 : w.heap[g']? = some (.cells cs t (0, 0)) := hg
      rw [hh] at hg2
      injection hg2 with hg2
      injection hg2 with _ hg2
      exact hne hg2.symm
    exact .inr ⟨g', cap, cur, hv, hb, (Below.heap_setCell _ _ _ g' hn).trans hh, rest⟩
end Go.Proofs.YtedogodccblfeaaGreatDoor

namespace Go.Proofs.YtedogodccblfeaaGreatDoor
open Go.RowKit
set_option linter.unusedVariables false
set_option linter.unusedSimpArgs false

/-- Some value, drawn, its numbers Go's. -/
def DrawnO2 (w : World) (T : Nat) (e : Ending) (w' : World) : Prop :=
  ∃ (k i : Int) (s : ByteArray), e = .returned (.agg #[.int .i64 k, .int .i64 i, .string s]) ∧ (s.size ≤ 100 ∧ I64 k ∧ I64 i) ∧ Tp w' T ∧ w.grownBy w' (some T)
/-- The state of Odd's walk: the value's box V, the result's box R. -/
structure OddSt (w : World) (T V R : Nat) (wr : World) (k i : Int) (s : ByteArray) : Prop where
  bv : Blk wr V 117 #[.int .i64 k, .int .i64 i, .string s]
  br : Blk wr R 117 #[.int .i64 0, .int .i64 0, .string ⟨#[]⟩]
  tp : Tp wr T
  gr : w.grownBy wr (some T)
  hi : I64 i
  hs : s.size ≤ 100

theorem OddSt.grown {w : World} {T V R : Nat} {wr w' : World} {k i : Int} {s : ByteArray} (h : OddSt w T V R wr k i s) (hV : T < V) (hR : T < R) (t : Tp w' T) (g : wr.grownBy w' (some T)) : OddSt w T V R w' k i s :=
  ⟨h.bv.grown g (by intro e; injection e with e; omega), h.br.grown g (by intro e; injection e with e; omega), t, only_trans h.gr g, h.hi, h.hs⟩

theorem OddSt.drew {w : World} {T V R : Nat} {wr : World} {k i : Int} {s : ByteArray} (h : OddSt w T V R wr k i s) : OddSt w T V R wr.drew k i s := ⟨h.bv, h.br, h.tp, only_drew h.gr, h.hi, h.hs⟩
theorem DrawnO2.alloc {w w' : World} {T : Nat} {e : Ending} (h : DrawnO2 w T e w') (o : Obj) : DrawnO2 w T e (w'.alloc o) := by
  obtain ⟨k, i, s, h1, h2, h3, h4⟩ := h
  exact ⟨k, i, s, h1, h2, h3.alloc o, only_alloc h4 o⟩
end Go.Proofs.YtedogodccblfeaaGreatDoor

namespace Go.Proofs.YtedogodccblfeaaGreatDoor
open Go.RowKit
set_option linter.unusedVariables false
set_option linter.unusedSimpArgs false

end Go.Proofs.YtedogodccblfeaaGreatDoor

namespace Go.Proofs.YtedogodccblfeaaGreatDoor
open Go.RowKit
set_option linter.unusedVariables false
set_option linter.unusedSimpArgs false

/-- what is known of a schema of the three -/
structure SchOk (nm : ByteArray) (cs : List Col) : Prop where
  val : schemaB nm cs = true
  col : ∀ x ∈ cs, ColOk x
  key : KeyOne cs
  len : 1 ≤ cs.length ∧ cs.length ≤ 4
  nm : nm.size ≤ maxLen
  cs : ∀ x ∈ cs, x.name.size ≤ maxLen
def keyOneB (cs : List Col) : Bool := (List.range cs.length).all fun i => match cs[i]? with | some c => !c.key || findB Col.key cs == (i : Int) | none => true
theorem keyOne_of {cs : List Col} (h : keyOneB cs = true) : KeyOne cs := fun i c hc hk => by
  have h1 := List.all_eq_true.1 h i (List.mem_range.2 (List.getElem?_eq_some_iff.1 hc).1)
  simp only [hc, hk, Bool.not_true, Bool.false_or, beq_iff_eq] at h1
  exact h1
def colOkB (c : Col) : Bool := c.ty == 1 || c.ty == 2 || c.ty == 3
def schOkB (nm : ByteArray) (cs : List Col) : Bool := schemaB nm cs && cs.all colOkB && keyOneB cs && decide (1 ≤ cs.length) && decide (cs.length ≤ 4) && decide (nm.size ≤ 100) && cs.all fun x => decide (x.name.size ≤ 100)
theorem schOk_of {nm : ByteArray} {cs : List Col} (h : schOkB nm cs = true) : SchOk nm cs := by
  unfold schOkB at h
  simp only [Bool.and_eq_true, decide_eq_true_eq] at h
  obtain ⟨⟨⟨⟨⟨⟨h1, h2⟩, h3⟩, h4⟩, h5⟩, h6⟩, h7⟩ := h
  refine ⟨h1, fun x hx => ?_, keyOne_of h3, ⟨h4, h5⟩, by unfold maxLen; omega, fun x hx => ?_⟩
  · have := List.all_eq_true.1 h2 x hx
    simpa [colOkB, ColOk, or_assoc] using this
  · have := List.all_eq_true.1 h7 x hx
    simp only [decide_eq_true_eq] at this
    unfold maxLen; omega
end Go.Proofs.YtedogodccblfeaaGreatDoor

namespace Go.Proofs.YtedogodccblfeaaGreatDoor
open Go.RowKit
set_option linter.unusedVariables false
set_option linter.unusedSimpArgs false

/-- the first reason why one of some rows does not fit -/
def firstE (cs : List Col) : List (List Vl) → Int
  | [] => 0
  | v :: r => if fitsT cs v = 0 then firstE cs r else fitsT cs v
def fitsC (cs : List Col) (news ins : List (List Vl)) : Int := if firstE cs news = 0 then firstE cs ins else firstE cs news
theorem firstE_good {cs : List Col} {l : List (List Vl)} {k : Nat} {v : List Vl} (hx : l[k]? = some v) (h : fitsT cs v = 0) : firstE cs (l.drop k) = firstE cs (l.drop (k + 1)) := by rw [drop_cons hx, firstE, if_pos h]
theorem firstE_bad {cs : List Col} {l : List (List Vl)} {k : Nat} {v : List Vl} (hx : l[k]? = some v) (h : fitsT cs v ≠ 0) : firstE cs (l.drop k) = fitsT cs v := by rw [drop_cons hx, firstE, if_neg h]
theorem firstE_end {cs : List Col} {l : List (List Vl)} {k : Nat} (h : l.length ≤ k) : firstE cs (l.drop k) = 0 := by rw [List.drop_of_length_le h]; rfl
end Go.Proofs.YtedogodccblfeaaGreatDoor

namespace Go.Proofs.YtedogodccblfeaaGreatDoor
open Go.RowKit
set_option linter.unusedVariables false
set_option linter.unusedSimpArgs false

/-- the rows that stay, with their new values: the updates are taken in order -/
def goR (dels : List Int) : List Row → List Upd → List Row
  | [], _ => []
  | r :: rs, [] => if dels.contains r.1 then goR dels rs [] else r :: goR dels rs []
  | r :: rs, u :: us => if dels.contains r.1 then goR dels rs (u :: us) else if u.1 = r.1 then (r.1, u.2.2) :: goR dels rs us else r :: goR dels rs (u :: us)
/-- the new rows -/
def insR (nx : Int) (ins : List (List Vl)) : List Row := ins.zipIdx.map fun p => (nx + (p.2 : Int), p.1)
def outR (nx : Int) (rs : List Row) (ins : List (List Vl)) (dels : List Int) (us : List Upd) : List Row := goR dels rs us ++ insR nx ins
def zeroT : Tb := ⟨⟨#[]⟩, [], 0, []⟩
/-- what Apply answers -/
def applyC (nm : ByteArray) (cs : List Col) (nx : Int) (rs : List Row) (ins : List (List Vl)) (dels : List Int) (us : List Upd) : Int × Tb :=
  if chgB nm cs nx rs ins dels us = false then (17, zeroT)
  else if fitsC cs (us.map (·.2.2)) ins ≠ 0 then (fitsC cs (us.map (·.2.2)) ins, zeroT)
  else if (rs.length : Int) - dels.length + ins.length > 100 ∨ (ins.length : Int) > 2147483648 - nx then (10, zeroT)
  else if dupB cs (outR nx rs ins dels us) then (9, zeroT)
  else (0, ⟨nm, cs, nx + ins.length, outR nx rs ins dels us⟩)
theorem insR_snoc {nx : Int} {ins : List (List Vl)} {k : Nat} {v : List Vl} (hv : ins[k]? = some v) : insR nx (ins.take (k + 1)) = insR nx (ins.take k) ++ [(nx + (k : Int), v)] := by
  have hk : k < ins.length := (List.getElem?_eq_some_iff.1 hv).1
  unfold insR
  rw [List.take_add_one, hv, Option.toList_some, List.zipIdx_append, List.map_append, List.length_take, Nat.min_eq_left (Nat.le_of_lt hk)]
  simp
theorem firstE_all {cs : List Col} : ∀ {l : List (List Vl)}, firstE cs l = 0 → ∀ v ∈ l, fitsT cs v = 0
  | [], _, v, hv => nomatch hv
  | x :: l, h, v, hv => by
    rw [firstE] at h
    split at h
    · rcases List.mem_cons.1 hv with rfl | hv
      · assumption
      · exact firstE_all h v hv
    · exact absurd h (by assumption)
theorem fitsC_all {cs : List Col} {a b : List (List Vl)} (h : fitsC cs a b = 0) : (∀ v ∈ a, fitsT cs v = 0) ∧ ∀ v ∈ b, fitsT cs v = 0 := by
  unfold fitsC at h
  split at h
  · exact ⟨firstE_all (by assumption), firstE_all h⟩
  · exact absurd h (by assumption)
theorem PrsIn.tail {w : World} {b o k : Nat} {u : Pr} {us : List Pr} (h : PrsIn (some ⟨b, o, none⟩) (k + 1) (u :: us) w) : PrsIn (some ⟨b, o + 3, none⟩) k us w := by
  refine ⟨?_, fun r hr => h.2 r (List.mem_cons_of_mem _ hr)⟩
  have h1 : Rd w w.heap.size 3 (some ⟨b, o, none⟩) (k + 1) (prCells (u :: us)) := h.1
  have hl := h1.1
  refine ⟨by simp [prCells, Pr.cells] at hl ⊢; omega, fun hk => ?_⟩
  obtain ⟨b', o', e, hb, hc⟩ := h1.2 (by omega)
  obtain ⟨rfl, rfl⟩ : b = b' ∧ o = o' := by injection e with e; injection e with a1 a2; exact ⟨a1, a2⟩
  refine ⟨b, o + 3, rfl, hb, fun j v hv => ?_⟩
  have := hc (3 + j) v (by
    show (prCells (u :: us))[3 + j]? = some v
    unfold prCells
    rw [List.flatMap_cons, List.getElem?_append_right (by simp [Pr.cells])]
    simpa [Pr.cells, prCells] using hv)
  rwa [show o + (3 + j) = o + 3 + j by omega] at this
theorem PrsIn.zero {w : World} (A : Option Addr) : PrsIn A 0 [] w := ⟨⟨by simp [prCells], fun h => absurd h (by omega)⟩, fun r hr => nomatch hr⟩
def ApplyRet (w : World) (M : Nat → Prop) (r : Int × Tb) (e : Ending) (w' : World) : Prop := ∃ v, e = .returned (.tuple #[v, .int .i64 r.1]) ∧ TbAt w' M v r.2 ∧ Below w.heap.size w w'
theorem tbAt_zero {w : World} {M : Nat → Prop} : TbAt w M (.agg #[.string ⟨#[]⟩, .slice none 0 0, .int .i64 0, .slice none 0 0]) zeroT := ⟨none, 0, 0, none, 0, 0, [], rfl, by omega, by omega, by omega, by omega, ro_nil, fun _ _ _ => ⟨Rd.none_, fun r hr => nomatch hr⟩, fun r hr => (nomatch hr), rfl⟩
end Go.Proofs.YtedogodccblfeaaGreatDoor

namespace Go.Proofs.YtedogodccblfeaaGreatDoor
open Go.RowKit
set_option linter.unusedVariables false
set_option linter.unusedSimpArgs false

/-- the values that the updates ask for -/
def wantR (us : List Upd) (id : Int) (v : List Vl) : List Vl := us.foldl (fun acc p => if p.1 = id then p.2.2 else acc) v
theorem wantR_cons (u : Upd) (us : List Upd) (id : Int) (v : List Vl) : wantR (u :: us) id v = wantR us id (if u.1 = id then u.2.2 else v) := rfl
theorem wantR_none : ∀ {us : List Upd} {id : Int} {v : List Vl}, (∀ u ∈ us, u.1 ≠ id) → wantR us id v = v
  | [], _, _, _ => rfl
  | u :: us, id, v, h => by
    rw [wantR_cons, if_neg (h u (List.mem_cons_self ..))]
    exact wantR_none fun x hx => h x (List.mem_cons_of_mem _ hx)
def keepR (dels : List Int) (us : List Upd) (rs : List Row) : List Row := (rs.filter fun r => !dels.contains r.1).map fun r => (r.1, wantR us r.1 r.2)
theorem okR_asc {cs : List Col} {nx : Int} : ∀ {lst : Int} {rs : List Row}, okR cs nx lst rs = true → (rs.map (·.1)).Pairwise (· < ·) ∧ ∀ r ∈ rs, lst < r.1 ∧ r.1 < nx
  | _, [], _ => ⟨List.Pairwise.nil, fun _ h => nomatch h⟩
  | lst, r :: rs, h => by
    rw [okR] at h
    simp only [Bool.and_eq_true, decide_eq_true_eq] at h
    obtain ⟨h1, h2⟩ := okR_asc h.2
    refine ⟨?_, fun x hx => ?_⟩
    · rw [List.map_cons, List.pairwise_cons]
      refine ⟨fun a ha => ?_, h1⟩
      obtain ⟨x, hx, rfl⟩ := List.mem_map.1 ha
      exact (h2 x hx).1
    · rcases List.mem_cons.1 hx with rfl | hx
      · exact ⟨h.1.1.1, h.1.1.2⟩
      · exact ⟨Int.lt_trans h.1.1.1 (h2 x hx).1, (h2 x hx).2⟩
theorem rowsK_spec {rs : List Row} {gone : List Int} : ∀ {ids : List Int} {last : Option Int}, rowsK rs gone last ids = true → ids.Pairwise (· < ·) ∧ ∀ id ∈ ids, (getR rs id).isSome = true ∧ gone.contains id = false ∧ ∀ p, last = some p → p < id
  | [], _, _ => ⟨List.Pairwise.nil, fun _ h => nomatch h⟩
  | id :: ids, last, h => by
    rw [rowsK] at h
    simp only [Bool.and_eq_true, Bool.not_eq_true'] at h
    obtain ⟨⟨⟨h1, h2⟩, h3⟩, h4⟩ := h
    obtain ⟨i1, i2⟩ := rowsK_spec h4
    have hl : ∀ p, last = some p → p < id := fun p hp => by
      rw [hp] at h2
      simp only [Option.any_some, decide_eq_false_iff_not] at h2
      omega
    refine ⟨List.pairwise_cons.2 ⟨fun a ha => (i2 a ha).2.2 id rfl, i1⟩, fun x hx => ?_⟩
    rcases List.mem_cons.1 hx with rfl | hx
    · exact ⟨h1, h3, hl⟩
    · exact ⟨(i2 x hx).1, (i2 x hx).2.1, fun p hp => Int.lt_trans (hl p hp) ((i2 x hx).2.2 id rfl)⟩
theorem getR_some {rs : List Row} {id : Int} (h : (getR rs id).isSome = true) : id ∈ rs.map (·.1) := by
  unfold getR at h
  rw [Option.isSome_map] at h
  obtain ⟨r, hr⟩ := Option.isSome_iff_exists.1 h
  have h1 := List.find?_some hr
  have h2 := List.mem_of_find?_eq_some hr
  exact List.mem_map.2 ⟨r, h2, by simpa using h1⟩
theorem goR_eq {dels : List Int} : ∀ (rs : List Row) (us : List Upd), (rs.map (·.1)).Pairwise (· < ·) → (us.map (·.1)).Pairwise (· < ·) → (∀ u ∈ us, u.1 ∈ rs.map (·.1) ∧ dels.contains u.1 = false) → goR dels rs us = keepR dels us rs
  | [], us, _, _, h => by simp [goR, keepR]
  | r :: rs, [], hr, _, _ => by
    have ih := goR_eq (dels := dels) rs [] (List.pairwise_cons.1 hr).2 List.Pairwise.nil (fun _ h => nomatch h)
    rw [goR]
    cases hd : dels.contains r.1
    · simp only [keepR, List.filter_cons, hd, Bool.not_false, if_true, List.map_cons, Bool.false_eq_true, if_false] at ih ⊢
      rw [ih]; rfl
    · simp only [keepR, List.filter_cons, hd, Bool.not_true, if_true, Bool.false_eq_true, if_false] at ih ⊢
      rw [ih]
  | r :: rs, u :: us, hr, hu, h => by
    obtain ⟨r1, r2⟩ := List.pairwise_cons.1 hr
    obtain ⟨u1, u2⟩ := List.pairwise_cons.1 hu
    replace r1 : ∀ x ∈ rs, r.1 < x.1 := fun x hx => r1 _ (List.mem_map_of_mem (f := fun x : Row => x.1) hx)
    replace u1 : ∀ x ∈ us, u.1 < x.1 := fun x hx => u1 _ (List.mem_map_of_mem (f := fun x : Upd => x.1) hx)
    have hin : ∀ x ∈ u :: us, (x.1 = r.1 ∨ x.1 ∈ rs.map (·.1)) ∧ dels.contains x.1 = false := fun x hx => ⟨List.mem_cons.1 (h x hx).1, (h x hx).2⟩
    rw [goR]
    cases hd : dels.contains r.1
    · simp only [Bool.false_eq_true, if_false]
      by_cases hur : u.1 = r.1
      · rw [if_pos hur]
        have ih := goR_eq (dels := dels) rs us r2 u2 fun x hx => by
          obtain ⟨h1, h2⟩ := hin x (List.mem_cons_of_mem _ hx)
          refine ⟨?_, h2⟩
          rcases h1 with h1 | h1
          · have := u1 x hx; omega
          · exact h1
        rw [ih]
        simp only [keepR, List.filter_cons, hd, Bool.not_false, if_true, List.map_cons]
        rw [wantR_cons, if_pos hur, wantR_none fun x hx => by have := u1 x hx; omega]
        congr 1
        refine List.map_congr_left fun x hx => ?_
        have := r1 x (List.mem_filter.1 hx).1
        rw [wantR_cons, if_neg (by omega)]
      · rw [if_neg hur]
        have hmem : ∀ x ∈ u :: us, r.1 < x.1 ∧ x.1 ∈ rs.map (·.1) := fun x hx => by
          have hu0 : r.1 < u.1 := by
            rcases (hin u (List.mem_cons_self ..)).1 with h1 | h1
            · exact absurd h1 hur
            · obtain ⟨y, hy, hyu⟩ := List.mem_map.1 h1
              have := r1 y hy
              have hyu : y.1 = u.1 := hyu
              omega
          have hx1 : r.1 < x.1 := by
            rcases List.mem_cons.1 hx with rfl | hx
            · exact hu0
            · exact Int.lt_trans hu0 (u1 x hx)
          refine ⟨hx1, ?_⟩
          rcases (hin x hx).1 with h1 | h1
          · omega
          · exact h1
        have ih := goR_eq (dels := dels) rs (u :: us) r2 hu fun x hx => ⟨(hmem x hx).2, (h x hx).2⟩
        rw [ih]
        simp only [keepR, List.filter_cons, hd, Bool.not_false, if_true, List.map_cons]
        rw [wantR_none fun x hx => by have := (hmem x hx).1; omega]
    · simp only [if_true]
      have ih := goR_eq (dels := dels) rs (u :: us) r2 hu fun x hx => by
        obtain ⟨h1, h2⟩ := hin x hx
        refine ⟨?_, h2⟩
        rcases h1 with h1 | h1
        · rw [h1, hd] at h2; cases h2
        · exact h1
      rw [ih]
      simp only [keepR, List.filter_cons, hd, Bool.not_true, Bool.false_eq_true, if_false]
/-- What is known of a change that succeeds. -/
structure ApOk (nm : ByteArray) (cs : List Col) (nx : Int) (rs : List Row) (ins : List (List Vl)) (dels : List Int) (us : List Upd) (T : Tb) : Prop where
  tab : tabB nm cs nx rs = true
  tb : T = ⟨nm, cs, nx + ins.length, keepR dels us rs ++ insR nx ins⟩
  asc : (rs.map (·.1)).Pairwise (· < ·)
  low : ∀ r ∈ rs, 0 < r.1 ∧ r.1 < nx
  dasc : dels.Pairwise (· < ·)
  din : ∀ id ∈ dels, id ∈ rs.map (·.1)
  uasc : (us.map (·.1)).Pairwise (· < ·)
  uin : ∀ u ∈ us, u.1 ∈ rs.map (·.1) ∧ dels.contains u.1 = false
  dup : dupB cs (keepR dels us rs ++ insR nx ins) = false
  fits : (∀ u ∈ us, fitsT cs u.2.2 = 0) ∧ ∀ v ∈ ins, fitsT cs v = 0
  lim : (rs.length : Int) - dels.length + ins.length ≤ 100
  nlim : (ins.length : Int) ≤ 2147483648 - nx
theorem tabB_ok {nm : ByteArray} {cs : List Col} {nx : Int} {rs : List Row} (h : tabB nm cs nx rs = true) : schemaB nm cs = true ∧ rs.length ≤ 100 ∧ 1 ≤ nx ∧ nx ≤ 2147483648 ∧ okR cs nx 0 rs = true ∧ dupB cs rs = false := by
  unfold tabB at h
  simp only [Bool.and_eq_true, decide_eq_true_eq, Bool.not_eq_true'] at h
  obtain ⟨⟨⟨⟨⟨h1, h2⟩, h3⟩, h4⟩, h5⟩, h6⟩ := h
  exact ⟨h1, h2, h3, h4, h5, h6⟩
theorem chgB_ok {nm : ByteArray} {cs : List Col} {nx : Int} {rs : List Row} {ins : List (List Vl)} {dels : List Int} {us : List Upd} (h : chgB nm cs nx rs ins dels us = true) :
    tabB nm cs nx rs = true ∧ (dels.Pairwise (· < ·) ∧ ∀ id ∈ dels, id ∈ rs.map (·.1)) ∧ (us.map (·.1)).Pairwise (· < ·) ∧ ∀ u ∈ us, u.1 ∈ rs.map (·.1) ∧ dels.contains u.1 = false := by
  unfold chgB at h
  simp only [Bool.and_eq_true] at h
  obtain ⟨⟨⟨⟨h1, h2⟩, h3⟩, h4⟩, h5⟩ := h
  obtain ⟨a1, a2⟩ := rowsK_spec h2
  obtain ⟨b1, b2⟩ := rowsK_spec h4
  exact ⟨h1, ⟨a1, fun id hd => getR_some (a2 id hd).1⟩, b1, fun u hu => ⟨getR_some (b2 u.1 (List.mem_map_of_mem hu)).1, (b2 u.1 (List.mem_map_of_mem hu)).2.1⟩⟩
theorem apOk_of {nm : ByteArray} {cs : List Col} {nx : Int} {rs : List Row} {ins : List (List Vl)} {dels : List Int} {us : List Upd} {T : Tb} (h : applyC nm cs nx rs ins dels us = (0, T)) : ApOk nm cs nx rs ins dels us T := by
  unfold applyC at h
  split at h
  · injection h with h; omega
  · rename_i hc
    split at h
    · rename_i hf; injection h with h; exact absurd h hf
    · rename_i hf
      split at h
      · injection h with h; omega
      · rename_i hl
        split at h
        · injection h with h; omega
        · rename_i hd
          injection h with _ h
          obtain ⟨h1, ⟨h2, h3⟩, h4, h5⟩ := chgB_ok (by simpa using hc)
          obtain ⟨_, _, _, _, k5, _⟩ := tabB_ok h1
          obtain ⟨k6, k7⟩ := okR_asc k5
          have hg := goR_eq (dels := dels) rs us k6 h4 h5
          have hfc := fitsC_all (Decidable.not_not.1 hf)
          refine ⟨h1, ?_, k6, k7, h2, h3, h4, h5, ?_, ⟨fun u hu => hfc.1 _ (List.mem_map_of_mem hu), hfc.2⟩, by omega, by omega⟩
          · rw [← h]; unfold outR; rw [hg]
          · unfold outR at hd; rw [hg] at hd; simpa using hd
theorem find_uniq {l : List Row} (h : (l.map (·.1)).Pairwise (· < ·)) {r : Row} (hr : r ∈ l) : l.find? (fun x => x.1 == r.1) = some r := by
  induction l with
  | nil => cases hr
  | cons x l ih =>
    obtain ⟨h1, h2⟩ := List.pairwise_cons.1 h
    rcases List.mem_cons.1 hr with rfl | hr
    · simp
    · have : x.1 < r.1 := h1 r.1 (List.mem_map_of_mem (f := fun x : Row => x.1) hr)
      rw [List.find?_cons, show (x.1 == r.1) = false by rw [beq_eq_false_iff_ne]; omega]
      exact ih h2 hr
theorem getR_none {l : List Row} {id : Int} (h : ∀ r ∈ l, r.1 ≠ id) : getR l id = none := by
  unfold getR
  rw [List.find?_eq_none.2 fun x hx => by simpa using h x hx]; rfl
theorem getR_app (a b : List Row) (id : Int) : getR (a ++ b) id = (getR a id).or (getR b id) := by
  unfold getR
  rw [List.find?_append]
  cases a.find? (fun r => r.1 == id) <;> simp
theorem insR_at : ∀ (ins : List (List Vl)) (nx : Int) (i : Nat), getR (insR nx ins) (nx + (i : Int)) = ins[i]? := by
  intro ins nx i
  have key : ∀ (l : List (List Vl)) (k : Nat) (i : Nat), k ≤ i → getR ((l.zipIdx k).map fun p => (nx + (p.2 : Int), p.1)) (nx + (i : Int)) = l[i - k]? := by
    intro l
    induction l with
    | nil => intro k i _; simp [getR]
    | cons v l ih =>
      intro k i hki
      rw [List.zipIdx_cons, List.map_cons]
      by_cases h : k = i
      · subst h
        simp [getR]
      · have h2 := ih (k + 1) i (by omega)
        have e : i - k = (i - (k + 1)) + 1 := by omega
        rw [e, List.getElem?_cons_succ, ← h2]
        unfold getR
        rw [List.find?_cons, show ((nx + (k : Int), v).1 == nx + (i : Int)) = false by rw [beq_eq_false_iff_ne]; show nx + (k : Int) ≠ _; omega]
  have := key ins 0 i (by omega)
  simpa [insR] using this
theorem insR_ge {ins : List (List Vl)} {nx : Int} : ∀ r ∈ insR nx ins, nx ≤ r.1 := fun r hr => by
  unfold insR at hr
  obtain ⟨p, _, rfl⟩ := List.mem_map.1 hr
  show nx ≤ nx + (p.2 : Int)
  omega
section
variable {nm : ByteArray} {cs : List Col} {nx : Int} {rs : List Row} {ins : List (List Vl)} {dels : List Int} {us : List Upd} {T : Tb}
theorem ApOk.asc2 (h : ApOk nm cs nx rs ins dels us T) : ((keepR dels us rs).map (·.1)).Pairwise (· < ·) := by
  have e : (keepR dels us rs).map (·.1) = (rs.filter fun r => !dels.contains r.1).map (·.1) := by simp [keepR]
  rw [e]
  exact List.Pairwise.sublist (List.Sublist.map _ List.filter_sublist) h.asc
/-- a row of before -/
theorem ApOk.old (h : ApOk nm cs nx rs ins dels us T) {r : Row} (hr : r ∈ rs) : getR T.rs r.1 = if dels.contains r.1 then none else some (wantR us r.1 r.2) := by
  rw [h.tb]
  show getR (keepR dels us rs ++ insR nx ins) r.1 = _
  rw [getR_app, getR_none (l := insR nx ins) fun x hx => by have := insR_ge x hx; have := (h.low r hr).2; omega, Option.or_none]
  cases hd : dels.contains r.1
  · have hm : (r.1, wantR us r.1 r.2) ∈ keepR dels us rs := List.mem_map.2 ⟨r, List.mem_filter.2 ⟨hr, by simp only [hd]; rfl⟩, rfl⟩
    have := find_uniq h.asc2 hm
    unfold getR
    rw [this]; simp
  · rw [getR_none fun x hx => ?_]
    · simp
    · obtain ⟨y, hy, rfl⟩ := List.mem_map.1 hx
      have := (List.mem_filter.1 hy).2
      intro e
      have e : y.1 = r.1 := e
      rw [e, hd] at this
      cases this
/-- a new row -/
theorem ApOk.new (h : ApOk nm cs nx rs ins dels us T) (i : Nat) : getR T.rs (nx + (i : Int)) = ins[i]? := by
  rw [h.tb]
  show getR (keepR dels us rs ++ insR nx ins) _ = _
  rw [getR_app, getR_none (l := keepR dels us rs) fun x hx => ?_, Option.none_or, insR_at]
  obtain ⟨y, hy, rfl⟩ := List.mem_map.1 hx
  have := (h.low y (List.mem_filter.1 hy).1).2
  show y.1 ≠ _
  omega
theorem ApOk.len (h : ApOk nm cs nx rs ins dels us T) : (T.rs.length : Int) = rs.length - dels.length + ins.length := by
  rw [h.tb]
  show ((keepR dels us rs ++ insR nx ins).length : Int) = _
  have h1 : (insR nx ins).length = ins.length := by simp [insR]
  have h2 : (keepR dels us rs).length = (rs.filter fun r => !dels.contains r.1).length := by simp [keepR]
  have hnd : (rs.map (·.1)).Nodup := h.asc.imp fun h => by omega
  have hdn : dels.Nodup := h.dasc.imp fun h => by omega
  have hp : ((rs.map (·.1)).filter fun id => dels.contains id).Perm dels := (List.perm_ext_iff_of_nodup (hnd.sublist List.filter_sublist) hdn).2 fun a => by
    simp only [List.mem_filter, List.contains_iff_mem]
    exact ⟨fun k => k.2, fun k => ⟨h.din a k, k⟩⟩
  have h3 : (rs.filter fun r => dels.contains r.1).length = dels.length := by
    rw [← hp.length_eq, List.filter_map, List.length_map]; rfl
  have h4 : (rs.filter fun r => dels.contains r.1).length + (rs.filter fun r => !dels.contains r.1).length = rs.length := by
    have : ∀ l : List Row, (l.filter fun r => dels.contains r.1).length + (l.filter fun r => !dels.contains r.1).length = l.length := by
      intro l
      induction l with
      | nil => rfl
      | cons x l ih => cases hx : dels.contains x.1 <;> simp only [List.filter_cons, hx, if_true, if_false, Bool.not_true, Bool.not_false, List.length_cons, Bool.false_eq_true] <;> omega
    exact this rs
  rw [List.length_append, h1, h2]
  omega
end
end Go.Proofs.YtedogodccblfeaaGreatDoor

namespace Go.Proofs.YtedogodccblfeaaGreatDoor
open Go.RowKit
set_option linter.unusedVariables false
set_option linter.unusedSimpArgs false

/-- A change drawn. -/
def DrawnChg (w : World) (T : Nat) (M : Nat → Prop) (m : Nat) (e : Ending) (w' : World) : Prop :=
  ∃ (v : Value) (ins : List (List Vl)) (dels : List Int) (us : List Upd), e = .returned v ∧ ChgSlot M ins dels us v w' ∧ ins.length ≤ 3 ∧ dels.length ≤ m ∧ us.length ≤ m ∧ Tp w' T ∧ w.grownBy w' (some T)
def PrVals (l : List Pr) (w : World) : Prop := ∀ p ∈ l, VlsIn p.oA p.on p.old w ∧ VlsIn p.nA p.nn p.new w
def SlVals (l : List Sl) (w : World) : Prop := ∀ r ∈ l, VlsIn r.A r.n r.vs w
theorem sls_snoc {M : Nat → Prop} {w : World} {rs : List Sl} {r : Sl} (h : Ro w M (SlVals rs)) (k : Ro w M (VlsIn r.A r.n r.vs)) : Ro w M (SlVals (rs ++ [r])) := fun w2 h1 h2 x hx => by
  rcases List.mem_append.1 hx with hx | hx
  · exact h w2 h1 h2 x hx
  · simp at hx; subst hx; exact k w2 h1 h2
theorem sls_ok_snoc {l : List Sl} {x : Sl} (h : ∀ s ∈ l, s.ok) (k : x.ok) : ∀ s ∈ l ++ [x], s.ok := fun s hs => by
  rcases List.mem_append.1 hs with hs | hs
  · exact h s hs
  · simp at hs; subst hs; exact k
theorem prVals_app {M : Nat → Prop} {w : World} {a b : List Pr} (h : Ro w M (PrVals a)) (k : Ro w M (PrVals b)) : Ro w M (PrVals (a ++ b)) := fun w2 h1 h2 x hx => by
  rcases List.mem_append.1 hx with hx | hx
  · exact h w2 h1 h2 x hx
  · exact k w2 h1 h2 x hx
theorem prs_ok_app {a b : List Pr} (h : ∀ p ∈ a, p.ok) (k : ∀ p ∈ b, p.ok) : ∀ p ∈ a ++ b, p.ok := fun p hp => by
  rcases List.mem_append.1 hp with hp | hp
  · exact h p hp
  · exact k p hp
theorem prCells_one (l : List Pr) : ∀ u ∈ prCells l, u.oneCell' = true := fun u hu => by
  unfold prCells at hu
  rw [List.mem_flatMap] at hu
  obtain ⟨x, _, hx⟩ := hu
  simp only [Pr.cells, List.mem_cons, List.not_mem_nil, or_false] at hx
  rcases hx with rfl | rfl | rfl <;> rfl
theorem validB_k {k i : Int} {s : ByteArray} (h : validB k i s = true) : I64 k := by
  unfold validB at h
  unfold I64
  split at h
  · omega
  · split at h
    · omega
    · split at h
      · omega
      · split at h
        · omega
        · cases h
theorem Hold.renVl {M : Nat → Prop} {row : Option Nat} {w0 w : World} {L : List Hp} {e : TypeId} {v : Value} {n : Nat} {vs vs' : List Vl} (he : vs' = vs) (h : Hold M row w0 w (.own e 3 v n (vlCells vs) :: L)) : Hold M row w0 w (.own e 3 v n (vlCells vs') :: L) := by subst he; exact h
theorem Tryz.elPr : ElemT Tryz.prog 42 110 3 56 (.agg #[.int .i64 0, .slice none 0 0, .slice none 0 0]) := ⟨Tryz.underlying42, by kernel_rfl, rfl, by omega⟩
theorem Tryz.elSlc : ElemT Tryz.prog 74 51 1 24 (.slice none 0 0) := ⟨Tryz.underlying74, by kernel_rfl, rfl, by omega⟩
set_option maxHeartbeats 8000000 in
set_option maxRecDepth 100000 in
theorem chgof_any (M : Nat → Prop) (T : Nat) (w : World) (hM : ∀ b, M b → b < w.heap.size) (ht : Tp w T) (hMT : ∀ b, M b → T ≤ b) (nm : ByteArray) (A : Option Addr) (n c : Nat) (cs : List Col) (nx : Int) (B : Option Addr) (m d : Nat) (l : List Rw) (hD : Ro w (Mut M [.tp T]) (ColsIn A n cs)) (hE : Ro w (Mut M [.tp T]) (RwsIn B m l)) (hW : Ro w (Mut M [.tp T]) Wds) (hT : 2 < T)
    (hn1 : 1 ≤ n) (hn : n ≤ 1000) (hm : m ≤ 1000) (hok : ∀ x ∈ cs, ColOk x) (hfit : ∀ r ∈ l, r.vs.length = n) (hrok : ∀ r ∈ l, r.ok) : Calls Tryz.prog 25 #[.pointer (some ⟨T, 0, none⟩), .agg #[.string nm, .slice A n c, .int .i64 nx, .slice B m d]] w fun e w' => DrawnChg w T M m e w' := by
  have HL := hid (cols_n hD.now)
  have HLM := hid hE.now.len
  have HOKC := hid hok
  have HFIT := hid hfit
  have HROK := hid hrok
  clear hok hfit hrok
  have K0 := (((((((((Hold.startT M w T hM ht hMT).add hE).add (hD.less (mut_none rfl))).add ((hW.less (mut_none rfl)).less (mut_none rfl))).alloc_cst #[.string nm, .slice A n c, .int .i64 nx, .slice B m d] 58).alloc #[.slice none 0 0, .slice none 0 0, .slice none 0 0] 76).alloc #[.slice none 0 0, .slice none 0 0, .slice none 0 0] 76).add (show Ro _ _ (PrVals []) from fun _ _ _ r hr => nomatch hr)).nil 110 3).nil 3 1
  simp only [World.size_alloc] at K0
  clear hD hE hW
  go_enter Tryz.func25, Tryz.ntmps25
  go_wp2_with fail
  obtain ⟨gx, hgx⟩ : ∃ gx, gx = w.heap.size := ⟨_, rfl⟩
  obtain ⟨g4, hg4⟩ : ∃ g4, g4 = gx + 1 := ⟨_, rfl⟩
  obtain ⟨g5, hg5⟩ : ∃ g5, g5 = g4 + 1 := ⟨_, rfl⟩
  rw [← hgx, ← hg4, ← hg5] at K0 ⊢
  generalize ((w.alloc _).alloc _).alloc _ = w1 at K0 ⊢
  have HGX := hid hgx
  clear hgx hg4 hg5
  go_loopw [14] (fun iv wr => ∃ (j dn dc un uc : Nat) (D U : Option Addr) (dels : List Int) (ps : List Pr), j ≤ m ∧ iv = .int .i64 j ∧ dn ≤ j ∧ un ≤ j ∧ Hid (∀ p ∈ ps, p.ok) ∧ Hold M (some T) w wr [.own 3 1 (.slice D dn dc) dn (iCells dels), .own 110 3 (.slice U un uc) un (prCells ps), .ro (PrVals ps), .blk g5 76 #[.slice none 0 0, .slice D dn dc, .slice U un uc], .blk g4 76 #[.slice none 0 0, .slice none 0 0, .slice none 0 0], .cst gx 58 #[.string nm, .slice A n c, .int .i64 nx, .slice B m d], .ro Wds, .ro (ColsIn A n cs), .ro (RwsIn B m l), .tp T]) (fun iv _ => m - (intOf iv).toNat)
  case atStart => exact ⟨0, 0, 0, 0, 0, none, none, [], [], by omega, rfl, by omega, by omega, hid (fun p hp => nomatch hp), K0⟩
  case round =>
    clear K0
    obtain ⟨j, dn, dc, un, uc, D, U, dels, ps, hj, rfl, hdn, hun, HPS, H⟩ := hrel
    by_cases hlt : j < m
    · have hd : decide ((j : Int) < (m : Int)) = true := by simp; omega
      have j0 : (0 : Int) ≤ (j : Int) := by omega
      have j1 : (j : Int) < (m : Int) := by omega
      obtain ⟨x, hx⟩ := get_of HLM.out hlt
      obtain ⟨b, o, rfl, hb, c0, c1, hxv⟩ := (H.ro 8 rfl).now.at_ hx
      have HXO := hid (HROK.out x (List.mem_of_getElem? hx))
      have HXL := hid (HFIT.out x (List.mem_of_getElem? hx))
      have hxr : Ro wr _ (VlsIn x.A x.n x.vs) := (H.ro 8 rfl).imp fun w2 h2 => h2.2 x (List.mem_of_getElem? hx)
      obtain ⟨xid, xA, xn, xc, xvs⟩ := x
      dsimp only at *
      obtain rfl : n = xn := by have h1 := hxv.len; have h2 := HXL.out; omega
      obtain ⟨v0, hv0⟩ := get_of HXL.out (show 0 < n by omega)
      obtain ⟨bx, ox, rfl, rx⟩ := hxr.vlsAt hv0
      have HV0 := hid (HXO.out.vs v0 (List.mem_of_getElem? hv0))
      simp only [Nat.zero_mul, Nat.add_zero] at rx
      clear hx hxv hv0
      have K1 := ((H.add hxr).add (rx.less (mut_none rfl))).alloc_cst #[.int .i64 xid, .slice (some ⟨bx, ox, none⟩) n xc] 119
      clear H hxr rx
      obtain ⟨gr, hgr⟩ : ∃ gr, gr = wr.heap.size := ⟨_, rfl⟩
      rw [← hgr] at K1
      go_wp2_with fail
      rw [← hgr]
      clear hgr c0 c1
      refine (next_any T 4 _ (K1.tp_ 12 rfl) (by omega) (by omega)).mono ?_
      rintro e w2 ⟨z, rfl, z0, z1, t2, g2⟩
      have K2 := Hold.callT K1 12 rfl g2 t2
      clear K1 g2 t2
      have F2 := K2.facts
      simp only [World.size_alloc, World.size_drew, factsL, cellsF, Nat.reduceAdd, List.toList_toArray, List.set_cons_zero, List.set_cons_succ, List.setIfInBounds_toArray, and_true, true_and] at F2
      obtain rfl | rfl | hz : z = 0 ∨ z = 1 ∨ 2 ≤ z := by omega
      · have HCE := hid (show iCells dels ++ (#[Value.int .i64 xid]).toList = iCells (dels ++ [xid]) by simp [iCells])
        go_wp2_with (at_builtin; go_must (refine wpList_appH K2 3 rfl Tryz.elIntK #[.int .i64 xid] rfl (.tmp 23) (.tmp 26) rfl rfl _ rfl rfl rfl (by intro u hu; simp at hu; rcases hu with rfl; rfl) (by omega) (by omega) ?_); intro g9 cap9 w9 hc9 hm9 KB; rw [HCE.out] at KB; simp only [List.set_cons_zero, List.set_cons_succ] at KB; (have FB := KB.facts); simp only [World.size_alloc, World.size_drew, factsL, cellsF, Nat.reduceAdd, List.toList_toArray, List.set_cons_zero, List.set_cons_succ, List.setIfInBounds_toArray, and_true, true_and] at FB)
        have KC := (KB.store 6 rfl 1 (.slice (some ⟨g9, 0, none⟩) (dn + 1) cap9)).drop (List.Sublist.cons _ (List.Sublist.cons _ (List.Sublist.cons _ (List.Sublist.refl _))))
        go_roundw
        case rel => exact ⟨j + 1, dn + 1, cap9, un, uc, _, U, dels ++ [xid], ps, by omega, by first | rfl | go_num, by omega, by omega, HPS, KC⟩
        case measure => simp [intOf]; omega
      · skip
        go_wp2_with fail
        refine (trow_any (Mut M _) T _ K2.mutLt (K2.tp_ 12 rfl) (K2.get 12 rfl).2 nm A n c cs ((K2.ro 10 rfl).less (mut_tp (i := 12) rfl)) ((K2.ro 9 rfl).less (mut_tp (i := 12) rfl)) hT hn HOKC.out).mono ?_
        rintro e w4 ⟨Ar, nr, cr, vs, rfl, hnr, hvr, hfr, ho, t4, g4'⟩
        have K3 := Hold.addOwn K2 (Hold.callT K2 12 rfl g4' t4) (RM.grown g4' (.inr ⟨_, List.mem_of_getElem? (i := 12) rfl, rfl⟩)) ho
        obtain rfl : n = nr := by have h1 := fitsAll_len hfr; have h2 := HL.out; omega
        have hcr := own_caps (K3.get 0 rfl)
        replace hcr := And.intro hcr.1 hcr.2.1
        have HVS := hid (show vs.length = n ∧ ∀ v ∈ vs, v.ok from ⟨hnr.symm, hvr⟩)
        obtain ⟨ga, rfl⟩ : ∃ ga, Ar = some ⟨ga, 0, none⟩ := by
          rcases own_addr (K3.get 0 rfl) with ⟨_, h, _⟩ | ⟨g, h, _⟩
          · omega
          · exact ⟨g, h⟩
        clear K2 ho t4 g4' hnr hvr hfr F2
        have F3 := K3.facts
        simp only [World.size_alloc, World.size_drew, factsL, cellsF, Nat.reduceAdd, List.toList_toArray, List.set_cons_zero, List.set_cons_succ, List.setIfInBounds_toArray, and_true, true_and] at F3
        go_wp2_with fail
        refine (bool_any T 2 _ (K3.tp_ 13 rfl) (by omega) (by omega)).mono ?_
        rintro e wb ⟨bb, rfl, tb, gb⟩
        have K4 := Hold.callT K3 13 rfl gb tb
        clear K3 gb tb
        have F4 := K4.facts
        simp only [World.size_alloc, World.size_drew, factsL, cellsF, Nat.reduceAdd, List.toList_toArray, List.set_cons_zero, List.set_cons_succ, List.setIfInBounds_toArray, and_true, true_and] at F4
        cases bb
        · skip
          have KE8 := K4
          clear K4
          go_wp2_with fail
          refine (bool_any T 8 _ (KE8.tp_ 13 rfl) (by omega) (by omega)).mono ?_
          rintro e wb ⟨bb, rfl, tb, gb⟩
          have KF8 := Hold.callT KE8 13 rfl gb tb
          clear KE8 gb tb
          have FF8 := KF8.facts
          simp only [World.size_alloc, World.size_drew, factsL, cellsF, Nat.reduceAdd, List.toList_toArray, List.set_cons_zero, List.set_cons_succ, List.setIfInBounds_toArray, and_true, true_and] at FF8
          cases bb
          · skip
            have KV := KF8
            clear KF8
            go_wp2_with fail
            refine (bool_any T 12 _ (KV.tp_ 13 rfl) (by omega) (by omega)).mono ?_
            rintro e wb ⟨bb, rfl, tb, gb⟩
            have KP := Hold.callT KV 13 rfl gb tb
            clear KV gb tb
            have FP := KP.facts
            simp only [World.size_alloc, World.size_drew, factsL, cellsF, Nat.reduceAdd, List.toList_toArray, List.set_cons_zero, List.set_cons_succ, List.setIfInBounds_toArray, and_true, true_and] at FP
            cases bb
            · skip
              have KC := KP
              clear KP
              have KS := KC.sealRow 0 rfl
              simp only [List.set_cons_zero] at KS
              obtain ⟨KL, hKL, KN⟩ := KS.name
              have HF : Hid (∀ wv, Hold M (some T) w wv KL → (wv.cell? ⟨g5, 0, none⟩ = some (.slice none 0 0) ∧ wv.cell? ⟨g5, 1, none⟩ = some (.slice D dn dc) ∧ wv.cell? ⟨g5, 2, none⟩ = some (.slice U un uc) ∧ g5 < wv.heap.size) ∧ wv.cell? ⟨gr, 0, none⟩ = some (.int .i64 xid) ∧ wv.cell? ⟨gr, 1, none⟩ = some (.slice (some ⟨bx, ox, none⟩) n xc) ∧ gr < wv.heap.size) := hid fun wv HC => by
                rw [hKL] at HC
                have y1 := HC.blk_ 7 rfl
                have y2 := HC.cst_ 1 rfl
                exact ⟨⟨cell_of_row _ _ 0 _ _ _ y1, cell_of_row _ _ 1 _ _ _ y1, cell_of_row _ _ 2 _ _ _ y1, Blk.lt y1⟩, cell_of_row _ _ 0 _ _ _ y2, cell_of_row _ _ 1 _ _ _ y2, Blk.lt y2⟩
              have HRX : Hid (∀ wv, Hold M (some T) w wv KL → Ro wv (Mut M KL) (VlsIn (some ⟨bx, ox, none⟩) n xvs) ∧ Ro wv (Mut M KL) (VlsIn (some ⟨ga, 0, none⟩) n vs)) := hid fun wv HC => by
                rw [hKL] at HC ⊢
                exact ⟨HC.ro 3 rfl, HC.ro 0 rfl⟩
              have HKL := hid hKL
              clear hKL KS KC
              go_wp2_with fail
              refine wp_region_any (by kernel_rfl) ?_
              refine wpAny_hold 10 98 (KL) (spL [(64, VlsSlot (Mut M KL) xvs), (66, PrSlot (Mut M KL) (xid, xvs, vs)), (67, PrsSlot (Mut M KL) [(xid, xvs, vs)])]) (by kernel_rfl) (by kernel_rfl) (by kernel_rfl) rfl ?_ (KN.drew) ?_
              · exact stays_cons vlsSlot_mono (stays_cons prSlot_mono (stays_cons prsSlot_mono (stays_nil _)))
              simp only [List.take_succ_cons, List.take_zero, List.drop_succ_cons, List.drop_zero, Act.put, List.getElem_toArray, List.getElem_cons_zero, List.getElem_cons_succ, List.setIfInBounds_toArray, List.set_cons_succ, List.set_cons_zero]
              refine dw_val rfl rfl rfl ?_; apply Exists.intro; refine ⟨fun wv HC => ?_, ?_⟩
              ·  go_simp <;> rfl
              simp only [Act.put, List.setIfInBounds_toArray, List.set_cons_succ, List.set_cons_zero]
              refine dw_val rfl rfl rfl ?_; apply Exists.intro; refine ⟨fun wv HC => ?_, ?_⟩
              · obtain ⟨⟨f0, f1, f2, f3⟩, f4, f5, f6⟩ := HF.out _ HC; go_simp <;> rfl
              simp only [Act.put, List.setIfInBounds_toArray, List.set_cons_succ, List.set_cons_zero]
              refine dw_val rfl rfl rfl ?_; apply Exists.intro; refine ⟨fun wv HC => ?_, ?_⟩
              ·  go_simp <;> rfl
              simp only [Act.put, List.setIfInBounds_toArray, List.set_cons_succ, List.set_cons_zero]
              refine dw_val rfl rfl rfl ?_; apply Exists.intro; refine ⟨fun wv HC => ?_, ?_⟩
              · obtain ⟨⟨f0, f1, f2, f3⟩, f4, f5, f6⟩ := HF.out _ HC; go_simp <;> rfl
              simp only [Act.put, List.setIfInBounds_toArray, List.set_cons_succ, List.set_cons_zero]
              refine dw_val rfl rfl rfl ?_; apply Exists.intro; refine ⟨fun wv HC => ?_, ?_⟩
              ·  go_simp <;> rfl
              simp only [Act.put, List.setIfInBounds_toArray, List.set_cons_succ, List.set_cons_zero]
              refine dw_val rfl rfl rfl ?_; apply Exists.intro; refine ⟨fun wv HC => ?_, ?_⟩
              · obtain ⟨⟨f0, f1, f2, f3⟩, f4, f5, f6⟩ := HF.out _ HC; go_simp <;> rfl
              simp only [Act.put, List.setIfInBounds_toArray, List.set_cons_succ, List.set_cons_zero]
              refine dw_clone Tryz.elVl 64 (VlsSlot (Mut M KL) xvs) rfl rfl rfl rfl (.const (.slice none 0 0)) (.tmp 63) rfl rfl (A := some ⟨bx, ox, none⟩) (m := n) (c := xc) (ys := vlCells xvs) rfl (one_vls _) (by omega) (by omega) (fun wv HC hD => ((HRX.out _ HC).1).now) (fun C9 c9 wv HC q1 q2 hro => ⟨C9, n, c9, rfl, HXL.out.symm, q1, q2, hro⟩) ?_
              rintro u wx HCx ⟨A64, n64, c64, rfl, -, -, -, -⟩
              clear HCx
              simp only [Act.put, List.setIfInBounds_toArray, List.set_cons_succ, List.set_cons_zero]
              refine dw_val rfl rfl rfl ?_; apply Exists.intro; refine ⟨fun wv HC => ?_, ?_⟩
              ·  go_simp <;> rfl
              simp only [Act.put, List.setIfInBounds_toArray, List.set_cons_succ, List.set_cons_zero]
              refine dw_valC 66 (PrSlot (Mut M KL) (xid, xvs, vs)) rfl rfl rfl rfl (.agg #[.int .i64 xid, .slice A64 n64 c64, .slice (some ⟨ga, 0, none⟩) n cr]) (fun wv HC => ?_) (fun wv HC hD => ?_) ?_
              · go_simp <;> rfl
              · have ha : VlsSlot (Mut M KL) xvs (.slice A64 n64 c64) wv := deps_at hD 6 rfl (by kernel_rfl) rfl rfl
                exact prSlot_of HXO.out.id HXO.out.vs HVS.out.2 ha ⟨_, n, cr, rfl, HVS.out.1.symm, hcr.1, hcr.2, (HRX.out _ HC).2⟩
              simp only [Act.put, List.setIfInBounds_toArray, List.set_cons_succ, List.set_cons_zero]
              refine dw_new #[.int .i64 xid, .slice A64 n64 c64, .slice (some ⟨ga, 0, none⟩) n cr] 110 67 (PrsSlot (Mut M KL) [(xid, xvs, vs)]) (fun g => .slice (some ⟨g, 0, none⟩) 1 1) rfl rfl rfl rfl (fun wv => ?_) (fun wv HC _hrm hD hro => ?_) ?_
              · go_simp <;> rfl
              · have hrr := RM.alloc (Mut M KL) wv (.cells #[.int .i64 xid, .slice A64 n64 c64, .slice (some ⟨ga, 0, none⟩) n cr] 110)
                have h0 : PrSlot (Mut M KL) (xid, xvs, vs) (.agg #[.int .i64 xid, .slice A64 n64 c64, .slice (some ⟨ga, 0, none⟩) n cr]) wv := deps_at hD 8 rfl (by kernel_rfl) rfl rfl
                replace h0 := prSlot_mono _ _ _ hrr h0
                exact prsSlot_one (hro _ HC.mutLt) (fun i j k e1 => Value.agg.inj e1) h0
              rintro g67 wg HCg hsl
              simp only [Act.put, List.setIfInBounds_toArray, List.set_cons_succ, List.set_cons_zero]
              clear hsl HCg
              refine rel_nil ?_
              rintro wx5 HX5
              rintro _hrm HGW
              have hb2 : PrsSlot (Mut M KL) [(xid, xvs, vs)] (.slice (some ⟨g67, 0, none⟩) 1 1) wx5 := (GW_on (d := 67) rfl).1 (HGW 9 _ rfl (by omega))
              clear HGW _hrm
              obtain ⟨Aq, nq, cq, pq, heq, -, -, hpm, hpok, hpr⟩ := hb2
              obtain ⟨rfl, rfl, rfl⟩ : some ⟨g67, 0, none⟩ = Aq ∧ 1 = nq ∧ 1 = cq := by injection heq with h1 h2 h3; exact ⟨h1, h2, h3⟩
              clear heq
              rw [HKL.out] at HX5 hpr
              have HPO := hid (prs_ok_app HPS.out hpok)
              have HPE := hid (show prCells ps ++ prCells pq = prCells (ps ++ pq) by simp [prCells])
              have KA := HX5.add (hpr.imp fun w h => (h.2 : PrVals pq w))
              have k5 := hid ((hpr.imp fun w h => h.1).now)
              clear HX5 hpr hpm hpok HF HRX KN
              have FA := KA.facts
              simp only [World.size_alloc, World.size_drew, factsL, cellsF, Nat.reduceAdd, List.toList_toArray, List.set_cons_zero, List.set_cons_succ, List.setIfInBounds_toArray, and_true, true_and] at FA
              go_wp2_with (at_builtin; go_must (refine wpList_appAllH KA 6 rfl Tryz.elPr k5.out rfl (.tmp 59) (.tmp 67) rfl rfl rfl (prCells_one pq) (by omega) (by omega) ?_); intro C' cap' w6 hc6 hm6 KB; rw [HPE.out] at KB; simp only [List.set_cons_zero, List.set_cons_succ] at KB; (have FB := KB.facts); simp only [World.size_alloc, World.size_drew, factsL, cellsF, Nat.reduceAdd, List.toList_toArray, List.set_cons_zero, List.set_cons_succ, List.setIfInBounds_toArray, and_true, true_and] at FB)
              have KD := KB.store 8 rfl 2 (.slice C' (un + 1) cap')
              have KE := (KD.swapRo 7 rfl (prVals_app (KD.ro 7 rfl) (KD.ro 0 rfl))).drop (List.Sublist.cons _ (List.Sublist.cons _ (List.Sublist.cons _ (List.Sublist.cons _ (List.Sublist.cons _ (List.Sublist.refl _))))))
              go_wp2_with fail
              go_roundw
              case rel => exact ⟨j + 1, dn, dc, un + 1, cap', D, C', dels, ps ++ pq, by omega, by first | rfl | go_num, by omega, by omega, HPO, KE⟩
              case measure => simp [intOf]; omega
            · skip
              go_wp2_with fail
              refine (next_any T (n : Int) _ (KP.tp_ 13 rfl) (by omega) (by omega)).mono ?_
              rintro e wc ⟨q, rfl, q0, q1, tc, gc⟩
              obtain ⟨q, rfl⟩ := Int.eq_ofNat_of_zero_le q0
              have KQ := Hold.callT KP 13 rfl gc tc
              clear KP gc tc FP
              have FQ := KQ.facts
              simp only [World.size_alloc, World.size_drew, factsL, cellsF, Nat.reduceAdd, List.toList_toArray, List.set_cons_zero, List.set_cons_succ, List.setIfInBounds_toArray, and_true, true_and] at FQ
              go_wp2_with fail
              refine (value_any T _ (KQ.tp_ 13 rfl) (KQ.ro 10 rfl).now hT).mono ?_
              rintro e wd ⟨kv, iv, sv, rfl, hv, hsv, hiv, td, _, gd⟩
              have KR := Hold.callT KQ 13 rfl gd td
              clear KQ gd td FQ
              have HQL := hid (show q < vs.length by have := HVS.out.1; omega)
              obtain ⟨uq, huq⟩ : ∃ uq, vs[q]? = some uq := ⟨_, List.getElem?_eq_getElem HQL.out⟩
              obtain ⟨⟨z0, z1, z2⟩, ⟨z3, z4, z5⟩, z6⟩ := own_vl (KR.get 0 rfl) huq
              clear huq
              have KC := KR.putVl 0 rfl q HQL.out ⟨kv, iv, sv⟩
              simp only [List.set_cons_zero] at KC
              have HVS := hid (show (vs.set q ⟨kv, iv, sv⟩).length = n ∧ ∀ v ∈ vs.set q ⟨kv, iv, sv⟩, v.ok from ⟨by rw [List.length_set]; exact HVS.out.1, oks_set HVS.out.2 ⟨validB_k hv, hiv, by show sv.size ≤ maxLen; unfold maxLen; omega⟩⟩)
              clear hv KR
              generalize vs.set q ⟨kv, iv, sv⟩ = vs at HVS KC
              have FC := KC.facts
              simp only [World.size_alloc, World.size_drew, factsL, cellsF, Nat.reduceAdd, List.toList_toArray, List.set_cons_zero, List.set_cons_succ, List.setIfInBounds_toArray, and_true, true_and] at FC
              have KS := KC.sealRow 0 rfl
              simp only [List.set_cons_zero] at KS
              obtain ⟨KL, hKL, KN⟩ := KS.name
              have HF : Hid (∀ wv, Hold M (some T) w wv KL → (wv.cell? ⟨g5, 0, none⟩ = some (.slice none 0 0) ∧ wv.cell? ⟨g5, 1, none⟩ = some (.slice D dn dc) ∧ wv.cell? ⟨g5, 2, none⟩ = some (.slice U un uc) ∧ g5 < wv.heap.size) ∧ wv.cell? ⟨gr, 0, none⟩ = some (.int .i64 xid) ∧ wv.cell? ⟨gr, 1, none⟩ = some (.slice (some ⟨bx, ox, none⟩) n xc) ∧ gr < wv.heap.size) := hid fun wv HC => by
                rw [hKL] at HC
                have y1 := HC.blk_ 7 rfl
                have y2 := HC.cst_ 1 rfl
                exact ⟨⟨cell_of_row _ _ 0 _ _ _ y1, cell_of_row _ _ 1 _ _ _ y1, cell_of_row _ _ 2 _ _ _ y1, Blk.lt y1⟩, cell_of_row _ _ 0 _ _ _ y2, cell_of_row _ _ 1 _ _ _ y2, Blk.lt y2⟩
              have HRX : Hid (∀ wv, Hold M (some T) w wv KL → Ro wv (Mut M KL) (VlsIn (some ⟨bx, ox, none⟩) n xvs) ∧ Ro wv (Mut M KL) (VlsIn (some ⟨ga, 0, none⟩) n vs)) := hid fun wv HC => by
                rw [hKL] at HC ⊢
                exact ⟨HC.ro 3 rfl, HC.ro 0 rfl⟩
              have HKL := hid hKL
              clear hKL KS KC
              go_wp2_with fail
              refine wp_region_any (by kernel_rfl) ?_
              refine wpAny_hold 10 98 (KL) (spL [(64, VlsSlot (Mut M KL) xvs), (66, PrSlot (Mut M KL) (xid, xvs, vs)), (67, PrsSlot (Mut M KL) [(xid, xvs, vs)])]) (by kernel_rfl) (by kernel_rfl) (by kernel_rfl) rfl ?_ (KN.drew) ?_
              · exact stays_cons vlsSlot_mono (stays_cons prSlot_mono (stays_cons prsSlot_mono (stays_nil _)))
              simp only [List.take_succ_cons, List.take_zero, List.drop_succ_cons, List.drop_zero, Act.put, List.getElem_toArray, List.getElem_cons_zero, List.getElem_cons_succ, List.setIfInBounds_toArray, List.set_cons_succ, List.set_cons_zero]
              refine dw_val rfl rfl rfl ?_; apply Exists.intro; refine ⟨fun wv HC => ?_, ?_⟩
              ·  go_simp <;> rfl
              simp only [Act.put, List.setIfInBounds_toArray, List.set_cons_succ, List.set_cons_zero]
              refine dw_val rfl rfl rfl ?_; apply Exists.intro; refine ⟨fun wv HC => ?_, ?_⟩
              · obtain ⟨⟨f0, f1, f2, f3⟩, f4, f5, f6⟩ := HF.out _ HC; go_simp <;> rfl
              simp only [Act.put, List.setIfInBounds_toArray, List.set_cons_succ, List.set_cons_zero]
              refine dw_val rfl rfl rfl ?_; apply Exists.intro; refine ⟨fun wv HC => ?_, ?_⟩
              ·  go_simp <;> rfl
              simp only [Act.put, List.setIfInBounds_toArray, List.set_cons_succ, List.set_cons_zero]
              refine dw_val rfl rfl rfl ?_; apply Exists.intro; refine ⟨fun wv HC => ?_, ?_⟩
              · obtain ⟨⟨f0, f1, f2, f3⟩, f4, f5, f6⟩ := HF.out _ HC; go_simp <;> rfl
              simp only [Act.put, List.setIfInBounds_toArray, List.set_cons_succ, List.set_cons_zero]
              refine dw_val rfl rfl rfl ?_; apply Exists.intro; refine ⟨fun wv HC => ?_, ?_⟩
              ·  go_simp <;> rfl
              simp only [Act.put, List.setIfInBounds_toArray, List.set_cons_succ, List.set_cons_zero]
              refine dw_val rfl rfl rfl ?_; apply Exists.intro; refine ⟨fun wv HC => ?_, ?_⟩
              · obtain ⟨⟨f0, f1, f2, f3⟩, f4, f5, f6⟩ := HF.out _ HC; go_simp <;> rfl
              simp only [Act.put, List.setIfInBounds_toArray, List.set_cons_succ, List.set_cons_zero]
              refine dw_clone Tryz.elVl 64 (VlsSlot (Mut M KL) xvs) rfl rfl rfl rfl (.const (.slice none 0 0)) (.tmp 63) rfl rfl (A := some ⟨bx, ox, none⟩) (m := n) (c := xc) (ys := vlCells xvs) rfl (one_vls _) (by omega) (by omega) (fun wv HC hD => ((HRX.out _ HC).1).now) (fun C9 c9 wv HC q1 q2 hro => ⟨C9, n, c9, rfl, HXL.out.symm, q1, q2, hro⟩) ?_
              rintro u wx HCx ⟨A64, n64, c64, rfl, -, -, -, -⟩
              clear HCx
              simp only [Act.put, List.setIfInBounds_toArray, List.set_cons_succ, List.set_cons_zero]
              refine dw_val rfl rfl rfl ?_; apply Exists.intro; refine ⟨fun wv HC => ?_, ?_⟩
              ·  go_simp <;> rfl
              simp only [Act.put, List.setIfInBounds_toArray, List.set_cons_succ, List.set_cons_zero]
              refine dw_valC 66 (PrSlot (Mut M KL) (xid, xvs, vs)) rfl rfl rfl rfl (.agg #[.int .i64 xid, .slice A64 n64 c64, .slice (some ⟨ga, 0, none⟩) n cr]) (fun wv HC => ?_) (fun wv HC hD => ?_) ?_
              · go_simp <;> rfl
              · have ha : VlsSlot (Mut M KL) xvs (.slice A64 n64 c64) wv := deps_at hD 6 rfl (by kernel_rfl) rfl rfl
                exact prSlot_of HXO.out.id HXO.out.vs HVS.out.2 ha ⟨_, n, cr, rfl, HVS.out.1.symm, hcr.1, hcr.2, (HRX.out _ HC).2⟩
              simp only [Act.put, List.setIfInBounds_toArray, List.set_cons_succ, List.set_cons_zero]
              refine dw_new #[.int .i64 xid, .slice A64 n64 c64, .slice (some ⟨ga, 0, none⟩) n cr] 110 67 (PrsSlot (Mut M KL) [(xid, xvs, vs)]) (fun g => .slice (some ⟨g, 0, none⟩) 1 1) rfl rfl rfl rfl (fun wv => ?_) (fun wv HC _hrm hD hro => ?_) ?_
              · go_simp <;> rfl
              · have hrr := RM.alloc (Mut M KL) wv (.cells #[.int .i64 xid, .slice A64 n64 c64, .slice (some ⟨ga, 0, none⟩) n cr] 110)
                have h0 : PrSlot (Mut M KL) (xid, xvs, vs) (.agg #[.int .i64 xid, .slice A64 n64 c64, .slice (some ⟨ga, 0, none⟩) n cr]) wv := deps_at hD 8 rfl (by kernel_rfl) rfl rfl
                replace h0 := prSlot_mono _ _ _ hrr h0
                exact prsSlot_one (hro _ HC.mutLt) (fun i j k e1 => Value.agg.inj e1) h0
              rintro g67 wg HCg hsl
              simp only [Act.put, List.setIfInBounds_toArray, List.set_cons_succ, List.set_cons_zero]
              clear hsl HCg
              refine rel_nil ?_
              rintro wx5 HX5
              rintro _hrm HGW
              have hb2 : PrsSlot (Mut M KL) [(xid, xvs, vs)] (.slice (some ⟨g67, 0, none⟩) 1 1) wx5 := (GW_on (d := 67) rfl).1 (HGW 9 _ rfl (by omega))
              clear HGW _hrm
              obtain ⟨Aq, nq, cq, pq, heq, -, -, hpm, hpok, hpr⟩ := hb2
              obtain ⟨rfl, rfl, rfl⟩ : some ⟨g67, 0, none⟩ = Aq ∧ 1 = nq ∧ 1 = cq := by injection heq with h1 h2 h3; exact ⟨h1, h2, h3⟩
              clear heq
              rw [HKL.out] at HX5 hpr
              have HPO := hid (prs_ok_app HPS.out hpok)
              have HPE := hid (show prCells ps ++ prCells pq = prCells (ps ++ pq) by simp [prCells])
              have KA := HX5.add (hpr.imp fun w h => (h.2 : PrVals pq w))
              have k5 := hid ((hpr.imp fun w h => h.1).now)
              clear HX5 hpr hpm hpok HF HRX KN
              have FA := KA.facts
              simp only [World.size_alloc, World.size_drew, factsL, cellsF, Nat.reduceAdd, List.toList_toArray, List.set_cons_zero, List.set_cons_succ, List.setIfInBounds_toArray, and_true, true_and] at FA
              go_wp2_with (at_builtin; go_must (refine wpList_appAllH KA 6 rfl Tryz.elPr k5.out rfl (.tmp 59) (.tmp 67) rfl rfl rfl (prCells_one pq) (by omega) (by omega) ?_); intro C' cap' w6 hc6 hm6 KB; rw [HPE.out] at KB; simp only [List.set_cons_zero, List.set_cons_succ] at KB; (have FB := KB.facts); simp only [World.size_alloc, World.size_drew, factsL, cellsF, Nat.reduceAdd, List.toList_toArray, List.set_cons_zero, List.set_cons_succ, List.setIfInBounds_toArray, and_true, true_and] at FB)
              have KD := KB.store 8 rfl 2 (.slice C' (un + 1) cap')
              have KE := (KD.swapRo 7 rfl (prVals_app (KD.ro 7 rfl) (KD.ro 0 rfl))).drop (List.Sublist.cons _ (List.Sublist.cons _ (List.Sublist.cons _ (List.Sublist.cons _ (List.Sublist.cons _ (List.Sublist.refl _))))))
              go_wp2_with fail
              go_roundw
              case rel => exact ⟨j + 1, dn, dc, un + 1, cap', D, C', dels, ps ++ pq, by omega, by first | rfl | go_num, by omega, by omega, HPO, KE⟩
              case measure => simp [intOf]; omega
          · skip
            have KN := KF8.nil 117 3
            have k5 := hid ((KF8.ro 3 rfl).now)
            go_wp2_with (at_builtin; go_must (refine wpList_appAllH KN 0 rfl Tryz.elVl k5.out rfl (.const (.slice none 0 0)) (.tmp 46) rfl rfl rfl (one_vls _) (by omega) (by omega) ?_); intro C9 cap9 w9 hc9 hm9 KB; (try simp only [Nat.zero_add] at hc9 ⊢); simp only [Nat.zero_add, List.nil_append, List.set_cons_zero, List.set_cons_succ] at KB; (have FB := KB.facts); simp only [World.size_alloc, World.size_drew, factsL, cellsF, Nat.reduceAdd, List.toList_toArray, List.set_cons_zero, List.set_cons_succ, List.setIfInBounds_toArray, and_true, true_and] at FB)
            have KV := KB.drop (List.Sublist.cons_cons _ (List.sublist_cons_self _ _))
            obtain ⟨ga, rfl⟩ : ∃ ga, C9 = some ⟨ga, 0, none⟩ := by
              rcases own_addr (KV.get 0 rfl) with ⟨_, h, _⟩ | ⟨g, h, _⟩
              · omega
              · exact ⟨g, h⟩
            obtain ⟨vs, hvs⟩ : ∃ vs, vs = xvs := ⟨_, rfl⟩
            have HVS := hid (show vs.length = n ∧ ∀ v ∈ vs, v.ok by rw [hvs]; exact ⟨HXL.out, HXO.out.vs⟩)
            replace KV := Hold.renVl hvs KV
            clear hvs KB FB KN KF8 FF8 k5
            obtain ⟨cr, rfl⟩ : ∃ cr, cr = cap9 := ⟨_, rfl⟩
            have hcr := And.intro hc9 hm9
            have FV := KV.facts
            simp only [World.size_alloc, World.size_drew, factsL, cellsF, Nat.reduceAdd, List.toList_toArray, List.set_cons_zero, List.set_cons_succ, List.setIfInBounds_toArray, and_true, true_and] at FV
            go_wp2_with fail
            refine (bool_any T 12 _ (KV.tp_ 13 rfl) (by omega) (by omega)).mono ?_
            rintro e wb ⟨bb, rfl, tb, gb⟩
            have KP := Hold.callT KV 13 rfl gb tb
            clear KV gb tb
            have FP := KP.facts
            simp only [World.size_alloc, World.size_drew, factsL, cellsF, Nat.reduceAdd, List.toList_toArray, List.set_cons_zero, List.set_cons_succ, List.setIfInBounds_toArray, and_true, true_and] at FP
            cases bb
            · skip
              have KC := KP
              clear KP
              have KS := KC.sealRow 0 rfl
              simp only [List.set_cons_zero] at KS
              obtain ⟨KL, hKL, KN⟩ := KS.name
              have HF : Hid (∀ wv, Hold M (some T) w wv KL → (wv.cell? ⟨g5, 0, none⟩ = some (.slice none 0 0) ∧ wv.cell? ⟨g5, 1, none⟩ = some (.slice D dn dc) ∧ wv.cell? ⟨g5, 2, none⟩ = some (.slice U un uc) ∧ g5 < wv.heap.size) ∧ wv.cell? ⟨gr, 0, none⟩ = some (.int .i64 xid) ∧ wv.cell? ⟨gr, 1, none⟩ = some (.slice (some ⟨bx, ox, none⟩) n xc) ∧ gr < wv.heap.size) := hid fun wv HC => by
                rw [hKL] at HC
                have y1 := HC.blk_ 7 rfl
                have y2 := HC.cst_ 1 rfl
                exact ⟨⟨cell_of_row _ _ 0 _ _ _ y1, cell_of_row _ _ 1 _ _ _ y1, cell_of_row _ _ 2 _ _ _ y1, Blk.lt y1⟩, cell_of_row _ _ 0 _ _ _ y2, cell_of_row _ _ 1 _ _ _ y2, Blk.lt y2⟩
              have HRX : Hid (∀ wv, Hold M (some T) w wv KL → Ro wv (Mut M KL) (VlsIn (some ⟨bx, ox, none⟩) n xvs) ∧ Ro wv (Mut M KL) (VlsIn (some ⟨ga, 0, none⟩) n vs)) := hid fun wv HC => by
                rw [hKL] at HC ⊢
                exact ⟨HC.ro 3 rfl, HC.ro 0 rfl⟩
              have HKL := hid hKL
              clear hKL KS KC
              go_wp2_with fail
              refine wp_region_any (by kernel_rfl) ?_
              refine wpAny_hold 10 98 (KL) (spL [(64, VlsSlot (Mut M KL) xvs), (66, PrSlot (Mut M KL) (xid, xvs, vs)), (67, PrsSlot (Mut M KL) [(xid, xvs, vs)])]) (by kernel_rfl) (by kernel_rfl) (by kernel_rfl) rfl ?_ (KN.drew) ?_
              · exact stays_cons vlsSlot_mono (stays_cons prSlot_mono (stays_cons prsSlot_mono (stays_nil _)))
              simp only [List.take_succ_cons, List.take_zero, List.drop_succ_cons, List.drop_zero, Act.put, List.getElem_toArray, List.getElem_cons_zero, List.getElem_cons_succ, List.setIfInBounds_toArray, List.set_cons_succ, List.set_cons_zero]
              refine dw_val rfl rfl rfl ?_; apply Exists.intro; refine ⟨fun wv HC => ?_, ?_⟩
              ·  go_simp <;> rfl
              simp only [Act.put, List.setIfInBounds_toArray, List.set_cons_succ, List.set_cons_zero]
              refine dw_val rfl rfl rfl ?_; apply Exists.intro; refine ⟨fun wv HC => ?_, ?_⟩
              · obtain ⟨⟨f0, f1, f2, f3⟩, f4, f5, f6⟩ := HF.out _ HC; go_simp <;> rfl
              simp only [Act.put, List.setIfInBounds_toArray, List.set_cons_succ, List.set_cons_zero]
              refine dw_val rfl rfl rfl ?_; apply Exists.intro; refine ⟨fun wv HC => ?_, ?_⟩
              ·  go_simp <;> rfl
              simp only [Act.put, List.setIfInBounds_toArray, List.set_cons_succ, List.set_cons_zero]
              refine dw_val rfl rfl rfl ?_; apply Exists.intro; refine ⟨fun wv HC => ?_, ?_⟩
              · obtain ⟨⟨f0, f1, f2, f3⟩, f4, f5, f6⟩ := HF.out _ HC; go_simp <;> rfl
              simp only [Act.put, List.setIfInBounds_toArray, List.set_cons_succ, List.set_cons_zero]
              refine dw_val rfl rfl rfl ?_; apply Exists.intro; refine ⟨fun wv HC => ?_, ?_⟩
              ·  go_simp <;> rfl
              simp only [Act.put, List.setIfInBounds_toArray, List.set_cons_succ, List.set_cons_zero]
              refine dw_val rfl rfl rfl ?_; apply Exists.intro; refine ⟨fun wv HC => ?_, ?_⟩
              · obtain ⟨⟨f0, f1, f2, f3⟩, f4, f5, f6⟩ := HF.out _ HC; go_simp <;> rfl
              simp only [Act.put, List.setIfInBounds_toArray, List.set_cons_succ, List.set_cons_zero]
              refine dw_clone Tryz.elVl 64 (VlsSlot (Mut M KL) xvs) rfl rfl rfl rfl (.const (.slice none 0 0)) (.tmp 63) rfl rfl (A := some ⟨bx, ox, none⟩) (m := n) (c := xc) (ys := vlCells xvs) rfl (one_vls _) (by omega) (by omega) (fun wv HC hD => ((HRX.out _ HC).1).now) (fun C9 c9 wv HC q1 q2 hro => ⟨C9, n, c9, rfl, HXL.out.symm, q1, q2, hro⟩) ?_
              rintro u wx HCx ⟨A64, n64, c64, rfl, -, -, -, -⟩
              clear HCx
              simp only [Act.put, List.setIfInBounds_toArray, List.set_cons_succ, List.set_cons_zero]
              refine dw_val rfl rfl rfl ?_; apply Exists.intro; refine ⟨fun wv HC => ?_, ?_⟩
              ·  go_simp <;> rfl
              simp only [Act.put, List.setIfInBounds_toArray, List.set_cons_succ, List.set_cons_zero]
              refine dw_valC 66 (PrSlot (Mut M KL) (xid, xvs, vs)) rfl rfl rfl rfl (.agg #[.int .i64 xid, .slice A64 n64 c64, .slice (some ⟨ga, 0, none⟩) n cr]) (fun wv HC => ?_) (fun wv HC hD => ?_) ?_
              · go_simp <;> rfl
              · have ha : VlsSlot (Mut M KL) xvs (.slice A64 n64 c64) wv := deps_at hD 6 rfl (by kernel_rfl) rfl rfl
                exact prSlot_of HXO.out.id HXO.out.vs HVS.out.2 ha ⟨_, n, cr, rfl, HVS.out.1.symm, hcr.1, hcr.2, (HRX.out _ HC).2⟩
              simp only [Act.put, List.setIfInBounds_toArray, List.set_cons_succ, List.set_cons_zero]
              refine dw_new #[.int .i64 xid, .slice A64 n64 c64, .slice (some ⟨ga, 0, none⟩) n cr] 110 67 (PrsSlot (Mut M KL) [(xid, xvs, vs)]) (fun g => .slice (some ⟨g, 0, none⟩) 1 1) rfl rfl rfl rfl (fun wv => ?_) (fun wv HC _hrm hD hro => ?_) ?_
              · go_simp <;> rfl
              · have hrr := RM.alloc (Mut M KL) wv (.cells #[.int .i64 xid, .slice A64 n64 c64, .slice (some ⟨ga, 0, none⟩) n cr] 110)
                have h0 : PrSlot (Mut M KL) (xid, xvs, vs) (.agg #[.int .i64 xid, .slice A64 n64 c64, .slice (some ⟨ga, 0, none⟩) n cr]) wv := deps_at hD 8 rfl (by kernel_rfl) rfl rfl
                replace h0 := prSlot_mono _ _ _ hrr h0
                exact prsSlot_one (hro _ HC.mutLt) (fun i j k e1 => Value.agg.inj e1) h0
              rintro g67 wg HCg hsl
              simp only [Act.put, List.setIfInBounds_toArray, List.set_cons_succ, List.set_cons_zero]
              clear hsl HCg
              refine rel_nil ?_
              rintro wx5 HX5
              rintro _hrm HGW
              have hb2 : PrsSlot (Mut M KL) [(xid, xvs, vs)] (.slice (some ⟨g67, 0, none⟩) 1 1) wx5 := (GW_on (d := 67) rfl).1 (HGW 9 _ rfl (by omega))
              clear HGW _hrm
              obtain ⟨Aq, nq, cq, pq, heq, -, -, hpm, hpok, hpr⟩ := hb2
              obtain ⟨rfl, rfl, rfl⟩ : some ⟨g67, 0, none⟩ = Aq ∧ 1 = nq ∧ 1 = cq := by injection heq with h1 h2 h3; exact ⟨h1, h2, h3⟩
              clear heq
              rw [HKL.out] at HX5 hpr
              have HPO := hid (prs_ok_app HPS.out hpok)
              have HPE := hid (show prCells ps ++ prCells pq = prCells (ps ++ pq) by simp [prCells])
              have KA := HX5.add (hpr.imp fun w h => (h.2 : PrVals pq w))
              have k5 := hid ((hpr.imp fun w h => h.1).now)
              clear HX5 hpr hpm hpok HF HRX KN
              have FA := KA.facts
              simp only [World.size_alloc, World.size_drew, factsL, cellsF, Nat.reduceAdd, List.toList_toArray, List.set_cons_zero, List.set_cons_succ, List.setIfInBounds_toArray, and_true, true_and] at FA
              go_wp2_with (at_builtin; go_must (refine wpList_appAllH KA 6 rfl Tryz.elPr k5.out rfl (.tmp 59) (.tmp 67) rfl rfl rfl (prCells_one pq) (by omega) (by omega) ?_); intro C' cap' w6 hc6 hm6 KB; rw [HPE.out] at KB; simp only [List.set_cons_zero, List.set_cons_succ] at KB; (have FB := KB.facts); simp only [World.size_alloc, World.size_drew, factsL, cellsF, Nat.reduceAdd, List.toList_toArray, List.set_cons_zero, List.set_cons_succ, List.setIfInBounds_toArray, and_true, true_and] at FB)
              have KD := KB.store 8 rfl 2 (.slice C' (un + 1) cap')
              have KE := (KD.swapRo 7 rfl (prVals_app (KD.ro 7 rfl) (KD.ro 0 rfl))).drop (List.Sublist.cons _ (List.Sublist.cons _ (List.Sublist.cons _ (List.Sublist.cons _ (List.Sublist.cons _ (List.Sublist.refl _))))))
              go_wp2_with fail
              go_roundw
              case rel => exact ⟨j + 1, dn, dc, un + 1, cap', D, C', dels, ps ++ pq, by omega, by first | rfl | go_num, by omega, by omega, HPO, KE⟩
              case measure => simp [intOf]; omega
            · skip
              go_wp2_with fail
              refine (next_any T (n : Int) _ (KP.tp_ 13 rfl) (by omega) (by omega)).mono ?_
              rintro e wc ⟨q, rfl, q0, q1, tc, gc⟩
              obtain ⟨q, rfl⟩ := Int.eq_ofNat_of_zero_le q0
              have KQ := Hold.callT KP 13 rfl gc tc
              clear KP gc tc FP
              have FQ := KQ.facts
              simp only [World.size_alloc, World.size_drew, factsL, cellsF, Nat.reduceAdd, List.toList_toArray, List.set_cons_zero, List.set_cons_succ, List.setIfInBounds_toArray, and_true, true_and] at FQ
              go_wp2_with fail
              refine (value_any T _ (KQ.tp_ 13 rfl) (KQ.ro 10 rfl).now hT).mono ?_
              rintro e wd ⟨kv, iv, sv, rfl, hv, hsv, hiv, td, _, gd⟩
              have KR := Hold.callT KQ 13 rfl gd td
              clear KQ gd td FQ
              have HQL := hid (show q < vs.length by have := HVS.out.1; omega)
              obtain ⟨uq, huq⟩ : ∃ uq, vs[q]? = some uq := ⟨_, List.getElem?_eq_getElem HQL.out⟩
              obtain ⟨⟨z0, z1, z2⟩, ⟨z3, z4, z5⟩, z6⟩ := own_vl (KR.get 0 rfl) huq
              clear huq
              have KC := KR.putVl 0 rfl q HQL.out ⟨kv, iv, sv⟩
              simp only [List.set_cons_zero] at KC
              have HVS := hid (show (vs.set q ⟨kv, iv, sv⟩).length = n ∧ ∀ v ∈ vs.set q ⟨kv, iv, sv⟩, v.ok from ⟨by rw [List.length_set]; exact HVS.out.1, oks_set HVS.out.2 ⟨validB_k hv, hiv, by show sv.size ≤ maxLen; unfold maxLen; omega⟩⟩)
              clear hv KR
              generalize vs.set q ⟨kv, iv, sv⟩ = vs at HVS KC
              have FC := KC.facts
              simp only [World.size_alloc, World.size_drew, factsL, cellsF, Nat.reduceAdd, List.toList_toArray, List.set_cons_zero, List.set_cons_succ, List.setIfInBounds_toArray, and_true, true_and] at FC
              have KS := KC.sealRow 0 rfl
              simp only [List.set_cons_zero] at KS
              obtain ⟨KL, hKL, KN⟩ := KS.name
              have HF : Hid (∀ wv, Hold M (some T) w wv KL → (wv.cell? ⟨g5, 0, none⟩ = some (.slice none 0 0) ∧ wv.cell? ⟨g5, 1, none⟩ = some (.slice D dn dc) ∧ wv.cell? ⟨g5, 2, none⟩ = some (.slice U un uc) ∧ g5 < wv.heap.size) ∧ wv.cell? ⟨gr, 0, none⟩ = some (.int .i64 xid) ∧ wv.cell? ⟨gr, 1, none⟩ = some (.slice (some ⟨bx, ox, none⟩) n xc) ∧ gr < wv.heap.size) := hid fun wv HC => by
                rw [hKL] at HC
                have y1 := HC.blk_ 7 rfl
                have y2 := HC.cst_ 1 rfl
                exact ⟨⟨cell_of_row _ _ 0 _ _ _ y1, cell_of_row _ _ 1 _ _ _ y1, cell_of_row _ _ 2 _ _ _ y1, Blk.lt y1⟩, cell_of_row _ _ 0 _ _ _ y2, cell_of_row _ _ 1 _ _ _ y2, Blk.lt y2⟩
              have HRX : Hid (∀ wv, Hold M (some T) w wv KL → Ro wv (Mut M KL) (VlsIn (some ⟨bx, ox, none⟩) n xvs) ∧ Ro wv (Mut M KL) (VlsIn (some ⟨ga, 0, none⟩) n vs)) := hid fun wv HC => by
                rw [hKL] at HC ⊢
                exact ⟨HC.ro 3 rfl, HC.ro 0 rfl⟩
              have HKL := hid hKL
              clear hKL KS KC
              go_wp2_with fail
              refine wp_region_any (by kernel_rfl) ?_
              refine wpAny_hold 10 98 (KL) (spL [(64, VlsSlot (Mut M KL) xvs), (66, PrSlot (Mut M KL) (xid, xvs, vs)), (67, PrsSlot (Mut M KL) [(xid, xvs, vs)])]) (by kernel_rfl) (by kernel_rfl) (by kernel_rfl) rfl ?_ (KN.drew) ?_
              · exact stays_cons vlsSlot_mono (stays_cons prSlot_mono (stays_cons prsSlot_mono (stays_nil _)))
              simp only [List.take_succ_cons, List.take_zero, List.drop_succ_cons, List.drop_zero, Act.put, List.getElem_toArray, List.getElem_cons_zero, List.getElem_cons_succ, List.setIfInBounds_toArray, List.set_cons_succ, List.set_cons_zero]
              refine dw_val rfl rfl rfl ?_; apply Exists.intro; refine ⟨fun wv HC => ?_, ?_⟩
              ·  go_simp <;> rfl
              simp only [Act.put, List.setIfInBounds_toArray, List.set_cons_succ, List.set_cons_zero]
              refine dw_val rfl rfl rfl ?_; apply Exists.intro; refine ⟨fun wv HC => ?_, ?_⟩
              · obtain ⟨⟨f0, f1, f2, f3⟩, f4, f5, f6⟩ := HF.out _ HC; go_simp <;> rfl
              simp only [Act.put, List.setIfInBounds_toArray, List.set_cons_succ, List.set_cons_zero]
              refine dw_val rfl rfl rfl ?_; apply Exists.intro; refine ⟨fun wv HC => ?_, ?_⟩
              ·  go_simp <;> rfl
              simp only [Act.put, List.setIfInBounds_toArray, List.set_cons_succ, List.set_cons_zero]
              refine dw_val rfl rfl rfl ?_; apply Exists.intro; refine ⟨fun wv HC => ?_, ?_⟩
              · obtain ⟨⟨f0, f1, f2, f3⟩, f4, f5, f6⟩ := HF.out _ HC; go_simp <;> rfl
              simp only [Act.put, List.setIfInBounds_toArray, List.set_cons_succ, List.set_cons_zero]
              refine dw_val rfl rfl rfl ?_; apply Exists.intro; refine ⟨fun wv HC => ?_, ?_⟩
              ·  go_simp <;> rfl
              simp only [Act.put, List.setIfInBounds_toArray, List.set_cons_succ, List.set_cons_zero]
              refine dw_val rfl rfl rfl ?_; apply Exists.intro; refine ⟨fun wv HC => ?_, ?_⟩
              · obtain ⟨⟨f0, f1, f2, f3⟩, f4, f5, f6⟩ := HF.out _ HC; go_simp <;> rfl
              simp only [Act.put, List.setIfInBounds_toArray, List.set_cons_succ, List.set_cons_zero]
              refine dw_clone Tryz.elVl 64 (VlsSlot (Mut M KL) xvs) rfl rfl rfl rfl (.const (.slice none 0 0)) (.tmp 63) rfl rfl (A := some ⟨bx, ox, none⟩) (m := n) (c := xc) (ys := vlCells xvs) rfl (one_vls _) (by omega) (by omega) (fun wv HC hD => ((HRX.out _ HC).1).now) (fun C9 c9 wv HC q1 q2 hro => ⟨C9, n, c9, rfl, HXL.out.symm, q1, q2, hro⟩) ?_
              rintro u wx HCx ⟨A64, n64, c64, rfl, -, -, -, -⟩
              clear HCx
              simp only [Act.put, List.setIfInBounds_toArray, List.set_cons_succ, List.set_cons_zero]
              refine dw_val rfl rfl rfl ?_; apply Exists.intro; refine ⟨fun wv HC => ?_, ?_⟩
              ·  go_simp <;> rfl
              simp only [Act.put, List.setIfInBounds_toArray, List.set_cons_succ, List.set_cons_zero]
              refine dw_valC 66 (PrSlot (Mut M KL) (xid, xvs, vs)) rfl rfl rfl rfl (.agg #[.int .i64 xid, .slice A64 n64 c64, .slice (some ⟨ga, 0, none⟩) n cr]) (fun wv HC => ?_) (fun wv HC hD => ?_) ?_
              · go_simp <;> rfl
              · have ha : VlsSlot (Mut M KL) xvs (.slice A64 n64 c64) wv := deps_at hD 6 rfl (by kernel_rfl) rfl rfl
                exact prSlot_of HXO.out.id HXO.out.vs HVS.out.2 ha ⟨_, n, cr, rfl, HVS.out.1.symm, hcr.1, hcr.2, (HRX.out _ HC).2⟩
              simp only [Act.put, List.setIfInBounds_toArray, List.set_cons_succ, List.set_cons_zero]
              refine dw_new #[.int .i64 xid, .slice A64 n64 c64, .slice (some ⟨ga, 0, none⟩) n cr] 110 67 (PrsSlot (Mut M KL) [(xid, xvs, vs)]) (fun g => .slice (some ⟨g, 0, none⟩) 1 1) rfl rfl rfl rfl (fun wv => ?_) (fun wv HC _hrm hD hro => ?_) ?_
              · go_simp <;> rfl
              · have hrr := RM.alloc (Mut M KL) wv (.cells #[.int .i64 xid, .slice A64 n64 c64, .slice (some ⟨ga, 0, none⟩) n cr] 110)
                have h0 : PrSlot (Mut M KL) (xid, xvs, vs) (.agg #[.int .i64 xid, .slice A64 n64 c64, .slice (some ⟨ga, 0, none⟩) n cr]) wv := deps_at hD 8 rfl (by kernel_rfl) rfl rfl
                replace h0 := prSlot_mono _ _ _ hrr h0
                exact prsSlot_one (hro _ HC.mutLt) (fun i j k e1 => Value.agg.inj e1) h0
              rintro g67 wg HCg hsl
              simp only [Act.put, List.setIfInBounds_toArray, List.set_cons_succ, List.set_cons_zero]
              clear hsl HCg
              refine rel_nil ?_
              rintro wx5 HX5
              rintro _hrm HGW
              have hb2 : PrsSlot (Mut M KL) [(xid, xvs, vs)] (.slice (some ⟨g67, 0, none⟩) 1 1) wx5 := (GW_on (d := 67) rfl).1 (HGW 9 _ rfl (by omega))
              clear HGW _hrm
              obtain ⟨Aq, nq, cq, pq, heq, -, -, hpm, hpok, hpr⟩ := hb2
              obtain ⟨rfl, rfl, rfl⟩ : some ⟨g67, 0, none⟩ = Aq ∧ 1 = nq ∧ 1 = cq := by injection heq with h1 h2 h3; exact ⟨h1, h2, h3⟩
              clear heq
              rw [HKL.out] at HX5 hpr
              have HPO := hid (prs_ok_app HPS.out hpok)
              have HPE := hid (show prCells ps ++ prCells pq = prCells (ps ++ pq) by simp [prCells])
              have KA := HX5.add (hpr.imp fun w h => (h.2 : PrVals pq w))
              have k5 := hid ((hpr.imp fun w h => h.1).now)
              clear HX5 hpr hpm hpok HF HRX KN
              have FA := KA.facts
              simp only [World.size_alloc, World.size_drew, factsL, cellsF, Nat.reduceAdd, List.toList_toArray, List.set_cons_zero, List.set_cons_succ, List.setIfInBounds_toArray, and_true, true_and] at FA
              go_wp2_with (at_builtin; go_must (refine wpList_appAllH KA 6 rfl Tryz.elPr k5.out rfl (.tmp 59) (.tmp 67) rfl rfl rfl (prCells_one pq) (by omega) (by omega) ?_); intro C' cap' w6 hc6 hm6 KB; rw [HPE.out] at KB; simp only [List.set_cons_zero, List.set_cons_succ] at KB; (have FB := KB.facts); simp only [World.size_alloc, World.size_drew, factsL, cellsF, Nat.reduceAdd, List.toList_toArray, List.set_cons_zero, List.set_cons_succ, List.setIfInBounds_toArray, and_true, true_and] at FB)
              have KD := KB.store 8 rfl 2 (.slice C' (un + 1) cap')
              have KE := (KD.swapRo 7 rfl (prVals_app (KD.ro 7 rfl) (KD.ro 0 rfl))).drop (List.Sublist.cons _ (List.Sublist.cons _ (List.Sublist.cons _ (List.Sublist.cons _ (List.Sublist.cons _ (List.Sublist.refl _))))))
              go_wp2_with fail
              go_roundw
              case rel => exact ⟨j + 1, dn, dc, un + 1, cap', D, C', dels, ps ++ pq, by omega, by first | rfl | go_num, by omega, by omega, HPO, KE⟩
              case measure => simp [intOf]; omega
        · skip
          obtain ⟨uq, huq⟩ : ∃ uq, vs[0]? = some uq := ⟨_, List.getElem?_eq_getElem (by have := HVS.out.1; omega)⟩
          obtain ⟨⟨y0, y1, y2⟩, ⟨y3, y4, y5⟩, y6⟩ := own_vl (K4.get 0 rfl) huq
          have ⟨x0, x1, x2, x3⟩ := (K4.ro 2 rfl).now
          clear huq
          have KE8 := K4.putVl 0 rfl 0 (by have := HVS.out.1; omega) v0
          simp only [Nat.zero_mul, Nat.zero_add, List.set_cons_zero] at KE8 y0 y1 y2 y3 y4 y5
          have HVS := hid (show (vs.set 0 v0).length = n ∧ ∀ v ∈ vs.set 0 v0, v.ok from ⟨by rw [List.length_set]; exact HVS.out.1, oks_set HVS.out.2 HV0.out⟩)
          generalize vs.set 0 v0 = vs at HVS KE8
          clear K4
          have FE8 := KE8.facts
          simp only [World.size_alloc, World.size_drew, factsL, cellsF, Nat.reduceAdd, List.toList_toArray, List.set_cons_zero, List.set_cons_succ, List.setIfInBounds_toArray, and_true, true_and] at FE8
          go_wp2_with fail
          refine (bool_any T 8 _ (KE8.tp_ 13 rfl) (by omega) (by omega)).mono ?_
          rintro e wb ⟨bb, rfl, tb, gb⟩
          have KF8 := Hold.callT KE8 13 rfl gb tb
          clear KE8 gb tb
          have FF8 := KF8.facts
          simp only [World.size_alloc, World.size_drew, factsL, cellsF, Nat.reduceAdd, List.toList_toArray, List.set_cons_zero, List.set_cons_succ, List.setIfInBounds_toArray, and_true, true_and] at FF8
          cases bb
          · skip
            have KV := KF8
            clear KF8
            go_wp2_with fail
            refine (bool_any T 12 _ (KV.tp_ 13 rfl) (by omega) (by omega)).mono ?_
            rintro e wb ⟨bb, rfl, tb, gb⟩
            have KP := Hold.callT KV 13 rfl gb tb
            clear KV gb tb
            have FP := KP.facts
            simp only [World.size_alloc, World.size_drew, factsL, cellsF, Nat.reduceAdd, List.toList_toArray, List.set_cons_zero, List.set_cons_succ, List.setIfInBounds_toArray, and_true, true_and] at FP
            cases bb
            · skip
              have KC := KP
              clear KP
              have KS := KC.sealRow 0 rfl
              simp only [List.set_cons_zero] at KS
              obtain ⟨KL, hKL, KN⟩ := KS.name
              have HF : Hid (∀ wv, Hold M (some T) w wv KL → (wv.cell? ⟨g5, 0, none⟩ = some (.slice none 0 0) ∧ wv.cell? ⟨g5, 1, none⟩ = some (.slice D dn dc) ∧ wv.cell? ⟨g5, 2, none⟩ = some (.slice U un uc) ∧ g5 < wv.heap.size) ∧ wv.cell? ⟨gr, 0, none⟩ = some (.int .i64 xid) ∧ wv.cell? ⟨gr, 1, none⟩ = some (.slice (some ⟨bx, ox, none⟩) n xc) ∧ gr < wv.heap.size) := hid fun wv HC => by
                rw [hKL] at HC
                have y1 := HC.blk_ 7 rfl
                have y2 := HC.cst_ 1 rfl
                exact ⟨⟨cell_of_row _ _ 0 _ _ _ y1, cell_of_row _ _ 1 _ _ _ y1, cell_of_row _ _ 2 _ _ _ y1, Blk.lt y1⟩, cell_of_row _ _ 0 _ _ _ y2, cell_of_row _ _ 1 _ _ _ y2, Blk.lt y2⟩
              have HRX : Hid (∀ wv, Hold M (some T) w wv KL → Ro wv (Mut M KL) (VlsIn (some ⟨bx, ox, none⟩) n xvs) ∧ Ro wv (Mut M KL) (VlsIn (some ⟨ga, 0, none⟩) n vs)) := hid fun wv HC => by
                rw [hKL] at HC ⊢
                exact ⟨HC.ro 3 rfl, HC.ro 0 rfl⟩
              have HKL := hid hKL
              clear hKL KS KC
              go_wp2_with fail
              refine wp_region_any (by kernel_rfl) ?_
              refine wpAny_hold 10 98 (KL) (spL [(64, VlsSlot (Mut M KL) xvs), (66, PrSlot (Mut M KL) (xid, xvs, vs)), (67, PrsSlot (Mut M KL) [(xid, xvs, vs)])]) (by kernel_rfl) (by kernel_rfl) (by kernel_rfl) rfl ?_ (KN.drew) ?_
              · exact stays_cons vlsSlot_mono (stays_cons prSlot_mono (stays_cons prsSlot_mono (stays_nil _)))
              simp only [List.take_succ_cons, List.take_zero, List.drop_succ_cons, List.drop_zero, Act.put, List.getElem_toArray, List.getElem_cons_zero, List.getElem_cons_succ, List.setIfInBounds_toArray, List.set_cons_succ, List.set_cons_zero]
              refine dw_val rfl rfl rfl ?_; apply Exists.intro; refine ⟨fun wv HC => ?_, ?_⟩
              ·  go_simp <;> rfl
              simp only [Act.put, List.setIfInBounds_toArray, List.set_cons_succ, List.set_cons_zero]
              refine dw_val rfl rfl rfl ?_; apply Exists.intro; refine ⟨fun wv HC => ?_, ?_⟩
              · obtain ⟨⟨f0, f1, f2, f3⟩, f4, f5, f6⟩ := HF.out _ HC; go_simp <;> rfl
              simp only [Act.put, List.setIfInBounds_toArray, List.set_cons_succ, List.set_cons_zero]
              refine dw_val rfl rfl rfl ?_; apply Exists.intro; refine ⟨fun wv HC => ?_, ?_⟩
              ·  go_simp <;> rfl
              simp only [Act.put, List.setIfInBounds_toArray, List.set_cons_succ, List.set_cons_zero]
              refine dw_val rfl rfl rfl ?_; apply Exists.intro; refine ⟨fun wv HC => ?_, ?_⟩
              · obtain ⟨⟨f0, f1, f2, f3⟩, f4, f5, f6⟩ := HF.out _ HC; go_simp <;> rfl
              simp only [Act.put, List.setIfInBounds_toArray, List.set_cons_succ, List.set_cons_zero]
              refine dw_val rfl rfl rfl ?_; apply Exists.intro; refine ⟨fun wv HC => ?_, ?_⟩
              ·  go_simp <;> rfl
              simp only [Act.put, List.setIfInBounds_toArray, List.set_cons_succ, List.set_cons_zero]
              refine dw_val rfl rfl rfl ?_; apply Exists.intro; refine ⟨fun wv HC => ?_, ?_⟩
              · obtain ⟨⟨f0, f1, f2, f3⟩, f4, f5, f6⟩ := HF.out _ HC; go_simp <;> rfl
              simp only [Act.put, List.setIfInBounds_toArray, List.set_cons_succ, List.set_cons_zero]
              refine dw_clone Tryz.elVl 64 (VlsSlot (Mut M KL) xvs) rfl rfl rfl rfl (.const (.slice none 0 0)) (.tmp 63) rfl rfl (A := some ⟨bx, ox, none⟩) (m := n) (c := xc) (ys := vlCells xvs) rfl (one_vls _) (by omega) (by omega) (fun wv HC hD => ((HRX.out _ HC).1).now) (fun C9 c9 wv HC q1 q2 hro => ⟨C9, n, c9, rfl, HXL.out.symm, q1, q2, hro⟩) ?_
              rintro u wx HCx ⟨A64, n64, c64, rfl, -, -, -, -⟩
              clear HCx
              simp only [Act.put, List.setIfInBounds_toArray, List.set_cons_succ, List.set_cons_zero]
              refine dw_val rfl rfl rfl ?_; apply Exists.intro; refine ⟨fun wv HC => ?_, ?_⟩
              ·  go_simp <;> rfl
              simp only [Act.put, List.setIfInBounds_toArray, List.set_cons_succ, List.set_cons_zero]
              refine dw_valC 66 (PrSlot (Mut M KL) (xid, xvs, vs)) rfl rfl rfl rfl (.agg #[.int .i64 xid, .slice A64 n64 c64, .slice (some ⟨ga, 0, none⟩) n cr]) (fun wv HC => ?_) (fun wv HC hD => ?_) ?_
              · go_simp <;> rfl
              · have ha : VlsSlot (Mut M KL) xvs (.slice A64 n64 c64) wv := deps_at hD 6 rfl (by kernel_rfl) rfl rfl
                exact prSlot_of HXO.out.id HXO.out.vs HVS.out.2 ha ⟨_, n, cr, rfl, HVS.out.1.symm, hcr.1, hcr.2, (HRX.out _ HC).2⟩
              simp only [Act.put, List.setIfInBounds_toArray, List.set_cons_succ, List.set_cons_zero]
              refine dw_new #[.int .i64 xid, .slice A64 n64 c64, .slice (some ⟨ga, 0, none⟩) n cr] 110 67 (PrsSlot (Mut M KL) [(xid, xvs, vs)]) (fun g => .slice (some ⟨g, 0, none⟩) 1 1) rfl rfl rfl rfl (fun wv => ?_) (fun wv HC _hrm hD hro => ?_) ?_
              · go_simp <;> rfl
              · have hrr := RM.alloc (Mut M KL) wv (.cells #[.int .i64 xid, .slice A64 n64 c64, .slice (some ⟨ga, 0, none⟩) n cr] 110)
                have h0 : PrSlot (Mut M KL) (xid, xvs, vs) (.agg #[.int .i64 xid, .slice A64 n64 c64, .slice (some ⟨ga, 0, none⟩) n cr]) wv := deps_at hD 8 rfl (by kernel_rfl) rfl rfl
                replace h0 := prSlot_mono _ _ _ hrr h0
                exact prsSlot_one (hro _ HC.mutLt) (fun i j k e1 => Value.agg.inj e1) h0
              rintro g67 wg HCg hsl
              simp only [Act.put, List.setIfInBounds_toArray, List.set_cons_succ, List.set_cons_zero]
              clear hsl HCg
              refine rel_nil ?_
              rintro wx5 HX5
              rintro _hrm HGW
              have hb2 : PrsSlot (Mut M KL) [(xid, xvs, vs)] (.slice (some ⟨g67, 0, none⟩) 1 1) wx5 := (GW_on (d := 67) rfl).1 (HGW 9 _ rfl (by omega))
              clear HGW _hrm
              obtain ⟨Aq, nq, cq, pq, heq, -, -, hpm, hpok, hpr⟩ := hb2
              obtain ⟨rfl, rfl, rfl⟩ : some ⟨g67, 0, none⟩ = Aq ∧ 1 = nq ∧ 1 = cq := by injection heq with h1 h2 h3; exact ⟨h1, h2, h3⟩
              clear heq
              rw [HKL.out] at HX5 hpr
              have HPO := hid (prs_ok_app HPS.out hpok)
              have HPE := hid (show prCells ps ++ prCells pq = prCells (ps ++ pq) by simp [prCells])
              have KA := HX5.add (hpr.imp fun w h => (h.2 : PrVals pq w))
              have k5 := hid ((hpr.imp fun w h => h.1).now)
              clear HX5 hpr hpm hpok HF HRX KN
              have FA := KA.facts
              simp only [World.size_alloc, World.size_drew, factsL, cellsF, Nat.reduceAdd, List.toList_toArray, List.set_cons_zero, List.set_cons_succ, List.setIfInBounds_toArray, and_true, true_and] at FA
              go_wp2_with (at_builtin; go_must (refine wpList_appAllH KA 6 rfl Tryz.elPr k5.out rfl (.tmp 59) (.tmp 67) rfl rfl rfl (prCells_one pq) (by omega) (by omega) ?_); intro C' cap' w6 hc6 hm6 KB; rw [HPE.out] at KB; simp only [List.set_cons_zero, List.set_cons_succ] at KB; (have FB := KB.facts); simp only [World.size_alloc, World.size_drew, factsL, cellsF, Nat.reduceAdd, List.toList_toArray, List.set_cons_zero, List.set_cons_succ, List.setIfInBounds_toArray, and_true, true_and] at FB)
              have KD := KB.store 8 rfl 2 (.slice C' (un + 1) cap')
              have KE := (KD.swapRo 7 rfl (prVals_app (KD.ro 7 rfl) (KD.ro 0 rfl))).drop (List.Sublist.cons _ (List.Sublist.cons _ (List.Sublist.cons _ (List.Sublist.cons _ (List.Sublist.cons _ (List.Sublist.refl _))))))
              go_wp2_with fail
              go_roundw
              case rel => exact ⟨j + 1, dn, dc, un + 1, cap', D, C', dels, ps ++ pq, by omega, by first | rfl | go_num, by omega, by omega, HPO, KE⟩
              case measure => simp [intOf]; omega
            · skip
              go_wp2_with fail
              refine (next_any T (n : Int) _ (KP.tp_ 13 rfl) (by omega) (by omega)).mono ?_
              rintro e wc ⟨q, rfl, q0, q1, tc, gc⟩
              obtain ⟨q, rfl⟩ := Int.eq_ofNat_of_zero_le q0
              have KQ := Hold.callT KP 13 rfl gc tc
              clear KP gc tc FP
              have FQ := KQ.facts
              simp only [World.size_alloc, World.size_drew, factsL, cellsF, Nat.reduceAdd, List.toList_toArray, List.set_cons_zero, List.set_cons_succ, List.setIfInBounds_toArray, and_true, true_and] at FQ
              go_wp2_with fail
              refine (value_any T _ (KQ.tp_ 13 rfl) (KQ.ro 10 rfl).now hT).mono ?_
              rintro e wd ⟨kv, iv, sv, rfl, hv, hsv, hiv, td, _, gd⟩
              have KR := Hold.callT KQ 13 rfl gd td
              clear KQ gd td FQ
              have HQL := hid (show q < vs.length by have := HVS.out.1; omega)
              obtain ⟨uq, huq⟩ : ∃ uq, vs[q]? = some uq := ⟨_, List.getElem?_eq_getElem HQL.out⟩
              obtain ⟨⟨z0, z1, z2⟩, ⟨z3, z4, z5⟩, z6⟩ := own_vl (KR.get 0 rfl) huq
              clear huq
              have KC := KR.putVl 0 rfl q HQL.out ⟨kv, iv, sv⟩
              simp only [List.set_cons_zero] at KC
              have HVS := hid (show (vs.set q ⟨kv, iv, sv⟩).length = n ∧ ∀ v ∈ vs.set q ⟨kv, iv, sv⟩, v.ok from ⟨by rw [List.length_set]; exact HVS.out.1, oks_set HVS.out.2 ⟨validB_k hv, hiv, by show sv.size ≤ maxLen; unfold maxLen; omega⟩⟩)
              clear hv KR
              generalize vs.set q ⟨kv, iv, sv⟩ = vs at HVS KC
              have FC := KC.facts
              simp only [World.size_alloc, World.size_drew, factsL, cellsF, Nat.reduceAdd, List.toList_toArray, List.set_cons_zero, List.set_cons_succ, List.setIfInBounds_toArray, and_true, true_and] at FC
              have KS := KC.sealRow 0 rfl
              simp only [List.set_cons_zero] at KS
              obtain ⟨KL, hKL, KN⟩ := KS.name
              have HF : Hid (∀ wv, Hold M (some T) w wv KL → (wv.cell? ⟨g5, 0, none⟩ = some (.slice none 0 0) ∧ wv.cell? ⟨g5, 1, none⟩ = some (.slice D dn dc) ∧ wv.cell? ⟨g5, 2, none⟩ = some (.slice U un uc) ∧ g5 < wv.heap.size) ∧ wv.cell? ⟨gr, 0, none⟩ = some (.int .i64 xid) ∧ wv.cell? ⟨gr, 1, none⟩ = some (.slice (some ⟨bx, ox, none⟩) n xc) ∧ gr < wv.heap.size) := hid fun wv HC => by
                rw [hKL] at HC
                have y1 := HC.blk_ 7 rfl
                have y2 := HC.cst_ 1 rfl
                exact ⟨⟨cell_of_row _ _ 0 _ _ _ y1, cell_of_row _ _ 1 _ _ _ y1, cell_of_row _ _ 2 _ _ _ y1, Blk.lt y1⟩, cell_of_row _ _ 0 _ _ _ y2, cell_of_row _ _ 1 _ _ _ y2, Blk.lt y2⟩
              have HRX : Hid (∀ wv, Hold M (some T) w wv KL → Ro wv (Mut M KL) (VlsIn (some ⟨bx, ox, none⟩) n xvs) ∧ Ro wv (Mut M KL) (VlsIn (some ⟨ga, 0, none⟩) n vs)) := hid fun wv HC => by
                rw [hKL] at HC ⊢
                exact ⟨HC.ro 3 rfl, HC.ro 0 rfl⟩
              have HKL := hid hKL
              clear hKL KS KC
              go_wp2_with fail
              refine wp_region_any (by kernel_rfl) ?_
              refine wpAny_hold 10 98 (KL) (spL [(64, VlsSlot (Mut M KL) xvs), (66, PrSlot (Mut M KL) (xid, xvs, vs)), (67, PrsSlot (Mut M KL) [(xid, xvs, vs)])]) (by kernel_rfl) (by kernel_rfl) (by kernel_rfl) rfl ?_ (KN.drew) ?_
              · exact stays_cons vlsSlot_mono (stays_cons prSlot_mono (stays_cons prsSlot_mono (stays_nil _)))
              simp only [List.take_succ_cons, List.take_zero, List.drop_succ_cons, List.drop_zero, Act.put, List.getElem_toArray, List.getElem_cons_zero, List.getElem_cons_succ, List.setIfInBounds_toArray, List.set_cons_succ, List.set_cons_zero]
              refine dw_val rfl rfl rfl ?_; apply Exists.intro; refine ⟨fun wv HC => ?_, ?_⟩
              ·  go_simp <;> rfl
              simp only [Act.put, List.setIfInBounds_toArray, List.set_cons_succ, List.set_cons_zero]
              refine dw_val rfl rfl rfl ?_; apply Exists.intro; refine ⟨fun wv HC => ?_, ?_⟩
              · obtain ⟨⟨f0, f1, f2, f3⟩, f4, f5, f6⟩ := HF.out _ HC; go_simp <;> rfl
              simp only [Act.put, List.setIfInBounds_toArray, List.set_cons_succ, List.set_cons_zero]
              refine dw_val rfl rfl rfl ?_; apply Exists.intro; refine ⟨fun wv HC => ?_, ?_⟩
              ·  go_simp <;> rfl
              simp only [Act.put, List.setIfInBounds_toArray, List.set_cons_succ, List.set_cons_zero]
              refine dw_val rfl rfl rfl ?_; apply Exists.intro; refine ⟨fun wv HC => ?_, ?_⟩
              · obtain ⟨⟨f0, f1, f2, f3⟩, f4, f5, f6⟩ := HF.out _ HC; go_simp <;> rfl
              simp only [Act.put, List.setIfInBounds_toArray, List.set_cons_succ, List.set_cons_zero]
              refine dw_val rfl rfl rfl ?_; apply Exists.intro; refine ⟨fun wv HC => ?_, ?_⟩
              ·  go_simp <;> rfl
              simp only [Act.put, List.setIfInBounds_toArray, List.set_cons_succ, List.set_cons_zero]
              refine dw_val rfl rfl rfl ?_; apply Exists.intro; refine ⟨fun wv HC => ?_, ?_⟩
              · obtain ⟨⟨f0, f1, f2, f3⟩, f4, f5, f6⟩ := HF.out _ HC; go_simp <;> rfl
              simp only [Act.put, List.setIfInBounds_toArray, List.set_cons_succ, List.set_cons_zero]
              refine dw_clone Tryz.elVl 64 (VlsSlot (Mut M KL) xvs) rfl rfl rfl rfl (.const (.slice none 0 0)) (.tmp 63) rfl rfl (A := some ⟨bx, ox, none⟩) (m := n) (c := xc) (ys := vlCells xvs) rfl (one_vls _) (by omega) (by omega) (fun wv HC hD => ((HRX.out _ HC).1).now) (fun C9 c9 wv HC q1 q2 hro => ⟨C9, n, c9, rfl, HXL.out.symm, q1, q2, hro⟩) ?_
              rintro u wx HCx ⟨A64, n64, c64, rfl, -, -, -, -⟩
              clear HCx
              simp only [Act.put, List.setIfInBounds_toArray, List.set_cons_succ, List.set_cons_zero]
              refine dw_val rfl rfl rfl ?_; apply Exists.intro; refine ⟨fun wv HC => ?_, ?_⟩
              ·  go_simp <;> rfl
              simp only [Act.put, List.setIfInBounds_toArray, List.set_cons_succ, List.set_cons_zero]
              refine dw_valC 66 (PrSlot (Mut M KL) (xid, xvs, vs)) rfl rfl rfl rfl (.agg #[.int .i64 xid, .slice A64 n64 c64, .slice (some ⟨ga, 0, none⟩) n cr]) (fun wv HC => ?_) (fun wv HC hD => ?_) ?_
              · go_simp <;> rfl
              · have ha : VlsSlot (Mut M KL) xvs (.slice A64 n64 c64) wv := deps_at hD 6 rfl (by kernel_rfl) rfl rfl
                exact prSlot_of HXO.out.id HXO.out.vs HVS.out.2 ha ⟨_, n, cr, rfl, HVS.out.1.symm, hcr.1, hcr.2, (HRX.out _ HC).2⟩
              simp only [Act.put, List.setIfInBounds_toArray, List.set_cons_succ, List.set_cons_zero]
              refine dw_new #[.int .i64 xid, .slice A64 n64 c64, .slice (some ⟨ga, 0, none⟩) n cr] 110 67 (PrsSlot (Mut M KL) [(xid, xvs, vs)]) (fun g => .slice (some ⟨g, 0, none⟩) 1 1) rfl rfl rfl rfl (fun wv => ?_) (fun wv HC _hrm hD hro => ?_) ?_
              · go_simp <;> rfl
              · have hrr := RM.alloc (Mut M KL) wv (.cells #[.int .i64 xid, .slice A64 n64 c64, .slice (some ⟨ga, 0, none⟩) n cr] 110)
                have h0 : PrSlot (Mut M KL) (xid, xvs, vs) (.agg #[.int .i64 xid, .slice A64 n64 c64, .slice (some ⟨ga, 0, none⟩) n cr]) wv := deps_at hD 8 rfl (by kernel_rfl) rfl rfl
                replace h0 := prSlot_mono _ _ _ hrr h0
                exact prsSlot_one (hro _ HC.mutLt) (fun i j k e1 => Value.agg.inj e1) h0
              rintro g67 wg HCg hsl
              simp only [Act.put, List.setIfInBounds_toArray, List.set_cons_succ, List.set_cons_zero]
              clear hsl HCg
              refine rel_nil ?_
              rintro wx5 HX5
              rintro _hrm HGW
              have hb2 : PrsSlot (Mut M KL) [(xid, xvs, vs)] (.slice (some ⟨g67, 0, none⟩) 1 1) wx5 := (GW_on (d := 67) rfl).1 (HGW 9 _ rfl (by omega))
              clear HGW _hrm
              obtain ⟨Aq, nq, cq, pq, heq, -, -, hpm, hpok, hpr⟩ := hb2
              obtain ⟨rfl, rfl, rfl⟩ : some ⟨g67, 0, none⟩ = Aq ∧ 1 = nq ∧ 1 = cq := by injection heq with h1 h2 h3; exact ⟨h1, h2, h3⟩
              clear heq
              rw [HKL.out] at HX5 hpr
              have HPO := hid (prs_ok_app HPS.out hpok)
              have HPE := hid (show prCells ps ++ prCells pq = prCells (ps ++ pq) by simp [prCells])
              have KA := HX5.add (hpr.imp fun w h => (h.2 : PrVals pq w))
              have k5 := hid ((hpr.imp fun w h => h.1).now)
              clear HX5 hpr hpm hpok HF HRX KN
              have FA := KA.facts
              simp only [World.size_alloc, World.size_drew, factsL, cellsF, Nat.reduceAdd, List.toList_toArray, List.set_cons_zero, List.set_cons_succ, List.setIfInBounds_toArray, and_true, true_and] at FA
              go_wp2_with (at_builtin; go_must (refine wpList_appAllH KA 6 rfl Tryz.elPr k5.out rfl (.tmp 59) (.tmp 67) rfl rfl rfl (prCells_one pq) (by omega) (by omega) ?_); intro C' cap' w6 hc6 hm6 KB; rw [HPE.out] at KB; simp only [List.set_cons_zero, List.set_cons_succ] at KB; (have FB := KB.facts); simp only [World.size_alloc, World.size_drew, factsL, cellsF, Nat.reduceAdd, List.toList_toArray, List.set_cons_zero, List.set_cons_succ, List.setIfInBounds_toArray, and_true, true_and] at FB)
              have KD := KB.store 8 rfl 2 (.slice C' (un + 1) cap')
              have KE := (KD.swapRo 7 rfl (prVals_app (KD.ro 7 rfl) (KD.ro 0 rfl))).drop (List.Sublist.cons _ (List.Sublist.cons _ (List.Sublist.cons _ (List.Sublist.cons _ (List.Sublist.cons _ (List.Sublist.refl _))))))
              go_wp2_with fail
              go_roundw
              case rel => exact ⟨j + 1, dn, dc, un + 1, cap', D, C', dels, ps ++ pq, by omega, by first | rfl | go_num, by omega, by omega, HPO, KE⟩
              case measure => simp [intOf]; omega
          · skip
            have KN := KF8.nil 117 3
            have k5 := hid ((KF8.ro 3 rfl).now)
            go_wp2_with (at_builtin; go_must (refine wpList_appAllH KN 0 rfl Tryz.elVl k5.out rfl (.const (.slice none 0 0)) (.tmp 46) rfl rfl rfl (one_vls _) (by omega) (by omega) ?_); intro C9 cap9 w9 hc9 hm9 KB; (try simp only [Nat.zero_add] at hc9 ⊢); simp only [Nat.zero_add, List.nil_append, List.set_cons_zero, List.set_cons_succ] at KB; (have FB := KB.facts); simp only [World.size_alloc, World.size_drew, factsL, cellsF, Nat.reduceAdd, List.toList_toArray, List.set_cons_zero, List.set_cons_succ, List.setIfInBounds_toArray, and_true, true_and] at FB)
            have KV := KB.drop (List.Sublist.cons_cons _ (List.sublist_cons_self _ _))
            obtain ⟨ga, rfl⟩ : ∃ ga, C9 = some ⟨ga, 0, none⟩ := by
              rcases own_addr (KV.get 0 rfl) with ⟨_, h, _⟩ | ⟨g, h, _⟩
              · omega
              · exact ⟨g, h⟩
            obtain ⟨vs, hvs⟩ : ∃ vs, vs = xvs := ⟨_, rfl⟩
            have HVS := hid (show vs.length = n ∧ ∀ v ∈ vs, v.ok by rw [hvs]; exact ⟨HXL.out, HXO.out.vs⟩)
            replace KV := Hold.renVl hvs KV
            clear hvs KB FB KN KF8 FF8 k5
            obtain ⟨cr, rfl⟩ : ∃ cr, cr = cap9 := ⟨_, rfl⟩
            have hcr := And.intro hc9 hm9
            have FV := KV.facts
            simp only [World.size_alloc, World.size_drew, factsL, cellsF, Nat.reduceAdd, List.toList_toArray, List.set_cons_zero, List.set_cons_succ, List.setIfInBounds_toArray, and_true, true_and] at FV
            go_wp2_with fail
            refine (bool_any T 12 _ (KV.tp_ 13 rfl) (by omega) (by omega)).mono ?_
            rintro e wb ⟨bb, rfl, tb, gb⟩
            have KP := Hold.callT KV 13 rfl gb tb
            clear KV gb tb
            have FP := KP.facts
            simp only [World.size_alloc, World.size_drew, factsL, cellsF, Nat.reduceAdd, List.toList_toArray, List.set_cons_zero, List.set_cons_succ, List.setIfInBounds_toArray, and_true, true_and] at FP
            cases bb
            · skip
              have KC := KP
              clear KP
              have KS := KC.sealRow 0 rfl
              simp only [List.set_cons_zero] at KS
              obtain ⟨KL, hKL, KN⟩ := KS.name
              have HF : Hid (∀ wv, Hold M (some T) w wv KL → (wv.cell? ⟨g5, 0, none⟩ = some (.slice none 0 0) ∧ wv.cell? ⟨g5, 1, none⟩ = some (.slice D dn dc) ∧ wv.cell? ⟨g5, 2, none⟩ = some (.slice U un uc) ∧ g5 < wv.heap.size) ∧ wv.cell? ⟨gr, 0, none⟩ = some (.int .i64 xid) ∧ wv.cell? ⟨gr, 1, none⟩ = some (.slice (some ⟨bx, ox, none⟩) n xc) ∧ gr < wv.heap.size) := hid fun wv HC => by
                rw [hKL] at HC
                have y1 := HC.blk_ 7 rfl
                have y2 := HC.cst_ 1 rfl
                exact ⟨⟨cell_of_row _ _ 0 _ _ _ y1, cell_of_row _ _ 1 _ _ _ y1, cell_of_row _ _ 2 _ _ _ y1, Blk.lt y1⟩, cell_of_row _ _ 0 _ _ _ y2, cell_of_row _ _ 1 _ _ _ y2, Blk.lt y2⟩
              have HRX : Hid (∀ wv, Hold M (some T) w wv KL → Ro wv (Mut M KL) (VlsIn (some ⟨bx, ox, none⟩) n xvs) ∧ Ro wv (Mut M KL) (VlsIn (some ⟨ga, 0, none⟩) n vs)) := hid fun wv HC => by
                rw [hKL] at HC ⊢
                exact ⟨HC.ro 3 rfl, HC.ro 0 rfl⟩
              have HKL := hid hKL
              clear hKL KS KC
              go_wp2_with fail
              refine wp_region_any (by kernel_rfl) ?_
              refine wpAny_hold 10 98 (KL) (spL [(64, VlsSlot (Mut M KL) xvs), (66, PrSlot (Mut M KL) (xid, xvs, vs)), (67, PrsSlot (Mut M KL) [(xid, xvs, vs)])]) (by kernel_rfl) (by kernel_rfl) (by kernel_rfl) rfl ?_ (KN.drew) ?_
              · exact stays_cons vlsSlot_mono (stays_cons prSlot_mono (stays_cons prsSlot_mono (stays_nil _)))
              simp only [List.take_succ_cons, List.take_zero, List.drop_succ_cons, List.drop_zero, Act.put, List.getElem_toArray, List.getElem_cons_zero, List.getElem_cons_succ, List.setIfInBounds_toArray, List.set_cons_succ, List.set_cons_zero]
              refine dw_val rfl rfl rfl ?_; apply Exists.intro; refine ⟨fun wv HC => ?_, ?_⟩
              ·  go_simp <;> rfl
              simp only [Act.put, List.setIfInBounds_toArray, List.set_cons_succ, List.set_cons_zero]
              refine dw_val rfl rfl rfl ?_; apply Exists.intro; refine ⟨fun wv HC => ?_, ?_⟩
              · obtain ⟨⟨f0, f1, f2, f3⟩, f4, f5, f6⟩ := HF.out _ HC; go_simp <;> rfl
              simp only [Act.put, List.setIfInBounds_toArray, List.set_cons_succ, List.set_cons_zero]
              refine dw_val rfl rfl rfl ?_; apply Exists.intro; refine ⟨fun wv HC => ?_, ?_⟩
              ·  go_simp <;> rfl
              simp only [Act.put, List.setIfInBounds_toArray, List.set_cons_succ, List.set_cons_zero]
              refine dw_val rfl rfl rfl ?_; apply Exists.intro; refine ⟨fun wv HC => ?_, ?_⟩
              · obtain ⟨⟨f0, f1, f2, f3⟩, f4, f5, f6⟩ := HF.out _ HC; go_simp <;> rfl
              simp only [Act.put, List.setIfInBounds_toArray, List.set_cons_succ, List.set_cons_zero]
              refine dw_val rfl rfl rfl ?_; apply Exists.intro; refine ⟨fun wv HC => ?_, ?_⟩
              ·  go_simp <;> rfl
              simp only [Act.put, List.setIfInBounds_toArray, List.set_cons_succ, List.set_cons_zero]
              refine dw_val rfl rfl rfl ?_; apply Exists.intro; refine ⟨fun wv HC => ?_, ?_⟩
              · obtain ⟨⟨f0, f1, f2, f3⟩, f4, f5, f6⟩ := HF.out _ HC; go_simp <;> rfl
              simp only [Act.put, List.setIfInBounds_toArray, List.set_cons_succ, List.set_cons_zero]
              refine dw_clone Tryz.elVl 64 (VlsSlot (Mut M KL) xvs) rfl rfl rfl rfl (.const (.slice none 0 0)) (.tmp 63) rfl rfl (A := some ⟨bx, ox, none⟩) (m := n) (c := xc) (ys := vlCells xvs) rfl (one_vls _) (by omega) (by omega) (fun wv HC hD => ((HRX.out _ HC).1).now) (fun C9 c9 wv HC q1 q2 hro => ⟨C9, n, c9, rfl, HXL.out.symm, q1, q2, hro⟩) ?_
              rintro u wx HCx ⟨A64, n64, c64, rfl, -, -, -, -⟩
              clear HCx
              simp only [Act.put, List.setIfInBounds_toArray, List.set_cons_succ, List.set_cons_zero]
              refine dw_val rfl rfl rfl ?_; apply Exists.intro; refine ⟨fun wv HC => ?_, ?_⟩
              ·  go_simp <;> rfl
              simp only [Act.put, List.setIfInBounds_toArray, List.set_cons_succ, List.set_cons_zero]
              refine dw_valC 66 (PrSlot (Mut M KL) (xid, xvs, vs)) rfl rfl rfl rfl (.agg #[.int .i64 xid, .slice A64 n64 c64, .slice (some ⟨ga, 0, none⟩) n cr]) (fun wv HC => ?_) (fun wv HC hD => ?_) ?_
              · go_simp <;> rfl
              · have ha : VlsSlot (Mut M KL) xvs (.slice A64 n64 c64) wv := deps_at hD 6 rfl (by kernel_rfl) rfl rfl
                exact prSlot_of HXO.out.id HXO.out.vs HVS.out.2 ha ⟨_, n, cr, rfl, HVS.out.1.symm, hcr.1, hcr.2, (HRX.out _ HC).2⟩
              simp only [Act.put, List.setIfInBounds_toArray, List.set_cons_succ, List.set_cons_zero]
              refine dw_new #[.int .i64 xid, .slice A64 n64 c64, .slice (some ⟨ga, 0, none⟩) n cr] 110 67 (PrsSlot (Mut M KL) [(xid, xvs, vs)]) (fun g => .slice (some ⟨g, 0, none⟩) 1 1) rfl rfl rfl rfl (fun wv => ?_) (fun wv HC _hrm hD hro => ?_) ?_
              · go_simp <;> rfl
              · have hrr := RM.alloc (Mut M KL) wv (.cells #[.int .i64 xid, .slice A64 n64 c64, .slice (some ⟨ga, 0, none⟩) n cr] 110)
                have h0 : PrSlot (Mut M KL) (xid, xvs, vs) (.agg #[.int .i64 xid, .slice A64 n64 c64, .slice (some ⟨ga, 0, none⟩) n cr]) wv := deps_at hD 8 rfl (by kernel_rfl) rfl rfl
                replace h0 := prSlot_mono _ _ _ hrr h0
                exact prsSlot_one (hro _ HC.mutLt) (fun i j k e1 => Value.agg.inj e1) h0
              rintro g67 wg HCg hsl
              simp only [Act.put, List.setIfInBounds_toArray, List.set_cons_succ, List.set_cons_zero]
              clear hsl HCg
              refine rel_nil ?_
              rintro wx5 HX5
              rintro _hrm HGW
              have hb2 : PrsSlot (Mut M KL) [(xid, xvs, vs)] (.slice (some ⟨g67, 0, none⟩) 1 1) wx5 := (GW_on (d := 67) rfl).1 (HGW 9 _ rfl (by omega))
              clear HGW _hrm
              obtain ⟨Aq, nq, cq, pq, heq, -, -, hpm, hpok, hpr⟩ := hb2
              obtain ⟨rfl, rfl, rfl⟩ : some ⟨g67, 0, none⟩ = Aq ∧ 1 = nq ∧ 1 = cq := by injection heq with h1 h2 h3; exact ⟨h1, h2, h3⟩
              clear heq
              rw [HKL.out] at HX5 hpr
              have HPO := hid (prs_ok_app HPS.out hpok)
              have HPE := hid (show prCells ps ++ prCells pq = prCells (ps ++ pq) by simp [prCells])
              have KA := HX5.add (hpr.imp fun w h => (h.2 : PrVals pq w))
              have k5 := hid ((hpr.imp fun w h => h.1).now)
              clear HX5 hpr hpm hpok HF HRX KN
              have FA := KA.facts
              simp only [World.size_alloc, World.size_drew, factsL, cellsF, Nat.reduceAdd, List.toList_toArray, List.set_cons_zero, List.set_cons_succ, List.setIfInBounds_toArray, and_true, true_and] at FA
              go_wp2_with (at_builtin; go_must (refine wpList_appAllH KA 6 rfl Tryz.elPr k5.out rfl (.tmp 59) (.tmp 67) rfl rfl rfl (prCells_one pq) (by omega) (by omega) ?_); intro C' cap' w6 hc6 hm6 KB; rw [HPE.out] at KB; simp only [List.set_cons_zero, List.set_cons_succ] at KB; (have FB := KB.facts); simp only [World.size_alloc, World.size_drew, factsL, cellsF, Nat.reduceAdd, List.toList_toArray, List.set_cons_zero, List.set_cons_succ, List.setIfInBounds_toArray, and_true, true_and] at FB)
              have KD := KB.store 8 rfl 2 (.slice C' (un + 1) cap')
              have KE := (KD.swapRo 7 rfl (prVals_app (KD.ro 7 rfl) (KD.ro 0 rfl))).drop (List.Sublist.cons _ (List.Sublist.cons _ (List.Sublist.cons _ (List.Sublist.cons _ (List.Sublist.cons _ (List.Sublist.refl _))))))
              go_wp2_with fail
              go_roundw
              case rel => exact ⟨j + 1, dn, dc, un + 1, cap', D, C', dels, ps ++ pq, by omega, by first | rfl | go_num, by omega, by omega, HPO, KE⟩
              case measure => simp [intOf]; omega
            · skip
              go_wp2_with fail
              refine (next_any T (n : Int) _ (KP.tp_ 13 rfl) (by omega) (by omega)).mono ?_
              rintro e wc ⟨q, rfl, q0, q1, tc, gc⟩
              obtain ⟨q, rfl⟩ := Int.eq_ofNat_of_zero_le q0
              have KQ := Hold.callT KP 13 rfl gc tc
              clear KP gc tc FP
              have FQ := KQ.facts
              simp only [World.size_alloc, World.size_drew, factsL, cellsF, Nat.reduceAdd, List.toList_toArray, List.set_cons_zero, List.set_cons_succ, List.setIfInBounds_toArray, and_true, true_and] at FQ
              go_wp2_with fail
              refine (value_any T _ (KQ.tp_ 13 rfl) (KQ.ro 10 rfl).now hT).mono ?_
              rintro e wd ⟨kv, iv, sv, rfl, hv, hsv, hiv, td, _, gd⟩
              have KR := Hold.callT KQ 13 rfl gd td
              clear KQ gd td FQ
              have HQL := hid (show q < vs.length by have := HVS.out.1; omega)
              obtain ⟨uq, huq⟩ : ∃ uq, vs[q]? = some uq := ⟨_, List.getElem?_eq_getElem HQL.out⟩
              obtain ⟨⟨z0, z1, z2⟩, ⟨z3, z4, z5⟩, z6⟩ := own_vl (KR.get 0 rfl) huq
              clear huq
              have KC := KR.putVl 0 rfl q HQL.out ⟨kv, iv, sv⟩
              simp only [List.set_cons_zero] at KC
              have HVS := hid (show (vs.set q ⟨kv, iv, sv⟩).length = n ∧ ∀ v ∈ vs.set q ⟨kv, iv, sv⟩, v.ok from ⟨by rw [List.length_set]; exact HVS.out.1, oks_set HVS.out.2 ⟨validB_k hv, hiv, by show sv.size ≤ maxLen; unfold maxLen; omega⟩⟩)
              clear hv KR
              generalize vs.set q ⟨kv, iv, sv⟩ = vs at HVS KC
              have FC := KC.facts
              simp only [World.size_alloc, World.size_drew, factsL, cellsF, Nat.reduceAdd, List.toList_toArray, List.set_cons_zero, List.set_cons_succ, List.setIfInBounds_toArray, and_true, true_and] at FC
              have KS := KC.sealRow 0 rfl
              simp only [List.set_cons_zero] at KS
              obtain ⟨KL, hKL, KN⟩ := KS.name
              have HF : Hid (∀ wv, Hold M (some T) w wv KL → (wv.cell? ⟨g5, 0, none⟩ = some (.slice none 0 0) ∧ wv.cell? ⟨g5, 1, none⟩ = some (.slice D dn dc) ∧ wv.cell? ⟨g5, 2, none⟩ = some (.slice U un uc) ∧ g5 < wv.heap.size) ∧ wv.cell? ⟨gr, 0, none⟩ = some (.int .i64 xid) ∧ wv.cell? ⟨gr, 1, none⟩ = some (.slice (some ⟨bx, ox, none⟩) n xc) ∧ gr < wv.heap.size) := hid fun wv HC => by
                rw [hKL] at HC
                have y1 := HC.blk_ 7 rfl
                have y2 := HC.cst_ 1 rfl
                exact ⟨⟨cell_of_row _ _ 0 _ _ _ y1, cell_of_row _ _ 1 _ _ _ y1, cell_of_row _ _ 2 _ _ _ y1, Blk.lt y1⟩, cell_of_row _ _ 0 _ _ _ y2, cell_of_row _ _ 1 _ _ _ y2, Blk.lt y2⟩
              have HRX : Hid (∀ wv, Hold M (some T) w wv KL → Ro wv (Mut M KL) (VlsIn (some ⟨bx, ox, none⟩) n xvs) ∧ Ro wv (Mut M KL) (VlsIn (some ⟨ga, 0, none⟩) n vs)) := hid fun wv HC => by
                rw [hKL] at HC ⊢
                exact ⟨HC.ro 3 rfl, HC.ro 0 rfl⟩
              have HKL := hid hKL
              clear hKL KS KC
              go_wp2_with fail
              refine wp_region_any (by kernel_rfl) ?_
              refine wpAny_hold 10 98 (KL) (spL [(64, VlsSlot (Mut M KL) xvs), (66, PrSlot (Mut M KL) (xid, xvs, vs)), (67, PrsSlot (Mut M KL) [(xid, xvs, vs)])]) (by kernel_rfl) (by kernel_rfl) (by kernel_rfl) rfl ?_ (KN.drew) ?_
              · exact stays_cons vlsSlot_mono (stays_cons prSlot_mono (stays_cons prsSlot_mono (stays_nil _)))
              simp only [List.take_succ_cons, List.take_zero, List.drop_succ_cons, List.drop_zero, Act.put, List.getElem_toArray, List.getElem_cons_zero, List.getElem_cons_succ, List.setIfInBounds_toArray, List.set_cons_succ, List.set_cons_zero]
              refine dw_val rfl rfl rfl ?_; apply Exists.intro; refine ⟨fun wv HC => ?_, ?_⟩
              ·  go_simp <;> rfl
              simp only [Act.put, List.setIfInBounds_toArray, List.set_cons_succ, List.set_cons_zero]
              refine dw_val rfl rfl rfl ?_; apply Exists.intro; refine ⟨fun wv HC => ?_, ?_⟩
              · obtain ⟨⟨f0, f1, f2, f3⟩, f4, f5, f6⟩ := HF.out _ HC; go_simp <;> rfl
              simp only [Act.put, List.setIfInBounds_toArray, List.set_cons_succ, List.set_cons_zero]
              refine dw_val rfl rfl rfl ?_; apply Exists.intro; refine ⟨fun wv HC => ?_, ?_⟩
              ·  go_simp <;> rfl
              simp only [Act.put, List.setIfInBounds_toArray, List.set_cons_succ, List.set_cons_zero]
              refine dw_val rfl rfl rfl ?_; apply Exists.intro; refine ⟨fun wv HC => ?_, ?_⟩
              · obtain ⟨⟨f0, f1, f2, f3⟩, f4, f5, f6⟩ := HF.out _ HC; go_simp <;> rfl
              simp only [Act.put, List.setIfInBounds_toArray, List.set_cons_succ, List.set_cons_zero]
              refine dw_val rfl rfl rfl ?_; apply Exists.intro; refine ⟨fun wv HC => ?_, ?_⟩
              ·  go_simp <;> rfl
              simp only [Act.put, List.setIfInBounds_toArray, List.set_cons_succ, List.set_cons_zero]
              refine dw_val rfl rfl rfl ?_; apply Exists.intro; refine ⟨fun wv HC => ?_, ?_⟩
              · obtain ⟨⟨f0, f1, f2, f3⟩, f4, f5, f6⟩ := HF.out _ HC; go_simp <;> rfl
              simp only [Act.put, List.setIfInBounds_toArray, List.set_cons_succ, List.set_cons_zero]
              refine dw_clone Tryz.elVl 64 (VlsSlot (Mut M KL) xvs) rfl rfl rfl rfl (.const (.slice none 0 0)) (.tmp 63) rfl rfl (A := some ⟨bx, ox, none⟩) (m := n) (c := xc) (ys := vlCells xvs) rfl (one_vls _) (by omega) (by omega) (fun wv HC hD => ((HRX.out _ HC).1).now) (fun C9 c9 wv HC q1 q2 hro => ⟨C9, n, c9, rfl, HXL.out.symm, q1, q2, hro⟩) ?_
              rintro u wx HCx ⟨A64, n64, c64, rfl, -, -, -, -⟩
              clear HCx
              simp only [Act.put, List.setIfInBounds_toArray, List.set_cons_succ, List.set_cons_zero]
              refine dw_val rfl rfl rfl ?_; apply Exists.intro; refine ⟨fun wv HC => ?_, ?_⟩
              ·  go_simp <;> rfl
              simp only [Act.put, List.setIfInBounds_toArray, List.set_cons_succ, List.set_cons_zero]
              refine dw_valC 66 (PrSlot (Mut M KL) (xid, xvs, vs)) rfl rfl rfl rfl (.agg #[.int .i64 xid, .slice A64 n64 c64, .slice (some ⟨ga, 0, none⟩) n cr]) (fun wv HC => ?_) (fun wv HC hD => ?_) ?_
              · go_simp <;> rfl
              · have ha : VlsSlot (Mut M KL) xvs (.slice A64 n64 c64) wv := deps_at hD 6 rfl (by kernel_rfl) rfl rfl
                exact prSlot_of HXO.out.id HXO.out.vs HVS.out.2 ha ⟨_, n, cr, rfl, HVS.out.1.symm, hcr.1, hcr.2, (HRX.out _ HC).2⟩
              simp only [Act.put, List.setIfInBounds_toArray, List.set_cons_succ, List.set_cons_zero]
              refine dw_new #[.int .i64 xid, .slice A64 n64 c64, .slice (some ⟨ga, 0, none⟩) n cr] 110 67 (PrsSlot (Mut M KL) [(xid, xvs, vs)]) (fun g => .slice (some ⟨g, 0, none⟩) 1 1) rfl rfl rfl rfl (fun wv => ?_) (fun wv HC _hrm hD hro => ?_) ?_
              · go_simp <;> rfl
              · have hrr := RM.alloc (Mut M KL) wv (.cells #[.int .i64 xid, .slice A64 n64 c64, .slice (some ⟨ga, 0, none⟩) n cr] 110)
                have h0 : PrSlot (Mut M KL) (xid, xvs, vs) (.agg #[.int .i64 xid, .slice A64 n64 c64, .slice (some ⟨ga, 0, none⟩) n cr]) wv := deps_at hD 8 rfl (by kernel_rfl) rfl rfl
                replace h0 := prSlot_mono _ _ _ hrr h0
                exact prsSlot_one (hro _ HC.mutLt) (fun i j k e1 => Value.agg.inj e1) h0
              rintro g67 wg HCg hsl
              simp only [Act.put, List.setIfInBounds_toArray, List.set_cons_succ, List.set_cons_zero]
              clear hsl HCg
              refine rel_nil ?_
              rintro wx5 HX5
              rintro _hrm HGW
              have hb2 : PrsSlot (Mut M KL) [(xid, xvs, vs)] (.slice (some ⟨g67, 0, none⟩) 1 1) wx5 := (GW_on (d := 67) rfl).1 (HGW 9 _ rfl (by omega))
              clear HGW _hrm
              obtain ⟨Aq, nq, cq, pq, heq, -, -, hpm, hpok, hpr⟩ := hb2
              obtain ⟨rfl, rfl, rfl⟩ : some ⟨g67, 0, none⟩ = Aq ∧ 1 = nq ∧ 1 = cq := by injection heq with h1 h2 h3; exact ⟨h1, h2, h3⟩
              clear heq
              rw [HKL.out] at HX5 hpr
              have HPO := hid (prs_ok_app HPS.out hpok)
              have HPE := hid (show prCells ps ++ prCells pq = prCells (ps ++ pq) by simp [prCells])
              have KA := HX5.add (hpr.imp fun w h => (h.2 : PrVals pq w))
              have k5 := hid ((hpr.imp fun w h => h.1).now)
              clear HX5 hpr hpm hpok HF HRX KN
              have FA := KA.facts
              simp only [World.size_alloc, World.size_drew, factsL, cellsF, Nat.reduceAdd, List.toList_toArray, List.set_cons_zero, List.set_cons_succ, List.setIfInBounds_toArray, and_true, true_and] at FA
              go_wp2_with (at_builtin; go_must (refine wpList_appAllH KA 6 rfl Tryz.elPr k5.out rfl (.tmp 59) (.tmp 67) rfl rfl rfl (prCells_one pq) (by omega) (by omega) ?_); intro C' cap' w6 hc6 hm6 KB; rw [HPE.out] at KB; simp only [List.set_cons_zero, List.set_cons_succ] at KB; (have FB := KB.facts); simp only [World.size_alloc, World.size_drew, factsL, cellsF, Nat.reduceAdd, List.toList_toArray, List.set_cons_zero, List.set_cons_succ, List.setIfInBounds_toArray, and_true, true_and] at FB)
              have KD := KB.store 8 rfl 2 (.slice C' (un + 1) cap')
              have KE := (KD.swapRo 7 rfl (prVals_app (KD.ro 7 rfl) (KD.ro 0 rfl))).drop (List.Sublist.cons _ (List.Sublist.cons _ (List.Sublist.cons _ (List.Sublist.cons _ (List.Sublist.cons _ (List.Sublist.refl _))))))
              go_wp2_with fail
              go_roundw
              case rel => exact ⟨j + 1, dn, dc, un + 1, cap', D, C', dels, ps ++ pq, by omega, by first | rfl | go_num, by omega, by omega, HPO, KE⟩
              case measure => simp [intOf]; omega
      · have z2 : (z == 0) = false := by rw [beq_eq_false_iff_ne]; omega
        have z3 : (z == 1) = false := by rw [beq_eq_false_iff_ne]; omega
        go_wp2_with fail
        have KC := K2.drop (List.Sublist.cons _ (List.Sublist.cons _ (List.Sublist.cons _ (List.Sublist.refl _))))
        go_roundw
        case rel => exact ⟨j + 1, dn, dc, un, uc, _, U, dels, ps, by omega, by first | rfl | go_num, by omega, by omega, HPS, KC⟩
        case measure => simp [intOf]; omega
    · obtain rfl : m = j := by omega
      have hd : decide ((m : Int) < (m : Int)) = false := by simp
      clear hlt
      obtain ⟨hdc1, hdc2, _⟩ := own_caps (H.get 0 rfl)
      obtain ⟨huc1, huc2, _⟩ := own_caps (H.get 1 rfl)
      have KS := H.sealRow 0 rfl
      simp only [List.set_cons_zero] at KS
      have KS2 := KS.sealRow 1 rfl
      simp only [List.set_cons_zero, List.set_cons_succ] at KS2
      clear H KS
      go_wp2_with fail
      refine (next_any T 4 _ (KS2.tp_ 9 rfl) (by omega) (by omega)).mono ?_
      rintro e w3 ⟨i0, rfl, i00, i01, t3, g3⟩
      obtain ⟨i0, rfl⟩ := Int.eq_ofNat_of_zero_le i00
      have K2 := ((Hold.callT KS2 9 rfl g3 t3).add (show Ro _ _ (SlVals []) from fun _ _ _ r hr => nomatch hr)).nil 51 1
      have hi0 : i0 ≤ 3 := by omega
      clear KS2 g3 t3 i00 i01
      go_wp2_with fail
      clear hd
      go_loopw [9] (fun iv wr => ∃ (i k ic : Nat) (I : Option Addr) (si : List Sl), iv = .int .i64 i ∧ i + k ≤ 3 ∧ Hid (∀ s ∈ si, s.ok) ∧ Hold M (some T) w wr [.own 51 1 (.slice I k ic) k (slCells si), .ro (SlVals si), .ro (SlR 1 D dn (iCells dels)), .ro (SlR 3 U un (prCells ps)), .ro (PrVals ps), .blk g5 76 #[.slice I k ic, .slice D dn dc, .slice U un uc], .blk g4 76 #[.slice none 0 0, .slice none 0 0, .slice none 0 0], .cst gx 58 #[.string nm, .slice A n c, .int .i64 nx, .slice B m d], .ro Wds, .ro (ColsIn A n cs), .ro (RwsIn B m l), .tp T]) (fun iv _ => (intOf iv).toNat)
      case atStart => exact ⟨i0, 0, 0, none, [], rfl, by omega, hid (fun s hs => nomatch hs), K2⟩
      case round =>
        clear K2 hi0
        obtain ⟨i, k, ic, I, si, rfl, hik, HSI, H⟩ := hrel
        by_cases hlt : 0 < i
        · obtain ⟨i, rfl⟩ : ∃ i', i = i' + 1 := ⟨i - 1, by omega⟩
          have hd : decide (((i + 1 : Nat) : Int) > 0) = true := by rw [decide_eq_true_iff]; omega
          clear hlt
          have FH := H.facts
          simp only [World.size_alloc, World.size_drew, factsL, cellsF, Nat.reduceAdd, List.toList_toArray, List.set_cons_zero, List.set_cons_succ, List.setIfInBounds_toArray, and_true, true_and] at FH
          go_wp2_with fail
          refine (trow_any (Mut M _) T _ H.mutLt (H.tp_ 11 rfl) (H.get 11 rfl).2 nm A n c cs ((H.ro 9 rfl).less (mut_tp (i := 11) rfl)) ((H.ro 8 rfl).less (mut_tp (i := 11) rfl)) hT hn HOKC.out).mono ?_
          rintro e w4 ⟨Ar, nr, cr, vs, rfl, hnr, hvr, hfr, ho, t4, g4'⟩
          have KV := Hold.addOwn H (Hold.callT H 11 rfl g4' t4) (RM.grown g4' (.inr ⟨_, List.mem_of_getElem? (i := 11) rfl, rfl⟩)) ho
          obtain rfl : n = nr := by have h1 := fitsAll_len hfr; have h2 := HL.out; omega
          have hcr := own_caps (KV.get 0 rfl)
          replace hcr := And.intro hcr.1 hcr.2.1
          have HVS := hid (show vs.length = n ∧ ∀ v ∈ vs, v.ok from ⟨hnr.symm, hvr⟩)
          obtain ⟨ga, rfl⟩ : ∃ ga, Ar = some ⟨ga, 0, none⟩ := by
            rcases own_addr (KV.get 0 rfl) with ⟨_, h, _⟩ | ⟨g, h, _⟩
            · omega
            · exact ⟨g, h⟩
          clear H ho t4 g4' hnr hvr hfr FH
          have FV := KV.facts
          simp only [World.size_alloc, World.size_drew, factsL, cellsF, Nat.reduceAdd, List.toList_toArray, List.set_cons_zero, List.set_cons_succ, List.setIfInBounds_toArray, and_true, true_and] at FV
          go_wp2_with fail
          refine (bool_any T 12 _ (KV.tp_ 12 rfl) (by omega) (by omega)).mono ?_
          rintro e wb ⟨bb, rfl, tb, gb⟩
          have KP := Hold.callT KV 12 rfl gb tb
          clear KV gb tb
          have FP := KP.facts
          simp only [World.size_alloc, World.size_drew, factsL, cellsF, Nat.reduceAdd, List.toList_toArray, List.set_cons_zero, List.set_cons_succ, List.setIfInBounds_toArray, and_true, true_and] at FP
          cases bb
          · skip
            have KC := KP
            clear KP
            have KS := KC.sealRow 0 rfl
            simp only [List.set_cons_zero] at KS
            have HCE := hid (show slCells si ++ (#[Value.slice (some ⟨ga, 0, none⟩) n cr]).toList = slCells (si ++ [⟨some ⟨ga, 0, none⟩, n, cr, vs⟩]) by simp [slCells, Sl.cells])
            have HSO := hid (sls_ok_snoc HSI.out (x := ⟨some ⟨ga, 0, none⟩, n, cr, vs⟩) ⟨hcr.1, hcr.2, HVS.out.2⟩)
            clear KC
            have FS := KS.facts
            simp only [World.size_alloc, World.size_drew, factsL, cellsF, Nat.reduceAdd, List.toList_toArray, List.set_cons_zero, List.set_cons_succ, List.setIfInBounds_toArray, and_true, true_and] at FS
            go_wp2_with (at_builtin; go_must (refine wpList_appH KS 1 rfl Tryz.elSlc #[.slice (some ⟨ga, 0, none⟩) n cr] rfl (.tmp 92) (.tmp 94) rfl rfl _ (by first | rfl | simp [World.setCell]) rfl rfl (by intro u hu; simp at hu; rcases hu with rfl; rfl) (by omega) (by omega) ?_); intro g9 cap9 w9 hc9 hm9 KB; rw [HCE.out] at KB; simp only [List.set_cons_zero, List.set_cons_succ] at KB; (have FB := KB.facts); simp only [World.size_alloc, World.size_drew, factsL, cellsF, Nat.reduceAdd, List.toList_toArray, List.set_cons_zero, List.set_cons_succ, List.setIfInBounds_toArray, and_true, true_and] at FB)
            have KD := KB.store 6 rfl 0 (.slice (some ⟨g9, 0, none⟩) (k + 1) cap9)
            have KE := (KD.swapRo 2 rfl (sls_snoc (r := ⟨some ⟨ga, 0, none⟩, n, cr, vs⟩) (KD.ro 2 rfl) (KD.ro 0 rfl))).drop (List.sublist_cons_self _ _)
            go_roundw
            case rel => exact ⟨i, k + 1, cap9, _, _, by first | rfl | go_num, by omega, HSO, KE⟩
            case measure => simp [intOf] <;> omega
          · skip
            go_wp2_with fail
            refine (next_any T (n : Int) _ (KP.tp_ 12 rfl) (by omega) (by omega)).mono ?_
            rintro e wc ⟨q, rfl, q0, q1, tc, gc⟩
            obtain ⟨q, rfl⟩ := Int.eq_ofNat_of_zero_le q0
            have KQ := Hold.callT KP 12 rfl gc tc
            clear KP gc tc FP
            have FQ := KQ.facts
            simp only [World.size_alloc, World.size_drew, factsL, cellsF, Nat.reduceAdd, List.toList_toArray, List.set_cons_zero, List.set_cons_succ, List.setIfInBounds_toArray, and_true, true_and] at FQ
            go_wp2_with fail
            refine (value_any T _ (KQ.tp_ 12 rfl) (KQ.ro 9 rfl).now hT).mono ?_
            rintro e wd ⟨kv, iv, sv, rfl, hv, hsv, hiv, td, _, gd⟩
            have KR := Hold.callT KQ 12 rfl gd td
            clear KQ gd td FQ
            have HQL := hid (show q < vs.length by have := HVS.out.1; omega)
            obtain ⟨uq, huq⟩ : ∃ uq, vs[q]? = some uq := ⟨_, List.getElem?_eq_getElem HQL.out⟩
            obtain ⟨⟨z0, z1, z2⟩, ⟨z3, z4, z5⟩, z6⟩ := own_vl (KR.get 0 rfl) huq
            clear huq
            have KC := KR.putVl 0 rfl q HQL.out ⟨kv, iv, sv⟩
            simp only [List.set_cons_zero] at KC
            have HVS := hid (show (vs.set q ⟨kv, iv, sv⟩).length = n ∧ ∀ v ∈ vs.set q ⟨kv, iv, sv⟩, v.ok from ⟨by rw [List.length_set]; exact HVS.out.1, oks_set HVS.out.2 ⟨validB_k hv, hiv, by show sv.size ≤ maxLen; unfold maxLen; omega⟩⟩)
            clear hv KR
            generalize vs.set q ⟨kv, iv, sv⟩ = vs at HVS KC
            have FC := KC.facts
            simp only [World.size_alloc, World.size_drew, factsL, cellsF, Nat.reduceAdd, List.toList_toArray, List.set_cons_zero, List.set_cons_succ, List.setIfInBounds_toArray, and_true, true_and] at FC
            have KS := KC.sealRow 0 rfl
            simp only [List.set_cons_zero] at KS
            have HCE := hid (show slCells si ++ (#[Value.slice (some ⟨ga, 0, none⟩) n cr]).toList = slCells (si ++ [⟨some ⟨ga, 0, none⟩, n, cr, vs⟩]) by simp [slCells, Sl.cells])
            have HSO := hid (sls_ok_snoc HSI.out (x := ⟨some ⟨ga, 0, none⟩, n, cr, vs⟩) ⟨hcr.1, hcr.2, HVS.out.2⟩)
            clear KC
            have FS := KS.facts
            simp only [World.size_alloc, World.size_drew, factsL, cellsF, Nat.reduceAdd, List.toList_toArray, List.set_cons_zero, List.set_cons_succ, List.setIfInBounds_toArray, and_true, true_and] at FS
            go_wp2_with (at_builtin; go_must (refine wpList_appH KS 1 rfl Tryz.elSlc #[.slice (some ⟨ga, 0, none⟩) n cr] rfl (.tmp 92) (.tmp 94) rfl rfl _ (by first | rfl | simp [World.setCell]) rfl rfl (by intro u hu; simp at hu; rcases hu with rfl; rfl) (by omega) (by omega) ?_); intro g9 cap9 w9 hc9 hm9 KB; rw [HCE.out] at KB; simp only [List.set_cons_zero, List.set_cons_succ] at KB; (have FB := KB.facts); simp only [World.size_alloc, World.size_drew, factsL, cellsF, Nat.reduceAdd, List.toList_toArray, List.set_cons_zero, List.set_cons_succ, List.setIfInBounds_toArray, and_true, true_and] at FB)
            have KD := KB.store 6 rfl 0 (.slice (some ⟨g9, 0, none⟩) (k + 1) cap9)
            have KE := (KD.swapRo 2 rfl (sls_snoc (r := ⟨some ⟨ga, 0, none⟩, n, cr, vs⟩) (KD.ro 2 rfl) (KD.ro 0 rfl))).drop (List.sublist_cons_self _ _)
            go_roundw
            case rel => exact ⟨i, k + 1, cap9, _, _, by first | rfl | go_num, by omega, HSO, KE⟩
            case measure => simp [intOf] <;> omega
        · obtain rfl : i = 0 := by omega
          have hd : decide (((0 : Nat) : Int) > 0) = false := by decide
          have F := H.facts
          simp only [World.size_alloc, World.size_drew, factsL, cellsF, Nat.reduceAdd, List.toList_toArray, List.set_cons_zero, List.set_cons_succ, List.setIfInBounds_toArray, and_true, true_and] at F
          obtain ⟨hic1, hic2, _⟩ := own_caps (H.get 0 rfl)
          have KS := H.sealRow 0 rfl
          simp only [List.set_cons_zero] at KS
          have KN := ((KS.store 6 rfl 0 (.slice I k ic)).store 6 rfl 1 (.slice D dn dc)).store 6 rfl 2 (.slice U un uc)
          have r0 := KN.roOut 0 rfl
          have r1 := KN.roOut 1 rfl
          have r2 := KN.roOut 2 rfl
          have r3 := KN.roOut 3 rfl
          have r4 := KN.roOut 4 rfl
          clear KS
          have HI := hid (show si.length = k by have h := (show Rd _ _ _ _ _ _ from r0.now).1; rw [slCells_len] at h; omega)
          have HDL := hid (show dels.length = dn by have h := (show Rd _ _ _ _ _ _ from r2.now).1; rw [iCells_len] at h; omega)
          have HUL := hid (show ps.length = un by have h := (show Rd _ _ _ _ _ _ from r3.now).1; rw [prCells_len] at h; omega)
          go_wp2_with fail
          exact bodyPost_ret (v := .agg #[.slice I k ic, .slice D dn dc, .slice U un uc]) (by simp [results, Tryz.results25, go_sem, F]) rfl ⟨_, si.map Sl.vs, dels, ps.map Pr.upd, rfl, chgSlot_of ⟨I, k, ic, si, rfl, hic1, hic2, rfl, HSI.out, r0.and r1⟩ ⟨D, dn, dc, rfl, hdc1, hdc2, r2⟩ ⟨U, un, uc, ps, rfl, huc1, huc2, rfl, HPS.out, r3.and r4⟩, by rw [List.length_map, HI.out]; omega, by rw [HDL.out]; omega, by rw [List.length_map, HUL.out]; omega, KN.tp_ 11 rfl, KN.grow⟩
end Go.Proofs.YtedogodccblfeaaGreatDoor

namespace Go.Proofs.YtedogodccblfeaaGreatDoor
open Go.RowKit
set_option linter.unusedVariables false
set_option linter.unusedSimpArgs false

theorem tbAt_less {w : World} {M M' : Nat → Prop} {v : Value} {t : Tb} (h : TbAt w M v t) (hM : ∀ b, M' b → M b) : TbAt w M' v t := by
  obtain ⟨A, n, c, B, m, d, l, h1, h2, h3, h4, h5, h6, h7, h8, h9⟩ := h
  exact ⟨A, n, c, B, m, d, l, h1, h2, h3, h4, h5, h6.less hM, h7.less hM, h8, h9⟩
/-- a valid table of a schema of the three -/
structure VTab (t : Tb) : Prop where
  sch : SchOk t.nm t.cs
  val : tabB t.nm t.cs t.nx t.rs = true
theorem VTab.fit {t : Tb} (h : VTab t) {l : List Rw} (hl : l.map Rw.row = t.rs) : ∀ r ∈ l, r.vs.length = t.cs.length := fun r hr => by
  obtain ⟨_, _, _, _, hok, _⟩ := tabB_ok h.val
  exact fitsT_len (okR_fits hok r.row (by rw [← hl]; exact List.mem_map_of_mem hr))
theorem VTab.rows {t : Tb} (h : VTab t) : t.rs.length ≤ 100 := (tabB_ok h.val).2.1
theorem VTab.len {t : Tb} (h : VTab t) : ∀ r ∈ t.rs, r.2.length ≤ 4 := fun r hr => by
  obtain ⟨_, _, _, _, hok, _⟩ := tabB_ok h.val
  have h1 := fitsT_len (okR_fits hok r hr)
  have h2 := h.sch.len
  omega
theorem chgof_slot (M : Nat → Prop) (T : Nat) (w : World) (hM : ∀ b, M b → b < w.heap.size) (ht : Tp w T) (hMT : ∀ b, M b → T ≤ b) (v : Value) (t : Tb) (hT : TbAt w (Mut M [.tp T]) v t) (hv : VTab t) (hW : Ro w (Mut M [.tp T]) Wds) (hw : 2 < T) :
    Calls Tryz.prog 25 #[.pointer (some ⟨T, 0, none⟩), v] w fun e w' => DrawnChg w T M t.rs.length e w' := by
  obtain ⟨A, n, c, B, m, d, l, rfl, h1, h2, h3, h4, h5, h6, h7, h8⟩ := hT
  have hn : t.cs.length = n := cols_n h5.now
  have hm : l.length = m := h6.now.len
  have hml : t.rs.length = m := by rw [← h8, List.length_map, hm]
  have hl := hv.sch.len
  have hr := hv.rows
  rw [hml]
  exact chgof_any M T w hM ht hMT t.nm A n c t.cs t.nx B m d l h5 h6 hW hw (by omega) (by omega) (by omega) hv.sch.col (fun r hr => by rw [← hn]; exact hv.fit h8 r hr) h7
theorem tof_slot (M : Nat → Prop) (T : Nat) (w : World) (hM : ∀ b, M b → b < w.heap.size) (ht : Tp w T) (hMT : ∀ b, M b → T ≤ b) (nm : ByteArray) (A : Option Addr) (n c : Nat) (cs : List Col) (N : Nat) (hD : Ro w (Mut M [.tp T]) (ColsIn A n cs)) (hc1 : n ≤ c) (hc2 : c ≤ 9223372036854775807) (hs : SchOk nm cs) (hW : Ro w (Mut M [.tp T]) Wds) (hw : 2 < T) (hN : N ≤ 50) :
    Calls Tryz.prog 30 #[.pointer (some ⟨T, 0, none⟩), .agg #[.string nm, .slice A n c], .int .i64 N] w fun e w' => ∃ (v : Value) (t : Tb), e = .returned v ∧ TbAt w' M v t ∧ VTab t ∧ t.nm = nm ∧ t.cs = cs ∧ t.rs.length ≤ N ∧ Tp w' T ∧ w.grownBy w' (some T) := by
  have hn : cs.length = n := cols_n hD.now
  have hl := hs.len
  refine (tof_any M T w hM ht hMT nm A n c cs N hD hW hw (by omega) hc1 hc2 hs.col hs.val hs.key hN).mono ?_
  rintro e w' ⟨v, nx, rs, rfl, hT, hv, hr, t1, g1⟩
  exact ⟨v, _, rfl, hT, ⟨hs, hv⟩, rfl, rfl, hr, t1, g1⟩
end Go.Proofs.YtedogodccblfeaaGreatDoor

namespace Go.Proofs.YtedogodccblfeaaGreatDoor
open Go.RowKit
set_option linter.unusedVariables false
set_option linter.unusedSimpArgs false

structure Te where
  nm : ByteArray
  A : Option Addr
  n : Nat
  c : Nat
  cs : List Col
  nx : Int
  B : Option Addr
  m : Nat
  d : Nat
  l : List Rw
def Te.cells (x : Te) : List Value := [.string x.nm, .slice x.A x.n x.c, .int .i64 x.nx, .slice x.B x.m x.d]
def Te.val (x : Te) : Value := .agg #[.string x.nm, .slice x.A x.n x.c, .int .i64 x.nx, .slice x.B x.m x.d]
def Te.tb (x : Te) : Tb := ⟨x.nm, x.cs, x.nx, x.l.map Rw.row⟩
def TeIn (x : Te) (w : World) : Prop := ColsIn x.A x.n x.cs w ∧ RwsIn x.B x.m x.l w
structure Te.ok (x : Te) : Prop where
  nc : x.n ≤ x.c
  c : x.c ≤ 9223372036854775807
  md : x.m ≤ x.d
  d : x.d ≤ 9223372036854775807
  l : ∀ r ∈ x.l, r.ok
theorem tb_te {w : World} {M : Nat → Prop} {v : Value} {t : Tb} (h : TbAt w M v t) : ∃ x : Te, v = x.val ∧ x.tb = t ∧ x.ok ∧ Ro w M (TeIn x) := by
  obtain ⟨A, n, c, B, m, d, l, rfl, h1, h2, h3, h4, h5, h6, h7, h8⟩ := h
  exact ⟨⟨t.nm, A, n, c, t.cs, t.nx, B, m, d, l⟩, rfl, by simp only [Te.tb, h8], ⟨h1, h2, h3, h4, h7⟩, h5.and h6⟩
theorem te_tb {w : World} {M : Nat → Prop} {x : Te} (h : x.ok) (r : Ro w M (TeIn x)) : TbAt w M x.val x.tb :=
  ⟨x.A, x.n, x.c, x.B, x.m, x.d, x.l, rfl, h.nc, h.c, h.md, h.d, r.imp fun w h => h.1, r.imp fun w h => h.2, h.l, rfl⟩
/-- a table within the limits that the contracts ask -/
structure TbM (t : Tb) : Prop where
  nm : t.nm.size ≤ maxLen
  cs : ∀ x ∈ t.cs, x.name.size ≤ maxLen
  rs : t.rs.length ≤ 4398046511104
  row : ∀ r ∈ t.rs, r.2.length ≤ 4398046511104
def teCells (l : List Te) : List Value := l.flatMap Te.cells
theorem teCells_len (l : List Te) : (teCells l).length = l.length * 4 := flat_len _ 4 (fun _ => rfl) l
def TesIn (A : Option Addr) (n : Nat) (l : List Te) (w : World) : Prop := SlR 4 A n (teCells l) w ∧ ∀ x ∈ l, TeIn x w
theorem TesIn.len {w : World} {A : Option Addr} {n : Nat} {l : List Te} (h : TesIn A n l w) : l.length = n := by
  have := (show Rd w w.heap.size 4 A n (teCells l) from h.1).1
  rw [teCells_len] at this
  omega
theorem TesIn.at_ {w : World} {A : Option Addr} {n : Nat} {l : List Te} (h : TesIn A n l w) {k : Nat} {x : Te} (hx : l[k]? = some x) :
    ∃ b o, A = some ⟨b, o, none⟩ ∧ b < w.heap.size ∧ w.cell? ⟨b, o + k * 4, none⟩ = some (.string x.nm) ∧ w.cell? ⟨b, o + k * 4 + 1, none⟩ = some (.slice x.A x.n x.c) ∧ w.cell? ⟨b, o + k * 4 + 2, none⟩ = some (.int .i64 x.nx) ∧ w.cell? ⟨b, o + k * 4 + 3, none⟩ = some (.slice x.B x.m x.d) ∧ TeIn x w := by
  have hk : k < n := by rw [← h.len]; exact (List.getElem?_eq_some_iff.1 hx).1
  obtain ⟨b, o, e, hb, hc⟩ := (show Rd w w.heap.size 4 A n (teCells l) from h.1).2 (by omega)
  exact ⟨b, o, e, hb, hc _ _ (flat_get Te.cells 4 (fun _ => rfl) l k 0 x (by omega) hx), hc _ _ (flat_get Te.cells 4 (fun _ => rfl) l k 1 x (by omega) hx), hc _ _ (flat_get Te.cells 4 (fun _ => rfl) l k 2 x (by omega) hx), hc _ _ (flat_get Te.cells 4 (fun _ => rfl) l k 3 x (by omega) hx), h.2 x (List.mem_of_getElem? hx)⟩
theorem one_tes (l : List Te) : ∀ u ∈ teCells l, u.oneCell' = true := fun u hu => by
  unfold teCells at hu
  rw [List.mem_flatMap] at hu
  obtain ⟨x, _, hx⟩ := hu
  simp only [Te.cells, List.mem_cons, List.not_mem_nil, or_false] at hx
  rcases hx with rfl | rfl | rfl | rfl <;> rfl
/-- a literal list of tables in a new block -/
theorem tes_block {w : World} {M : Nat → Prop} {g : Nat} {t : TypeId} {cs : Array Value} {l : List Te} (h : Ro w M (fun w => w.heap[g]? = some (.cells cs t (0, 0)))) (hl : cs.toList = teCells l) (hr : ∀ x ∈ l, Ro w M (TeIn x)) : Ro w M (TesIn (some ⟨g, 0, none⟩) l.length l) := by
  have h1 : Ro w M (SlR 4 (some ⟨g, 0, none⟩) l.length cs.toList) := ro_block h (by rw [hl, teCells_len])
  rw [hl] at h1
  exact h1.and fun w2 a b x hx => hr x hx w2 a b
end Go.Proofs.YtedogodccblfeaaGreatDoor

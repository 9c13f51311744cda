/- Te: a table in memory as an element, and lists of tables. No program in sight. -/
import Derived.Test.YtedogodccblfeaaGreatDoorSFormSaidMB
import Derived.IntWalk
import Derived.Test.YtedogodccblfeaaGreatDoorSFormSaidMA
import Derived.Laws.BytesArg
import Derived.StillTailTactics
namespace Go.Proofs.YtedogodccblfeaaGreatDoor
open Go.RowKit
set_option linter.unusedVariables false
set_option linter.unusedSimpArgs false

/-- A table drawn: a valid one of the schema. -/
def DrawnTab (w : World) (T : Nat) (M : Nat → Prop) (nm : ByteArray) (cs : List Col) (N : Nat) (e : Ending) (w' : World) : Prop :=
  ∃ (v : Value) (nx : Int) (rs : List Row), e = .returned v ∧ TbAt w' M v ⟨nm, cs, nx, rs⟩ ∧ tabB nm cs nx rs = true ∧ rs.length ≤ N ∧ Tp w' T ∧ w.grownBy w' (some T)
theorem mut_tp {M : Nat → Prop} {L : List Hp} {T i : Nat} (hi : L[i]? = some (.tp T)) : ∀ b, Mut (Mut M L) [.tp T] b → Mut M L b := fun b hb => by
  rcases hb with hb | ⟨k, hk, hf⟩
  · exact hb
  · simp only [List.mem_singleton] at hk
    subst hk
    exact .inr ⟨_, List.mem_of_getElem? hi, hf⟩
theorem findFrom_none {α : Type} {p : α → Bool} : ∀ (l : List α) (k : Nat), (∀ (i : Nat) (x : α), l[i]? = some x → p x = false) → findFrom p k l = -1
  | [], _, _ => rfl
  | x :: l, k, h => by
    rw [findFrom, if_neg (by rw [h 0 x rfl]; simp)]
    exact findFrom_none l (k + 1) fun i y hy => h (i + 1) y (by simpa using hy)
/-- what the first loop knows of the key -/
def KeyUp (cs : List Col) (k : Nat) (q : Int) : Prop := (q = -1 ∧ ∀ i x, i < k → cs[i]? = some x → x.key = false) ∨ (0 ≤ q ∧ q = findB Col.key cs)
theorem keyUp_end {cs : List Col} {q : Int} (h : KeyUp cs cs.length q) : q = findB Col.key cs := by
  rcases h with ⟨rfl, h⟩ | ⟨_, h⟩
  · exact (findFrom_none cs 0 fun i x hx => h i x (List.getElem?_eq_some_iff.1 hx).1 hx).symm
  · exact h
theorem keyUp_no {cs : List Col} {k : Nat} {q : Int} {x : Col} (h : KeyUp cs k q) (hx : cs[k]? = some x) (hk : x.key = false) : KeyUp cs (k + 1) q := by
  rcases h with ⟨rfl, h⟩ | h
  · refine .inl ⟨rfl, fun i y hi hy => ?_⟩
    rcases Nat.lt_or_ge i k with h' | h'
    · exact h i y h' hy
    · obtain rfl : i = k := by omega
      rw [hx] at hy
      injection hy with hy
      rw [← hy]; exact hk
  · exact .inr h
theorem keyUp_yes {cs : List Col} {k : Nat} {x : Col} (ho : KeyOne cs) (hx : cs[k]? = some x) (hk : x.key = true) : KeyUp cs (k + 1) (k : Int) := .inr ⟨by omega, (ho k x hx hk).symm⟩
/-- what is known of the rows -/
structure RowsOk (cs : List Col) (nx : Int) (rs : List Rw) : Prop where
  ok : okR cs nx 0 (rs.map Rw.row) = true
  dup : dupB cs (rs.map Rw.row) = false
  rok : ∀ r ∈ rs, r.ok
/-- is the new row's key new so far? -/
def Fresh (q : Int) (rs : List Rw) (vr : List Vl) (fr : Bool) : Prop := fr = true → q < 0 ∨ ∀ x ∈ rs, x.vs[q.toNat]? ≠ vr[q.toNat]?
theorem fresh_neg {q : Int} {rs : List Rw} {vr : List Vl} {fr : Bool} (h : q < 0) : Fresh q rs vr fr := fun _ => .inl h
theorem fresh_false {q : Int} {rs : List Rw} {vr : List Vl} : Fresh q rs vr false := fun h => nomatch h
theorem fresh_step {q : Nat} {rs : List Rw} {vr : List Vl} {j : Nat} {x : Rw} {vx vy : Vl} {fr : Bool} (hx : rs[j]? = some x) (h1 : x.vs[q]? = some vx) (h2 : vr[q]? = some vy) (h : Fresh q (rs.take j) vr true) (hf : fr = decide (vx ≠ vy)) : Fresh q (rs.take (j + 1)) vr fr := by
  intro hfr
  rw [hfr] at hf
  have hne : vx ≠ vy := of_decide_eq_true hf.symm
  refine .inr fun y hy => ?_
  rw [List.take_add_one, hx] at hy
  rcases List.mem_append.1 hy with hy | hy
  · exact (h rfl).resolve_left (by omega) y hy
  · simp at hy
    subst hy
    simp only [Int.toNat_natCast]
    rw [h1, h2]
    intro e
    injection e with e
    exact hne e
theorem rows_new {cs : List Col} {nx nx' : Int} {rs : List Rw} {x : Rw} (h : RowsOk cs nx rs) (hid : x.id = nx) (h1 : 0 < nx) (h2 : nx < nx') (hf : fitsT cs x.vs = 0) (hok : x.ok) (hfr : findB Col.key cs < 0 ∨ ∀ y ∈ rs, y.vs[(findB Col.key cs).toNat]? ≠ x.vs[(findB Col.key cs).toNat]?) : RowsOk cs nx' (rs ++ [x]) := by
  refine ⟨?_, ?_, fun y hy => ?_⟩
  · rw [List.map_append]
    show okR cs nx' 0 (rs.map Rw.row ++ [(x.id, x.vs)]) = true
    rw [hid]
    exact okR_snoc hf h2 h1 h.ok
  · rw [List.map_append]
    refine dupB_snoc (id := x.id) (vs := x.vs) h.dup (hfr.imp (fun h => h) fun h y hy => ?_)
    obtain ⟨z, hz, rfl⟩ := List.mem_map.1 hy
    exact .inr (h z hz)
  · rcases List.mem_append.1 hy with hy | hy
    · exact h.rok y hy
    · simp at hy; subst hy; exact hok
theorem rows_up {cs : List Col} {nx nx' : Int} {rs : List Rw} (h : RowsOk cs nx rs) (h2 : nx ≤ nx') : RowsOk cs nx' rs := ⟨okR_mono h2 h.ok, h.dup, h.rok⟩
set_option maxHeartbeats 4000000 in
set_option maxRecDepth 100000 in
theorem tof_any (M : Nat → Prop) (T : Nat) (w : World) (hM : ∀ b, M b → b < w.heap.size) (ht : Tp w T) (hMT : ∀ b, M b → T ≤ b) (nm : ByteArray) (A : Option Addr) (n c : Nat) (cs : List Col) (N : Nat) (hD : Ro w (Mut M [.tp T]) (ColsIn A n cs)) (hW : Ro w (Mut M [.tp T]) Wds) (hT : 2 < T)
    (hn : n ≤ 1000) (hnc : n ≤ c) (hc : c ≤ 9223372036854775807) (hok : ∀ x ∈ cs, ColOk x) (hsch : schemaB nm cs = true) (hkey : KeyOne cs) (hN : N ≤ 50) : Calls Tryz.prog 30 #[.pointer (some ⟨T, 0, none⟩), .agg #[.string nm, .slice A n c], .int .i64 N] w fun e w' => DrawnTab w T M nm cs N e w' := by
  have HL := hid (cols_n hD.now)
  have HOKC := hid hok
  have HKEY := hid hkey
  have HSCH := hid hsch
  clear hok hkey hsch
  have K0 := ((((Hold.startT M w T hM ht hMT).add hD).add (hW.less (mut_none rfl))).alloc_cst #[.string nm, .slice A n c] 49).alloc #[.string ⟨#[]⟩, .slice none 0 0, .int .i64 0, .slice none 0 0] 58
  rw [World.size_alloc] at K0
  clear hD hW
  go_enter Tryz.func30, Tryz.ntmps30
  go_wp2_with fail
  obtain ⟨gs, hgs⟩ : ∃ gs, gs = w.heap.size := ⟨_, rfl⟩
  obtain ⟨g6, hg6⟩ : ∃ g6, g6 = gs + 1 := ⟨_, rfl⟩
  rw [← hgs, ← hg6] at K0 ⊢
  generalize (w.alloc _).alloc _ = w1 at K0 ⊢
  have HGS := hid hgs
  have HG6 := hid hg6
  clear hgs hg6
  obtain ⟨H, hH⟩ : ∃ H, H = w1.drew.heap.size := ⟨_, rfl⟩
  have HH := hid hH
  clear hH
  refine wp_region_any (by kernel_rfl) ?_
  refine wpAny_hold 6 90 ([.blk g6 58 #[.string ⟨#[]⟩, .slice none 0 0, .int .i64 0, .slice none 0 0], .cst gs 49 #[.string nm, .slice A n c], .ro Wds, .ro (ColsIn A n cs), .tp T]) (spL [(18, fun u _ => NatB 3 u), (7, NewSlot (Mut M ([.blk g6 58 #[.string ⟨#[]⟩, .slice none 0 0, .int .i64 0, .slice none 0 0], .cst gs 49 #[.string nm, .slice A n c], .ro Wds, .ro (ColsIn A n cs), .tp T])) H 58 #[.string ⟨#[]⟩, .slice none 0 0, .int .i64 0, .slice none 0 0])]) (by kernel_rfl) (by kernel_rfl) (by kernel_rfl) rfl ?_ (K0.drew) ?_
  · exact stays_cons (fun _ _ _ _ h => h) (stays_cons newSlot_mono (stays_nil _))
  simp only [List.take_succ_cons, List.take_zero, List.drop_succ_cons, List.drop_zero, Act.put, List.getElem_toArray, List.getElem_cons_zero, List.getElem_cons_succ, List.setIfInBounds_toArray, List.set_cons_succ, List.set_cons_zero]
  refine dw_val rfl rfl rfl ?_; apply Exists.intro; refine ⟨fun wv HC => ?_, ?_⟩
  · have FC := HC.facts; simp only [factsL, cellsF, Nat.reduceAdd, List.toList_toArray, and_true, true_and] at FC; go_simp <;> rfl
  simp only [Act.put, List.setIfInBounds_toArray, List.set_cons_succ, List.set_cons_zero]
  refine dw_val rfl rfl rfl ?_; apply Exists.intro; refine ⟨fun wv HC => ?_, ?_⟩
  ·  go_simp <;> rfl
  simp only [Act.put, List.setIfInBounds_toArray, List.set_cons_succ, List.set_cons_zero]
  refine dw_next 3 4 rfl 18 rfl rfl rfl rfl (fun wv => ?_) ?_
  · go_simp <;> rfl
  rintro r hr
  simp only [Act.put, List.setIfInBounds_toArray, List.set_cons_succ, List.set_cons_zero]
  have s1 : IntKind.i64.wrap (1 + (r : Int)) = 1 + (r : Int) := by rw [IntKind.wrap_i64]; omega
  refine dw_val rfl rfl rfl ?_; apply Exists.intro; refine ⟨fun wv HC => ?_, ?_⟩
  ·  go_simp <;> rfl
  simp only [Act.put, List.setIfInBounds_toArray, List.set_cons_succ, List.set_cons_zero]
  refine dw_val rfl rfl rfl ?_; apply Exists.intro; refine ⟨fun wv HC => ?_, ?_⟩
  ·  go_simp <;> rfl
  simp only [Act.put, List.setIfInBounds_toArray, List.set_cons_succ, List.set_cons_zero]
  refine dw_new #[.string ⟨#[]⟩, .slice none 0 0, .int .i64 0, .slice none 0 0] 58 7 (NewSlot (Mut M ([.blk g6 58 #[.string ⟨#[]⟩, .slice none 0 0, .int .i64 0, .slice none 0 0], .cst gs 49 #[.string nm, .slice A n c], .ro Wds, .ro (ColsIn A n cs), .tp T])) H 58 #[.string ⟨#[]⟩, .slice none 0 0, .int .i64 0, .slice none 0 0]) (fun g => .pointer (some ⟨g, 0, none⟩)) rfl rfl rfl rfl (fun wv => ?_) (fun wv HC hrm hD hro => ?_) ?_
  · go_simp <;> rfl
  · exact ⟨_, rfl, by have := hrm.1; rw [HH.out]; exact this, hro _ HC.mutLt⟩
  rintro g7 wg HCg hsl
  simp only [Act.put, List.setIfInBounds_toArray, List.set_cons_succ, List.set_cons_zero]
  clear hsl HCg s1
  refine rel_nil ?_
  rintro wx1 HX
  rintro _hrm HGW
  have hns : NewSlot (Mut M ([.blk g6 58 #[.string ⟨#[]⟩, .slice none 0 0, .int .i64 0, .slice none 0 0], .cst gs 49 #[.string nm, .slice A n c], .ro Wds, .ro (ColsIn A n cs), .tp T])) H 58 #[.string ⟨#[]⟩, .slice none 0 0, .int .i64 0, .slice none 0 0] (.pointer (some ⟨g7, 0, none⟩)) wx1 := (GW_on (d := 7) rfl).1 (HGW 5 _ rfl (by omega))
  clear HGW
  obtain ⟨gq, hgq, hgH, hgB⟩ := hns
  obtain rfl : g7 = gq := by injection hgq with hgq; injection hgq with hgq; injection hgq
  clear hgq
  rw [HH.out] at hgH
  have HB := Hold.addFreshBlk K0.drew HX _hrm hgH hgB.now
  clear hgB hgH HX _hrm K0 HH
  have FB := HB.facts
  simp only [factsL, cellsF, Nat.reduceAdd, List.toList_toArray, and_true, true_and] at FB
  have K1 := (((HB.store 0 rfl 0 (.string nm)).store 0 rfl 1 (.slice A n c)).store 0 rfl 2 (.int .i64 (1 + (r : Int)))).store 0 rfl 3 (.slice none 0 0)
  have F1 := K1.facts
  simp only [World.size_alloc, World.size_drew, factsL, cellsF, Nat.reduceAdd, List.toList_toArray, List.set_cons_zero, List.set_cons_succ, List.setIfInBounds_toArray, and_true, true_and] at F1
  simp only [List.set_cons_zero, List.set_cons_succ, List.setIfInBounds_toArray] at K1
  clear HB
  go_wp2_with fail
  generalize (((wx1.setCell _ _).setCell _ _).setCell _ _).setCell _ _ = w2 at K1 ⊢
  clear F1 FB
  go_loopw [8, 24] (fun qv iv wr => ∃ (k : Nat) (q : Int), k ≤ n ∧ iv = .int .i64 k ∧ qv = .int .i64 q ∧ Hid (KeyUp cs k q) ∧ Hold M (some T) w wr ([.blk g7 58 #[.string nm, .slice A n c, .int .i64 (1 + (r : Int)), .slice none 0 0], .blk g6 58 #[.string ⟨#[]⟩, .slice none 0 0, .int .i64 0, .slice none 0 0], .cst gs 49 #[.string nm, .slice A n c], .ro Wds, .ro (ColsIn A n cs), .tp T])) (fun _ iv _ => n - (intOf iv).toNat)
  case atStart => exact ⟨0, -1, by omega, rfl, rfl, hid (.inl ⟨rfl, fun i x hi => absurd hi (by omega)⟩), K1⟩
  case round =>
    clear K1
    obtain ⟨k, q, hk, rfl, rfl, HQ, H⟩ := hrel
    by_cases hlt : k < n
    · have hd : decide ((k : Int) < (n : Int)) = true := by simp; omega
      have k0 : (0 : Int) ≤ (k : Int) := by omega
      have k1 : (k : Int) < (n : Int) := by omega
      obtain ⟨⟨xn, xt, xnn, xk⟩, hx⟩ := get_col HL.out hlt
      obtain ⟨g, o, rfl, hgb, c0, c1, c2, c3⟩ := (RdC.of_sl (H.ro 4 rfl).now).at_ hx
      dsimp only at c0 c1 c2 c3
      have HX := hid hx
      clear hx
      have K2 := H.alloc_cst #[.string xn, .int .i64 xt, .bool xnn, .bool xk] 147
      clear H
      have F2 := K2.facts
      simp only [World.size_alloc, World.size_drew, factsL, cellsF, Nat.reduceAdd, List.toList_toArray, List.set_cons_zero, List.set_cons_succ, List.setIfInBounds_toArray, and_true, true_and] at F2
      cases xk
      · have HN := hid (keyUp_no HQ.out HX.out rfl)
        go_wp2_with fail
        have K3 := K2.drop (List.sublist_cons_self _ _)
        go_roundw
        case rel => exact ⟨k + 1, q, by omega, by go_num, by first | rfl | trivial, HN, K3⟩
        case measure => simp [intOf]; omega
      · have HN := hid (keyUp_yes HKEY.out HX.out rfl)
        go_wp2_with fail
        have K3 := K2.drop (List.sublist_cons_self _ _)
        go_roundw
        case rel => exact ⟨k + 1, k, by omega, by go_num, by first | rfl | trivial, HN, K3⟩
        case measure => simp [intOf]; omega
    · obtain rfl : k = n := by omega
      have hd : decide ((k : Int) < (k : Int)) = false := by simp
      clear hlt
      have HKQ := hid (show q = findB Col.key cs from keyUp_end (by have h := HQ.out; rwa [← HL.out] at h))
      clear HQ
      go_wp2_with fail
      refine (next_any T ((N : Int) + 1) _ (H.tp_ 5 rfl) (by omega) (by omega)).mono ?_
      rintro e w3 ⟨i0, rfl, i00, i01, t3, g3⟩
      obtain ⟨i0, rfl⟩ := Int.eq_ofNat_of_zero_le i00
      have K2 := (((Hold.callT H 5 rfl g3 t3).add (ro_vals_nil _ _)).nil 119 2)
      clear H g3 t3
      have hi0 : i0 ≤ N := by omega
      clear i00 i01
      go_wp2_with fail
      clear hd
      go_loopw [11] (fun iv wr => ∃ (i k2 cap : Nat) (nx : Int) (O : Option Addr) (rs : List Rw), iv = .int .i64 i ∧ i + k2 ≤ N ∧ 1 ≤ nx ∧ nx ≤ 3 + 2 * ((N : Int) - i) ∧ Hid (RowsOk cs nx rs) ∧ Hold M (some T) w wr ([.own 119 2 (.slice O k2 cap) k2 (rwCells rs), .ro (ValsIn rs), .blk g7 58 #[.string nm, .slice A k c, .int .i64 nx, .slice O k2 cap], .blk g6 58 #[.string ⟨#[]⟩, .slice none 0 0, .int .i64 0, .slice none 0 0], .cst gs 49 #[.string nm, .slice A k c], .ro Wds, .ro (ColsIn A k cs), .tp T])) (fun iv _ => (intOf iv).toNat)
      case atStart => exact ⟨i0, 0, 0, 1 + (r : Int), none, [], rfl, by omega, by omega, by omega, hid ⟨rfl, by rcases Int.lt_or_le (findB Col.key cs) 0 with h | h <;> rfl, fun r hr => nomatch hr⟩, K2⟩
      case round =>
        clear K2 hi0
        obtain ⟨i, k2, cap, nx, O, rs, rfl, hik, hnx, hnx2, HR, H⟩ := hrel
        by_cases hlt : 0 < i
        · obtain ⟨i, rfl⟩ : ∃ i', i = i' + 1 := ⟨i - 1, by omega⟩
          have hd : decide (((i + 1 : Nat) : Int) > 0) = true := by rw [decide_eq_true_iff]; omega
          clear hlt
          have F2 := H.facts
          simp only [World.size_alloc, World.size_drew, factsL, cellsF, Nat.reduceAdd, List.toList_toArray, List.set_cons_zero, List.set_cons_succ, List.setIfInBounds_toArray, and_true, true_and] at F2
          go_wp2_with fail
          refine (trow_any (Mut M _) T _ H.mutLt (H.tp_ 7 rfl) (H.get 7 rfl).2 nm A k c cs ((H.ro 6 rfl).less (mut_tp (i := 7) rfl)) ((H.ro 5 rfl).less (mut_tp (i := 7) rfl)) hT hn HOKC.out).mono ?_
          rintro e w4 ⟨Ar, nr, cr, vr, rfl, hnr, hvr, hfr, ho, t4, g4⟩
          have K3a := Hold.addOwn H (Hold.callT H 7 rfl g4 t4) (RM.grown g4 (.inr ⟨_, List.mem_of_getElem? (i := 7) rfl, rfl⟩)) ho
          obtain ⟨hcr1, hcr2, _⟩ := own_caps (K3a.get 0 rfl)
          have K3 := K3a.sealRow 0 rfl
          simp only [List.set_cons_zero] at K3
          have HNR := hid hnr
          have HFR := hid hfr
          have HVR := hid hvr
          clear K3a H ho t4 g4 hnr hfr hvr F2
          have F3 := K3.facts
          simp only [World.size_alloc, World.size_drew, factsL, cellsF, Nat.reduceAdd, List.toList_toArray, List.set_cons_zero, List.set_cons_succ, List.setIfInBounds_toArray, and_true, true_and] at F3
          go_wp2_with fail
          clear F3
          go_loopw [13, 47] (fun fv jv wr => ∃ (j : Nat) (fr : Bool), j ≤ k2 ∧ jv = .int .i64 j ∧ fv = .bool fr ∧ Hid (Fresh q (rs.take j) vr fr) ∧ Hold M (some T) w wr ([.ro (VlsIn Ar nr vr), .own 119 2 (.slice O k2 cap) k2 (rwCells rs), .ro (ValsIn rs), .blk g7 58 #[.string nm, .slice A k c, .int .i64 nx, .slice O k2 cap], .blk g6 58 #[.string ⟨#[]⟩, .slice none 0 0, .int .i64 0, .slice none 0 0], .cst gs 49 #[.string nm, .slice A k c], .ro Wds, .ro (ColsIn A k cs), .tp T])) (fun _ jv _ => k2 - (intOf jv).toNat)
          case atStart => exact ⟨0, true, by omega, rfl, rfl, hid (fun _ => .inr fun x hx => (by simp at hx)), K3⟩
          case round =>
            clear K3 hd
            obtain ⟨j, fr, hj, rfl, rfl, HFS, H⟩ := hrel
            have hRW : RwsIn O k2 rs wr := ⟨Rd.of_own (H.get 1 rfl), (H.ro 2 rfl).now⟩
            have HLR := hid hRW.len
            by_cases hlt : j < k2
            · have hd : decide ((j : Int) < (k2 : Int)) = true := by simp; omega
              have j0 : (0 : Int) ≤ (j : Int) := by omega
              have j1 : (j : Int) < (k2 : Int) := by omega
              obtain ⟨x, hx⟩ := get_of HLR.out hlt
              obtain ⟨b, o, rfl, hb, c0, c1, hxv⟩ := hRW.at_ hx
              have HX := hid hx
              have HXV := hid (show x.vs.length = x.n from hxv.len)
              have HXF := hid (show fitsT cs x.vs = 0 from okR_fits HR.out.ok _ (List.mem_map_of_mem (f := Rw.row) (List.mem_of_getElem? hx)))
              have hxr : Ro wr _ (VlsIn x.A x.n x.vs) := (H.ro 2 rfl).imp fun w2 h2 => h2 x (List.mem_of_getElem? hx)
              clear hx hxv hRW
              have K4 := (H.add hxr).alloc_cst #[.int .i64 x.id, .slice x.A x.n x.c] 119
              obtain ⟨gx, hgx⟩ : ∃ gx, gx = wr.heap.size := ⟨_, rfl⟩
              rw [← hgx] at K4
              clear H hxr
              obtain ⟨xid, xA, xn, xc, xvs⟩ := x
              dsimp only at *
              go_wp2_with fail
              rw [← hgx]
              have HGX := hid hgx
              clear hgx c0 c1
              generalize wr.alloc _ = w5 at K4 ⊢
              obtain ⟨KL, hKL, K5⟩ := K4.name
              clear K4
              cases fr
              · have HKL := hid hKL
                clear hKL
                refine wp_region_any (by kernel_rfl) ?_
                refine wpAny_hold 18 90 (KL) (spL []) (by kernel_rfl) (by kernel_rfl) (by kernel_rfl) rfl ?_ (K5.drew) ?_
                · exact stays_nil _
                simp only [List.take_succ_cons, List.take_zero, List.drop_succ_cons, List.drop_zero, Act.put, List.getElem_toArray, List.getElem_cons_zero, List.getElem_cons_succ, List.setIfInBounds_toArray, List.set_cons_succ, List.set_cons_zero]
                refine dw_val rfl rfl rfl ?_; apply Exists.intro; refine ⟨fun wv HC => ?_, ?_⟩
                ·  go_simp <;> rfl
                simp only [Act.put, List.setIfInBounds_toArray, List.set_cons_succ, List.set_cons_zero]
                refine dw_val rfl rfl rfl ?_; apply Exists.intro; refine ⟨fun wv HC => ?_, ?_⟩
                ·  go_simp <;> rfl
                simp only [Act.put, List.setIfInBounds_toArray, List.set_cons_succ, List.set_cons_zero]
                refine dw_skip rfl rfl rfl ?_
                simp only [Act.put, List.setIfInBounds_toArray, List.set_cons_succ, List.set_cons_zero]
                refine dw_skip rfl rfl rfl ?_
                simp only [Act.put, List.setIfInBounds_toArray, List.set_cons_succ, List.set_cons_zero]
                refine dw_skip rfl rfl rfl ?_
                simp only [Act.put, List.setIfInBounds_toArray, List.set_cons_succ, List.set_cons_zero]
                refine dw_skip rfl rfl rfl ?_
                simp only [Act.put, List.setIfInBounds_toArray, List.set_cons_succ, List.set_cons_zero]
                refine dw_skip rfl rfl rfl ?_
                simp only [Act.put, List.setIfInBounds_toArray, List.set_cons_succ, List.set_cons_zero]
                refine dw_skip rfl rfl rfl ?_
                simp only [Act.put, List.setIfInBounds_toArray, List.set_cons_succ, List.set_cons_zero]
                refine dw_skip rfl rfl rfl ?_
                simp only [Act.put, List.setIfInBounds_toArray, List.set_cons_succ, List.set_cons_zero]
                refine dw_skip rfl rfl rfl ?_
                simp only [Act.put, List.setIfInBounds_toArray, List.set_cons_succ, List.set_cons_zero]
                refine dw_skip rfl rfl rfl ?_
                simp only [Act.put, List.setIfInBounds_toArray, List.set_cons_succ, List.set_cons_zero]
                refine dw_skip rfl rfl rfl ?_
                simp only [Act.put, List.setIfInBounds_toArray, List.set_cons_succ, List.set_cons_zero]
                refine dw_skip rfl rfl rfl ?_
                simp only [Act.put, List.setIfInBounds_toArray, List.set_cons_succ, List.set_cons_zero]
                refine dw_skip rfl rfl rfl ?_
                simp only [Act.put, List.setIfInBounds_toArray, List.set_cons_succ, List.set_cons_zero]
                refine dw_skip rfl rfl rfl ?_
                simp only [Act.put, List.setIfInBounds_toArray, List.set_cons_succ, List.set_cons_zero]
                refine dw_skip rfl rfl rfl ?_
                simp only [Act.put, List.setIfInBounds_toArray, List.set_cons_succ, List.set_cons_zero]
                refine dw_val rfl rfl rfl ?_; apply Exists.intro; refine ⟨fun wv HC => ?_, ?_⟩
                ·  go_simp <;> rfl
                simp only [Act.put, List.setIfInBounds_toArray, List.set_cons_succ, List.set_cons_zero]
                refine dw_val rfl rfl rfl ?_; apply Exists.intro; refine ⟨fun wv HC => ?_, ?_⟩
                ·  go_simp <;> rfl
                simp only [Act.put, List.setIfInBounds_toArray, List.set_cons_succ, List.set_cons_zero]
                refine rel_nil ?_
                rintro wx4 HX4
                rintro _hrm _HG
                rw [HKL.out] at HX4
                clear _hrm _HG
                have HQ := hid ((fresh_false : Fresh q (rs.take (j + 1)) vr false))
                have K6 := HX4.drop (List.Sublist.cons _ (List.sublist_cons_self _ _))
                have F5 := K6.facts
                simp only [World.size_alloc, World.size_drew, factsL, cellsF, Nat.reduceAdd, List.toList_toArray, List.set_cons_zero, List.set_cons_succ, List.setIfInBounds_toArray, and_true, true_and] at F5
                go_wp2_with fail
                go_roundw
                case rel => exact ⟨j + 1, _, by omega, by go_num, by first | rfl | trivial | simp, HQ, K6⟩
                case measure => simp [intOf]; omega
              · by_cases hq : q < 0
                · have hq1 : decide (q < 0) = true := by simpa using hq
                  have HKL := hid hKL
                  have HQN := hid hq
                  clear hKL hq
                  refine wp_region_any (by kernel_rfl) ?_
                  refine wpAny_hold 18 90 (KL) (spL []) (by kernel_rfl) (by kernel_rfl) (by kernel_rfl) rfl ?_ (K5.drew) ?_
                  · exact stays_nil _
                  simp only [List.take_succ_cons, List.take_zero, List.drop_succ_cons, List.drop_zero, Act.put, List.getElem_toArray, List.getElem_cons_zero, List.getElem_cons_succ, List.setIfInBounds_toArray, List.set_cons_succ, List.set_cons_zero]
                  refine dw_val rfl rfl rfl ?_; apply Exists.intro; refine ⟨fun wv HC => ?_, ?_⟩
                  ·  go_simp <;> rfl
                  simp only [Act.put, List.setIfInBounds_toArray, List.set_cons_succ, List.set_cons_zero]
                  refine dw_val rfl rfl rfl ?_; apply Exists.intro; refine ⟨fun wv HC => ?_, ?_⟩
                  ·  go_simp <;> rfl
                  simp only [Act.put, List.setIfInBounds_toArray, List.set_cons_succ, List.set_cons_zero]
                  refine dw_val rfl rfl rfl ?_; apply Exists.intro; refine ⟨fun wv HC => ?_, ?_⟩
                  ·  go_simp <;> rfl
                  simp only [Act.put, List.setIfInBounds_toArray, List.set_cons_succ, List.set_cons_zero]
                  refine dw_val rfl rfl rfl ?_; apply Exists.intro; refine ⟨fun wv HC => ?_, ?_⟩
                  ·  go_simp <;> rfl
                  simp only [Act.put, List.setIfInBounds_toArray, List.set_cons_succ, List.set_cons_zero]
                  refine dw_val rfl rfl rfl ?_; apply Exists.intro; refine ⟨fun wv HC => ?_, ?_⟩
                  ·  go_simp <;> rfl
                  simp only [Act.put, List.setIfInBounds_toArray, List.set_cons_succ, List.set_cons_zero]
                  refine dw_skip rfl rfl rfl ?_
                  simp only [Act.put, List.setIfInBounds_toArray, List.set_cons_succ, List.set_cons_zero]
                  refine dw_skip rfl rfl rfl ?_
                  simp only [Act.put, List.setIfInBounds_toArray, List.set_cons_succ, List.set_cons_zero]
                  refine dw_skip rfl rfl rfl ?_
                  simp only [Act.put, List.setIfInBounds_toArray, List.set_cons_succ, List.set_cons_zero]
                  refine dw_skip rfl rfl rfl ?_
                  simp only [Act.put, List.setIfInBounds_toArray, List.set_cons_succ, List.set_cons_zero]
                  refine dw_skip rfl rfl rfl ?_
                  simp only [Act.put, List.setIfInBounds_toArray, List.set_cons_succ, List.set_cons_zero]
                  refine dw_skip rfl rfl rfl ?_
                  simp only [Act.put, List.setIfInBounds_toArray, List.set_cons_succ, List.set_cons_zero]
                  refine dw_skip rfl rfl rfl ?_
                  simp only [Act.put, List.setIfInBounds_toArray, List.set_cons_succ, List.set_cons_zero]
                  refine dw_skip rfl rfl rfl ?_
                  simp only [Act.put, List.setIfInBounds_toArray, List.set_cons_succ, List.set_cons_zero]
                  refine dw_skip rfl rfl rfl ?_
                  simp only [Act.put, List.setIfInBounds_toArray, List.set_cons_succ, List.set_cons_zero]
                  refine dw_skip rfl rfl rfl ?_
                  simp only [Act.put, List.setIfInBounds_toArray, List.set_cons_succ, List.set_cons_zero]
                  refine dw_val rfl rfl rfl ?_; apply Exists.intro; refine ⟨fun wv HC => ?_, ?_⟩
                  ·  go_simp <;> rfl
                  simp only [Act.put, List.setIfInBounds_toArray, List.set_cons_succ, List.set_cons_zero]
                  refine dw_val rfl rfl rfl ?_; apply Exists.intro; refine ⟨fun wv HC => ?_, ?_⟩
                  ·  go_simp <;> rfl
                  simp only [Act.put, List.setIfInBounds_toArray, List.set_cons_succ, List.set_cons_zero]
                  refine dw_val rfl rfl rfl ?_; apply Exists.intro; refine ⟨fun wv HC => ?_, ?_⟩
                  ·  go_simp <;> rfl
                  simp only [Act.put, List.setIfInBounds_toArray, List.set_cons_succ, List.set_cons_zero]
                  refine rel_nil ?_
                  rintro wx4 HX4
                  rintro _hrm _HG
                  rw [HKL.out] at HX4
                  clear _hrm _HG
                  have HQ := hid ((fresh_neg HQN.out : Fresh q (rs.take (j + 1)) vr true))
                  have K6 := HX4.drop (List.Sublist.cons _ (List.sublist_cons_self _ _))
                  have F5 := K6.facts
                  simp only [World.size_alloc, World.size_drew, factsL, cellsF, Nat.reduceAdd, List.toList_toArray, List.set_cons_zero, List.set_cons_succ, List.setIfInBounds_toArray, and_true, true_and] at F5
                  go_wp2_with fail
                  go_roundw
                  case rel => exact ⟨j + 1, _, by omega, by go_num, by first | rfl | trivial | simp, HQ, K6⟩
                  case measure => simp [intOf]; omega
                · obtain ⟨κ, rfl⟩ := Int.eq_ofNat_of_zero_le (show 0 ≤ q by omega)
                  have hq1 : decide ((κ : Int) < 0) = false := by rw [decide_eq_false_iff_not]; omega
                  clear hq
                  have hκ : κ < cs.length := key_lt HKQ.out
                  have q0 : (0 : Int) ≤ (κ : Int) := by omega
                  have q1 : (κ : Int) < (xn : Int) := by have h := fitsT_len HXF.out; have h2 := HXV.out; omega
                  have q2 : (κ : Int) < (nr : Int) := by have h := fitsAll_len HFR.out; have h2 := HNR.out; omega
                  clear hκ
                  obtain ⟨vx, hvx⟩ := get_of HXV.out (show κ < xn by omega)
                  obtain ⟨vy, hvy⟩ := get_of HNR.out.symm (show κ < nr by omega)
                  have K6 := K5
                  rw [hKL] at K6
                  obtain ⟨bx, ox, rfl, rx⟩ := (K6.ro 1 rfl).vlsAt hvx
                  obtain ⟨by_, oy, rfl, ry⟩ := (K6.ro 2 rfl).vlsAt hvy
                  have K7 := (K6.add rx).add (ry.less (mut_none rfl))
                  clear K6 K5 hKL rx ry
                  obtain ⟨KM, hKM, K5⟩ := K7.name
                  clear K7
                  have HF : Hid (∀ wv, Hold M (some T) w wv KM → (wv.cell? ⟨gx, 1, none⟩ = some (.slice (some ⟨bx, ox, none⟩) xn xc) ∧ gx < wv.heap.size) ∧ (bx < wv.heap.size ∧ wv.cell? ⟨bx, ox + κ * 3, none⟩ = some (.int .i64 vx.k) ∧ wv.cell? ⟨bx, ox + κ * 3 + 1, none⟩ = some (.int .i64 vx.i) ∧ wv.cell? ⟨bx, ox + κ * 3 + 2, none⟩ = some (.string vx.s)) ∧ by_ < wv.heap.size ∧ wv.cell? ⟨by_, oy + κ * 3, none⟩ = some (.int .i64 vy.k) ∧ wv.cell? ⟨by_, oy + κ * 3 + 1, none⟩ = some (.int .i64 vy.i) ∧ wv.cell? ⟨by_, oy + κ * 3 + 2, none⟩ = some (.string vy.s)) := hid fun wv HC => by
                    rw [hKM] at HC
                    have y1 := HC.cst_ 2 rfl
                    exact ⟨⟨cell_of_row _ _ 1 _ _ _ y1, Blk.lt y1⟩, (HC.ro 1 rfl).now, (HC.ro 0 rfl).now⟩
                  have HKL := hid hKM
                  have HVX := hid hvx
                  have HVY := hid hvy
                  clear hKM hvx hvy
                  refine wp_region_any (by kernel_rfl) ?_
                  refine wpAny_hold 18 90 (KM) (spL []) (by kernel_rfl) (by kernel_rfl) (by kernel_rfl) rfl ?_ (K5.drew) ?_
                  · exact stays_nil _
                  simp only [List.take_succ_cons, List.take_zero, List.drop_succ_cons, List.drop_zero, Act.put, List.getElem_toArray, List.getElem_cons_zero, List.getElem_cons_succ, List.setIfInBounds_toArray, List.set_cons_succ, List.set_cons_zero]
                  refine dw_val rfl rfl rfl ?_; apply Exists.intro; refine ⟨fun wv HC => ?_, ?_⟩
                  · obtain ⟨⟨f0, f1⟩, ⟨f2, f3, f4, f5⟩, f6, f7, f8, f9⟩ := HF.out _ HC; go_simp <;> rfl
                  simp only [Act.put, List.setIfInBounds_toArray, List.set_cons_succ, List.set_cons_zero]
                  refine dw_val rfl rfl rfl ?_; apply Exists.intro; refine ⟨fun wv HC => ?_, ?_⟩
                  · obtain ⟨⟨f0, f1⟩, ⟨f2, f3, f4, f5⟩, f6, f7, f8, f9⟩ := HF.out _ HC; go_simp <;> rfl
                  simp only [Act.put, List.setIfInBounds_toArray, List.set_cons_succ, List.set_cons_zero]
                  refine dw_val rfl rfl rfl ?_; apply Exists.intro; refine ⟨fun wv HC => ?_, ?_⟩
                  · obtain ⟨⟨f0, f1⟩, ⟨f2, f3, f4, f5⟩, f6, f7, f8, f9⟩ := HF.out _ HC; go_simp <;> rfl
                  simp only [Act.put, List.setIfInBounds_toArray, List.set_cons_succ, List.set_cons_zero]
                  refine dw_val rfl rfl rfl ?_; apply Exists.intro; refine ⟨fun wv HC => ?_, ?_⟩
                  · obtain ⟨⟨f0, f1⟩, ⟨f2, f3, f4, f5⟩, f6, f7, f8, f9⟩ := HF.out _ HC; go_simp <;> rfl
                  simp only [Act.put, List.setIfInBounds_toArray, List.set_cons_succ, List.set_cons_zero]
                  refine dw_val rfl rfl rfl ?_; apply Exists.intro; refine ⟨fun wv HC => ?_, ?_⟩
                  · obtain ⟨⟨f0, f1⟩, ⟨f2, f3, f4, f5⟩, f6, f7, f8, f9⟩ := HF.out _ HC; go_simp <;> rfl
                  simp only [Act.put, List.setIfInBounds_toArray, List.set_cons_succ, List.set_cons_zero]
                  refine dw_val rfl rfl rfl ?_; apply Exists.intro; refine ⟨fun wv HC => ?_, ?_⟩
                  · obtain ⟨⟨f0, f1⟩, ⟨f2, f3, f4, f5⟩, f6, f7, f8, f9⟩ := HF.out _ HC; go_simp <;> rfl
                  simp only [Act.put, List.setIfInBounds_toArray, List.set_cons_succ, List.set_cons_zero]
                  refine dw_val rfl rfl rfl ?_; apply Exists.intro; refine ⟨fun wv HC => ?_, ?_⟩
                  · obtain ⟨⟨f0, f1⟩, ⟨f2, f3, f4, f5⟩, f6, f7, f8, f9⟩ := HF.out _ HC; go_simp <;> rfl
                  simp only [Act.put, List.setIfInBounds_toArray, List.set_cons_succ, List.set_cons_zero]
                  refine dw_val rfl rfl rfl ?_; apply Exists.intro; refine ⟨fun wv HC => ?_, ?_⟩
                  · obtain ⟨⟨f0, f1⟩, ⟨f2, f3, f4, f5⟩, f6, f7, f8, f9⟩ := HF.out _ HC; go_simp <;> rfl
                  simp only [Act.put, List.setIfInBounds_toArray, List.set_cons_succ, List.set_cons_zero]
                  refine dw_val rfl rfl rfl ?_; apply Exists.intro; refine ⟨fun wv HC => ?_, ?_⟩
                  · obtain ⟨⟨f0, f1⟩, ⟨f2, f3, f4, f5⟩, f6, f7, f8, f9⟩ := HF.out _ HC; go_simp <;> rfl
                  simp only [Act.put, List.setIfInBounds_toArray, List.set_cons_succ, List.set_cons_zero]
                  refine dw_val rfl rfl rfl ?_; apply Exists.intro; refine ⟨fun wv HC => ?_, ?_⟩
                  · obtain ⟨⟨f0, f1⟩, ⟨f2, f3, f4, f5⟩, f6, f7, f8, f9⟩ := HF.out _ HC; go_simp <;> rfl
                  simp only [Act.put, List.setIfInBounds_toArray, List.set_cons_succ, List.set_cons_zero]
                  refine dw_val rfl rfl rfl ?_; apply Exists.intro; refine ⟨fun wv HC => ?_, ?_⟩
                  · obtain ⟨⟨f0, f1⟩, ⟨f2, f3, f4, f5⟩, f6, f7, f8, f9⟩ := HF.out _ HC; go_simp <;> rfl
                  simp only [Act.put, List.setIfInBounds_toArray, List.set_cons_succ, List.set_cons_zero]
                  refine dw_val rfl rfl rfl ?_; apply Exists.intro; refine ⟨fun wv HC => ?_, ?_⟩
                  · obtain ⟨⟨f0, f1⟩, ⟨f2, f3, f4, f5⟩, f6, f7, f8, f9⟩ := HF.out _ HC; go_simp <;> rfl
                  simp only [Act.put, List.setIfInBounds_toArray, List.set_cons_succ, List.set_cons_zero]
                  refine dw_val rfl rfl rfl ?_; apply Exists.intro; refine ⟨fun wv HC => ?_, ?_⟩
                  · obtain ⟨⟨f0, f1⟩, ⟨f2, f3, f4, f5⟩, f6, f7, f8, f9⟩ := HF.out _ HC; go_simp <;> rfl
                  simp only [Act.put, List.setIfInBounds_toArray, List.set_cons_succ, List.set_cons_zero]
                  refine dw_val rfl rfl rfl ?_; apply Exists.intro; refine ⟨fun wv HC => ?_, ?_⟩
                  · obtain ⟨⟨f0, f1⟩, ⟨f2, f3, f4, f5⟩, f6, f7, f8, f9⟩ := HF.out _ HC; go_simp <;> rfl
                  simp only [Act.put, List.setIfInBounds_toArray, List.set_cons_succ, List.set_cons_zero]
                  refine dw_val rfl rfl rfl ⟨.bool (decide (vx ≠ vy)), fun wv HC => ?_, ?_⟩
                  · by_cases h0 : vx.k = vy.k
                    · have e0 : (vx.k == vy.k) = true := by simp [h0]
                      by_cases h1 : vx.i = vy.i
                      · have e1 : (vx.i == vy.i) = true := by simp [h1]
                        by_cases h2 : vx.s = vy.s
                        · have e2 : (vx.s.toList == vy.s.toList) = true := by simp [h2]
                          have e3 : decide (vx ≠ vy) = false := by rw [decide_eq_false_iff_not]; exact fun h => h (vl_ext h0 h1 h2)
                          rw [e3]
                          clear h0 h1 h2
                          go_simp <;> rfl
                        · have e2 : (vx.s.toList == vy.s.toList) = false := by rw [beq_eq_false_iff_ne]; exact fun h => h2 (bytesEq h)
                          have e3 : decide (vx ≠ vy) = true := by rw [decide_eq_true_iff]; rintro rfl; exact h2 rfl
                          rw [e3]
                          clear h0 h1 h2
                          go_simp <;> rfl
                      · have e1 : (vx.i == vy.i) = false := by simpa using h1
                        have e3 : decide (vx ≠ vy) = true := by rw [decide_eq_true_iff]; rintro rfl; exact h1 rfl
                        rw [e3]
                        clear h0 h1
                        go_simp <;> rfl
                    · have e0 : (vx.k == vy.k) = false := by simpa using h0
                      have e3 : decide (vx ≠ vy) = true := by rw [decide_eq_true_iff]; rintro rfl; exact h0 rfl
                      rw [e3]
                      clear h0
                      go_simp <;> rfl
                  simp only [Act.put, List.setIfInBounds_toArray, List.set_cons_succ, List.set_cons_zero]
                  refine dw_val rfl rfl rfl ?_; apply Exists.intro; refine ⟨fun wv HC => ?_, ?_⟩
                  ·  go_simp <;> rfl
                  simp only [Act.put, List.setIfInBounds_toArray, List.set_cons_succ, List.set_cons_zero]
                  refine dw_val rfl rfl rfl ?_; apply Exists.intro; refine ⟨fun wv HC => ?_, ?_⟩
                  ·  go_simp <;> rfl
                  simp only [Act.put, List.setIfInBounds_toArray, List.set_cons_succ, List.set_cons_zero]
                  refine dw_val rfl rfl rfl ?_; apply Exists.intro; refine ⟨fun wv HC => ?_, ?_⟩
                  ·  go_simp <;> rfl
                  simp only [Act.put, List.setIfInBounds_toArray, List.set_cons_succ, List.set_cons_zero]
                  refine rel_nil ?_
                  rintro wx4 HX4
                  rintro _hrm _HG
                  rw [HKL.out] at HX4
                  clear _hrm _HG
                  have HQ := hid ((fresh_step HX.out (by simpa using HVX.out) HVY.out HFS.out rfl : Fresh (κ : Int) (rs.take (j + 1)) vr (decide (vx ≠ vy))))
                  have K6 := HX4.drop (List.Sublist.cons _ (List.Sublist.cons _ (List.Sublist.cons _ (List.sublist_cons_self _ _))))
                  have F5 := K6.facts
                  simp only [World.size_alloc, World.size_drew, factsL, cellsF, Nat.reduceAdd, List.toList_toArray, List.set_cons_zero, List.set_cons_succ, List.setIfInBounds_toArray, and_true, true_and] at F5
                  go_wp2_with fail
                  go_roundw
                  case rel => exact ⟨j + 1, _, by omega, by go_num, by first | rfl | trivial | simp, HQ, K6⟩
                  case measure => simp [intOf]; omega
            · obtain rfl : j = k2 := by omega
              have hd : decide ((j : Int) < (j : Int)) = false := by simp
              clear hlt
              have HFE := hid (show Fresh q rs vr fr by have h := HFS.out; rwa [List.take_of_length_le (by rw [HLR.out]; exact Nat.le_refl _)] at h)
              clear hRW HFS
              have F3 := H.facts
              simp only [World.size_alloc, World.size_drew, factsL, cellsF, Nat.reduceAdd, List.toList_toArray, List.set_cons_zero, List.set_cons_succ, List.setIfInBounds_toArray, and_true, true_and] at F3
              cases fr
              · go_wp2_with fail
                clear F3 hd
                have K4 := H.drop (List.sublist_cons_self _ _)
                clear H
                refine wp_region_any (by kernel_rfl) ?_
                refine wpAny_hold 10 90 ([.own 119 2 (.slice O j cap) j (rwCells rs), .ro (ValsIn rs), .blk g7 58 #[.string nm, .slice A k c, .int .i64 nx, .slice O j cap], .blk g6 58 #[.string ⟨#[]⟩, .slice none 0 0, .int .i64 0, .slice none 0 0], .cst gs 49 #[.string nm, .slice A k c], .ro Wds, .ro (ColsIn A k cs), .tp T]) (spL [(82, fun u _ => NatB 2 u), (84, fun u _ => NatB 2 u)]) (by kernel_rfl) (by kernel_rfl) (by kernel_rfl) rfl ?_ (K4.drew) ?_
                · exact stays_cons (fun _ _ _ _ h => h) (stays_cons (fun _ _ _ _ h => h) (stays_nil _))
                simp only [List.take_succ_cons, List.take_zero, List.drop_succ_cons, List.drop_zero, Act.put, List.getElem_toArray, List.getElem_cons_zero, List.getElem_cons_succ, List.setIfInBounds_toArray, List.set_cons_succ, List.set_cons_zero]
                refine dw_val rfl rfl rfl ?_; apply Exists.intro; refine ⟨fun wv HC => ?_, ?_⟩
                ·  go_simp <;> rfl
                simp only [Act.put, List.setIfInBounds_toArray, List.set_cons_succ, List.set_cons_zero]
                refine dw_val rfl rfl rfl ?_; apply Exists.intro; refine ⟨fun wv HC => ?_, ?_⟩
                · have FC := HC.facts; simp only [factsL, cellsF, Nat.reduceAdd, List.toList_toArray, and_true, true_and] at FC; go_simp <;> rfl
                simp only [Act.put, List.setIfInBounds_toArray, List.set_cons_succ, List.set_cons_zero]
                refine dw_val rfl rfl rfl ?_; apply Exists.intro; refine ⟨fun wv HC => ?_, ?_⟩
                ·  go_simp <;> rfl
                simp only [Act.put, List.setIfInBounds_toArray, List.set_cons_succ, List.set_cons_zero]
                refine dw_next 2 7 rfl 82 rfl rfl rfl rfl (fun wv => ?_) ?_
                · go_simp <;> rfl
                rintro a ha
                simp only [Act.put, List.setIfInBounds_toArray, List.set_cons_succ, List.set_cons_zero]
                refine dw_val rfl rfl rfl ?_; apply Exists.intro; refine ⟨fun wv HC => ?_, ?_⟩
                ·  go_simp <;> rfl
                simp only [Act.put, List.setIfInBounds_toArray, List.set_cons_succ, List.set_cons_zero]
                refine dw_next 2 7 rfl 84 rfl rfl rfl rfl (fun wv => ?_) ?_
                · go_simp <;> rfl
                rintro b hb
                simp only [Act.put, List.setIfInBounds_toArray, List.set_cons_succ, List.set_cons_zero]
                obtain ⟨m, hm, hm1⟩ : ∃ m : Nat, (a : Int) * (b : Int) = (m : Int) ∧ m ≤ 1 := ⟨a * b, by simp, by
                  obtain rfl | rfl : a = 0 ∨ a = 1 := by omega
                  · simp
                  · omega⟩
                have s1 : IntKind.i64.wrap ((a : Int) * (b : Int)) = (m : Int) := by rw [hm, IntKind.wrap_i64]; omega
                have s2 : IntKind.i64.wrap (1 + (m : Int)) = 1 + (m : Int) := by rw [IntKind.wrap_i64]; omega
                have s3 : IntKind.i64.wrap (nx + (1 + (m : Int))) = nx + (1 + (m : Int)) := by rw [IntKind.wrap_i64]; omega
                clear hm
                refine dw_val rfl rfl rfl ?_; apply Exists.intro; refine ⟨fun wv HC => ?_, ?_⟩
                ·  go_simp <;> rfl
                simp only [Act.put, List.setIfInBounds_toArray, List.set_cons_succ, List.set_cons_zero]
                refine dw_val rfl rfl rfl ?_; apply Exists.intro; refine ⟨fun wv HC => ?_, ?_⟩
                ·  go_simp <;> rfl
                simp only [Act.put, List.setIfInBounds_toArray, List.set_cons_succ, List.set_cons_zero]
                refine dw_val rfl rfl rfl ?_; apply Exists.intro; refine ⟨fun wv HC => ?_, ?_⟩
                ·  go_simp <;> rfl
                simp only [Act.put, List.setIfInBounds_toArray, List.set_cons_succ, List.set_cons_zero]
                refine dw_val rfl rfl rfl ?_; apply Exists.intro; refine ⟨fun wv HC => ?_, ?_⟩
                ·  go_simp <;> rfl
                simp only [Act.put, List.setIfInBounds_toArray, List.set_cons_succ, List.set_cons_zero]
                refine rel_nil ?_
                rintro wx5 HX5
                rintro _hrm _HG
                clear _hrm _HG s1 s2 s3
                have F6 := HX5.facts
                simp only [World.size_alloc, World.size_drew, factsL, cellsF, Nat.reduceAdd, List.toList_toArray, List.set_cons_zero, List.set_cons_succ, List.setIfInBounds_toArray, and_true, true_and] at F6
                have K9 := HX5.store 2 rfl 2 (.int .i64 (nx + (1 + (m : Int))))
                simp only [List.set_cons_zero, List.set_cons_succ, List.setIfInBounds_toArray] at K9
                have HRN := hid (rows_up HR.out (show nx ≤ nx + (1 + (m : Int)) by omega))
                go_wp2_with fail
                go_roundw
                case rel => exact ⟨i, j, cap, nx + (1 + (m : Int)), _, _, by first | rfl | go_num, by omega, by omega, by omega, HRN, K9⟩
                case measure => simp [intOf] <;> omega
              · have hx2 : (rwCells rs ++ (#[Value.int .i64 nx, .slice Ar nr cr]).toList) = rwCells (rs ++ [⟨nx, Ar, nr, cr, vr⟩]) := rwCells_snoc1 _ _ _ _ _ _
                have HCE := hid hx2
                clear hx2
                go_wp2_with (at_builtin; go_must (refine wpList_appH H 1 rfl Tryz.elRw #[.int .i64 nx, .slice Ar nr cr] rfl (.tmp 71) (.tmp 76) rfl rfl _ rfl rfl rfl (by intro u hu; simp at hu; rcases hu with rfl | rfl <;> rfl) (by omega) (by omega) ?_); intro g9 cap9 w9 hc9 hm9 KB; rw [HCE.out] at KB; simp only [List.set_cons_zero, List.set_cons_succ] at KB; (have FB := KB.facts); simp only [World.size_alloc, World.size_drew, factsL, cellsF, Nat.reduceAdd, List.toList_toArray, List.set_cons_zero, List.set_cons_succ, List.setIfInBounds_toArray, and_true, true_and] at FB)
                clear F3 hd
                have KC := KB.store 3 rfl 3 (.slice (some ⟨g9, 0, none⟩) (j + 1) cap9)
                have KD := (KC.swapRo 2 rfl (vals_snoc (r := ⟨nx, Ar, nr, cr, vr⟩) (KC.ro 2 rfl) (KC.ro 0 rfl))).drop (List.sublist_cons_self _ _)
                simp only [List.set_cons_zero, List.set_cons_succ, List.setIfInBounds_toArray] at KD
                generalize World.setCell _ _ _ = w10 at KD ⊢
                clear KB KC FB H
                refine wp_region_any (by kernel_rfl) ?_
                refine wpAny_hold 10 90 ([.own 119 2 (.slice (some ⟨g9, 0, none⟩) (j + 1) cap9) (j + 1) (rwCells (rs ++ [⟨nx, Ar, nr, cr, vr⟩])), .ro (ValsIn (rs ++ [⟨nx, Ar, nr, cr, vr⟩])), .blk g7 58 #[.string nm, .slice A k c, .int .i64 nx, .slice (some ⟨g9, 0, none⟩) (j + 1) cap9], .blk g6 58 #[.string ⟨#[]⟩, .slice none 0 0, .int .i64 0, .slice none 0 0], .cst gs 49 #[.string nm, .slice A k c], .ro Wds, .ro (ColsIn A k cs), .tp T]) (spL [(82, fun u _ => NatB 2 u), (84, fun u _ => NatB 2 u)]) (by kernel_rfl) (by kernel_rfl) (by kernel_rfl) rfl ?_ (KD.drew) ?_
                · exact stays_cons (fun _ _ _ _ h => h) (stays_cons (fun _ _ _ _ h => h) (stays_nil _))
                simp only [List.take_succ_cons, List.take_zero, List.drop_succ_cons, List.drop_zero, Act.put, List.getElem_toArray, List.getElem_cons_zero, List.getElem_cons_succ, List.setIfInBounds_toArray, List.set_cons_succ, List.set_cons_zero]
                refine dw_val rfl rfl rfl ?_; apply Exists.intro; refine ⟨fun wv HC => ?_, ?_⟩
                ·  go_simp <;> rfl
                simp only [Act.put, List.setIfInBounds_toArray, List.set_cons_succ, List.set_cons_zero]
                refine dw_val rfl rfl rfl ?_; apply Exists.intro; refine ⟨fun wv HC => ?_, ?_⟩
                · have FC := HC.facts; simp only [factsL, cellsF, Nat.reduceAdd, List.toList_toArray, and_true, true_and] at FC; go_simp <;> rfl
                simp only [Act.put, List.setIfInBounds_toArray, List.set_cons_succ, List.set_cons_zero]
                refine dw_val rfl rfl rfl ?_; apply Exists.intro; refine ⟨fun wv HC => ?_, ?_⟩
                ·  go_simp <;> rfl
                simp only [Act.put, List.setIfInBounds_toArray, List.set_cons_succ, List.set_cons_zero]
                refine dw_next 2 7 rfl 82 rfl rfl rfl rfl (fun wv => ?_) ?_
                · go_simp <;> rfl
                rintro a ha
                simp only [Act.put, List.setIfInBounds_toArray, List.set_cons_succ, List.set_cons_zero]
                refine dw_val rfl rfl rfl ?_; apply Exists.intro; refine ⟨fun wv HC => ?_, ?_⟩
                ·  go_simp <;> rfl
                simp only [Act.put, List.setIfInBounds_toArray, List.set_cons_succ, List.set_cons_zero]
                refine dw_next 2 7 rfl 84 rfl rfl rfl rfl (fun wv => ?_) ?_
                · go_simp <;> rfl
                rintro b hb
                simp only [Act.put, List.setIfInBounds_toArray, List.set_cons_succ, List.set_cons_zero]
                obtain ⟨m, hm, hm1⟩ : ∃ m : Nat, (a : Int) * (b : Int) = (m : Int) ∧ m ≤ 1 := ⟨a * b, by simp, by
                  obtain rfl | rfl : a = 0 ∨ a = 1 := by omega
                  · simp
                  · omega⟩
                have s1 : IntKind.i64.wrap ((a : Int) * (b : Int)) = (m : Int) := by rw [hm, IntKind.wrap_i64]; omega
                have s2 : IntKind.i64.wrap (1 + (m : Int)) = 1 + (m : Int) := by rw [IntKind.wrap_i64]; omega
                have s3 : IntKind.i64.wrap (nx + (1 + (m : Int))) = nx + (1 + (m : Int)) := by rw [IntKind.wrap_i64]; omega
                clear hm
                refine dw_val rfl rfl rfl ?_; apply Exists.intro; refine ⟨fun wv HC => ?_, ?_⟩
                ·  go_simp <;> rfl
                simp only [Act.put, List.setIfInBounds_toArray, List.set_cons_succ, List.set_cons_zero]
                refine dw_val rfl rfl rfl ?_; apply Exists.intro; refine ⟨fun wv HC => ?_, ?_⟩
                ·  go_simp <;> rfl
                simp only [Act.put, List.setIfInBounds_toArray, List.set_cons_succ, List.set_cons_zero]
                refine dw_val rfl rfl rfl ?_; apply Exists.intro; refine ⟨fun wv HC => ?_, ?_⟩
                ·  go_simp <;> rfl
                simp only [Act.put, List.setIfInBounds_toArray, List.set_cons_succ, List.set_cons_zero]
                refine dw_val rfl rfl rfl ?_; apply Exists.intro; refine ⟨fun wv HC => ?_, ?_⟩
                ·  go_simp <;> rfl
                simp only [Act.put, List.setIfInBounds_toArray, List.set_cons_succ, List.set_cons_zero]
                refine rel_nil ?_
                rintro wx5 HX5
                rintro _hrm _HG
                clear _hrm _HG s1 s2 s3
                have F6 := HX5.facts
                simp only [World.size_alloc, World.size_drew, factsL, cellsF, Nat.reduceAdd, List.toList_toArray, List.set_cons_zero, List.set_cons_succ, List.setIfInBounds_toArray, and_true, true_and] at F6
                have K9 := HX5.store 2 rfl 2 (.int .i64 (nx + (1 + (m : Int))))
                simp only [List.set_cons_zero, List.set_cons_succ, List.setIfInBounds_toArray] at K9
                have HRN := hid (rows_new (x := ⟨nx, Ar, nr, cr, vr⟩) HR.out rfl (by omega) (show nx < nx + (1 + (m : Int)) by omega) (fitsT_all HFR.out) ⟨by show I64 nx; unfold I64; omega, hcr1, hcr2, HVR.out⟩ (by have h := HFE.out rfl; rwa [HKQ.out] at h))
                go_wp2_with fail
                go_roundw
                case rel => exact ⟨i, (j + 1), cap9, nx + (1 + (m : Int)), _, _, by first | rfl | go_num, by omega, by omega, by omega, HRN, K9⟩
                case measure => simp [intOf] <;> omega
        · obtain rfl : i = 0 := by omega
          have hd : decide (((0 : Nat) : Int) > 0) = false := by decide
          have F := H.facts
          simp only [World.size_alloc, World.size_drew, factsL, cellsF, Nat.reduceAdd, List.toList_toArray, List.set_cons_zero, List.set_cons_succ, List.setIfInBounds_toArray, and_true, true_and] at F
          obtain ⟨hcq1, hcq2, _⟩ := own_caps (H.get 0 rfl)
          have KS := H.sealRow 0 rfl
          simp only [List.set_cons_zero] at KS
          have KN := (((KS.store 3 rfl 0 (.string nm)).store 3 rfl 1 (.slice A k c)).store 3 rfl 2 (.int .i64 nx)).store 3 rfl 3 (.slice O k2 cap)
          clear KS
          go_wp2_with fail
          exact bodyPost_ret (v := .agg #[.string nm, .slice A k c, .int .i64 nx, .slice O k2 cap]) (by simp [results, Tryz.results30, go_sem, F]) rfl ⟨_, nx, rs.map Rw.row, rfl, ⟨A, k, c, O, k2, cap, rs, rfl, hnc, hc, hcq1, hcq2, KN.roOut 6 rfl, (KN.roOut 0 rfl).and (KN.roOut 1 rfl), HR.out.rok, rfl⟩, tab_ok HSCH.out (by have h := Rd.of_own (H.get 0 rfl); have h2 := h.1; rw [rwCells_len] at h2; simp; omega) (by omega) (by omega) HR.out.ok HR.out.dup, by have h := Rd.of_own (H.get 0 rfl); have h2 := h.1; rw [rwCells_len] at h2; simp; omega, KN.tp_ 7 rfl, KN.grow⟩
end Go.Proofs.YtedogodccblfeaaGreatDoor

namespace Go.Proofs.YtedogodccblfeaaGreatDoor
open Go.RowKit
set_option linter.unusedVariables false
set_option linter.unusedSimpArgs false
section
variable {P : Program} {ops : Array Oper} {C : World → Prop} {G : Option Tmp → Value → World → Prop} {R : World → World → Prop} {F : Act → Prop} {o : Oper} {rest : List Oper} {a : Act} {k : Nat} {S0 : Array Bool}
/-- an operation that hands back some value of its class -/
theorem rel_step (hS : S0.getD k false = false) (hw : Region.wanted o (yielded ops a.tmps) = true) (d : Tmp) (hd : o.dst = some d) (hg : ∀ w, C w → Deps ops G o a w → ∃ u w', (execOp a.eval o).run P w = .ok (.value u) w' ∧ G (some d) u w' ∧ C w' ∧ R w w')
    (hn : ∀ u w, C w → G (some d) u w → wpRel P ops C G R S0 F (k + 1) rest (a.put (some d) u)) : wpRel P ops C G R S0 F k (o :: rest) a := by
  unfold wpRel
  rw [hS, if_neg (by simp)]
  refine ⟨by unfold StepOk; simp only [hw, if_true]; intro w hC hD; obtain ⟨u, w', hr, h1, h2, h3⟩ := hg w hC hD; unfold Good; rw [hr, hd]; exact ⟨h1, h2, h3⟩, fun x _ hx => ?_⟩
  obtain ⟨w, hC, h⟩ := hx d hd
  rw [hd]; exact hn x w hC h
end
/-- append(nil, xs...): a list of one's own -/
theorem run_cloneNil {P : Program} {t e : TypeId} {size bytes : Nat} {z : Value} (hE : ElemT P t e size bytes z) (ty : TypeId) (w : World) {A : Option Addr} {m c : Nat} {ys : List Value} (hr : SlR size A m ys w) (h1 : ∀ u ∈ ys, u.oneCell' = true) (hq : m < 140737488355328) (hb : m * bytes ≤ 140737488355328) :
    ∃ C' cap' w', (Builtin.append_ #[t, t] ty #[.slice none 0 0, .slice A m c]).run P w = .ok (.slice C' m cap') w' ∧ m ≤ cap' ∧ cap' ≤ 9223372036854775807 ∧ w'.ownsRow w.heap.size e size (.slice C' m cap') m ys ∧ Below w.heap.size w w' := by
  obtain ⟨i0, hi1, hi2, hi3, hi4⟩ := info_parts hE.hi
  have hown := World.ownsRow_nil w w.heap.size e size
  have hz : A = none → m = 0 := fun hA => by
    rcases Nat.eq_zero_or_pos m with h0 | h0
    · exact h0
    · obtain ⟨b, o, h, _⟩ := hr.2 h0
      rw [hA] at h; cases h
  rcases A with _ | ad
  · obtain rfl := hz rfl
    have hn : ys = [] := List.eq_nil_of_length_eq_zero (by simpa using hr.1)
    subst hn
    exact ⟨none, 0, w, run_append_self w _ t _ _ i0 size hE.ht hi1 _ _ _ hown c, by omega, by omega, hown, Below.refl _ _⟩
  · have hcells : ∀ j u, ys[j]? = some u → w.cell? (ad.add j) = some u := by
      intro j u hu
      have hpos : 0 < m := by
        rcases Nat.eq_zero_or_pos m with h0 | h0
        · have hn : ys = [] := List.eq_nil_of_length_eq_zero (by have := hr.1; rw [h0] at this; simpa using this)
          rw [hn] at hu; simp at hu
        · exact h0
      obtain ⟨b, o', hA, _, hc⟩ := hr.2 hpos
      injection hA with hA
      subst hA
      have := hc j u hu
      rwa [Addr.add_lit]
    obtain ⟨v', w', hrun, h2, h3, _, h5⟩ := run_append_own_at (P := P) w w.heap.size t ty e i0 z size bytes hE.ht hi1 hi2 hi3 hi4 hE.hzs hE.hsz _ 0 [] hown ad m c ys hr.1 hcells h1 (by unfold maxLen; omega) (by rw [Nat.zero_add]; exact hb) (Nat.le_refl _)
    rw [Nat.zero_add, List.nil_append] at h2
    obtain ⟨C', cap', rfl⟩ := own_form h2
    have hc := own_caps h2
    exact ⟨C', cap', w', hrun, hc.1, hc.2.1, h2, ⟨h3.os, h3.tape, h3.output, h3.size, fun k hk => h3.block k hk (by simp [Value.ownBlock])⟩⟩
section
variable {P : Program} {M : Nat → Prop} {row : Option Nat} {w0 w1 : World} {L : List Hp} {sp : SpW} {F : Act → Prop} {S0 : Array Bool}
variable {ops : Array Oper} {o : Oper} {rest : List Oper} {a : Act} {k : Nat}
end
theorem vlCells_set : ∀ (l : List Vl) (k : Nat) (v : Vl), k < l.length → (((vlCells l).set (k * 3) (.int .i64 v.k)).set (k * 3 + 1) (.int .i64 v.i)).set (k * 3 + 2) (.string v.s) = vlCells (l.set k v)
  | [], k, v, h => by simp at h
  | x :: l, 0, v, h => by simp [vlCells, Vl.cells]
  | x :: l, k + 1, v, h => by
    have ih := vlCells_set l k v (by simpa using h)
    have e : ∀ (ys : List Value) (j : Nat) (u : Value), (x.cells ++ ys).set (j + 3) u = x.cells ++ ys.set j u := fun ys j u => by
      rw [List.set_append_right _ _ (by simp [Vl.cells])]
      simp [Vl.cells]
    have e0 : vlCells (x :: l) = x.cells ++ vlCells l := by simp [vlCells]
    have e1 : vlCells ((x :: l).set (k + 1) v) = x.cells ++ vlCells (l.set k v) := by simp [vlCells]
    rw [e0, e1, show (k + 1) * 3 = k * 3 + 3 by omega, e, show k * 3 + 3 + 1 = (k * 3 + 1) + 3 by omega, e, show k * 3 + 3 + 2 = (k * 3 + 2) + 3 by omega, e, ih]
theorem own_vl {w : World} {base g n cap k : Nat} {e : TypeId} {l : List Vl} {v : Vl} (h : w.ownsRow base e 3 (.slice (some ⟨g, 0, none⟩) n cap) n (vlCells l)) (hv : l[k]? = some v) :
    (w.cell? ⟨g, k * 3, none⟩ = some (.int .i64 v.k) ∧ w.cell? ⟨g, k * 3 + 1, none⟩ = some (.int .i64 v.i) ∧ w.cell? ⟨g, k * 3 + 2, none⟩ = some (.string v.s)) ∧
    (w.frozen? ⟨g, k * 3, none⟩ = false ∧ w.frozen? ⟨g, k * 3 + 1, none⟩ = false ∧ w.frozen? ⟨g, k * 3 + 2, none⟩ = false) ∧ g < w.heap.size := by
  have hk := (List.getElem?_eq_some_iff.1 hv).1
  have hl : l.length = n := by have := h.1; rw [vlCells_len] at this; omega
  have c0 := flat_get Vl.cells 3 (fun _ => rfl) l k 0 v (by omega) hv
  have c1 := flat_get Vl.cells 3 (fun _ => rfl) l k 1 v (by omega) hv
  have c2 := flat_get Vl.cells 3 (fun _ => rfl) l k 2 v (by omega) hv
  exact ⟨⟨(h.cellAt _ (by omega)).trans c0, (h.cellAt _ (by omega)).trans c1, (h.cellAt _ (by omega)).trans c2⟩, ⟨h.frozenAt _, h.frozenAt _, h.frozenAt _⟩, (h.lt g rfl).2⟩
theorem oks_set {l : List Vl} {k : Nat} {v : Vl} (h : ∀ x ∈ l, x.ok) (hv : v.ok) : ∀ x ∈ l.set k v, x.ok := fun x hx => by
  rcases List.mem_or_eq_of_mem_set hx with hx | rfl
  · exact h x hx
  · exact hv
end Go.Proofs.YtedogodccblfeaaGreatDoor

namespace Go.Proofs.YtedogodccblfeaaGreatDoor
open Go.RowKit
set_option linter.unusedVariables false
set_option linter.unusedSimpArgs false
section
variable {P : Program} {M : Nat → Prop} {row : Option Nat} {w0 w1 : World} {L : List Hp} {sp : SpW} {F : Act → Prop} {S0 : Array Bool}
variable {ops : Array Oper} {o : Oper} {rest : List Oper} {a : Act} {k : Nat}
/-- append(nil, xs...): the copy is the call's own -/
theorem dw_cloneO {t e : TypeId} {size bytes : Nat} {z : Value} (hE : ElemT P t e size bytes z) (d : Tmp) (V : Value → World → Prop) (hS : S0.getD k false = false) (hw : Region.wanted o (yielded ops a.tmps) = true) (hd : o.dst = some d) (hsp : sp d = some V)
    (s x : Operand) (ho : o.op = .call { callee := .builtin .append, args := #[s, x], argTypes := #[t, t] }) (hs : a.eval s = .slice none 0 0) {A : Option Addr} {m c : Nat} {ys : List Value} (hx : a.eval x = .slice A m c) (h1 : ∀ u ∈ ys, u.oneCell' = true) (hq : m < 140737488355328) (hb : m * bytes ≤ 140737488355328)
    (hr : ∀ w, Hold M row w0 w L → Deps ops (GW sp) o a w → SlR size A m ys w) (hV : ∀ C' cap' w w', Hold M row w0 w L → RM (Mut M L) w1 w → Hold M row w0 w' L → m ≤ cap' → cap' ≤ 9223372036854775807 → w'.ownsRow w.heap.size e size (.slice C' m cap') m ys → V (.slice C' m cap') w')
    (hn : ∀ u w, Hold M row w0 w L → V u w → wpRel P ops (HC M row w0 w1 L) (GW sp) (RM (Mut M L)) S0 F (k + 1) rest (a.put (some d) u)) : wpRel P ops (HC M row w0 w1 L) (GW sp) (RM (Mut M L)) S0 F k (o :: rest) a := by
  refine rel_step hS hw d hd (fun w hC hD => ?_) fun u w hC hu => hn u w hC.1 ((GW_on hsp).1 hu)
  obtain ⟨C', cap', w', hrun, c1, c2, ho2, hb2⟩ := run_cloneNil hE o.type w (hr w hC.1 hD) (c := c) h1 hq hb
  have hH := hC.1.call hb2
  refine ⟨.slice C' m cap', w', ?_, (GW_on hsp).2 (hV C' cap' w w' hC.1 hC.2 hH c1 c2 ho2), ⟨hH, hC.2.trans (RM.below hb2)⟩, RM.below hb2⟩
  unfold execOp
  simp only [ho, resolve, invoke, builtin, Sem.run_bind, Sem.run_pure, Result.andThen_ok, List.map_toArray, List.map_cons, List.map_nil, hs, hx, hrun]
end
/-- an own row, as a statement that stays -/
theorem Ro.own {w : World} {M : Nat → Prop} {b0 b1 : Nat} (hM : ∀ b, M b → b < b1) (h01 : b0 ≤ b1) {e : TypeId} {size n : Nat} {v : Value} {xs : List Value} (h : w.ownsRow b1 e size v n xs) : Ro w M (fun w => w.ownsRow b0 e size v n xs) :=
  fun w2 h1 h2 => own_base h01 (own_RM hM ⟨h1, h2⟩ h)
/-- the rows' values are own rows, each at the head of its block -/
def OwnVals (VT : TypeId) (b0 : Nat) (l : List Rw) (w : World) : Prop := ∀ r ∈ l, w.ownsRow b0 VT 3 (.slice r.A r.n r.c) r.n (vlCells r.vs)
theorem ownVals_nil {VT : TypeId} {b0 : Nat} {w : World} {M : Nat → Prop} : Ro w M (OwnVals VT b0 []) := fun _ _ _ r hr => nomatch hr
theorem ownVals_snoc {M : Nat → Prop} {w : World} {VT : TypeId} {b0 : Nat} {rs : List Rw} {r : Rw} (h : Ro w M (OwnVals VT b0 rs)) (k : Ro w M (fun w => w.ownsRow b0 VT 3 (.slice r.A r.n r.c) r.n (vlCells r.vs))) : Ro w M (OwnVals VT b0 (rs ++ [r])) := fun w2 h1 h2 x hx => by
  rcases List.mem_append.1 hx with hx | hx
  · exact h w2 h1 h2 x hx
  · simp at hx; subst hx; exact k w2 h1 h2
theorem OwnVals.vals {VT : TypeId} {b0 : Nat} {l : List Rw} {w : World} (h : OwnVals VT b0 l w) : ValsIn l w := fun r hr => Rd.of_own (h r hr)
/-- said of a world in which the caller's blocks lie below b0 -/
theorem OwnVals.ro {VT : TypeId} {b0 : Nat} {l : List Rw} {w : World} {M : Nat → Prop} (hM : ∀ b, M b → b < b0) (h : OwnVals VT b0 l w) : Ro w M (ValsIn l) := fun w2 h1 h2 r hr => Rd.of_own (own_RM hM ⟨h1, h2⟩ (h r hr))
/-- a copy's slot: an own row -/
def OVls (VT : TypeId) (M : Nat → Prop) (b0 : Nat) (vs : List Vl) (u : Value) (w : World) : Prop := ∃ (A : Option Addr) (n c : Nat), u = .slice A n c ∧ n = vs.length ∧ n ≤ c ∧ c ≤ 9223372036854775807 ∧ Ro w M (fun w => w.ownsRow b0 VT 3 (.slice A n c) n (vlCells vs))
def ORow (VT : TypeId) (M : Nat → Prop) (b0 : Nat) (id : Int) (vs : List Vl) (u : Value) (w : World) : Prop := ∃ (A : Option Addr) (n c : Nat), u = .agg #[.int .i64 id, .slice A n c] ∧ n = vs.length ∧ n ≤ c ∧ c ≤ 9223372036854775807 ∧ Ro w M (fun w => w.ownsRow b0 VT 3 (.slice A n c) n (vlCells vs))
def ORBox (VT : TypeId) (M : Nat → Prop) (b0 : Nat) (id : Int) (vs : List Vl) (u : Value) (w : World) : Prop := ∃ (g : Nat) (A : Option Addr) (n c : Nat), u = .slice (some ⟨g, 0, none⟩) 1 1 ∧ n = vs.length ∧ n ≤ c ∧ c ≤ 9223372036854775807 ∧ Ro w M (fun w => w.ownsRow b0 VT 3 (.slice A n c) n (vlCells vs)) ∧ Ro w M (SlR 2 (some ⟨g, 0, none⟩) 1 [.int .i64 id, .slice A n c])
theorem oVls_mono {VT : TypeId} {M : Nat → Prop} {b0 : Nat} {vs : List Vl} (u : Value) (w w' : World) (hr : RM M w w') (h : OVls VT M b0 vs u w) : OVls VT M b0 vs u w' := by
  obtain ⟨A, n, c, h1, h2, h3, h4, h5⟩ := h
  exact ⟨A, n, c, h1, h2, h3, h4, hr.ro h5⟩
theorem oRow_mono {VT : TypeId} {M : Nat → Prop} {b0 : Nat} {id : Int} {vs : List Vl} (u : Value) (w w' : World) (hr : RM M w w') (h : ORow VT M b0 id vs u w) : ORow VT M b0 id vs u w' := by
  obtain ⟨A, n, c, h1, h2, h3, h4, h5⟩ := h
  exact ⟨A, n, c, h1, h2, h3, h4, hr.ro h5⟩
theorem oRBox_mono {VT : TypeId} {M : Nat → Prop} {b0 : Nat} {id : Int} {vs : List Vl} (u : Value) (w w' : World) (hr : RM M w w') (h : ORBox VT M b0 id vs u w) : ORBox VT M b0 id vs u w' := by
  obtain ⟨g, A, n, c, h1, h2, h3, h4, h5, h6⟩ := h
  exact ⟨g, A, n, c, h1, h2, h3, h4, hr.ro h5, hr.ro h6⟩
/-- an own list's slot, whatever the element -/
def OwnSl (e : TypeId) (size b0 : Nat) (xs : List Value) (u : Value) (w : World) : Prop := ∃ (A : Option Addr) (n c : Nat), u = .slice A n c ∧ n * size = xs.length ∧ n ≤ c ∧ c ≤ 9223372036854775807 ∧ w.ownsRow b0 e size (.slice A n c) n xs
theorem ownSl_mono {M : Nat → Prop} {e : TypeId} {size b0 : Nat} {xs : List Value} (hM : ∀ b, M b → b < b0) (u : Value) (w w' : World) (hr : RM M w w') (h : OwnSl e size b0 xs u w) : OwnSl e size b0 xs u w' := by
  obtain ⟨A, n, c, h1, h2, h3, h4, h5⟩ := h
  exact ⟨A, n, c, h1, h2, h3, h4, own_RM hM hr h5⟩
/-- A store into a block that came since w0 and is none of the items'. -/
theorem Hold.poke {M : Nat → Prop} {row : Option Nat} {w0 w : World} {L : List Hp} (h : Hold M row w0 w L) {g : Nat} (hg : w0.heap.size ≤ g) (hro : ∀ k ∈ L, ∃ b, k.foot = some b ∧ b ≠ g) (hT : ∀ T, .tp T ∈ L → T < g) (j : Nat) (u : Value) : Hold M row w0 (w.setCell ⟨g, j, none⟩ u) L := by
  have hb : ∀ b, b ≠ g → (w.setCell ⟨g, j, none⟩ u).heap[b]? = w.heap[b]? := fun b hne => Below.heap_setCell w _ u b hne
  have hsz : (w.setCell ⟨g, j, none⟩ u).heap.size = w.heap.size := by simp [World.setCell]
  refine ⟨⟨h.grow.os, h.grow.tape, h.grow.output, by rw [hsz]; exact h.grow.size, fun b hl hne => (hb b (by omega)).trans (h.grow.block b hl hne)⟩, h.low, fun k hk => ?_, fun k hk b hf => ⟨(h.fresh k hk b hf).1, by rw [hsz]; exact (h.fresh k hk b hf).2⟩, h.sep⟩
  obtain ⟨b, hf, hne⟩ := hro k hk
  have hs := h.sat k hk
  cases k with
  | blk g' t' cs' => injection hf with hf; subst hf; exact (hb _ hne).trans hs
  | own e s v n' xs =>
    refine ⟨hs.1, ?_⟩
    rcases hs.2 with hn | ⟨g', cap, cur, rfl, hb', hgg, rest⟩
    · exact .inl hn
    · have : some g' = some b := hf
      injection this with this
      subst this
      exact .inr ⟨g', cap, cur, rfl, hb', (hb _ hne).trans hgg, rest⟩
  | tp T => exact ⟨Tp.setCell (p := ⟨g, j, none⟩) hs.1 (hT T hk) _, hs.2⟩
  | ro S => cases hf
  | cst g' t' cs' => cases hf
  | ob g' F' =>
    injection hf with hf; subst hf
    exact fun w2 h2 => hs w2 (h2.trans (hb _ hne))
/-- a row whose values begin with another one, where they lie in the block g -/
def pokeRw (g : Nat) (v : Vl) (r : Rw) : Rw := if r.A = some ⟨g, 0, none⟩ then { r with vs := r.vs.set 0 v } else r
theorem pokeRw_cells (g : Nat) (v : Vl) (l : List Rw) : rwCells (l.map (pokeRw g v)) = rwCells l := by
  unfold rwCells
  rw [List.flatMap_map]
  congr 1
  funext r
  unfold pokeRw Rw.cells
  split <;> rfl
theorem OwnVals.poke {VT : TypeId} {b0 g : Nat} {l : List Rw} {w : World} (h : OwnVals VT b0 l w) (v : Vl) (hn : ∀ r ∈ l, 0 < r.vs.length) :
    OwnVals VT b0 (l.map (pokeRw g v)) (((w.setCell ⟨g, 0, none⟩ (.int .i64 v.k)).setCell ⟨g, 1, none⟩ (.int .i64 v.i)).setCell ⟨g, 2, none⟩ (.string v.s)) := fun r hr => by
  obtain ⟨x, hx, rfl⟩ := List.mem_map.1 hr
  have ho := h x hx
  unfold pokeRw
  split
  · rename_i hA
    dsimp only
    rw [hA] at ho ⊢
    have h3 := (((ho.stored 0 (.int .i64 v.k)).1.stored 1 (.int .i64 v.i)).1.stored 2 (.string v.s)).1
    have h4 := vlCells_set x.vs 0 v (hn x hx)
    simp only [Nat.zero_mul, Nat.zero_add] at h4
    rw [h4] at h3
    exact h3
  · rename_i hA
    refine ⟨ho.1, ?_⟩
    rcases ho.2 with hz | ⟨g', cap, cur, hv, hb, hh, rest⟩
    · exact .inl hz
    · have hne : g' ≠ g := fun e => hA (by injection hv with hv; rw [hv, e])
      exact .inr ⟨g', cap, cur, hv, hb, (Below.heap_setCell _ _ _ g' hne).trans ((Below.heap_setCell _ _ _ g' hne).trans ((Below.heap_setCell _ _ _ g' hne).trans hh)), rest⟩
/-- blocks of unlike types differ -/
theorem own_ne_ty {w : World} {b0 b1 g g' n n' c c' size size' : Nat} {e e' : TypeId} {xs ys : List Value} (h : w.ownsRow b0 e size (.slice (some ⟨g, 0, none⟩) n c) n xs) (k : w.ownsRow b1 e' size' (.slice (some ⟨g', 0, none⟩) n' c') n' ys) (hne : e ≠ e') : g ≠ g' := by
  rintro rfl
  rcases h.2 with ⟨h1, _⟩ | ⟨g1, _, cur, hv, _, hh, _⟩
  · cases h1
  rcases k.2 with ⟨h2, _⟩ | ⟨g2, _, cur2, hv2, _, hh2, _⟩
  · cases h2
  obtain rfl : g = g1 := by injection hv with hv; injection hv with hv; injection hv
  obtain rfl : g = g2 := by injection hv2 with hv; injection hv with hv; injection hv
  rw [hh] at hh2
  injection hh2 with hh2
  injection hh2 with _ hh2
  exact hne hh2
theorem blk_ne_ty {w : World} {b1 g g' n' c' size' : Nat} {t e' : TypeId} {cs : Array Value} {ys : List Value} (h : w.heap[g]? = some (.cells cs t (0, 0))) (k : w.ownsRow b1 e' size' (.slice (some ⟨g', 0, none⟩) n' c') n' ys) (hne : t ≠ e') : g ≠ g' := by
  rintro rfl
  rcases k.2 with ⟨h2, _⟩ | ⟨g2, _, cur2, hv2, _, hh2, _⟩
  · cases h2
  obtain rfl : g = g2 := by injection hv2 with hv; injection hv with hv; injection hv
  rw [h] at hh2
  injection hh2 with hh2
  injection hh2 with _ hh2
  exact hne hh2
theorem OwnVals.far {VT : TypeId} {b0 g : Nat} {l : List Rw} {w : World} {t : TypeId} {cs : Array Value} (h : OwnVals VT b0 l w) (hg : Blk w g t cs) (hne : t ≠ VT) (j : Nat) (u : Value) : OwnVals VT b0 l (w.setCell ⟨g, j, none⟩ u) := fun r hr => by
  have ho := h r hr
  refine ⟨ho.1, ?_⟩
  rcases ho.2 with hz | ⟨g', cap, cur, hv, hb, hh, rest⟩
  · exact .inl hz
  · have hn : g' ≠ g := by
      rintro rfl
      have hg2 : w.heap[g']? = some (.cells cs t (0, 0)) := hg
      rw [hh] at hg2
      injection hg2 with hg2
      injection hg2 with _ hg2
      exact hne hg2.symm
    exact .inr ⟨g', cap, cur, hv, hb, (Below.heap_setCell _ _ _ g' hn).trans hh, rest⟩
theorem OwnVals.far4 {VT : TypeId} {b0 g : Nat} {l : List Rw} {w : World} {t : TypeId} {cs : Array Value} (h : OwnVals VT b0 l w) (hg : Blk w g t cs) (hne : t ≠ VT) (u0 u1 u2 u3 : Value) : OwnVals VT b0 l ((((w.setCell ⟨g, 0, none⟩ u0).setCell ⟨g, 1, none⟩ u1).setCell ⟨g, 2, none⟩ u2).setCell ⟨g, 3, none⟩ u3) :=
  (((h.far hg hne 0 u0).far (hg.set_ 0 u0) hne 1 u1).far ((hg.set_ 0 u0).set_ 1 u1) hne 2 u2).far (((hg.set_ 0 u0).set_ 1 u1).set_ 2 u2) hne 3 u3
/-- an own list of rows, a row's cells -/
theorem own_rw {w : World} {base g n cap k : Nat} {e : TypeId} {l : List Rw} {r : Rw} (h : w.ownsRow base e 2 (.slice (some ⟨g, 0, none⟩) n cap) n (rwCells l)) (hr : l[k]? = some r) :
    (w.cell? ⟨g, k * 2, none⟩ = some (.int .i64 r.id) ∧ w.cell? ⟨g, k * 2 + 1, none⟩ = some (.slice r.A r.n r.c)) ∧ (w.frozen? ⟨g, k * 2, none⟩ = false ∧ w.frozen? ⟨g, k * 2 + 1, none⟩ = false) ∧ g < w.heap.size := by
  have hk := (List.getElem?_eq_some_iff.1 hr).1
  have hl : l.length = n := by have := h.1; rw [rwCells_len] at this; omega
  have c0 := flat_get Rw.cells 2 (fun _ => rfl) l k 0 r (by omega) hr
  have c1 := flat_get Rw.cells 2 (fun _ => rfl) l k 1 r (by omega) hr
  exact ⟨⟨(h.cellAt _ (by omega)).trans c0, (h.cellAt _ (by omega)).trans c1⟩, ⟨h.frozenAt _, h.frozenAt _⟩, (h.lt g rfl).2⟩
theorem rwCells_set : ∀ (l : List Rw) (k : Nat) (r x : Rw), l[k]? = some x → ((rwCells l).set (k * 2) (.int .i64 r.id)).set (k * 2 + 1) (.slice r.A r.n r.c) = rwCells (l.set k r)
  | [], k, r, x, h => by simp at h
  | y :: l, 0, r, x, h => by simp [rwCells, Rw.cells]
  | y :: l, k + 1, r, x, h => by
    have ih := rwCells_set l k r x (by simpa using h)
    have e : ∀ (ys : List Value) (j : Nat) (u : Value), (y.cells ++ ys).set (j + 2) u = y.cells ++ ys.set j u := fun ys j u => by
      rw [List.set_append_right _ _ (by simp [Rw.cells])]
      simp [Rw.cells]
    have e0 : rwCells (y :: l) = y.cells ++ rwCells l := by simp [rwCells]
    have e1 : rwCells ((y :: l).set (k + 1) r) = y.cells ++ rwCells (l.set k r) := by simp [rwCells]
    rw [e0, e1, show (k + 1) * 2 = k * 2 + 2 by omega, e, show k * 2 + 2 + 1 = (k * 2 + 1) + 2 by omega, e, ih]
theorem set_same {α : Type} : ∀ {l : List α} {k : Nat} {x : α}, l[k]? = some x → l.set k x = l
  | [], _, _, h => by simp at h
  | y :: l, 0, x, h => by simp at h; simp [h]
  | y :: l, k + 1, x, h => by simp at h; simp [set_same h]
theorem rwCells_setId {l : List Rw} {k : Nat} {x : Rw} (h : l[k]? = some x) (id : Int) : (rwCells l).set (k * 2) (.int .i64 id) = rwCells (l.set k { x with id := id }) := by
  have h1 := rwCells_set l k { x with id := id } x h
  have h2 := flat_get Rw.cells 2 (fun _ => rfl) l k 1 x (by omega) h
  have h3 : ((rwCells l).set (k * 2) (.int .i64 id))[k * 2 + 1]? = some (.slice x.A x.n x.c) := by
    rw [List.getElem?_set_ne (by omega)]
    exact h2
  rw [← h1]
  exact (set_same h3).symm
theorem rwCells_setVs {l : List Rw} {k : Nat} {x : Rw} (h : l[k]? = some x) (A : Option Addr) (n c : Nat) (vs : List Vl) : (rwCells l).set (k * 2 + 1) (.slice A n c) = rwCells (l.set k ⟨x.id, A, n, c, vs⟩) := by
  have h1 := rwCells_set l k ⟨x.id, A, n, c, vs⟩ x h
  have h2 := flat_get Rw.cells 2 (fun _ => rfl) l k 0 x (by omega) h
  rw [← h1]
  congr 1
  rw [Nat.add_zero] at h2
  exact (set_same h2).symm
end Go.Proofs.YtedogodccblfeaaGreatDoor

namespace Go.Proofs.YtedogodccblfeaaGreatDoor
open Go.RowKit
set_option linter.unusedVariables false
set_option linter.unusedSimpArgs false

/-- Some value, drawn, its numbers Go's. -/
def DrawnO2 (w : World) (T : Nat) (e : Ending) (w' : World) : Prop :=
  ∃ (k i : Int) (s : ByteArray), e = .returned (.agg #[.int .i64 k, .int .i64 i, .string s]) ∧ (s.size ≤ 100 ∧ I64 k ∧ I64 i) ∧ Tp w' T ∧ w.grownBy w' (some T)
theorem validB_k2 {k i : Int} {s : ByteArray} (h : validB k i s = true) : I64 k := by
  unfold validB at h
  unfold I64
  split at h
  · omega
  · split at h
    · omega
    · split at h
      · omega
      · split at h
        · omega
        · cases h
theorem i64_wrap64 (x : Int) : I64 (wrap64 x) := by
  unfold I64 wrap64
  omega

/-- The state of Odd's walk: the value's box V, the result's box R. -/
structure OddSt (w : World) (T V R : Nat) (wr : World) (k i : Int) (s : ByteArray) : Prop where
  bv : Blk wr V 117 #[.int .i64 k, .int .i64 i, .string s]
  br : Blk wr R 117 #[.int .i64 0, .int .i64 0, .string ⟨#[]⟩]
  tp : Tp wr T
  gr : w.grownBy wr (some T)
  hi : I64 i
  hs : s.size ≤ 100

theorem OddSt.grown {w : World} {T V R : Nat} {wr w' : World} {k i : Int} {s : ByteArray} (h : OddSt w T V R wr k i s) (hV : T < V) (hR : T < R) (t : Tp w' T) (g : wr.grownBy w' (some T)) : OddSt w T V R w' k i s :=
  ⟨h.bv.grown g (by intro e; injection e with e; omega), h.br.grown g (by intro e; injection e with e; omega), t, only_trans h.gr g, h.hi, h.hs⟩

theorem OddSt.drew {w : World} {T V R : Nat} {wr : World} {k i : Int} {s : ByteArray} (h : OddSt w T V R wr k i s) : OddSt w T V R wr.drew k i s := ⟨h.bv, h.br, h.tp, only_drew h.gr, h.hi, h.hs⟩
theorem drawnO_mk {w w1 : World} {T g : Nat} {k i : Int} {s : ByteArray} (hk : I64 k) (hi : I64 i) (hs : s.size ≤ 100) (t1 : Tp w1 T) (hTg : T < g) (g1 : w.grownBy w1 (some T)) (hg : w.heap.size ≤ g) :
    DrawnO2 w T (.returned (.agg #[.int .i64 k, .int .i64 i, .string s])) (((w1.setCell ⟨g, 0, none⟩ (.int .i64 k)).setCell ⟨g, 1, none⟩ (.int .i64 i)).setCell ⟨g, 2, none⟩ (.string s)) :=
  ⟨k, i, s, rfl, ⟨hs, hk, hi⟩, tp_set3 t1 hTg _ _ _, only_set3 g1 hg _ _ _⟩

theorem DrawnO2.alloc {w w' : World} {T : Nat} {e : Ending} (h : DrawnO2 w T e w') (o : Obj) : DrawnO2 w T e (w'.alloc o) := by
  obtain ⟨k, i, s, h1, h2, h3, h4⟩ := h
  exact ⟨k, i, s, h1, h2, h3.alloc o, only_alloc h4 o⟩
theorem conv1 (W : World) (x : Int) : (convert 213 9 (.slice (some ⟨W.heap.size, 0, none⟩) 1 1)).run Tryz.prog (W.alloc (.cells #[.int .u8 x] 5)) = .ok (.string (strOfNums [x])) (W.alloc (.cells #[.int .u8 x] 5)) :=
  run_convert_bytes_arg _ _ _ Tryz.underlying213 Tryz.underlying5 W.heap.size 0 1 1 [x] rfl (fun i hi => by
    obtain rfl : i = 0 := by omega
    exact (Blk.new W 5 #[.int .u8 x]).cell 0) _ Tryz.underlying9

set_option maxHeartbeats 2000000 in
theorem odd2_any (T : Nat) (w : World) (ht : Tp w T) (hw : Wds w) (hT : 2 < T) :
    Calls Tryz.prog 90 #[.pointer (some ⟨T, 0, none⟩)] w fun e w' => DrawnO2 w T e w' := by
  have hlt := ht.lt
  have B0 := Blk.new w 117 #[.int .i64 0, .int .i64 0, .string ⟨#[]⟩]
  have t0 := ht.alloc (.cells #[.int .i64 0, .int .i64 0, .string ⟨#[]⟩] 117)
  have g0 : w.grownBy (w.alloc (.cells #[.int .i64 0, .int .i64 0, .string ⟨#[]⟩] 117)) (some T) := only_alloc (World.grownBy.refl _ _) _
  have w0 : Wds (w.alloc (.cells #[.int .i64 0, .int .i64 0, .string ⟨#[]⟩] 117)) := hw.grown g0 (by intro e; injection e with e; omega)
  go_enter Tryz.func90, Tryz.ntmps90
  go_wp2_with fail
  refine (value_any T _ t0 w0 hT).mono ?_
  rintro e w1 ⟨k, i, s, rfl, hv, hs, hi, t1, _, g1⟩
  have B1 := B0.grown g1 (by intro e; injection e with e; omega)
  have V1 := Blk.new w1 117 #[.int .i64 k, .int .i64 i, .string s]
  have R1 := B1.alloc (.cells #[.int .i64 k, .int .i64 i, .string s] 117)
  have t2 := t1.alloc (.cells #[.int .i64 k, .int .i64 i, .string s] 117)
  have g2 := only_alloc (only_trans g0 g1) (.cells #[.int .i64 k, .int .i64 i, .string s] 117)
  have hRV : w.heap.size < w1.heap.size := B1.lt
  have HK := hid (validB_k2 hv)
  have HI := hid hi
  clear hv w0 t0 B0 g0 g1 B1 t1
  go_wp2_with fail
  refine (next_any T 5 _ t2 (by omega) (by omega)).mono ?_
  rintro e w2 ⟨x, rfl, x0, x1, t3, g3⟩
  have hTV : T < w1.heap.size := by omega
  have V2 := V1.grown g3 (by intro e; injection e with e; omega)
  have R2 := R1.grown g3 (by intro e; injection e with e; omega)
  have g4 := only_trans g2 g3
  have ST : OddSt w T w1.heap.size w.heap.size w2 k i s := ⟨V2, R2, t3, g4, hi, by omega⟩
  clear V1 R1 t2 g2 g3 V2 R2 t3 g4
  obtain ⟨V, hV⟩ : ∃ V, V = w1.heap.size := ⟨_, rfl⟩
  rw [← hV] at ST hRV hTV ⊢
  clear hV
  have hcase : x = 0 ∨ x = 1 ∨ x = 2 ∨ x = 3 ∨ x = 4 := by omega
  rcases hcase with rfl | rfl | rfl | rfl | rfl
  · go_wp2_with fail
    refine (next_any T 7 _ ST.tp (by omega) (by omega)).mono ?_
    rintro e w3 ⟨y, rfl, y0, y1, t3, g3⟩
    have S3 := ST.grown hTV hlt t3 g3
    obtain ⟨c0, c1, c2, cl⟩ := S3.bv.c3
    obtain ⟨r0, r1, r2, rl⟩ := S3.br.c3
    have f0 := S3.bv.frozen 0; have f1 := S3.bv.frozen 1; have f2 := S3.bv.frozen 2
    have q0 := S3.br.frozen 0; have q1 := S3.br.frozen 1; have q2 := S3.br.frozen 2
    go_wp2
    exact bodyPost_ret (v := .agg #[.int .i64 (y - 2), .int .i64 i, .string s]) (by simp [results, Tryz.results90, go_sem, c0, c1, c2, r0, r1, r2]) rfl (drawnO_mk (by unfold I64; omega) HI.out S3.hs (Tp.setCell (p := ⟨V, 0, none⟩) S3.tp hTV _) hlt (only_setCell (p := ⟨V, 0, none⟩) S3.gr (.inr (Nat.le_of_lt hRV)) _) (Nat.le_refl _))
  · obtain ⟨c0, c1, c2, cl⟩ := ST.bv.c3
    obtain ⟨r0, r1, r2, rl⟩ := ST.br.c3
    have f0 := ST.bv.frozen 0; have f1 := ST.bv.frozen 1; have f2 := ST.bv.frozen 2
    have q0 := ST.br.frozen 0; have q1 := ST.br.frozen 1; have q2 := ST.br.frozen 2
    go_wp2
    have HJ := hid (i64_wrap64 (i + 1))
    generalize wrap64 (i + 1) = j at HJ ⊢
    exact bodyPost_ret (v := .agg #[.int .i64 k, .int .i64 j, .string s]) (by simp [results, Tryz.results90, go_sem, c0, c1, c2, r0, r1, r2]) rfl (drawnO_mk HK.out HJ.out ST.hs (Tp.setCell (p := ⟨V, 1, none⟩) ST.tp hTV _) hlt (only_setCell (p := ⟨V, 1, none⟩) ST.gr (.inr (Nat.le_of_lt hRV)) _) (Nat.le_refl _))
  · obtain ⟨c0, c1, c2, cl⟩ := ST.bv.c3
    obtain ⟨r0, r1, r2, rl⟩ := ST.br.c3
    have f0 := ST.bv.frozen 0; have f1 := ST.bv.frozen 1; have f2 := ST.bv.frozen 2
    have q0 := ST.br.frozen 0; have q1 := ST.br.frozen 1; have q2 := ST.br.frozen 2
    go_wp2_with fail
    have kc := conv1
    have hsz := ST.hs
    have hsb : ∀ y : Int, (s ++ strOfNums [y]).size ≤ 100 := fun y => by
      rw [ByteArray.size_append, strOfNums_size]; simp only [List.length_cons, List.length_nil]; omega
    have hss : ∀ x, (strOfNums [x]).size = 1 := fun x => strOfNums_size [x]
    go_region_with (first
      | (go_at_call 43; refine (next_any T 256 _ (Tp.drew ST.tp) (by omega) (by omega)).mono ?_; rintro e w3 ⟨y, rfl, y0, y1, t3, g3⟩; have S3 := OddSt.grown (OddSt.drew ST) hTV hlt t3 g3; obtain ⟨c30, c31, c32, c3l⟩ := S3.bv.c3; obtain ⟨r30, r31, r32, r3l⟩ := S3.br.c3; have f30 := S3.bv.frozen 2; have q30 := S3.br.frozen 0; have q31 := S3.br.frozen 1; have q32 := S3.br.frozen 2))
    all_goals
      go_wp2
      refine bodyPost_ret (v := .agg #[.int .i64 k, .int .i64 i, .string (s ++ strOfNums [y])]) (by simp [results, Tryz.results90, go_sem, c30, c31, c32, r30, r31, r32, c3l, r3l]) rfl ?_
      refine DrawnO2.alloc ?_ _
      exact drawnO_mk HK.out HI.out (hsb y) (Tp.setCell (p := ⟨V, 2, none⟩) S3.tp hTV _) hlt (only_setCell (p := ⟨V, 2, none⟩) S3.gr (.inr (Nat.le_of_lt hRV)) _) (Nat.le_refl _)
  · obtain ⟨c0, c1, c2, cl⟩ := ST.bv.c3
    obtain ⟨r0, r1, r2, rl⟩ := ST.br.c3
    have f0 := ST.bv.frozen 0; have f1 := ST.bv.frozen 1; have f2 := ST.bv.frozen 2
    have q0 := ST.br.frozen 0; have q1 := ST.br.frozen 1; have q2 := ST.br.frozen 2
    go_wp2_with fail
    have g5 := only_set3 ST.gr (Nat.le_of_lt hRV) (.int .i64 3) (.int .i64 0) (.string ⟨#[]⟩)
    have bv5 : Blk (((w2.setCell ⟨V, 0, none⟩ (.int .i64 3)).setCell ⟨V, 1, none⟩ (.int .i64 0)).setCell ⟨V, 2, none⟩ (.string ⟨#[]⟩)) V 117 #[.int .i64 3, .int .i64 0, .string ⟨#[]⟩] := by
      have := ((ST.bv.set_ 0 (.int .i64 3)).set_ 1 (.int .i64 0)).set_ 2 (.string ⟨#[]⟩)
      simpa using this
    have br5 : Blk (((w2.setCell ⟨V, 0, none⟩ (.int .i64 3)).setCell ⟨V, 1, none⟩ (.int .i64 0)).setCell ⟨V, 2, none⟩ (.string ⟨#[]⟩)) w.heap.size 117 #[.int .i64 0, .int .i64 0, .string ⟨#[]⟩] :=
      Blk.far (p := ⟨V, 2, none⟩) (Blk.far (p := ⟨V, 1, none⟩) (Blk.far (p := ⟨V, 0, none⟩) ST.br (Nat.ne_of_lt hRV) _) (Nat.ne_of_lt hRV) _) (Nat.ne_of_lt hRV) _
    have S5 : OddSt w T V w.heap.size _ 3 0 ⟨#[]⟩ := ⟨bv5, br5, tp_set3 ST.tp hTV _ _ _, g5, by unfold I64; omega, by decide⟩
    refine (next_any T 8 _ S5.tp (by omega) (by omega)).mono ?_
    rintro e w3 ⟨y, rfl, y0, y1, t3, g3⟩
    have S6 := OddSt.grown S5 hTV hlt t3 g3
    clear S5 bv5 br5 g5 c0 c1 c2 cl r0 r1 r2 rl f0 f1 f2 q0 q1 q2 ST g3 t3 hi
    go_wp2_with fail
    go_loopw [4] (fun j wr => ∃ (n : Nat) (s : ByteArray), j = .int .i64 n ∧ s.size + n ≤ 67 ∧ OddSt w T V w.heap.size wr 3 0 s) (fun j _ => (intOf j).toNat)
    case atStart => exact ⟨(60 + y).toNat, ⟨#[]⟩, by congr 1; omega, by simp [ByteArray.size]; omega, S6⟩
    case round =>
      obtain ⟨n, s, rfl, hsn, SS⟩ := hrel
      obtain ⟨c0, c1, c2, cl⟩ := SS.bv.c3
      obtain ⟨r0, r1, r2, rl⟩ := SS.br.c3
      have f0 := SS.bv.frozen 0; have f1 := SS.bv.frozen 1; have f2 := SS.bv.frozen 2
      have q0 := SS.br.frozen 0; have q1 := SS.br.frozen 1; have q2 := SS.br.frozen 2
      by_cases hn : 0 < n
      · obtain ⟨m, rfl⟩ : ∃ m, n = m + 1 := ⟨n - 1, by omega⟩
        have hbv := SS.bv.set_ 2 (.string (s ++ ⟨#[120]⟩))
        have hbr := SS.br.far (p := ⟨V, 2, none⟩) (Nat.ne_of_lt hRV) (.string (s ++ ⟨#[120]⟩))
        have hsz : (s ++ ⟨#[120]⟩ : ByteArray).size = s.size + 1 := by rw [ByteArray.size_append]; rfl
        have hS := hid (OddSt.mk (w := w) (T := T) (V := V) (R := w.heap.size) (k := 3) (i := 0) (s := s ++ ⟨#[120]⟩) (by simpa using hbv) hbr (Tp.setCell (p := ⟨V, 2, none⟩) SS.tp hTV _) (only_setCell (p := ⟨V, 2, none⟩) SS.gr (.inr (Nat.le_of_lt hRV)) _) SS.hi (by omega))
        have HZ := hid hsz
        clear hbv hbr hsz
        go_wp2_with fail
        refine ⟨⟨m, s ++ ⟨#[120]⟩, rfl, by have := HZ.out; omega, hS.out⟩, by simp [intOf]⟩
      · obtain rfl : n = 0 := by omega
        go_wp2
        refine bodyPost_ret (v := .agg #[.int .i64 3, .int .i64 0, .string s]) (by simp [results, Tryz.results90, go_sem, c0, c1, c2, r0, r1, r2]) rfl ?_
        exact drawnO_mk (by unfold I64; omega) (by unfold I64; omega) SS.hs SS.tp hlt SS.gr (Nat.le_refl _)
  · obtain ⟨c0, c1, c2, cl⟩ := ST.bv.c3
    obtain ⟨r0, r1, r2, rl⟩ := ST.br.c3
    have f0 := ST.bv.frozen 0; have f1 := ST.bv.frozen 1; have f2 := ST.bv.frozen 2
    have q0 := ST.br.frozen 0; have q1 := ST.br.frozen 1; have q2 := ST.br.frozen 2
    go_wp2
    exact bodyPost_ret (v := .agg #[.int .i64 k, .int .i64 i, .string s]) (by simp [results, Tryz.results90, go_sem, c0, c1, c2, r0, r1, r2]) rfl (drawnO_mk HK.out HI.out ST.hs ST.tp hlt ST.gr (Nat.le_refl _))
end Go.Proofs.YtedogodccblfeaaGreatDoor

namespace Go.Proofs.YtedogodccblfeaaGreatDoor
open Go.RowKit
set_option linter.unusedVariables false
set_option linter.unusedSimpArgs false

/-- Some table in memory. -/
def SomeTab (w : World) (T : Nat) (M : Nat → Prop) (e : Ending) (w' : World) : Prop :=
  ∃ (v : Value) (t : Tb), e = .returned v ∧ TbAt w' M v t ∧ (t.nm.size ≤ maxLen ∧ (∀ x ∈ t.cs, x.name.size ≤ maxLen) ∧ t.cs.length ≤ 1001 ∧ t.rs.length ≤ 1000 ∧ ∀ r ∈ t.rs, r.2.length ≤ 1000) ∧ Tp w' T ∧ w.grownBy w' (some T)
theorem someTab_of {M : Nat → Prop} {T : Nat} {w w' : World} {nm : ByteArray} {A : Option Addr} {n c : Nat} {cs : List Col} {nx : Int} {O : Option Addr} {j cap : Nat} {outs : List Rw} (h1 : nm.size ≤ maxLen) (h2 : ∀ x ∈ cs, x.name.size ≤ maxLen) (h3 : cs.length ≤ 1001) (h4 : n ≤ c) (h5 : c ≤ 9223372036854775807) (h6 : j ≤ cap) (h7 : cap ≤ 9223372036854775807) (h8 : outs.length ≤ 1000)
    (h9 : ∀ r ∈ outs, r.ok ∧ r.vs.length ≤ 1000) (r1 : Ro w' M (ColsIn A n cs)) (r2 : Ro w' M (RwsIn O j outs)) (ht : Tp w' T) (hg : w.grownBy w' (some T)) : SomeTab w T M (.returned (.agg #[.string nm, .slice A n c, .int .i64 nx, .slice O j cap])) w' := by
  refine ⟨_, ⟨nm, cs, nx, outs.map Rw.row⟩, rfl, ⟨A, n, c, O, j, cap, outs, rfl, h4, h5, h6, h7, r1, r2, fun r hr => (h9 r hr).1, rfl⟩, ⟨h1, h2, h3, by rw [List.length_map]; exact h8, fun r hr => ?_⟩, ht, hg⟩
  obtain ⟨x, hx, rfl⟩ := List.mem_map.1 hr
  exact (h9 x hx).2
/-- what is known of a row that came from the copies -/
def ROk (n : Nat) (r : Rw) : Prop := r.ok ∧ r.vs.length = n ∧ r.n = n
theorem rOk_snoc {n : Nat} {l : List Rw} {x : Rw} (h : ∀ r ∈ l, ROk n r) (k : ROk n x) : ∀ r ∈ l ++ [x], ROk n r := fun r hr => by
  rcases List.mem_append.1 hr with hr | hr
  · exact h r hr
  · simp at hr; subst hr; exact k
theorem rOk_set {P : Rw → Prop} {l : List Rw} {k : Nat} {x : Rw} (h : ∀ r ∈ l, P r) (hx : P x) : ∀ r ∈ l.set k x, P r := fun r hr => (List.mem_or_eq_of_mem_set hr).elim (h r) (fun e => e ▸ hx)
theorem rOut {n : Nat} {r : Rw} (h : ROk n r) (hn : n ≤ 1000) : r.ok ∧ r.vs.length ≤ 1000 := ⟨h.1, by rw [h.2.1]; exact hn⟩
theorem Ro.colsAt {w : World} {M : Nat → Prop} {A : Option Addr} {n : Nat} {l : List Col} (h : Ro w M (ColsIn A n l)) {k : Nat} {x : Col} (hx : l[k]? = some x) :
    ∃ b o, A = some ⟨b, o, none⟩ ∧ Ro w M (fun w => b < w.heap.size ∧ w.cell? ⟨b, o + k * 4, none⟩ = some (.string x.name) ∧ w.cell? ⟨b, o + k * 4 + 1, none⟩ = some (.int .i64 x.ty) ∧ w.cell? ⟨b, o + k * 4 + 2, none⟩ = some (.bool x.nn) ∧ w.cell? ⟨b, o + k * 4 + 3, none⟩ = some (.bool x.key)) := by
  obtain ⟨b, o, e, _⟩ := (RdC.of_sl h.now).at_ hx
  refine ⟨b, o, e, fun w2 h1 h2 => ?_⟩
  obtain ⟨b', o', e', h3, h4⟩ := (RdC.of_sl (h w2 h1 h2)).at_ hx
  rw [e] at e'
  injection e' with e'
  injection e' with e1 e2
  subst e1; subst e2
  exact ⟨h3, h4⟩
theorem colCells_one (l : List Col) : ∀ u ∈ colCells l, u.oneCell' = true := by
  intro u hu
  simp only [colCells, List.mem_flatMap, Col.cells, List.mem_cons, List.not_mem_nil, or_false] at hu
  obtain ⟨c, _, rfl | rfl | rfl | rfl⟩ := hu <;> rfl
theorem Tryz.elCl : ElemT Tryz.prog 47 147 4 32 (.agg #[.string ⟨#[]⟩, .int .i64 0, .bool false, .bool false]) := ⟨Tryz.underlying47, by kernel_rfl, rfl, by omega⟩
theorem tail_vls0 {A : Option Addr} {n : Nat} {vs : List Vl} {w : World} (hn : n = 1) (hl : vs.length = n) : VlsIn A (n - 1) vs.tail w := by
  subst hn
  obtain ⟨v, rfl⟩ := List.length_eq_one_iff.1 hl
  exact ⟨rfl, fun h => absurd h (by omega)⟩
def OddSlot (u : Value) (_ : World) : Prop := ∃ v : Vl, u = .agg #[.int .i64 v.k, .int .i64 v.i, .string v.s] ∧ v.ok
theorem oddSlot_mono {M : Nat → Prop} (u : Value) (w w' : World) (_ : RM M w w') (h : OddSlot u w) : OddSlot u w' := h
theorem ownVals_set {VT : TypeId} {b0 : Nat} {w : World} {l : List Rw} {k : Nat} {x : Rw} (h : OwnVals VT b0 l w) (hx : w.ownsRow b0 VT 3 (.slice x.A x.n x.c) x.n (vlCells x.vs)) : OwnVals VT b0 (l.set k x) w := fun r hr => (List.mem_or_eq_of_mem_set hr).elim (h r) (fun e => e ▸ hx)
theorem tail_vls {g n : Nat} {vs : List Vl} {w : World} (h : VlsIn (some ⟨g, 0, none⟩) n vs w) (hn : 0 < n) : VlsIn (some ⟨g, 3, none⟩) (n - 1) vs.tail w := by
  have hl := VlsIn.len h
  obtain ⟨b, o, e, hb, hc⟩ := (show Rd w w.heap.size 3 (some ⟨g, 0, none⟩) n (vlCells vs) from h).2 hn
  injection e with e
  injection e with e1 e2
  subst e1; subst e2
  refine ⟨by rw [vlCells_len, List.length_tail]; omega, fun _ => ⟨g, 3, rfl, hb, fun j u hu => ?_⟩⟩
  cases vs with
  | nil => simp at hl; omega
  | cons v vs =>
    have h2 := hc (j + 3) u (by
      have e0 : vlCells (v :: vs) = v.cells ++ vlCells vs := by simp [vlCells]
      rw [e0, List.getElem?_append_right (by simp [Vl.cells])]
      simpa [Vl.cells] using hu)
    rw [← h2]
    congr 2
    omega
set_option maxHeartbeats 8000000 in
set_option maxRecDepth 100000 in
theorem tspoil_any (M : Nat → Prop) (T : Nat) (w : World) (hM : ∀ b, M b → b < w.heap.size) (ht : Tp w T) (hMT : ∀ b, M b → T ≤ b) (nm : ByteArray) (A : Option Addr) (n c : Nat) (cs : List Col) (nx : Int) (B : Option Addr) (m d : Nat) (l : List Rw) (hD : Ro w (Mut M [.tp T]) (ColsIn A n cs)) (hE : Ro w (Mut M [.tp T]) (RwsIn B m l)) (hW : Ro w (Mut M [.tp T]) Wds) (hT : 2 < T)
    (hn1 : 1 ≤ n) (hn : n ≤ 1000) (hnc : n ≤ c) (hc : c ≤ 9223372036854775807) (hm : m ≤ 1000) (hfit : ∀ r ∈ l, r.vs.length = n) (hrok : ∀ r ∈ l, r.ok) (hnm : nm.size ≤ maxLen) (hcs : ∀ x ∈ cs, x.name.size ≤ maxLen) : Calls Tryz.prog 37 #[.pointer (some ⟨T, 0, none⟩), .agg #[.string nm, .slice A n c, .int .i64 nx, .slice B m d]] w fun e w' => SomeTab w T M e w' := by
  have HL := hid (cols_n hD.now)
  have HLM := hid hE.now.len
  have HFIT := hid hfit
  have HROK := hid hrok
  have HNM := hid hnm
  have HCS := hid hcs
  have HTL := hid ht.lt
  have HMM := hid hM
  have HD := hid hD
  clear hfit hrok hnm hcs
  have K0 := (((((((Hold.startT M w T hM ht hMT).add hE).add (hD.less (mut_none rfl))).add ((hW.less (mut_none rfl)).less (mut_none rfl))).alloc_cst #[.string nm, .slice A n c, .int .i64 nx, .slice B m d] 58).alloc #[.string ⟨#[]⟩, .slice none 0 0, .int .i64 0, .slice none 0 0] 58).alloc #[.string nm, .slice A n c, .int .i64 nx, .slice none 0 0] 58)
  simp only [World.size_alloc] at K0
  have F0 := K0.facts
  simp only [World.size_alloc, World.size_drew, factsL, cellsF, Nat.reduceAdd, List.toList_toArray, List.set_cons_zero, List.set_cons_succ, List.setIfInBounds_toArray, and_true, true_and] at F0
  clear hD hE hW
  go_enter Tryz.func37, Tryz.ntmps37
  go_wp2_with fail
  clear F0
  obtain ⟨g3, hg3⟩ : ∃ g3, g3 = w.heap.size := ⟨_, rfl⟩
  obtain ⟨g4, hg4⟩ : ∃ g4, g4 = g3 + 1 := ⟨_, rfl⟩
  obtain ⟨g5, hg5⟩ : ∃ g5, g5 = g4 + 1 := ⟨_, rfl⟩
  rw [← hg3, ← hg4, ← hg5] at K0 ⊢
  generalize ((w.alloc _).alloc _).alloc _ = w1 at K0 ⊢
  have HGX := hid hg3
  clear hg3 hg4 hg5
  have K1 := (K0.add (show Ro _ _ (OwnVals 117 w.heap.size []) from ownVals_nil)).nil 119 2
  clear K0
  go_loopw [18] (fun iv wr => ∃ (j cap : Nat) (O : Option Addr) (outs : List Rw), j ≤ m ∧ iv = .int .i64 j ∧ Hid (∀ r ∈ outs, ROk n r) ∧ Hold M (some T) w wr [.own 119 2 (.slice O j cap) j (rwCells outs), .ro (OwnVals 117 w.heap.size outs), .blk g5 58 #[.string nm, .slice A n c, .int .i64 nx, .slice O j cap], .blk g4 58 #[.string ⟨#[]⟩, .slice none 0 0, .int .i64 0, .slice none 0 0], .cst g3 58 #[.string nm, .slice A n c, .int .i64 nx, .slice B m d], .ro Wds, .ro (ColsIn A n cs), .ro (RwsIn B m l), .tp T]) (fun iv _ => m - (intOf iv).toNat)
  case atStart => exact ⟨0, 0, none, [], by omega, rfl, hid (fun r hr => nomatch hr), K1⟩
  case round =>
    clear K1
    obtain ⟨j, cap, O, outs, hj, rfl, HRK, H⟩ := hrel
    by_cases hlt : j < m
    · have hd : decide ((j : Int) < (m : Int)) = true := by simp; omega
      have j0 : (0 : Int) ≤ (j : Int) := by omega
      have j1 : (j : Int) < (m : Int) := by omega
      obtain ⟨x, hx⟩ := get_of HLM.out hlt
      obtain ⟨b, o, rfl, hb, c0, c1, hxv⟩ := (H.ro 7 rfl).now.at_ hx
      have HXO := hid (HROK.out x (List.mem_of_getElem? hx))
      have HXL := hid (HFIT.out x (List.mem_of_getElem? hx))
      have hxr : Ro wr _ (VlsIn x.A x.n x.vs) := (H.ro 7 rfl).imp fun w2 h2 => h2.2 x (List.mem_of_getElem? hx)
      obtain ⟨xid, xA, xn, xc, xvs⟩ := x
      dsimp only at *
      obtain rfl : n = xn := by have h1 := hxv.len; have h2 := HXL.out; omega
      clear hx hxv
      have K1 := (H.add hxr).alloc_cst #[.int .i64 xid, .slice xA n xc] 119
      clear H hxr
      obtain ⟨gr, hgr⟩ : ∃ gr, gr = wr.heap.size := ⟨_, rfl⟩
      rw [← hgr] at K1
      go_wp2_with fail
      rw [← hgr]
      clear hgr c0 c1
      obtain ⟨KL, hKL, KN⟩ := K1.name
      have HF : Hid (∀ wv, Hold M (some T) w wv KL → (wv.cell? ⟨g5, 3, none⟩ = some (.slice O j cap) ∧ g5 < wv.heap.size) ∧ wv.cell? ⟨gr, 0, none⟩ = some (.int .i64 xid) ∧ wv.cell? ⟨gr, 1, none⟩ = some (.slice xA n xc) ∧ gr < wv.heap.size) := hid fun wv HC => by
        rw [hKL] at HC
        have y1 := HC.blk_ 4 rfl
        have y2 := HC.cst_ 0 rfl
        exact ⟨⟨cell_of_row _ _ 3 _ _ _ y1, Blk.lt y1⟩, cell_of_row _ _ 0 _ _ _ y2, cell_of_row _ _ 1 _ _ _ y2, Blk.lt y2⟩
      have HRX : Hid (∀ wv, Hold M (some T) w wv KL → VlsIn xA n xvs wv) := hid fun wv HC => by
        rw [hKL] at HC
        exact (HC.ro 1 rfl).now
      have HKL := hid hKL
      clear hKL K1
      refine wp_region_any (by kernel_rfl) ?_
      refine wpAny_hold 9 125 (KL) (spL [(28, OVls 117 (Mut M KL) w.heap.size xvs), (29, ORow 117 (Mut M KL) w.heap.size xid xvs), (30, ORBox 117 (Mut M KL) w.heap.size xid xvs)]) (by kernel_rfl) (by kernel_rfl) (by kernel_rfl) rfl ?_ (KN.drew) ?_
      · exact stays_cons oVls_mono (stays_cons oRow_mono (stays_cons oRBox_mono (stays_nil _)))
      simp only [List.take_succ_cons, List.take_zero, List.drop_succ_cons, List.drop_zero, Act.put, List.getElem_toArray, List.getElem_cons_zero, List.getElem_cons_succ, List.setIfInBounds_toArray, List.set_cons_succ, List.set_cons_zero]
      refine dw_val rfl rfl rfl ?_; apply Exists.intro; refine ⟨fun wv HC => ?_, ?_⟩
      ·  go_simp <;> rfl
      simp only [Act.put, List.setIfInBounds_toArray, List.set_cons_succ, List.set_cons_zero]
      refine dw_val rfl rfl rfl ?_; apply Exists.intro; refine ⟨fun wv HC => ?_, ?_⟩
      · obtain ⟨⟨f0, f1⟩, f2, f3, f4⟩ := HF.out _ HC; go_simp <;> rfl
      simp only [Act.put, List.setIfInBounds_toArray, List.set_cons_succ, List.set_cons_zero]
      refine dw_val rfl rfl rfl ?_; apply Exists.intro; refine ⟨fun wv HC => ?_, ?_⟩
      ·  go_simp <;> rfl
      simp only [Act.put, List.setIfInBounds_toArray, List.set_cons_succ, List.set_cons_zero]
      refine dw_val rfl rfl rfl ?_; apply Exists.intro; refine ⟨fun wv HC => ?_, ?_⟩
      · obtain ⟨⟨f0, f1⟩, f2, f3, f4⟩ := HF.out _ HC; go_simp <;> rfl
      simp only [Act.put, List.setIfInBounds_toArray, List.set_cons_succ, List.set_cons_zero]
      refine dw_val rfl rfl rfl ?_; apply Exists.intro; refine ⟨fun wv HC => ?_, ?_⟩
      ·  go_simp <;> rfl
      simp only [Act.put, List.setIfInBounds_toArray, List.set_cons_succ, List.set_cons_zero]
      refine dw_val rfl rfl rfl ?_; apply Exists.intro; refine ⟨fun wv HC => ?_, ?_⟩
      · obtain ⟨⟨f0, f1⟩, f2, f3, f4⟩ := HF.out _ HC; go_simp <;> rfl
      simp only [Act.put, List.setIfInBounds_toArray, List.set_cons_succ, List.set_cons_zero]
      refine dw_cloneO Tryz.elVl 28 (OVls 117 (Mut M KL) w.heap.size xvs) rfl rfl rfl rfl (.const (.slice none 0 0)) (.tmp 27) rfl rfl (A := xA) (m := n) (c := xc) (ys := vlCells xvs) rfl (one_vls _) (by omega) (by omega) (fun wv HC hD => HRX.out _ HC) (fun C9 c9 wv wv' HC hrm HC' q1 q2 ho => ⟨C9, n, c9, rfl, HXL.out.symm, q1, q2, Ro.own (fun b hb => HC.mutLt b hb) HC.grow.size ho⟩) ?_
      rintro u wx HCx ⟨A28, n28, c28, rfl, hn28, -, -, -⟩
      have HN28 := hid hn28
      clear HCx hn28
      simp only [Act.put, List.setIfInBounds_toArray, List.set_cons_succ, List.set_cons_zero]
      refine dw_valC 29 (ORow 117 (Mut M KL) w.heap.size xid xvs) rfl rfl rfl rfl (.agg #[.int .i64 xid, .slice A28 n28 c28]) (fun wv HC => ?_) (fun wv HC hD => ?_) ?_
      · go_simp <;> rfl
      · have hsl : OVls 117 (Mut M KL) w.heap.size xvs (.slice A28 n28 c28) wv := deps_at hD 6 rfl (by kernel_rfl) rfl rfl
        obtain ⟨A6, n6, c6, e6, h1, h2, h3, h4⟩ := hsl
        exact ⟨A6, n6, c6, by rw [e6], h1, h2, h3, h4⟩
      simp only [Act.put, List.setIfInBounds_toArray, List.set_cons_succ, List.set_cons_zero]
      refine dw_new #[.int .i64 xid, .slice A28 n28 c28] 119 30 (ORBox 117 (Mut M KL) w.heap.size xid xvs) (fun g => .slice (some ⟨g, 0, none⟩) 1 1) rfl rfl rfl rfl (fun wv => ?_) (fun wv HC _hrm hD hro => ?_) ?_
      · go_simp <;> rfl
      · have hsl : ORow 117 (Mut M KL) w.heap.size xid xvs (.agg #[.int .i64 xid, .slice A28 n28 c28]) wv := deps_at hD 7 rfl (by kernel_rfl) rfl rfl
        obtain ⟨A6, n6, c6, e6, h1, h2, h3, h4⟩ := hsl
        obtain ⟨rfl, rfl, rfl⟩ : A28 = A6 ∧ n28 = n6 ∧ c28 = c6 := by
          injection e6 with e6
          simp at e6
          exact e6
        exact ⟨_, A28, n28, c28, rfl, h1, h2, h3, h4.step (by simp) (fun b hb _ => Below.heap_alloc wv _ b hb) (fun _ _ h => h), ro_block (hro _ HC.mutLt) rfl⟩
      rintro g2 wg HCg hsl
      simp only [Act.put, List.setIfInBounds_toArray, List.set_cons_succ, List.set_cons_zero]
      clear hsl HCg
      refine rel_nil ?_
      rintro wx2 HX
      rintro _hrm HGW
      have hb2 : ORBox 117 (Mut M KL) w.heap.size xid xvs (.slice (some ⟨g2, 0, none⟩) 1 1) wx2 := (GW_on (d := 30) rfl).1 (HGW 8 _ rfl (by omega))
      clear HGW _hrm
      obtain ⟨gq, A6, n6, c6, e6, k0_, k1_, k2_, k3_, k4_⟩ := hb2
      obtain rfl : g2 = gq := by injection e6 with e6; injection e6 with e6; injection e6
      clear e6
      rw [HKL.out] at HX k3_
      have k5 := hid k4_.now
      have HRN := hid (show ROk n ⟨xid, A6, n6, c6, xvs⟩ from ⟨⟨HXO.out.id, k1_, k2_, HXO.out.vs⟩, HXL.out, by show n6 = n; rw [k0_]; exact HXL.out⟩)
      clear k4_ k0_ k1_ k2_ HF HRX KN
      have HRS := hid (show rwCells outs ++ [.int .i64 xid, .slice A6 n6 c6] = rwCells (outs ++ [⟨xid, A6, n6, c6, xvs⟩]) from rwCells_snoc1 _ _ _ _ _ _)
      have KA := HX.add k3_
      clear HX k3_
      have FKA := KA.facts
      simp only [World.size_alloc, World.size_drew, factsL, cellsF, Nat.reduceAdd, List.toList_toArray, List.set_cons_zero, List.set_cons_succ, List.setIfInBounds_toArray, and_true, true_and] at FKA
      go_wp2_with (at_builtin; go_must (refine wpList_appAllH KA 3 rfl Tryz.elRw k5.out rfl (.tmp 23) (.tmp 30) rfl rfl rfl (by intro z hz; simp at hz; rcases hz with rfl | rfl <;> rfl) (by omega) (by omega) ?_); intro C' cap' w6 hc6 hm6 KB; rw [HRS.out] at KB; simp only [List.set_cons_zero, List.set_cons_succ] at KB; (have F3 := KB.facts); simp only [World.size_alloc, World.size_drew, factsL, cellsF, Nat.reduceAdd, List.toList_toArray, List.set_cons_zero, List.set_cons_succ, List.setIfInBounds_toArray, and_true, true_and] at F3)
      have KD := KB.store 5 rfl 3 (.slice C' (j + 1) cap')
      have KE := (KD.swapRo 4 rfl (ownVals_snoc (r := ⟨xid, A6, n6, c6, xvs⟩) (KD.ro 4 rfl) (KD.ro 0 rfl))).drop (List.Sublist.cons _ (List.Sublist.cons _ (List.Sublist.cons _ (List.Sublist.refl _))))
      have HSN := hid (rOk_snoc HRK.out HRN.out)
      go_roundw
      case rel => exact ⟨j + 1, cap', C', outs ++ [Rw.mk xid A6 n6 c6 xvs], by omega, by first | rfl | go_num, HSN, KE⟩
      case measure => simp [intOf]; omega
    · obtain rfl : m = j := by omega
      have hd : decide ((m : Int) < (m : Int)) = false := by simp
      clear hlt
      have HOL := hid (show outs.length = m by have h := (H.get 0 rfl).1; rw [rwCells_len] at h; omega)
      have FH := H.facts
      simp only [World.size_alloc, World.size_drew, factsL, cellsF, Nat.reduceAdd, List.toList_toArray, List.set_cons_zero, List.set_cons_succ, List.setIfInBounds_toArray, and_true, true_and] at FH
      go_wp2_with fail
      refine (next_any T 7 _ (H.tp_ 8 rfl) (by omega) (by omega)).mono ?_
      rintro e w2 ⟨z, rfl, z0, z1, t2, g2⟩
      have K2 := Hold.callT H 8 rfl g2 t2
      clear H g2 t2 FH
      have F2 := K2.facts
      simp only [World.size_alloc, World.size_drew, factsL, cellsF, Nat.reduceAdd, List.toList_toArray, List.set_cons_zero, List.set_cons_succ, List.setIfInBounds_toArray, and_true, true_and] at F2
      have hcap := own_caps (K2.get 0 rfl)
      have NK := K2.nes
      simp only [nesL, neF, and_true, true_and] at NK
      obtain rfl | rfl | rfl | rfl | rfl | rfl | rfl : z = 0 ∨ z = 1 ∨ z = 2 ∨ z = 3 ∨ z = 4 ∨ z = 5 ∨ z = 6 := by omega
      · skip
        go_wp2_with fail
        refine (next_any T 3 _ (K2.tp_ 8 rfl) (by omega) (by omega)).mono ?_
        rintro e w3 ⟨y, rfl, y0, y1, t3, g3'⟩
        have K3 := Hold.callT K2 8 rfl g3' t3
        clear K2 g3' t3 F2
        have F3 := K3.facts
        simp only [World.size_alloc, World.size_drew, factsL, cellsF, Nat.reduceAdd, List.toList_toArray, List.set_cons_zero, List.set_cons_succ, List.setIfInBounds_toArray, and_true, true_and] at F3
        have KS := (K3.store 2 rfl 2 (.int .i64 (y - 1))).sealRow 0 rfl
        simp only [List.set_cons_zero, List.set_cons_succ, List.setIfInBounds_toArray] at KS
        have KN := (((KS.store 3 rfl 0 (.string nm)).store 3 rfl 1 (.slice A n c)).store 3 rfl 2 (.int .i64 (y - 1))).store 3 rfl 3 (.slice O m cap)
        have r2 := KN.roOut 0 rfl
        have r3 := KN.roOut 1 rfl
        go_wp2_with fail
        exact bodyPost_ret (v := .agg #[.string nm, .slice A n c, .int .i64 (y - 1), .slice O m cap]) (by simp [results, Tryz.results37, go_sem, F3, NK]) rfl (someTab_of HNM.out HCS.out (by have := HL.out; omega) hnc hc hcap.1 hcap.2.1 (by have := HOL.out; omega) (fun r hr => rOut (HRK.out r hr) hn) (KN.roOut 6 rfl) (r2.and (r3.imp fun w h => h.vals)) (KN.tp_ 8 rfl) KN.grow)
      · skip
        have KS := (K2.store 2 rfl 0 (.string ⟨#[84]⟩)).sealRow 0 rfl
        simp only [List.set_cons_zero, List.set_cons_succ, List.setIfInBounds_toArray] at KS
        have KN := (((KS.store 3 rfl 0 (.string ⟨#[84]⟩)).store 3 rfl 1 (.slice A n c)).store 3 rfl 2 (.int .i64 nx)).store 3 rfl 3 (.slice O m cap)
        have r2 := KN.roOut 0 rfl
        have r3 := KN.roOut 1 rfl
        go_wp2_with fail
        exact bodyPost_ret (v := .agg #[.string ⟨#[84]⟩, .slice A n c, .int .i64 nx, .slice O m cap]) (by simp [results, Tryz.results37, go_sem, F2, NK]) rfl (someTab_of (by show (1 : Nat) ≤ maxLen; unfold maxLen; omega) HCS.out (by have := HL.out; omega) hnc hc hcap.1 hcap.2.1 (by have := HOL.out; omega) (fun r hr => rOut (HRK.out r hr) hn) (KN.roOut 6 rfl) (r2.and (r3.imp fun w h => h.vals)) (KN.tp_ 8 rfl) KN.grow)
      · skip
        obtain ⟨c0, hc0⟩ := get_of HL.out (show 0 < n by omega)
        obtain ⟨ba, oa, hA, hco⟩ := (K2.ro 6 rfl).colsAt hc0
        have HC0 := hid (HCS.out c0 (List.mem_of_getElem? hc0))
        subst hA
        simp only [Nat.zero_mul, Nat.add_zero] at hco
        have K3 := K2.add hco
        clear hco K2
        go_wp2_with fail
        obtain ⟨KL, hKL, KN⟩ := K3.name
        have HF : Hid (∀ wv, Hold M (some T) w wv KL → (wv.cell? ⟨g3, 1, none⟩ = some (.slice (some ⟨ba, oa, none⟩) n c) ∧ g3 < wv.heap.size) ∧ (ba < wv.heap.size ∧ wv.cell? ⟨ba, oa, none⟩ = some (.string c0.name) ∧ wv.cell? ⟨ba, oa + 1, none⟩ = some (.int .i64 c0.ty) ∧ wv.cell? ⟨ba, oa + 2, none⟩ = some (.bool c0.nn) ∧ wv.cell? ⟨ba, oa + 3, none⟩ = some (.bool c0.key)) ∧ SlR 4 (some ⟨ba, oa, none⟩) n (colCells cs) wv) := hid fun wv HC => by
          rw [hKL] at HC
          have y1 := HC.cst_ 5 rfl
          exact ⟨⟨cell_of_row _ _ 1 _ _ _ y1, Blk.lt y1⟩, (HC.ro 0 rfl).now, (HC.ro 7 rfl).now⟩
        have HKL := hid hKL
        clear hKL K3
        obtain ⟨Hs, hHs⟩ : ∃ Hs, Hs = w2.drew.heap.size := ⟨_, rfl⟩
        have HHS := hid hHs
        have hMH : ∀ b, Mut M KL b → b < Hs := by rw [hHs]; exact KN.drew.mutLt
        clear hHs
        have hn0 : 0 < n := by omega
        refine wp_region_any (by kernel_rfl) ?_
        refine wpAny_hold 10 125 (KL) (spL [(70, OwnSl 147 4 Hs (colCells cs)), (76, fun u w => ∃ g : Nat, u = .slice (some ⟨g, 0, none⟩) 1 1 ∧ Ro w (Mut M KL) (SlR 4 (some ⟨g, 0, none⟩) 1 (colCells [c0])))]) (by kernel_rfl) (by kernel_rfl) (by kernel_rfl) rfl ?_ (KN.drew) ?_
        · exact stays_cons (ownSl_mono hMH) (stays_cons (fun u w w' hr h => by obtain ⟨g, h1, h2⟩ := h; exact ⟨g, h1, hr.ro h2⟩) (stays_nil _))
        simp only [List.take_succ_cons, List.take_zero, List.drop_succ_cons, List.drop_zero, Act.put, List.getElem_toArray, List.getElem_cons_zero, List.getElem_cons_succ, List.setIfInBounds_toArray, List.set_cons_succ, List.set_cons_zero]
        refine dw_val rfl rfl rfl ?_; apply Exists.intro; refine ⟨fun wv HC => ?_, ?_⟩
        ·  go_simp <;> rfl
        simp only [Act.put, List.setIfInBounds_toArray, List.set_cons_succ, List.set_cons_zero]
        refine dw_val rfl rfl rfl ?_; apply Exists.intro; refine ⟨fun wv HC => ?_, ?_⟩
        ·  go_simp <;> rfl
        simp only [Act.put, List.setIfInBounds_toArray, List.set_cons_succ, List.set_cons_zero]
        refine dw_val rfl rfl rfl ?_; apply Exists.intro; refine ⟨fun wv HC => ?_, ?_⟩
        · obtain ⟨⟨f0, f1⟩, ⟨q0, q1, q2, q3, q4⟩, _⟩ := HF.out _ HC; go_simp <;> rfl
        simp only [Act.put, List.setIfInBounds_toArray, List.set_cons_succ, List.set_cons_zero]
        refine dw_cloneO Tryz.elCl 70 (OwnSl 147 4 Hs (colCells cs)) rfl rfl rfl rfl (.const (.slice none 0 0)) (.tmp 69) rfl rfl (A := some ⟨ba, oa, none⟩) (m := n) (c := c) (ys := colCells cs) rfl (colCells_one _) (by omega) (by omega) (fun wv HC hD => (HF.out _ HC).2.2) (fun C9 c9 wv wv' HC hrm HC' q1 q2 ho => ⟨C9, n, c9, rfl, by rw [colCells_len, HL.out], q1, q2, own_base (by rw [HHS.out]; exact hrm.1) ho⟩) ?_
        rintro u wx HCx ⟨A70, n70, c70, rfl, hn70, -, -, -⟩
        obtain rfl : n70 = n := by rw [colCells_len, HL.out] at hn70; omega
        clear HCx hn70
        simp only [Act.put, List.setIfInBounds_toArray, List.set_cons_succ, List.set_cons_zero]
        refine dw_val rfl rfl rfl ?_; apply Exists.intro; refine ⟨fun wv HC => ?_, ?_⟩
        ·  go_simp <;> rfl
        simp only [Act.put, List.setIfInBounds_toArray, List.set_cons_succ, List.set_cons_zero]
        refine dw_val rfl rfl rfl ?_; apply Exists.intro; refine ⟨fun wv HC => ?_, ?_⟩
        ·  go_simp <;> rfl
        simp only [Act.put, List.setIfInBounds_toArray, List.set_cons_succ, List.set_cons_zero]
        refine dw_val rfl rfl rfl ?_; apply Exists.intro; refine ⟨fun wv HC => ?_, ?_⟩
        · obtain ⟨⟨f0, f1⟩, ⟨q0, q1, q2, q3, q4⟩, _⟩ := HF.out _ HC; go_simp <;> rfl
        simp only [Act.put, List.setIfInBounds_toArray, List.set_cons_succ, List.set_cons_zero]
        refine dw_val rfl rfl rfl ?_; apply Exists.intro; refine ⟨fun wv HC => ?_, ?_⟩
        ·  go_simp <;> rfl
        simp only [Act.put, List.setIfInBounds_toArray, List.set_cons_succ, List.set_cons_zero]
        refine dw_val rfl rfl rfl ?_; apply Exists.intro; refine ⟨fun wv HC => ?_, ?_⟩
        · obtain ⟨⟨f0, f1⟩, ⟨q0, q1, q2, q3, q4⟩, _⟩ := HF.out _ HC; go_simp <;> rfl
        simp only [Act.put, List.setIfInBounds_toArray, List.set_cons_succ, List.set_cons_zero]
        refine dw_new #[.string c0.name, .int .i64 c0.ty, .bool c0.nn, .bool c0.key] 147 76 (fun u w => ∃ g : Nat, u = .slice (some ⟨g, 0, none⟩) 1 1 ∧ Ro w (Mut M KL) (SlR 4 (some ⟨g, 0, none⟩) 1 (colCells [c0]))) (fun g => .slice (some ⟨g, 0, none⟩) 1 1) rfl rfl rfl rfl (fun wv => ?_) (fun wv HC _hrm hD hro => ?_) ?_
        · go_simp <;> rfl
        · exact ⟨_, rfl, ro_block (hro _ HC.mutLt) rfl⟩
        rintro g76 wg HCg hsl
        simp only [Act.put, List.setIfInBounds_toArray, List.set_cons_succ, List.set_cons_zero]
        clear hsl HCg
        refine rel_nil ?_
        rintro wx2 HX
        rintro _hrm HGW
        have ho70 : OwnSl 147 4 Hs (colCells cs) (.slice A70 n70 c70) wx2 := (GW_on (d := 70) rfl).1 (HGW 3 _ rfl (by omega))
        have hb76 : ∃ g : Nat, Value.slice (some ⟨g76, 0, none⟩) 1 1 = .slice (some ⟨g, 0, none⟩) 1 1 ∧ Ro wx2 (Mut M KL) (SlR 4 (some ⟨g, 0, none⟩) 1 (colCells [c0])) := (GW_on (d := 76) rfl).1 (HGW 9 _ rfl (by omega))
        clear HGW
        obtain ⟨gq, e6, k4_⟩ := hb76
        obtain rfl : g76 = gq := by injection e6 with e6; injection e6 with e6; injection e6
        obtain ⟨A6, n6, c6, e7, hn6, hc61, hc62, ho6⟩ := ho70
        obtain ⟨rfl, rfl, rfl⟩ : A70 = A6 ∧ n70 = n6 ∧ c70 = c6 := by injection e7 with h1 h2 h3; exact ⟨h1, h2, h3⟩
        clear e6 e7 hn6
        have k5 := hid k4_.now
        rw [HHS.out] at ho6
        have KA := Hold.addOwn KN.drew HX _hrm ho6
        rw [HKL.out] at KA
        clear HX _hrm ho6 k4_ HF KN hMH HHS
        have FKA := KA.facts
        simp only [World.size_alloc, World.size_drew, factsL, cellsF, Nat.reduceAdd, List.toList_toArray, List.set_cons_zero, List.set_cons_succ, List.setIfInBounds_toArray, and_true, true_and] at FKA
        have HCE := hid (show colCells cs ++ colCells [c0] = colCells (cs ++ [c0]) by simp [colCells])
        go_wp2_with (at_builtin; go_must (refine wpList_appAllH KA 0 rfl Tryz.elCl k5.out rfl (.tmp 70) (.tmp 76) rfl rfl rfl (colCells_one _) (by omega) (by omega) ?_); intro C' cap' w6 hc6 hm6 KB; rw [HCE.out] at KB; simp only [List.set_cons_zero, List.set_cons_succ] at KB; (have F3 := KB.facts); simp only [World.size_alloc, World.size_drew, factsL, cellsF, Nat.reduceAdd, List.toList_toArray, List.set_cons_zero, List.set_cons_succ, List.setIfInBounds_toArray, and_true, true_and] at F3)
        have KC := (KB.sealRow 0 rfl).drop (L' := [.ro (SlR 4 C' (n70 + 1) (colCells (cs ++ [c0]))), .own 119 2 (.slice O m cap) m (rwCells outs), .ro (OwnVals 117 w.heap.size outs), .blk g5 58 #[.string nm, .slice (some ⟨ba, oa, none⟩) n70 c, .int .i64 nx, .slice O m cap], .blk g4 58 #[.string ⟨#[]⟩, .slice none 0 0, .int .i64 0, .slice none 0 0], .cst g3 58 #[.string nm, .slice (some ⟨ba, oa, none⟩) n70 c, .int .i64 nx, .slice B m d], .ro Wds, .ro (ColsIn (some ⟨ba, oa, none⟩) n70 cs), .ro (RwsIn B m l), .tp T]) (List.Sublist.cons_cons _ (List.Sublist.cons _ (List.Sublist.refl _)))
        have KD := KC.store 3 rfl 1 (.slice C' (n70 + 1) cap')
        have KS := KD.sealRow 1 rfl
        simp only [List.set_cons_zero, List.set_cons_succ, List.setIfInBounds_toArray] at KS
        have KN := (((KS.store 4 rfl 0 (.string nm)).store 4 rfl 1 (.slice C' (n70 + 1) cap')).store 4 rfl 2 (.int .i64 nx)).store 4 rfl 3 (.slice O m cap)
        have r1 := KN.roOut 0 rfl
        have r2 := KN.roOut 1 rfl
        have r3 := KN.roOut 2 rfl
        have hnm2 : ∀ x ∈ cs ++ [c0], x.name.size ≤ maxLen := fun x hx => by
          rcases List.mem_append.1 hx with hx | hx
          · exact HCS.out x hx
          · simp at hx; subst hx; exact HC0.out
        have hcl2 : (cs ++ [c0]).length ≤ 1001 := by have := HL.out; simp; omega
        go_wp2_with fail
        exact bodyPost_ret (v := .agg #[.string nm, .slice C' (n70 + 1) cap', .int .i64 nx, .slice O m cap]) (by simp [results, Tryz.results37, go_sem, F3, NK]) rfl (someTab_of HNM.out hnm2 hcl2 hc6 hm6 hcap.1 hcap.2.1 (by have := HOL.out; omega) (fun r hr => rOut (HRK.out r hr) hn) r1 (r2.and (r3.imp fun w h => h.vals)) (KN.tp_ 9 rfl) KN.grow)
      · skip
        by_cases hm0 : 0 < m
        · have hg0 : decide ((m : Int) > 0) = true := by simp; omega
          obtain ⟨go, rfl⟩ : ∃ g, O = some ⟨g, 0, none⟩ := by
            rcases own_addr (K2.get 0 rfl) with ⟨_, h, _⟩ | ⟨g, h, _⟩
            · omega
            · exact ⟨g, h⟩
          go_wp2_with fail
          obtain ⟨KL, hKL, KN⟩ := K2.name
          have HF : Hid (∀ wv, Hold M (some T) w wv KL → (wv.cell? ⟨g5, 3, none⟩ = some (.slice (some ⟨go, 0, none⟩) m cap) ∧ g5 < wv.heap.size) ∧ ∀ (k : Nat) (x : Rw), outs[k]? = some x → (wv.cell? ⟨go, k * 2, none⟩ = some (.int .i64 x.id) ∧ wv.cell? ⟨go, k * 2 + 1, none⟩ = some (.slice x.A x.n x.c)) ∧ (wv.frozen? ⟨go, k * 2, none⟩ = false ∧ wv.frozen? ⟨go, k * 2 + 1, none⟩ = false) ∧ go < wv.heap.size) := hid fun wv HC => by
            rw [hKL] at HC
            have y1 := HC.blk_ 2 rfl
            exact ⟨⟨cell_of_row _ _ 3 _ _ _ y1, Blk.lt y1⟩, fun k x hx => own_rw (HC.get 0 rfl) hx⟩
          have HKL := hid hKL
          clear hKL K2
          refine wp_region_any (by kernel_rfl) ?_
          refine wpAny_hold 9 125 (KL) (spL [(88, fun u _ => NatB m u), (90, fun u _ => NatB 3 u)]) (by kernel_rfl) (by kernel_rfl) (by kernel_rfl) rfl ?_ (KN.drew) ?_
          · exact stays_cons (fun _ _ _ _ h => h) (stays_cons (fun _ _ _ _ h => h) (stays_nil _))
          simp only [List.take_succ_cons, List.take_zero, List.drop_succ_cons, List.drop_zero, Act.put, List.getElem_toArray, List.getElem_cons_zero, List.getElem_cons_succ, List.setIfInBounds_toArray, List.set_cons_succ, List.set_cons_zero]
          refine dw_val rfl rfl rfl ?_; apply Exists.intro; refine ⟨fun wv HC => ?_, ?_⟩
          ·  go_simp <;> rfl
          simp only [Act.put, List.setIfInBounds_toArray, List.set_cons_succ, List.set_cons_zero]
          refine dw_val rfl rfl rfl ?_; apply Exists.intro; refine ⟨fun wv HC => ?_, ?_⟩
          · obtain ⟨⟨f0, f1⟩, _⟩ := HF.out _ HC; go_simp <;> rfl
          simp only [Act.put, List.setIfInBounds_toArray, List.set_cons_succ, List.set_cons_zero]
          refine dw_val rfl rfl rfl ?_; apply Exists.intro; refine ⟨fun wv HC => ?_, ?_⟩
          ·  go_simp <;> rfl
          simp only [Act.put, List.setIfInBounds_toArray, List.set_cons_succ, List.set_cons_zero]
          refine dw_val rfl rfl rfl ?_; apply Exists.intro; refine ⟨fun wv HC => ?_, ?_⟩
          ·  go_simp <;> rfl
          simp only [Act.put, List.setIfInBounds_toArray, List.set_cons_succ, List.set_cons_zero]
          refine dw_next (T := T) m 8 (by rw [HKL.out]; rfl) 88 rfl rfl rfl rfl (fun wv => ?_) ?_
          · go_simp <;> rfl
          rintro r hr
          simp only [Act.put, List.setIfInBounds_toArray, List.set_cons_succ, List.set_cons_zero]
          have hr1 : decide ((r : Int) < (m : Int)) = true := by simp; omega
          have hr0 : decide ((0 : Int) ≤ (r : Int)) = true := by simp
          obtain ⟨x, hx⟩ := get_of HOL.out hr
          have HXX := hid hx
          have HXR := hid (HRK.out x (List.mem_of_getElem? hx))
          clear hx
          refine dw_val rfl rfl rfl ?_; apply Exists.intro; refine ⟨fun wv HC => ?_, ?_⟩
          ·  go_simp <;> rfl
          simp only [Act.put, List.setIfInBounds_toArray, List.set_cons_succ, List.set_cons_zero]
          refine dw_next (T := T) 3 8 (by rw [HKL.out]; rfl) 90 rfl rfl rfl rfl (fun wv => ?_) ?_
          · go_simp <;> rfl
          rintro y hy
          simp only [Act.put, List.setIfInBounds_toArray, List.set_cons_succ, List.set_cons_zero]
          refine dw_val rfl rfl rfl ?_; apply Exists.intro; refine ⟨fun wv HC => ?_, ?_⟩
          ·  go_simp <;> rfl
          simp only [Act.put, List.setIfInBounds_toArray, List.set_cons_succ, List.set_cons_zero]
          refine dw_val rfl rfl rfl ?_; apply Exists.intro; refine ⟨fun wv HC => ?_, ?_⟩
          ·  go_simp <;> rfl
          simp only [Act.put, List.setIfInBounds_toArray, List.set_cons_succ, List.set_cons_zero]
          refine rel_nil ?_
          rintro wx2 HX
          rintro _hrm HGW
          clear HGW _hrm
          rw [HKL.out] at HX
          clear HF KN HKL
          have N4 := HX.apart_ 0 3 rfl rfl (by omega) rfl rfl
          have N5 := HX.apart_ 0 2 rfl rfl (by omega) rfl rfl
          have N6 := N4.symm
          have N7 := N5.symm
          obtain ⟨⟨q0, q1⟩, ⟨q2, q3⟩, q4⟩ := own_rw (HX.get 0 rfl) HXX.out
          have FX_ := HX.facts
          simp only [World.size_alloc, World.size_drew, factsL, cellsF, Nat.reduceAdd, List.toList_toArray, List.set_cons_zero, List.set_cons_succ, List.setIfInBounds_toArray, and_true, true_and] at FX_
          have KP := HX.put_ 0 rfl (r * 2) (.int .i64 y)
          rw [rwCells_setId HXX.out] at KP
          simp only [List.set_cons_zero, List.set_cons_succ] at KP
          have KQ := KP.swapRo 1 rfl ((KP.ro 1 rfl).imp fun w2 h2 => ownVals_set (k := r) (x := { x with id := (y : Int) }) h2 (h2 x (List.mem_of_getElem? HXX.out)))
          simp only [List.set_cons_zero, List.set_cons_succ] at KQ
          have HOK3 := hid (show ∀ z ∈ outs.set r { x with id := (y : Int) }, ROk n z from rOk_set HRK.out ⟨⟨by unfold I64; show _ ≤ (y : Int) ∧ (y : Int) ≤ _; omega, HXR.out.1.nc, HXR.out.1.c, HXR.out.1.vs⟩, HXR.out.2⟩)
          have KS := KQ.sealRow 0 rfl
          simp only [List.set_cons_zero, List.set_cons_succ, List.setIfInBounds_toArray] at KS
          have KN := (((KS.store 3 rfl 0 (.string nm)).store 3 rfl 1 (.slice A n c)).store 3 rfl 2 (.int .i64 nx)).store 3 rfl 3 (.slice (some ⟨go, 0, none⟩) m cap)
          have r2 := KN.roOut 0 rfl
          have r3 := KN.roOut 1 rfl
          go_wp2_with fail
          exact bodyPost_ret (v := .agg #[.string nm, .slice A n c, .int .i64 nx, .slice (some ⟨go, 0, none⟩) m cap]) (by simp [results, Tryz.results37, go_sem, FX_, NK, q0, q1, q2, q3, q4, N4, N5, N6, N7]) rfl (someTab_of HNM.out HCS.out (by have := HL.out; omega) hnc hc hcap.1 hcap.2.1 (by rw [List.length_set]; have := HOL.out; omega) (fun r hr => rOut (HOK3.out r hr) hn) (KN.roOut 6 rfl) (r2.and (r3.imp fun w h => h.vals)) (KN.tp_ 8 rfl) KN.grow)
        · have hg0 : decide ((m : Int) > 0) = false := by simp; omega
          have hg1 : decide (0 < m) = false := by simp; omega
          have KS := K2.sealRow 0 rfl
          simp only [List.set_cons_zero, List.set_cons_succ, List.setIfInBounds_toArray] at KS
          have KN := (((KS.store 3 rfl 0 (.string nm)).store 3 rfl 1 (.slice A n c)).store 3 rfl 2 (.int .i64 nx)).store 3 rfl 3 (.slice O m cap)
          have r2 := KN.roOut 0 rfl
          have r3 := KN.roOut 1 rfl
          go_wp2_with fail
          exact bodyPost_ret (v := .agg #[.string nm, .slice A n c, .int .i64 nx, .slice O m cap]) (by simp [results, Tryz.results37, go_sem, F2, NK]) rfl (someTab_of HNM.out HCS.out (by have := HL.out; omega) hnc hc hcap.1 hcap.2.1 (by have := HOL.out; omega) (fun r hr => rOut (HRK.out r hr) hn) (KN.roOut 6 rfl) (r2.and (r3.imp fun w h => h.vals)) (KN.tp_ 8 rfl) KN.grow)
      · skip
        by_cases hm0 : 0 < m
        · have hg0 : decide ((m : Int) > 0) = true := by simp; omega
          obtain ⟨go, rfl⟩ : ∃ g, O = some ⟨g, 0, none⟩ := by
            rcases own_addr (K2.get 0 rfl) with ⟨_, h, _⟩ | ⟨g, h, _⟩
            · omega
            · exact ⟨g, h⟩
          go_wp2_with fail
          obtain ⟨KL, hKL, KN⟩ := K2.name
          have HF : Hid (∀ wv, Hold M (some T) w wv KL → (wv.cell? ⟨g5, 3, none⟩ = some (.slice (some ⟨go, 0, none⟩) m cap) ∧ g5 < wv.heap.size) ∧ ∀ (k : Nat) (x : Rw), outs[k]? = some x → (wv.cell? ⟨go, k * 2, none⟩ = some (.int .i64 x.id) ∧ wv.cell? ⟨go, k * 2 + 1, none⟩ = some (.slice x.A x.n x.c)) ∧ (wv.frozen? ⟨go, k * 2, none⟩ = false ∧ wv.frozen? ⟨go, k * 2 + 1, none⟩ = false) ∧ go < wv.heap.size) := hid fun wv HC => by
            rw [hKL] at HC
            have y1 := HC.blk_ 2 rfl
            exact ⟨⟨cell_of_row _ _ 3 _ _ _ y1, Blk.lt y1⟩, fun k x hx => own_rw (HC.get 0 rfl) hx⟩
          have HKL := hid hKL
          clear hKL K2
          have HRX : Hid (∀ wv, Hold M (some T) w wv KL → Tp wv T ∧ Wds wv) := hid fun wv HC => by
            rw [HKL.out] at HC
            exact ⟨HC.tp_ 8 rfl, (HC.ro 5 rfl).now⟩
          have HOV := hid (show OwnVals 117 w.heap.size outs w2 by have h := KN; rw [HKL.out] at h; exact (h.ro 1 rfl).now)
          have hn0 : 0 < n := by omega
          refine wp_region_any (by kernel_rfl) ?_
          refine wpAny_hold 11 125 (KL) (spL [(101, fun u _ => NatB m u), (106, OddSlot)]) (by kernel_rfl) (by kernel_rfl) (by kernel_rfl) rfl ?_ (KN.drew) ?_
          · exact stays_cons (fun _ _ _ _ h => h) (stays_cons oddSlot_mono (stays_nil _))
          simp only [List.take_succ_cons, List.take_zero, List.drop_succ_cons, List.drop_zero, Act.put, List.getElem_toArray, List.getElem_cons_zero, List.getElem_cons_succ, List.setIfInBounds_toArray, List.set_cons_succ, List.set_cons_zero]
          refine dw_val rfl rfl rfl ?_; apply Exists.intro; refine ⟨fun wv HC => ?_, ?_⟩
          ·  go_simp <;> rfl
          simp only [Act.put, List.setIfInBounds_toArray, List.set_cons_succ, List.set_cons_zero]
          refine dw_val rfl rfl rfl ?_; apply Exists.intro; refine ⟨fun wv HC => ?_, ?_⟩
          · obtain ⟨⟨f0, f1⟩, _⟩ := HF.out _ HC; go_simp <;> rfl
          simp only [Act.put, List.setIfInBounds_toArray, List.set_cons_succ, List.set_cons_zero]
          refine dw_val rfl rfl rfl ?_; apply Exists.intro; refine ⟨fun wv HC => ?_, ?_⟩
          ·  go_simp <;> rfl
          simp only [Act.put, List.setIfInBounds_toArray, List.set_cons_succ, List.set_cons_zero]
          refine dw_val rfl rfl rfl ?_; apply Exists.intro; refine ⟨fun wv HC => ?_, ?_⟩
          ·  go_simp <;> rfl
          simp only [Act.put, List.setIfInBounds_toArray, List.set_cons_succ, List.set_cons_zero]
          refine dw_next (T := T) m 8 (by rw [HKL.out]; rfl) 101 rfl rfl rfl rfl (fun wv => ?_) ?_
          · go_simp <;> rfl
          rintro r hr
          simp only [Act.put, List.setIfInBounds_toArray, List.set_cons_succ, List.set_cons_zero]
          have hr1 : decide ((r : Int) < (m : Int)) = true := by simp; omega
          have hr0 : decide ((0 : Int) ≤ (r : Int)) = true := by simp
          obtain ⟨x, hx⟩ := get_of HOL.out hr
          have HXX := hid hx
          have HXR := hid (HRK.out x (List.mem_of_getElem? hx))
          clear hx
          obtain ⟨xid, xA, xn, xc, xvs⟩ := x
          (try dsimp only at *)
          obtain rfl : n = xn := HXR.out.2.2.symm
          obtain ⟨gx, rfl⟩ : ∃ g, xA = some ⟨g, 0, none⟩ := by
            rcases own_addr (HOV.out _ (List.mem_of_getElem? HXX.out)) with ⟨_, h, _⟩ | ⟨g, h, _⟩
            · (try dsimp only at h); omega
            · exact ⟨g, h⟩
          refine dw_val rfl rfl rfl ?_; apply Exists.intro; refine ⟨fun wv HC => ?_, ?_⟩
          ·  go_simp <;> rfl
          simp only [Act.put, List.setIfInBounds_toArray, List.set_cons_succ, List.set_cons_zero]
          refine dw_val rfl rfl rfl ?_; apply Exists.intro; refine ⟨fun wv HC => ?_, ?_⟩
          ·  go_simp <;> rfl
          simp only [Act.put, List.setIfInBounds_toArray, List.set_cons_succ, List.set_cons_zero]
          refine dw_val rfl rfl rfl ⟨.slice (some ⟨gx, 0, none⟩) n xc, fun wv HC => ?_, ?_⟩
          · obtain ⟨_, fo⟩ := HF.out _ HC
            obtain ⟨⟨y0, y1⟩, _, y2⟩ := fo r _ HXX.out
            dsimp only at y0 y1
            go_simp <;> rfl
          simp only [Act.put, List.setIfInBounds_toArray, List.set_cons_succ, List.set_cons_zero]
          refine dw_val rfl rfl rfl ?_; apply Exists.intro; refine ⟨fun wv HC => ?_, ?_⟩
          ·  go_simp <;> rfl
          simp only [Act.put, List.setIfInBounds_toArray, List.set_cons_succ, List.set_cons_zero]
          refine dw_callR 106 OddSlot (f := 90) (args := #[.pointer (some ⟨T, 0, none⟩)]) rfl rfl rfl rfl (fun wv => ?_) (fun wv HC hrm hD => ?_) ?_
          · go_simp <;> rfl
          · refine (odd2_any T wv (HRX.out _ HC).1 (HRX.out _ HC).2 hT).mono ?_
            rintro e w5 ⟨k, i, s, rfl, ⟨h1, h2, h3⟩, t5, g5'⟩
            exact ⟨_, rfl, ⟨⟨k, i, s⟩, rfl, ⟨h2, h3, by show s.size ≤ maxLen; unfold maxLen; omega⟩⟩, Hold.callT HC 8 (by rw [HKL.out]; rfl) g5' t5, RM.grown g5' (.inr ⟨_, List.mem_of_getElem? (i := 8) (by rw [HKL.out]; rfl), rfl⟩)⟩
          rintro u wx HCx ⟨v, rfl, hvo⟩
          have HVO := hid hvo
          clear HCx hvo
          simp only [Act.put, List.setIfInBounds_toArray, List.set_cons_succ, List.set_cons_zero]
          refine dw_val rfl rfl rfl ?_; apply Exists.intro; refine ⟨fun wv HC => ?_, ?_⟩
          ·  go_simp <;> rfl
          simp only [Act.put, List.setIfInBounds_toArray, List.set_cons_succ, List.set_cons_zero]
          refine rel_nil ?_
          rintro wx2 HX
          rintro _hrm HGW
          clear HGW _hrm
          rw [HKL.out] at HX
          clear HF KN HKL HRX HOV
          have hov := (HX.ro 1 rfl).now
          have hox := hov _ (List.mem_of_getElem? HXX.out)
          dsimp only at hox
          obtain ⟨uq, huq⟩ : ∃ uq, xvs[0]? = some uq := ⟨_, List.getElem?_eq_getElem (by have h := HXR.out.2.1; (try dsimp only at h); omega)⟩
          obtain ⟨⟨y0, y1, y2⟩, ⟨y3, y4, y5⟩, y6⟩ := own_vl hox huq
          simp only [Nat.zero_mul, Nat.zero_add] at y0 y1 y2 y3 y4 y5
          have hgx : w.heap.size ≤ gx := (hox.lt gx rfl).1
          have N4 : ¬ go = gx := own_ne_ty (HX.get 0 rfl) hox (by decide)
          have N5 : ¬ g5 = gx := blk_ne_ty (HX.blk_ 2 rfl) hox (by decide)
          have N6 : ¬ g4 = gx := blk_ne_ty (HX.blk_ 3 rfl) hox (by decide)
          have N7 : ¬ gx = g5 := fun e => N5 e.symm
          have N8 : ¬ gx = g4 := fun e => N6 e.symm
          have hb4 := HX.blk_ 3 rfl
          have FX_ := HX.facts
          simp only [World.size_alloc, World.size_drew, factsL, cellsF, Nat.reduceAdd, List.toList_toArray, List.set_cons_zero, List.set_cons_succ, List.setIfInBounds_toArray, and_true, true_and] at FX_
          have KF := HX.drop (L' := [.own 119 2 (.slice (some ⟨go, 0, none⟩) m cap) m (rwCells outs), .blk g5 58 #[.string nm, .slice A n c, .int .i64 nx, .slice (some ⟨go, 0, none⟩) m cap], .blk g4 58 #[.string ⟨#[]⟩, .slice none 0 0, .int .i64 0, .slice none 0 0], .tp T]) (List.Sublist.cons_cons _ (List.Sublist.cons _ (List.Sublist.cons_cons _ (List.Sublist.cons_cons _ (List.Sublist.cons _ (List.Sublist.cons _ (List.Sublist.cons _ (List.Sublist.cons _ (List.Sublist.refl _)))))))))
          have hfo : ∀ k ∈ ([.own 119 2 (.slice (some ⟨go, 0, none⟩) m cap) m (rwCells outs), .blk g5 58 #[.string nm, .slice A n c, .int .i64 nx, .slice (some ⟨go, 0, none⟩) m cap], .blk g4 58 #[.string ⟨#[]⟩, .slice none 0 0, .int .i64 0, .slice none 0 0], .tp T] : List Hp), ∃ b, k.foot = some b ∧ b ≠ gx := fun k hk => by
            simp only [List.mem_cons, List.not_mem_nil, or_false] at hk
            rcases hk with rfl | rfl | rfl | rfl
            · exact ⟨go, rfl, N4⟩
            · exact ⟨g5, rfl, N5⟩
            · exact ⟨g4, rfl, N6⟩
            · exact ⟨T, rfl, by have := HTL.out; omega⟩
          have hfT : ∀ T', Hp.tp T' ∈ ([.own 119 2 (.slice (some ⟨go, 0, none⟩) m cap) m (rwCells outs), .blk g5 58 #[.string nm, .slice A n c, .int .i64 nx, .slice (some ⟨go, 0, none⟩) m cap], .blk g4 58 #[.string ⟨#[]⟩, .slice none 0 0, .int .i64 0, .slice none 0 0], .tp T] : List Hp) → T' < gx := fun T' hT' => by
            simp only [List.mem_cons, List.not_mem_nil, or_false, reduceCtorEq, false_or, Hp.tp.injEq] at hT'
            subst hT'
            have := HTL.out; omega
          have KP := ((KF.poke hgx hfo hfT 0 (.int .i64 v.k)).poke hgx hfo hfT 1 (.int .i64 v.i)).poke hgx hfo hfT 2 (.string v.s)
          have hp := hov.poke (g := gx) v (fun z hz => by rw [(HRK.out z hz).2.1]; omega)
          have hb5 := Blk.far (p := ⟨gx, 2, none⟩) (Blk.far (p := ⟨gx, 1, none⟩) (Blk.far (p := ⟨gx, 0, none⟩) hb4 N6 (.int .i64 v.k)) N6 (.int .i64 v.i)) N6 (.string v.s)
          have hq := hid (hp.far4 hb5 (by decide) (.string nm) (.slice A n c) (.int .i64 nx) (.slice (some ⟨go, 0, none⟩) m cap))
          have HOK3 := hid (show ∀ z ∈ outs.map (pokeRw gx v), z.ok ∧ z.vs.length ≤ 1000 from fun z hz => by
            obtain ⟨y, hy, rfl⟩ := List.mem_map.1 hz
            have h1 := HRK.out y hy
            have h2 := rOut h1 hn
            unfold pokeRw
            split
            · exact ⟨⟨h1.1.id, h1.1.nc, h1.1.c, oks_set h1.1.vs HVO.out⟩, by show (y.vs.set 0 v).length ≤ 1000; rw [List.length_set]; exact h2.2⟩
            · exact h2)
          clear hov hox hp hb4 hb5 hfo hfT KF HX
          have KS := KP.sealRow 0 rfl
          simp only [List.set_cons_zero, List.set_cons_succ, List.setIfInBounds_toArray] at KS
          have KN := (((KS.store 2 rfl 0 (.string nm)).store 2 rfl 1 (.slice A n c)).store 2 rfl 2 (.int .i64 nx)).store 2 rfl 3 (.slice (some ⟨go, 0, none⟩) m cap)
          have r2 := KN.roOut 0 rfl
          rw [← pokeRw_cells gx v outs] at r2
          have r1 : Ro _ M (ColsIn A n cs) := (Ro.grown HD.out KN.grow (.inr ⟨_, List.mem_singleton.2 rfl, rfl⟩)).less fun b hb => .inl hb
          have r3 := OwnVals.ro HMM.out hq.out
          clear KS KP
          go_wp2_with fail
          exact bodyPost_ret (v := .agg #[.string nm, .slice A n c, .int .i64 nx, .slice (some ⟨go, 0, none⟩) m cap]) (by simp [results, Tryz.results37, go_sem, FX_, NK, y0, y1, y2, y3, y4, y5, y6, N5, N6, N7, N8]) rfl (someTab_of HNM.out HCS.out (by have := HL.out; omega) hnc hc hcap.1 hcap.2.1 (by rw [List.length_map]; have := HOL.out; omega) HOK3.out r1 (r2.and r3) (KN.tp_ 3 rfl) KN.grow)
        · have hg0 : decide ((m : Int) > 0) = false := by simp; omega
          have hg1 : decide (0 < m) = false := by simp; omega
          have KS := K2.sealRow 0 rfl
          simp only [List.set_cons_zero, List.set_cons_succ, List.setIfInBounds_toArray] at KS
          have KN := (((KS.store 3 rfl 0 (.string nm)).store 3 rfl 1 (.slice A n c)).store 3 rfl 2 (.int .i64 nx)).store 3 rfl 3 (.slice O m cap)
          have r2 := KN.roOut 0 rfl
          have r3 := KN.roOut 1 rfl
          go_wp2_with fail
          exact bodyPost_ret (v := .agg #[.string nm, .slice A n c, .int .i64 nx, .slice O m cap]) (by simp [results, Tryz.results37, go_sem, F2, NK]) rfl (someTab_of HNM.out HCS.out (by have := HL.out; omega) hnc hc hcap.1 hcap.2.1 (by have := HOL.out; omega) (fun r hr => rOut (HRK.out r hr) hn) (KN.roOut 6 rfl) (r2.and (r3.imp fun w h => h.vals)) (KN.tp_ 8 rfl) KN.grow)
      · skip
        by_cases hm0 : 1 < m
        · have hg0 : decide ((m : Int) > 1) = true := by simp; omega
          obtain ⟨go, rfl⟩ : ∃ g, O = some ⟨g, 0, none⟩ := by
            rcases own_addr (K2.get 0 rfl) with ⟨_, h, _⟩ | ⟨g, h, _⟩
            · omega
            · exact ⟨g, h⟩
          go_wp2_with fail
          obtain ⟨KL, hKL, KN⟩ := K2.name
          have HF : Hid (∀ wv, Hold M (some T) w wv KL → (wv.cell? ⟨g5, 3, none⟩ = some (.slice (some ⟨go, 0, none⟩) m cap) ∧ g5 < wv.heap.size) ∧ ∀ (k : Nat) (x : Rw), outs[k]? = some x → (wv.cell? ⟨go, k * 2, none⟩ = some (.int .i64 x.id) ∧ wv.cell? ⟨go, k * 2 + 1, none⟩ = some (.slice x.A x.n x.c)) ∧ (wv.frozen? ⟨go, k * 2, none⟩ = false ∧ wv.frozen? ⟨go, k * 2 + 1, none⟩ = false) ∧ go < wv.heap.size) := hid fun wv HC => by
            rw [hKL] at HC
            have y1 := HC.blk_ 2 rfl
            exact ⟨⟨cell_of_row _ _ 3 _ _ _ y1, Blk.lt y1⟩, fun k x hx => own_rw (HC.get 0 rfl) hx⟩
          have HKL := hid hKL
          clear hKL K2
          obtain ⟨x0, hx0⟩ := get_of HOL.out (show 0 < m by omega)
          obtain ⟨x, hx⟩ := get_of HOL.out (show m - 1 < m by omega)
          have HX0 := hid hx0
          have HXX := hid hx
          have HXR := hid (HRK.out x (List.mem_of_getElem? hx))
          have HR0 := hid (HRK.out x0 (List.mem_of_getElem? hx0))
          have hxn : x0.n = n := HR0.out.2.2
          have hm1 : 0 < m := by omega
          have hm2 : (0 : Int) ≤ (m : Int) - 1 := by omega
          have hm3 : (m : Int) - 1 < (m : Int) := by omega
          have hm4 : ((m : Int) - 1).toNat = m - 1 := by omega
          have hm5 : (1 : Int) ≤ (m : Int) := by omega
          have s1 : IntKind.i64.wrap ((m : Int) - 1) = (m : Int) - 1 := by rw [IntKind.wrap_i64]; omega
          have HRX : Hid (∀ wv, Hold M (some T) w wv KL → VlsIn x0.A x0.n x0.vs wv) := hid fun wv HC => by
            rw [HKL.out] at HC
            exact (HC.ro 1 rfl).now.vals x0 (List.mem_of_getElem? HX0.out)
          clear hx hx0
          refine wp_region_any (by kernel_rfl) ?_
          refine wpAny_hold 12 125 (KL) (spL [(121, OVls 117 (Mut M KL) w.heap.size x0.vs)]) (by kernel_rfl) (by kernel_rfl) (by kernel_rfl) rfl ?_ (KN.drew) ?_
          · exact stays_cons oVls_mono (stays_nil _)
          simp only [List.take_succ_cons, List.take_zero, List.drop_succ_cons, List.drop_zero, Act.put, List.getElem_toArray, List.getElem_cons_zero, List.getElem_cons_succ, List.setIfInBounds_toArray, List.set_cons_succ, List.set_cons_zero]
          refine dw_val rfl rfl rfl ?_; apply Exists.intro; refine ⟨fun wv HC => ?_, ?_⟩
          ·  go_simp <;> rfl
          simp only [Act.put, List.setIfInBounds_toArray, List.set_cons_succ, List.set_cons_zero]
          refine dw_val rfl rfl rfl ?_; apply Exists.intro; refine ⟨fun wv HC => ?_, ?_⟩
          · obtain ⟨⟨f0, f1⟩, _⟩ := HF.out _ HC; go_simp <;> rfl
          simp only [Act.put, List.setIfInBounds_toArray, List.set_cons_succ, List.set_cons_zero]
          refine dw_val rfl rfl rfl ?_; apply Exists.intro; refine ⟨fun wv HC => ?_, ?_⟩
          ·  go_simp <;> rfl
          simp only [Act.put, List.setIfInBounds_toArray, List.set_cons_succ, List.set_cons_zero]
          refine dw_val rfl rfl rfl ?_; apply Exists.intro; refine ⟨fun wv HC => ?_, ?_⟩
          ·  go_simp <;> rfl
          simp only [Act.put, List.setIfInBounds_toArray, List.set_cons_succ, List.set_cons_zero]
          refine dw_val rfl rfl rfl ?_; apply Exists.intro; refine ⟨fun wv HC => ?_, ?_⟩
          ·  go_simp <;> rfl
          simp only [Act.put, List.setIfInBounds_toArray, List.set_cons_succ, List.set_cons_zero]
          refine dw_val rfl rfl rfl ?_; apply Exists.intro; refine ⟨fun wv HC => ?_, ?_⟩
          · obtain ⟨⟨f0, f1⟩, _⟩ := HF.out _ HC; go_simp <;> rfl
          simp only [Act.put, List.setIfInBounds_toArray, List.set_cons_succ, List.set_cons_zero]
          refine dw_val rfl rfl rfl ?_; apply Exists.intro; refine ⟨fun wv HC => ?_, ?_⟩
          ·  go_simp <;> rfl
          simp only [Act.put, List.setIfInBounds_toArray, List.set_cons_succ, List.set_cons_zero]
          refine dw_val rfl rfl rfl ?_; apply Exists.intro; refine ⟨fun wv HC => ?_, ?_⟩
          ·  go_simp <;> rfl
          simp only [Act.put, List.setIfInBounds_toArray, List.set_cons_succ, List.set_cons_zero]
          refine dw_val rfl rfl rfl ⟨.slice x0.A x0.n x0.c, fun wv HC => ?_, ?_⟩
          · obtain ⟨_, fo⟩ := HF.out _ HC
            obtain ⟨⟨y0, y1⟩, _, y2⟩ := fo 0 x0 HX0.out
            simp only [Nat.zero_mul, Nat.zero_add] at y0 y1
            go_simp <;> rfl
          simp only [Act.put, List.setIfInBounds_toArray, List.set_cons_succ, List.set_cons_zero]
          refine dw_cloneO Tryz.elVl 121 (OVls 117 (Mut M KL) w.heap.size x0.vs) rfl rfl rfl rfl (.const (.slice none 0 0)) (.tmp 120) rfl rfl (A := x0.A) (m := x0.n) (c := x0.c) (ys := vlCells x0.vs) rfl (one_vls _) (by omega) (by omega) (fun wv HC hD => HRX.out _ HC) (fun C9 c9 wv wv' HC hrm HC' q1 q2 ho => ⟨C9, x0.n, c9, rfl, by rw [HR0.out.2.1, HR0.out.2.2], q1, q2, Ro.own (fun b hb => HC.mutLt b hb) HC.grow.size ho⟩) ?_
          rintro u wx HCx ⟨A28, n28, c28, rfl, hn28, hc1, hc2, -⟩
          have HN28 := hid (And.intro hn28 (And.intro hc1 hc2))
          clear HCx hn28 hc1 hc2
          simp only [Act.put, List.setIfInBounds_toArray, List.set_cons_succ, List.set_cons_zero]
          refine dw_val rfl rfl rfl ?_; apply Exists.intro; refine ⟨fun wv HC => ?_, ?_⟩
          ·  go_simp <;> rfl
          simp only [Act.put, List.setIfInBounds_toArray, List.set_cons_succ, List.set_cons_zero]
          refine dw_val rfl rfl rfl ?_; apply Exists.intro; refine ⟨fun wv HC => ?_, ?_⟩
          ·  go_simp <;> rfl
          simp only [Act.put, List.setIfInBounds_toArray, List.set_cons_succ, List.set_cons_zero]
          refine rel_nil ?_
          rintro wx2 HX
          rintro _hrm HGW
          have hb2 : OVls 117 (Mut M KL) w.heap.size x0.vs (.slice A28 n28 c28) wx2 := (GW_on (d := 121) rfl).1 (HGW 9 _ rfl (by omega))
          clear HGW _hrm
          obtain ⟨A6, n6, c6, e6, -, -, -, k3_⟩ := hb2
          obtain ⟨rfl, rfl, rfl⟩ : A28 = A6 ∧ n28 = n6 ∧ c28 = c6 := by injection e6 with h1 h2 h3; exact ⟨h1, h2, h3⟩
          clear e6
          rw [HKL.out] at HX k3_
          clear HF KN HKL HRX
          have N4 := HX.apart_ 0 3 rfl rfl (by omega) rfl rfl
          have N5 := HX.apart_ 0 2 rfl rfl (by omega) rfl rfl
          have N6 := N4.symm
          have N7 := N5.symm
          obtain ⟨⟨q0, q1⟩, ⟨q2, q3⟩, q4⟩ := own_rw (HX.get 0 rfl) HXX.out
          have FX_ := HX.facts
          simp only [World.size_alloc, World.size_drew, factsL, cellsF, Nat.reduceAdd, List.toList_toArray, List.set_cons_zero, List.set_cons_succ, List.setIfInBounds_toArray, and_true, true_and] at FX_
          have KP := (HX.add k3_).put_ 1 rfl ((m - 1) * 2 + 1) (.slice A28 n28 c28)
          rw [rwCells_setVs HXX.out A28 n28 c28 x0.vs] at KP
          simp only [List.set_cons_zero, List.set_cons_succ] at KP
          have KQ := (KP.swapRo 2 rfl (((KP.ro 0 rfl).and (KP.ro 2 rfl)).imp fun w2 h2 => ownVals_set (k := m - 1) (x := Rw.mk x.id A28 n28 c28 x0.vs) h2.2 h2.1)).drop (List.sublist_cons_self _ _)
          simp only [List.set_cons_zero, List.set_cons_succ] at KQ
          have HOK3 := hid (show ∀ z ∈ outs.set (m - 1) (Rw.mk x.id A28 n28 c28 x0.vs), ROk n z from rOk_set HRK.out ⟨⟨HXR.out.1.id, HN28.out.2.1, HN28.out.2.2, HR0.out.1.vs⟩, HR0.out.2.1, by show n28 = n; rw [HN28.out.1]; exact HR0.out.2.1⟩)
          clear hxn
          have KS := KQ.sealRow 0 rfl
          simp only [List.set_cons_zero, List.set_cons_succ, List.setIfInBounds_toArray] at KS
          have KN := (((KS.store 3 rfl 0 (.string nm)).store 3 rfl 1 (.slice A n c)).store 3 rfl 2 (.int .i64 nx)).store 3 rfl 3 (.slice (some ⟨go, 0, none⟩) m cap)
          have r2 := KN.roOut 0 rfl
          have r3 := KN.roOut 1 rfl
          go_wp2_with fail
          exact bodyPost_ret (v := .agg #[.string nm, .slice A n c, .int .i64 nx, .slice (some ⟨go, 0, none⟩) m cap]) (by simp [results, Tryz.results37, go_sem, FX_, NK, q0, q1, q2, q3, q4, N4, N5, N6, N7, hm4]) rfl (someTab_of HNM.out HCS.out (by have := HL.out; omega) hnc hc hcap.1 hcap.2.1 (by rw [List.length_set]; have := HOL.out; omega) (fun r hr => rOut (HOK3.out r hr) hn) (KN.roOut 6 rfl) (r2.and (r3.imp fun w h => h.vals)) (KN.tp_ 8 rfl) KN.grow)
        · have hg0 : decide ((m : Int) > 1) = false := by simp; omega
          have hg1 : decide (1 < m) = false := by simp; omega
          have KS := K2.sealRow 0 rfl
          simp only [List.set_cons_zero, List.set_cons_succ, List.setIfInBounds_toArray] at KS
          have KN := (((KS.store 3 rfl 0 (.string nm)).store 3 rfl 1 (.slice A n c)).store 3 rfl 2 (.int .i64 nx)).store 3 rfl 3 (.slice O m cap)
          have r2 := KN.roOut 0 rfl
          have r3 := KN.roOut 1 rfl
          go_wp2_with fail
          exact bodyPost_ret (v := .agg #[.string nm, .slice A n c, .int .i64 nx, .slice O m cap]) (by simp [results, Tryz.results37, go_sem, F2, NK]) rfl (someTab_of HNM.out HCS.out (by have := HL.out; omega) hnc hc hcap.1 hcap.2.1 (by have := HOL.out; omega) (fun r hr => rOut (HRK.out r hr) hn) (KN.roOut 6 rfl) (r2.and (r3.imp fun w h => h.vals)) (KN.tp_ 8 rfl) KN.grow)
      · skip
        by_cases hm0 : 0 < m
        · have hg0 : decide ((m : Int) > 0) = true := by simp; omega
          obtain ⟨go, rfl⟩ : ∃ g, O = some ⟨g, 0, none⟩ := by
            rcases own_addr (K2.get 0 rfl) with ⟨_, h, _⟩ | ⟨g, h, _⟩
            · omega
            · exact ⟨g, h⟩
          go_wp2_with fail
          obtain ⟨KL, hKL, KN⟩ := K2.name
          have HF : Hid (∀ wv, Hold M (some T) w wv KL → (wv.cell? ⟨g5, 3, none⟩ = some (.slice (some ⟨go, 0, none⟩) m cap) ∧ g5 < wv.heap.size) ∧ ∀ (k : Nat) (x : Rw), outs[k]? = some x → (wv.cell? ⟨go, k * 2, none⟩ = some (.int .i64 x.id) ∧ wv.cell? ⟨go, k * 2 + 1, none⟩ = some (.slice x.A x.n x.c)) ∧ (wv.frozen? ⟨go, k * 2, none⟩ = false ∧ wv.frozen? ⟨go, k * 2 + 1, none⟩ = false) ∧ go < wv.heap.size) := hid fun wv HC => by
            rw [hKL] at HC
            have y1 := HC.blk_ 2 rfl
            exact ⟨⟨cell_of_row _ _ 3 _ _ _ y1, Blk.lt y1⟩, fun k x hx => own_rw (HC.get 0 rfl) hx⟩
          have HKL := hid hKL
          clear hKL K2
          refine wp_region_any (by kernel_rfl) ?_
          refine wpAny_hold 6 125 (KL) (spL [(45, fun u _ => NatB m u)]) (by kernel_rfl) (by kernel_rfl) (by kernel_rfl) rfl ?_ (KN.drew) ?_
          · exact stays_cons (fun _ _ _ _ h => h) (stays_nil _)
          simp only [List.take_succ_cons, List.take_zero, List.drop_succ_cons, List.drop_zero, Act.put, List.getElem_toArray, List.getElem_cons_zero, List.getElem_cons_succ, List.setIfInBounds_toArray, List.set_cons_succ, List.set_cons_zero]
          refine dw_val rfl rfl rfl ?_; apply Exists.intro; refine ⟨fun wv HC => ?_, ?_⟩
          ·  go_simp <;> rfl
          simp only [Act.put, List.setIfInBounds_toArray, List.set_cons_succ, List.set_cons_zero]
          refine dw_val rfl rfl rfl ?_; apply Exists.intro; refine ⟨fun wv HC => ?_, ?_⟩
          · obtain ⟨⟨f0, f1⟩, _⟩ := HF.out _ HC; go_simp <;> rfl
          simp only [Act.put, List.setIfInBounds_toArray, List.set_cons_succ, List.set_cons_zero]
          refine dw_val rfl rfl rfl ?_; apply Exists.intro; refine ⟨fun wv HC => ?_, ?_⟩
          ·  go_simp <;> rfl
          simp only [Act.put, List.setIfInBounds_toArray, List.set_cons_succ, List.set_cons_zero]
          refine dw_val rfl rfl rfl ?_; apply Exists.intro; refine ⟨fun wv HC => ?_, ?_⟩
          ·  go_simp <;> rfl
          simp only [Act.put, List.setIfInBounds_toArray, List.set_cons_succ, List.set_cons_zero]
          refine dw_next (T := T) m 8 (by rw [HKL.out]; rfl) 45 rfl rfl rfl rfl (fun wv => ?_) ?_
          · go_simp <;> rfl
          rintro r hr
          simp only [Act.put, List.setIfInBounds_toArray, List.set_cons_succ, List.set_cons_zero]
          have hr1 : decide ((r : Int) < (m : Int)) = true := by simp; omega
          have hr0 : decide ((0 : Int) ≤ (r : Int)) = true := by simp
          obtain ⟨x, hx⟩ := get_of HOL.out hr
          have HXX := hid hx
          have HXR := hid (HRK.out x (List.mem_of_getElem? hx))
          clear hx
          refine dw_val rfl rfl rfl ?_; apply Exists.intro; refine ⟨fun wv HC => ?_, ?_⟩
          ·  go_simp <;> rfl
          simp only [Act.put, List.setIfInBounds_toArray, List.set_cons_succ, List.set_cons_zero]
          refine rel_nil ?_
          rintro wx2 HX
          rintro _hrm HGW
          clear HGW _hrm
          rw [HKL.out] at HX
          clear HF KN HKL
          obtain ⟨xid, xA, xn, xc, xvs⟩ := x
          (try dsimp only at *)
          obtain rfl : n = xn := HXR.out.2.2.symm
          obtain ⟨gx, rfl⟩ : ∃ g, xA = some ⟨g, 0, none⟩ := by
            rcases own_addr ((HX.ro 1 rfl).now _ (List.mem_of_getElem? HXX.out)) with ⟨_, h, _⟩ | ⟨g, h, _⟩
            · (try dsimp only at h); omega
            · exact ⟨g, h⟩
          have N4 := HX.apart_ 0 3 rfl rfl (by omega) rfl rfl
          have N5 := HX.apart_ 0 2 rfl rfl (by omega) rfl rfl
          have N6 := N4.symm
          have N7 := N5.symm
          obtain ⟨⟨q0, q1⟩, ⟨q2, q3⟩, q4⟩ := own_rw (HX.get 0 rfl) HXX.out
          dsimp only at q0 q1
          have FX_ := HX.facts
          simp only [World.size_alloc, World.size_drew, factsL, cellsF, Nat.reduceAdd, List.toList_toArray, List.set_cons_zero, List.set_cons_succ, List.setIfInBounds_toArray, and_true, true_and] at FX_
          have HCN0 := hid (And.intro HXR.out.1.nc HXR.out.1.c)
          have HCN1 := hid (show xvs.length = n from HXR.out.2.1)
          by_cases hx1 : xc = 1
          · have hn1' : n = 1 := by have h := HCN0.out.1; (try dsimp only at h); omega
            have HCN := hid (show n - 1 ≤ 0 ∧ 0 ≤ 9223372036854775807 from ⟨by omega, by omega⟩)
            have HTV := hid (show ∀ (A : Option Addr) (w : World), VlsIn A (n - 1) xvs.tail w from fun A w => tail_vls0 hn1' HCN1.out)
            clear hn1'
            have hv : Ro wx2 _ (ValsIn (outs.set r (Rw.mk xid (some ⟨gx, 0, none⟩) (n - 1) 0 xvs.tail))) := (HX.ro 1 rfl).imp fun w2 h2 z hz => (List.mem_or_eq_of_mem_set hz).elim (fun h => h2.vals z h) (fun h => by subst h; exact HTV.out _ _)
            have KP := (HX.add hv).put_ 1 rfl (r * 2 + 1) (.slice (some ⟨gx, 0, none⟩) (n - 1) 0)
            rw [rwCells_setVs HXX.out (some ⟨gx, 0, none⟩) (n - 1) 0 xvs.tail] at KP
            simp only [List.set_cons_zero, List.set_cons_succ] at KP
            have KQ := (KP.swapRo 2 rfl (KP.ro 0 rfl)).drop (List.sublist_cons_self _ _)
            simp only [List.set_cons_zero, List.set_cons_succ] at KQ
            have HOK3 := hid (show ∀ z ∈ outs.set r (Rw.mk xid (some ⟨gx, 0, none⟩) (n - 1) 0 xvs.tail), z.ok ∧ z.vs.length ≤ 1000 from rOk_set (fun z hz => rOut (HRK.out z hz) hn) ⟨⟨HXR.out.1.id, HCN.out.1, HCN.out.2, fun v hv => HXR.out.1.vs v (List.mem_of_mem_tail hv)⟩, by show xvs.tail.length ≤ 1000; rw [List.length_tail]; have := HCN1.out; omega⟩)
            clear hv
            have KS := KQ.sealRow 0 rfl
            simp only [List.set_cons_zero, List.set_cons_succ, List.setIfInBounds_toArray] at KS
            have KN := (((KS.store 3 rfl 0 (.string nm)).store 3 rfl 1 (.slice A n c)).store 3 rfl 2 (.int .i64 nx)).store 3 rfl 3 (.slice (some ⟨go, 0, none⟩) m cap)
            have r2 := KN.roOut 0 rfl
            have r3 := KN.roOut 1 rfl
            go_wp2_with fail
            exact bodyPost_ret (v := .agg #[.string nm, .slice A n c, .int .i64 nx, .slice (some ⟨go, 0, none⟩) m cap]) (by simp [results, Tryz.results37, go_sem, FX_, NK, q0, q1, q2, q3, q4, N4, N5, N6, N7]) rfl (someTab_of HNM.out HCS.out (by have := HL.out; omega) hnc hc hcap.1 hcap.2.1 (by rw [List.length_set]; have := HOL.out; omega) HOK3.out (KN.roOut 6 rfl) (r2.and r3) (KN.tp_ 8 rfl) KN.grow)
          · have HCN := hid (show n - 1 ≤ xc - 1 ∧ xc - 1 ≤ 9223372036854775807 by have h1 := HCN0.out.1; have h2 := HCN0.out.2; (try dsimp only at h1 h2); omega)
            have hv : Ro wx2 _ (ValsIn (outs.set r (Rw.mk xid (some ⟨gx, 3, none⟩) (n - 1) (xc - 1) xvs.tail))) := (HX.ro 1 rfl).imp fun w2 h2 z hz => (List.mem_or_eq_of_mem_set hz).elim (fun h => h2.vals z h) (fun h => by subst h; exact tail_vls (h2.vals _ (List.mem_of_getElem? HXX.out)) (by omega))
            have KP := (HX.add hv).put_ 1 rfl (r * 2 + 1) (.slice (some ⟨gx, 3, none⟩) (n - 1) (xc - 1))
            rw [rwCells_setVs HXX.out (some ⟨gx, 3, none⟩) (n - 1) (xc - 1) xvs.tail] at KP
            simp only [List.set_cons_zero, List.set_cons_succ] at KP
            have KQ := (KP.swapRo 2 rfl (KP.ro 0 rfl)).drop (List.sublist_cons_self _ _)
            simp only [List.set_cons_zero, List.set_cons_succ] at KQ
            have HOK3 := hid (show ∀ z ∈ outs.set r (Rw.mk xid (some ⟨gx, 3, none⟩) (n - 1) (xc - 1) xvs.tail), z.ok ∧ z.vs.length ≤ 1000 from rOk_set (fun z hz => rOut (HRK.out z hz) hn) ⟨⟨HXR.out.1.id, HCN.out.1, HCN.out.2, fun v hv => HXR.out.1.vs v (List.mem_of_mem_tail hv)⟩, by show xvs.tail.length ≤ 1000; rw [List.length_tail]; have := HCN1.out; omega⟩)
            clear hv
            have KS := KQ.sealRow 0 rfl
            simp only [List.set_cons_zero, List.set_cons_succ, List.setIfInBounds_toArray] at KS
            have KN := (((KS.store 3 rfl 0 (.string nm)).store 3 rfl 1 (.slice A n c)).store 3 rfl 2 (.int .i64 nx)).store 3 rfl 3 (.slice (some ⟨go, 0, none⟩) m cap)
            have r2 := KN.roOut 0 rfl
            have r3 := KN.roOut 1 rfl
            go_wp2_with fail
            exact bodyPost_ret (v := .agg #[.string nm, .slice A n c, .int .i64 nx, .slice (some ⟨go, 0, none⟩) m cap]) (by simp [results, Tryz.results37, go_sem, FX_, NK, q0, q1, q2, q3, q4, N4, N5, N6, N7]) rfl (someTab_of HNM.out HCS.out (by have := HL.out; omega) hnc hc hcap.1 hcap.2.1 (by rw [List.length_set]; have := HOL.out; omega) HOK3.out (KN.roOut 6 rfl) (r2.and r3) (KN.tp_ 8 rfl) KN.grow)
        · have hg0 : decide ((m : Int) > 0) = false := by simp; omega
          have hg1 : decide (0 < m) = false := by simp; omega
          have KS := K2.sealRow 0 rfl
          simp only [List.set_cons_zero, List.set_cons_succ, List.setIfInBounds_toArray] at KS
          have KN := (((KS.store 3 rfl 0 (.string nm)).store 3 rfl 1 (.slice A n c)).store 3 rfl 2 (.int .i64 nx)).store 3 rfl 3 (.slice O m cap)
          have r2 := KN.roOut 0 rfl
          have r3 := KN.roOut 1 rfl
          go_wp2_with fail
          exact bodyPost_ret (v := .agg #[.string nm, .slice A n c, .int .i64 nx, .slice O m cap]) (by simp [results, Tryz.results37, go_sem, F2, NK]) rfl (someTab_of HNM.out HCS.out (by have := HL.out; omega) hnc hc hcap.1 hcap.2.1 (by have := HOL.out; omega) (fun r hr => rOut (HRK.out r hr) hn) (KN.roOut 6 rfl) (r2.and (r3.imp fun w h => h.vals)) (KN.tp_ 8 rfl) KN.grow)

end Go.Proofs.YtedogodccblfeaaGreatDoor

namespace Go.Proofs.YtedogodccblfeaaGreatDoor
open Go.RowKit
set_option linter.unusedVariables false
set_option linter.unusedSimpArgs false

def OneName (s : ByteArray) : Prop := s = ⟨#[116]⟩ ∨ s = ⟨#[117]⟩ ∨ s = ⟨#[108, 111, 103]⟩
def DrawnName (w : World) (T : Nat) (e : Ending) (w' : World) : Prop := ∃ s : ByteArray, e = .returned (.string s) ∧ OneName s ∧ Tp w' T ∧ w.grownBy w' (some T)
set_option maxHeartbeats 1000000 in
theorem tname_any (M : Nat → Prop) (T : Nat) (w : World) (hM : ∀ b, M b → b < w.heap.size) (ht : Tp w T) (hMT : ∀ b, M b → T ≤ b) : Calls Tryz.prog 32 #[.pointer (some ⟨T, 0, none⟩)] w fun e w' => DrawnName w T e w' := by
  have K0 := (Hold.startT M w T hM ht hMT).alloc_cst #[.string ⟨#[116]⟩, .string ⟨#[117]⟩, .string ⟨#[108, 111, 103]⟩] 9
  go_enter Tryz.func32, Tryz.ntmps32
  go_wp2_with fail
  refine (next_any T 3 _ (K0.tp_ 1 rfl) (by omega) (by omega)).mono ?_
  rintro e w1 ⟨r, rfl, r0, r1, t1, g1⟩
  have K1 := Hold.callT K0 1 rfl g1 t1
  have F1 := K1.facts
  simp only [World.size_alloc, World.size_drew, factsL, cellsF, Nat.reduceAdd, List.toList_toArray, List.set_cons_zero, List.set_cons_succ, List.setIfInBounds_toArray, and_true, true_and] at F1
  clear K0 g1 t1
  obtain ⟨r, rfl⟩ := Int.eq_ofNat_of_zero_le r0
  obtain rfl | rfl | rfl : r = 0 ∨ r = 1 ∨ r = 2 := by omega
  · go_wp2_with fail
    go_ret
    exact ⟨_, rfl, .inl rfl, K1.tp_ 1 rfl, K1.grow⟩
  · go_wp2_with fail
    go_ret
    exact ⟨_, rfl, .inr (.inl rfl), K1.tp_ 1 rfl, K1.grow⟩
  · go_wp2_with fail
    go_ret
    exact ⟨_, rfl, .inr (.inr rfl), K1.tp_ 1 rfl, K1.grow⟩
/-- what is known of a schema of the three -/
structure SchOk (nm : ByteArray) (cs : List Col) : Prop where
  val : schemaB nm cs = true
  col : ∀ x ∈ cs, ColOk x
  key : KeyOne cs
  len : 1 ≤ cs.length ∧ cs.length ≤ 4
  nm : nm.size ≤ maxLen
  cs : ∀ x ∈ cs, x.name.size ≤ maxLen
def keyOneB (cs : List Col) : Bool := (List.range cs.length).all fun i => match cs[i]? with | some c => !c.key || findB Col.key cs == (i : Int) | none => true
theorem keyOne_of {cs : List Col} (h : keyOneB cs = true) : KeyOne cs := fun i c hc hk => by
  have h1 := List.all_eq_true.1 h i (List.mem_range.2 (List.getElem?_eq_some_iff.1 hc).1)
  simp only [hc, hk, Bool.not_true, Bool.false_or, beq_iff_eq] at h1
  exact h1
def colOkB (c : Col) : Bool := c.ty == 1 || c.ty == 2 || c.ty == 3
def schOkB (nm : ByteArray) (cs : List Col) : Bool := schemaB nm cs && cs.all colOkB && keyOneB cs && decide (1 ≤ cs.length) && decide (cs.length ≤ 4) && decide (nm.size ≤ 100) && cs.all fun x => decide (x.name.size ≤ 100)
theorem schOk_of {nm : ByteArray} {cs : List Col} (h : schOkB nm cs = true) : SchOk nm cs := by
  unfold schOkB at h
  simp only [Bool.and_eq_true, decide_eq_true_eq] at h
  obtain ⟨⟨⟨⟨⟨⟨h1, h2⟩, h3⟩, h4⟩, h5⟩, h6⟩, h7⟩ := h
  refine ⟨h1, fun x hx => ?_, keyOne_of h3, ⟨h4, h5⟩, by unfold maxLen; omega, fun x hx => ?_⟩
  · have := List.all_eq_true.1 h2 x hx
    simpa [colOkB, ColOk, or_assoc] using this
  · have := List.all_eq_true.1 h7 x hx
    simp only [decide_eq_true_eq] at this
    unfold maxLen; omega
theorem schOk_t : schOkB (schemaOf ⟨#[116]⟩).1 (schemaOf ⟨#[116]⟩).2 = true := by decide +kernel
theorem schOk_u : schOkB (schemaOf ⟨#[117]⟩).1 (schemaOf ⟨#[117]⟩).2 = true := by decide +kernel
theorem schOk_log : schOkB (schemaOf ⟨#[108, 111, 103]⟩).1 (schemaOf ⟨#[108, 111, 103]⟩).2 = true := by decide +kernel
theorem schOk_name {s : ByteArray} (h : OneName s) : SchOk (schemaOf s).1 (schemaOf s).2 := by
  rcases h with rfl | rfl | rfl
  · exact schOk_of schOk_t
  · exact schOk_of schOk_u
  · exact schOk_of schOk_log
end Go.Proofs.YtedogodccblfeaaGreatDoor

namespace Go.Proofs.YtedogodccblfeaaGreatDoor
open Go.RowKit
set_option linter.unusedVariables false
set_option linter.unusedSimpArgs false

end Go.Proofs.YtedogodccblfeaaGreatDoor

namespace Go.Proofs.YtedogodccblfeaaGreatDoor
open Go.RowKit
set_option linter.unusedVariables false
set_option linter.unusedSimpArgs false

/-- the new rows -/
def insR (nx : Int) (ins : List (List Vl)) : List Row := ins.zipIdx.map fun p => (nx + (p.2 : Int), p.1)
theorem PrsIn.tail {w : World} {b o k : Nat} {u : Pr} {us : List Pr} (h : PrsIn (some ⟨b, o, none⟩) (k + 1) (u :: us) w) : PrsIn (some ⟨b, o + 3, none⟩) k us w := by
  refine ⟨?_, fun r hr => h.2 r (List.mem_cons_of_mem _ hr)⟩
  have h1 : Rd w w.heap.size 3 (some ⟨b, o, none⟩) (k + 1) (prCells (u :: us)) := h.1
  have hl := h1.1
  refine ⟨by simp [prCells, Pr.cells] at hl ⊢; omega, fun hk => ?_⟩
  obtain ⟨b', o', e, hb, hc⟩ := h1.2 (by omega)
  obtain ⟨rfl, rfl⟩ : b = b' ∧ o = o' := by injection e with e; injection e with a1 a2; exact ⟨a1, a2⟩
  refine ⟨b, o + 3, rfl, hb, fun j v hv => ?_⟩
  have := hc (3 + j) v (by
    show (prCells (u :: us))[3 + j]? = some v
    unfold prCells
    rw [List.flatMap_cons, List.getElem?_append_right (by simp [Pr.cells])]
    simpa [Pr.cells, prCells] using hv)
  rwa [show o + (3 + j) = o + 3 + j by omega] at this
theorem PrsIn.zero {w : World} (A : Option Addr) : PrsIn A 0 [] w := ⟨⟨by simp [prCells], fun h => absurd h (by omega)⟩, fun r hr => nomatch hr⟩
end Go.Proofs.YtedogodccblfeaaGreatDoor

namespace Go.Proofs.YtedogodccblfeaaGreatDoor
open Go.RowKit
set_option linter.unusedVariables false
set_option linter.unusedSimpArgs false

/-- the values that the updates ask for -/
def wantR (us : List Upd) (id : Int) (v : List Vl) : List Vl := us.foldl (fun acc p => if p.1 = id then p.2.2 else acc) v
def keepR (dels : List Int) (us : List Upd) (rs : List Row) : List Row := (rs.filter fun r => !dels.contains r.1).map fun r => (r.1, wantR us r.1 r.2)
theorem okR_asc {cs : List Col} {nx : Int} : ∀ {lst : Int} {rs : List Row}, okR cs nx lst rs = true → (rs.map (·.1)).Pairwise (· < ·) ∧ ∀ r ∈ rs, lst < r.1 ∧ r.1 < nx
  | _, [], _ => ⟨List.Pairwise.nil, fun _ h => nomatch h⟩
  | lst, r :: rs, h => by
    rw [okR] at h
    simp only [Bool.and_eq_true, decide_eq_true_eq] at h
    obtain ⟨h1, h2⟩ := okR_asc h.2
    refine ⟨?_, fun x hx => ?_⟩
    · rw [List.map_cons, List.pairwise_cons]
      refine ⟨fun a ha => ?_, h1⟩
      obtain ⟨x, hx, rfl⟩ := List.mem_map.1 ha
      exact (h2 x hx).1
    · rcases List.mem_cons.1 hx with rfl | hx
      · exact ⟨h.1.1.1, h.1.1.2⟩
      · exact ⟨Int.lt_trans h.1.1.1 (h2 x hx).1, (h2 x hx).2⟩
theorem getR_some {rs : List Row} {id : Int} (h : (getR rs id).isSome = true) : id ∈ rs.map (·.1) := by
  unfold getR at h
  rw [Option.isSome_map] at h
  obtain ⟨r, hr⟩ := Option.isSome_iff_exists.1 h
  have h1 := List.find?_some hr
  have h2 := List.mem_of_find?_eq_some hr
  exact List.mem_map.2 ⟨r, h2, by simpa using h1⟩
/-- What is known of a change that succeeds. -/
structure ApOk (nm : ByteArray) (cs : List Col) (nx : Int) (rs : List Row) (ins : List (List Vl)) (dels : List Int) (us : List Upd) (T : Tb) : Prop where
  tab : tabB nm cs nx rs = true
  tb : T = ⟨nm, cs, nx + ins.length, keepR dels us rs ++ insR nx ins⟩
  asc : (rs.map (·.1)).Pairwise (· < ·)
  low : ∀ r ∈ rs, 0 < r.1 ∧ r.1 < nx
  dasc : dels.Pairwise (· < ·)
  din : ∀ id ∈ dels, id ∈ rs.map (·.1)
  uasc : (us.map (·.1)).Pairwise (· < ·)
  uin : ∀ u ∈ us, u.1 ∈ rs.map (·.1) ∧ dels.contains u.1 = false
  dup : dupB cs (keepR dels us rs ++ insR nx ins) = false
  fits : (∀ u ∈ us, fitsT cs u.2.2 = 0) ∧ ∀ v ∈ ins, fitsT cs v = 0
  lim : (rs.length : Int) - dels.length + ins.length ≤ 100
  nlim : (ins.length : Int) ≤ 2147483648 - nx
theorem tabB_ok {nm : ByteArray} {cs : List Col} {nx : Int} {rs : List Row} (h : tabB nm cs nx rs = true) : schemaB nm cs = true ∧ rs.length ≤ 100 ∧ 1 ≤ nx ∧ nx ≤ 2147483648 ∧ okR cs nx 0 rs = true ∧ dupB cs rs = false := by
  unfold tabB at h
  simp only [Bool.and_eq_true, decide_eq_true_eq, Bool.not_eq_true'] at h
  obtain ⟨⟨⟨⟨⟨h1, h2⟩, h3⟩, h4⟩, h5⟩, h6⟩ := h
  exact ⟨h1, h2, h3, h4, h5, h6⟩
theorem find_uniq {l : List Row} (h : (l.map (·.1)).Pairwise (· < ·)) {r : Row} (hr : r ∈ l) : l.find? (fun x => x.1 == r.1) = some r := by
  induction l with
  | nil => cases hr
  | cons x l ih =>
    obtain ⟨h1, h2⟩ := List.pairwise_cons.1 h
    rcases List.mem_cons.1 hr with rfl | hr
    · simp
    · have : x.1 < r.1 := h1 r.1 (List.mem_map_of_mem (f := fun x : Row => x.1) hr)
      rw [List.find?_cons, show (x.1 == r.1) = false by rw [beq_eq_false_iff_ne]; omega]
      exact ih h2 hr
theorem getR_none {l : List Row} {id : Int} (h : ∀ r ∈ l, r.1 ≠ id) : getR l id = none := by
  unfold getR
  rw [List.find?_eq_none.2 fun x hx => by simpa using h x hx]; rfl
theorem getR_app (a b : List Row) (id : Int) : getR (a ++ b) id = (getR a id).or (getR b id) := by
  unfold getR
  rw [List.find?_append]
  cases a.find? (fun r => r.1 == id) <;> simp
theorem insR_at : ∀ (ins : List (List Vl)) (nx : Int) (i : Nat), getR (insR nx ins) (nx + (i : Int)) = ins[i]? := by
  intro ins nx i
  have key : ∀ (l : List (List Vl)) (k : Nat) (i : Nat), k ≤ i → getR ((l.zipIdx k).map fun p => (nx + (p.2 : Int), p.1)) (nx + (i : Int)) = l[i - k]? := by
    intro l
    induction l with
    | nil => intro k i _; simp [getR]
    | cons v l ih =>
      intro k i hki
      rw [List.zipIdx_cons, List.map_cons]
      by_cases h : k = i
      · subst h
        simp [getR]
      · have h2 := ih (k + 1) i (by omega)
        have e : i - k = (i - (k + 1)) + 1 := by omega
        rw [e, List.getElem?_cons_succ, ← h2]
        unfold getR
        rw [List.find?_cons, show ((nx + (k : Int), v).1 == nx + (i : Int)) = false by rw [beq_eq_false_iff_ne]; show nx + (k : Int) ≠ _; omega]
  have := key ins 0 i (by omega)
  simpa [insR] using this
theorem insR_ge {ins : List (List Vl)} {nx : Int} : ∀ r ∈ insR nx ins, nx ≤ r.1 := fun r hr => by
  unfold insR at hr
  obtain ⟨p, _, rfl⟩ := List.mem_map.1 hr
  show nx ≤ nx + (p.2 : Int)
  omega
section
variable {nm : ByteArray} {cs : List Col} {nx : Int} {rs : List Row} {ins : List (List Vl)} {dels : List Int} {us : List Upd} {T : Tb}
theorem ApOk.asc2 (h : ApOk nm cs nx rs ins dels us T) : ((keepR dels us rs).map (·.1)).Pairwise (· < ·) := by
  have e : (keepR dels us rs).map (·.1) = (rs.filter fun r => !dels.contains r.1).map (·.1) := by simp [keepR]
  rw [e]
  exact List.Pairwise.sublist (List.Sublist.map _ List.filter_sublist) h.asc
/-- a row of before -/
theorem ApOk.old (h : ApOk nm cs nx rs ins dels us T) {r : Row} (hr : r ∈ rs) : getR T.rs r.1 = if dels.contains r.1 then none else some (wantR us r.1 r.2) := by
  rw [h.tb]
  show getR (keepR dels us rs ++ insR nx ins) r.1 = _
  rw [getR_app, getR_none (l := insR nx ins) fun x hx => by have := insR_ge x hx; have := (h.low r hr).2; omega, Option.or_none]
  cases hd : dels.contains r.1
  · have hm : (r.1, wantR us r.1 r.2) ∈ keepR dels us rs := List.mem_map.2 ⟨r, List.mem_filter.2 ⟨hr, by simp only [hd]; rfl⟩, rfl⟩
    have := find_uniq h.asc2 hm
    unfold getR
    rw [this]; simp
  · rw [getR_none fun x hx => ?_]
    · simp
    · obtain ⟨y, hy, rfl⟩ := List.mem_map.1 hx
      have := (List.mem_filter.1 hy).2
      intro e
      have e : y.1 = r.1 := e
      rw [e, hd] at this
      cases this
/-- a new row -/
theorem ApOk.new (h : ApOk nm cs nx rs ins dels us T) (i : Nat) : getR T.rs (nx + (i : Int)) = ins[i]? := by
  rw [h.tb]
  show getR (keepR dels us rs ++ insR nx ins) _ = _
  rw [getR_app, getR_none (l := keepR dels us rs) fun x hx => ?_, Option.none_or, insR_at]
  obtain ⟨y, hy, rfl⟩ := List.mem_map.1 hx
  have := (h.low y (List.mem_filter.1 hy).1).2
  show y.1 ≠ _
  omega
theorem ApOk.len (h : ApOk nm cs nx rs ins dels us T) : (T.rs.length : Int) = rs.length - dels.length + ins.length := by
  rw [h.tb]
  show ((keepR dels us rs ++ insR nx ins).length : Int) = _
  have h1 : (insR nx ins).length = ins.length := by simp [insR]
  have h2 : (keepR dels us rs).length = (rs.filter fun r => !dels.contains r.1).length := by simp [keepR]
  have hnd : (rs.map (·.1)).Nodup := h.asc.imp fun h => by omega
  have hdn : dels.Nodup := h.dasc.imp fun h => by omega
  have hp : ((rs.map (·.1)).filter fun id => dels.contains id).Perm dels := (List.perm_ext_iff_of_nodup (hnd.sublist List.filter_sublist) hdn).2 fun a => by
    simp only [List.mem_filter, List.contains_iff_mem]
    exact ⟨fun k => k.2, fun k => ⟨h.din a k, k⟩⟩
  have h3 : (rs.filter fun r => dels.contains r.1).length = dels.length := by
    rw [← hp.length_eq, List.filter_map, List.length_map]; rfl
  have h4 : (rs.filter fun r => dels.contains r.1).length + (rs.filter fun r => !dels.contains r.1).length = rs.length := by
    have : ∀ l : List Row, (l.filter fun r => dels.contains r.1).length + (l.filter fun r => !dels.contains r.1).length = l.length := by
      intro l
      induction l with
      | nil => rfl
      | cons x l ih => cases hx : dels.contains x.1 <;> simp only [List.filter_cons, hx, if_true, if_false, Bool.not_true, Bool.not_false, List.length_cons, Bool.false_eq_true] <;> omega
    exact this rs
  rw [List.length_append, h1, h2]
  omega
end
end Go.Proofs.YtedogodccblfeaaGreatDoor

namespace Go.Proofs.YtedogodccblfeaaGreatDoor
open Go.RowKit
set_option linter.unusedVariables false
set_option linter.unusedSimpArgs false

def PrVals (l : List Pr) (w : World) : Prop := ∀ p ∈ l, VlsIn p.oA p.on p.old w ∧ VlsIn p.nA p.nn p.new w
def SlVals (l : List Sl) (w : World) : Prop := ∀ r ∈ l, VlsIn r.A r.n r.vs w
theorem sls_snoc {M : Nat → Prop} {w : World} {rs : List Sl} {r : Sl} (h : Ro w M (SlVals rs)) (k : Ro w M (VlsIn r.A r.n r.vs)) : Ro w M (SlVals (rs ++ [r])) := fun w2 h1 h2 x hx => by
  rcases List.mem_append.1 hx with hx | hx
  · exact h w2 h1 h2 x hx
  · simp at hx; subst hx; exact k w2 h1 h2
theorem prVals_app {M : Nat → Prop} {w : World} {a b : List Pr} (h : Ro w M (PrVals a)) (k : Ro w M (PrVals b)) : Ro w M (PrVals (a ++ b)) := fun w2 h1 h2 x hx => by
  rcases List.mem_append.1 hx with hx | hx
  · exact h w2 h1 h2 x hx
  · exact k w2 h1 h2 x hx
theorem prCells_one (l : List Pr) : ∀ u ∈ prCells l, u.oneCell' = true := fun u hu => by
  unfold prCells at hu
  rw [List.mem_flatMap] at hu
  obtain ⟨x, _, hx⟩ := hu
  simp only [Pr.cells, List.mem_cons, List.not_mem_nil, or_false] at hx
  rcases hx with rfl | rfl | rfl <;> rfl
theorem Tryz.elPr : ElemT Tryz.prog 42 110 3 56 (.agg #[.int .i64 0, .slice none 0 0, .slice none 0 0]) := ⟨Tryz.underlying42, by kernel_rfl, rfl, by omega⟩
theorem Tryz.elSlc : ElemT Tryz.prog 74 51 1 24 (.slice none 0 0) := ⟨Tryz.underlying74, by kernel_rfl, rfl, by omega⟩
end Go.Proofs.YtedogodccblfeaaGreatDoor

namespace Go.Proofs.YtedogodccblfeaaGreatDoor
open Go.RowKit
set_option linter.unusedVariables false
set_option linter.unusedSimpArgs false

theorem tbAt_less {w : World} {M M' : Nat → Prop} {v : Value} {t : Tb} (h : TbAt w M v t) (hM : ∀ b, M' b → M b) : TbAt w M' v t := by
  obtain ⟨A, n, c, B, m, d, l, h1, h2, h3, h4, h5, h6, h7, h8, h9⟩ := h
  exact ⟨A, n, c, B, m, d, l, h1, h2, h3, h4, h5, h6.less hM, h7.less hM, h8, h9⟩
/-- a valid table of a schema of the three -/
structure VTab (t : Tb) : Prop where
  sch : SchOk t.nm t.cs
  val : tabB t.nm t.cs t.nx t.rs = true
theorem VTab.fit {t : Tb} (h : VTab t) {l : List Rw} (hl : l.map Rw.row = t.rs) : ∀ r ∈ l, r.vs.length = t.cs.length := fun r hr => by
  obtain ⟨_, _, _, _, hok, _⟩ := tabB_ok h.val
  exact fitsT_len (okR_fits hok r.row (by rw [← hl]; exact List.mem_map_of_mem hr))
theorem VTab.rows {t : Tb} (h : VTab t) : t.rs.length ≤ 100 := (tabB_ok h.val).2.1
theorem VTab.len {t : Tb} (h : VTab t) : ∀ r ∈ t.rs, r.2.length ≤ 4 := fun r hr => by
  obtain ⟨_, _, _, _, hok, _⟩ := tabB_ok h.val
  have h1 := fitsT_len (okR_fits hok r hr)
  have h2 := h.sch.len
  omega
theorem tspoil_slot (M : Nat → Prop) (T : Nat) (w : World) (hM : ∀ b, M b → b < w.heap.size) (ht : Tp w T) (hMT : ∀ b, M b → T ≤ b) (v : Value) (t : Tb) (hT : TbAt w (Mut M [.tp T]) v t) (hv : VTab t) (hW : Ro w (Mut M [.tp T]) Wds) (hw : 2 < T) :
    Calls Tryz.prog 37 #[.pointer (some ⟨T, 0, none⟩), v] w fun e w' => SomeTab w T M e w' := by
  obtain ⟨A, n, c, B, m, d, l, rfl, h1, h2, h3, h4, h5, h6, h7, h8⟩ := hT
  have hn : t.cs.length = n := cols_n h5.now
  have hm : l.length = m := h6.now.len
  have hml : t.rs.length = m := by rw [← h8, List.length_map, hm]
  have hl := hv.sch.len
  have hr := hv.rows
  exact tspoil_any M T w hM ht hMT t.nm A n c t.cs t.nx B m d l h5 h6 hW hw (by omega) (by omega) h1 h2 (by omega) (fun r hr => by rw [← hn]; exact hv.fit h8 r hr) h7 hv.sch.nm hv.sch.cs
theorem tof_slot (M : Nat → Prop) (T : Nat) (w : World) (hM : ∀ b, M b → b < w.heap.size) (ht : Tp w T) (hMT : ∀ b, M b → T ≤ b) (nm : ByteArray) (A : Option Addr) (n c : Nat) (cs : List Col) (N : Nat) (hD : Ro w (Mut M [.tp T]) (ColsIn A n cs)) (hc1 : n ≤ c) (hc2 : c ≤ 9223372036854775807) (hs : SchOk nm cs) (hW : Ro w (Mut M [.tp T]) Wds) (hw : 2 < T) (hN : N ≤ 50) :
    Calls Tryz.prog 30 #[.pointer (some ⟨T, 0, none⟩), .agg #[.string nm, .slice A n c], .int .i64 N] w fun e w' => ∃ (v : Value) (t : Tb), e = .returned v ∧ TbAt w' M v t ∧ VTab t ∧ t.nm = nm ∧ t.cs = cs ∧ t.rs.length ≤ N ∧ Tp w' T ∧ w.grownBy w' (some T) := by
  have hn : cs.length = n := cols_n hD.now
  have hl := hs.len
  refine (tof_any M T w hM ht hMT nm A n c cs N hD hW hw (by omega) hc1 hc2 hs.col hs.val hs.key hN).mono ?_
  rintro e w' ⟨v, nx, rs, rfl, hT, hv, hr, t1, g1⟩
  exact ⟨v, _, rfl, hT, ⟨hs, hv⟩, rfl, rfl, hr, t1, g1⟩
end Go.Proofs.YtedogodccblfeaaGreatDoor

namespace Go.Proofs.YtedogodccblfeaaGreatDoor
open Go.RowKit
set_option linter.unusedVariables false
set_option linter.unusedSimpArgs false

structure Te where
  nm : ByteArray
  A : Option Addr
  n : Nat
  c : Nat
  cs : List Col
  nx : Int
  B : Option Addr
  m : Nat
  d : Nat
  l : List Rw
def Te.cells (x : Te) : List Value := [.string x.nm, .slice x.A x.n x.c, .int .i64 x.nx, .slice x.B x.m x.d]
def Te.val (x : Te) : Value := .agg #[.string x.nm, .slice x.A x.n x.c, .int .i64 x.nx, .slice x.B x.m x.d]
def Te.tb (x : Te) : Tb := ⟨x.nm, x.cs, x.nx, x.l.map Rw.row⟩
def TeIn (x : Te) (w : World) : Prop := ColsIn x.A x.n x.cs w ∧ RwsIn x.B x.m x.l w
structure Te.ok (x : Te) : Prop where
  nc : x.n ≤ x.c
  c : x.c ≤ 9223372036854775807
  md : x.m ≤ x.d
  d : x.d ≤ 9223372036854775807
  l : ∀ r ∈ x.l, r.ok
theorem tb_te {w : World} {M : Nat → Prop} {v : Value} {t : Tb} (h : TbAt w M v t) : ∃ x : Te, v = x.val ∧ x.tb = t ∧ x.ok ∧ Ro w M (TeIn x) := by
  obtain ⟨A, n, c, B, m, d, l, rfl, h1, h2, h3, h4, h5, h6, h7, h8⟩ := h
  exact ⟨⟨t.nm, A, n, c, t.cs, t.nx, B, m, d, l⟩, rfl, by simp only [Te.tb, h8], ⟨h1, h2, h3, h4, h7⟩, h5.and h6⟩
theorem te_tb {w : World} {M : Nat → Prop} {x : Te} (h : x.ok) (r : Ro w M (TeIn x)) : TbAt w M x.val x.tb :=
  ⟨x.A, x.n, x.c, x.B, x.m, x.d, x.l, rfl, h.nc, h.c, h.md, h.d, r.imp fun w h => h.1, r.imp fun w h => h.2, h.l, rfl⟩
/-- a table within the limits that the contracts ask -/
structure TbM (t : Tb) : Prop where
  nm : t.nm.size ≤ maxLen
  cs : ∀ x ∈ t.cs, x.name.size ≤ maxLen
  rs : t.rs.length ≤ 4398046511104
  row : ∀ r ∈ t.rs, r.2.length ≤ 4398046511104
def teCells (l : List Te) : List Value := l.flatMap Te.cells
theorem teCells_len (l : List Te) : (teCells l).length = l.length * 4 := flat_len _ 4 (fun _ => rfl) l
def TesIn (A : Option Addr) (n : Nat) (l : List Te) (w : World) : Prop := SlR 4 A n (teCells l) w ∧ ∀ x ∈ l, TeIn x w
theorem TesIn.len {w : World} {A : Option Addr} {n : Nat} {l : List Te} (h : TesIn A n l w) : l.length = n := by
  have := (show Rd w w.heap.size 4 A n (teCells l) from h.1).1
  rw [teCells_len] at this
  omega
theorem TesIn.at_ {w : World} {A : Option Addr} {n : Nat} {l : List Te} (h : TesIn A n l w) {k : Nat} {x : Te} (hx : l[k]? = some x) :
    ∃ b o, A = some ⟨b, o, none⟩ ∧ b < w.heap.size ∧ w.cell? ⟨b, o + k * 4, none⟩ = some (.string x.nm) ∧ w.cell? ⟨b, o + k * 4 + 1, none⟩ = some (.slice x.A x.n x.c) ∧ w.cell? ⟨b, o + k * 4 + 2, none⟩ = some (.int .i64 x.nx) ∧ w.cell? ⟨b, o + k * 4 + 3, none⟩ = some (.slice x.B x.m x.d) ∧ TeIn x w := by
  have hk : k < n := by rw [← h.len]; exact (List.getElem?_eq_some_iff.1 hx).1
  obtain ⟨b, o, e, hb, hc⟩ := (show Rd w w.heap.size 4 A n (teCells l) from h.1).2 (by omega)
  exact ⟨b, o, e, hb, hc _ _ (flat_get Te.cells 4 (fun _ => rfl) l k 0 x (by omega) hx), hc _ _ (flat_get Te.cells 4 (fun _ => rfl) l k 1 x (by omega) hx), hc _ _ (flat_get Te.cells 4 (fun _ => rfl) l k 2 x (by omega) hx), hc _ _ (flat_get Te.cells 4 (fun _ => rfl) l k 3 x (by omega) hx), h.2 x (List.mem_of_getElem? hx)⟩
theorem one_tes (l : List Te) : ∀ u ∈ teCells l, u.oneCell' = true := fun u hu => by
  unfold teCells at hu
  rw [List.mem_flatMap] at hu
  obtain ⟨x, _, hx⟩ := hu
  simp only [Te.cells, List.mem_cons, List.not_mem_nil, or_false] at hx
  rcases hx with rfl | rfl | rfl | rfl <;> rfl
/-- a literal list of tables in a new block -/
theorem tes_block {w : World} {M : Nat → Prop} {g : Nat} {t : TypeId} {cs : Array Value} {l : List Te} (h : Ro w M (fun w => w.heap[g]? = some (.cells cs t (0, 0)))) (hl : cs.toList = teCells l) (hr : ∀ x ∈ l, Ro w M (TeIn x)) : Ro w M (TesIn (some ⟨g, 0, none⟩) l.length l) := by
  have h1 : Ro w M (SlR 4 (some ⟨g, 0, none⟩) l.length cs.toList) := ro_block h (by rw [hl, teCells_len])
  rw [hl] at h1
  exact h1.and fun w2 a b x hx => hr x hx w2 a b
/-- what a valid schema says of its columns -/
theorem okFrom_mem {α : Type} {t : Nat → α → Bool} : ∀ {l : List α} {k : Nat}, okFrom t k l = true → ∀ x ∈ l, ∃ j, t j x = true
  | [], _, _, x, hx => nomatch hx
  | c :: r, k, h, x, hx => by
    rw [okFrom, Bool.and_eq_true] at h
    rcases List.mem_cons.1 hx with rfl | hx
    · exact ⟨k, h.1⟩
    · exact okFrom_mem h.2 x hx
theorem key_first : ∀ {l : List Col} {k i : Nat} {c : Col}, (l.filter Col.key).length ≤ 1 → l[i]? = some c → c.key = true → findFrom Col.key k l = ((k + i : Nat) : Int)
  | x :: r, k, 0, c, _, hc, hk => by
    simp only [List.getElem?_cons_zero, Option.some.injEq] at hc
    subst hc
    rw [findFrom, if_pos hk]; rfl
  | x :: r, k, i + 1, c, hf, hc, hk => by
    simp only [List.getElem?_cons_succ] at hc
    have hm : c ∈ r.filter Col.key := List.mem_filter.2 ⟨List.mem_of_getElem? hc, hk⟩
    have hp := List.length_pos_of_mem hm
    cases hx : x.key with
    | true => simp only [List.filter_cons, hx, if_true, List.length_cons] at hf; omega
    | false =>
      simp only [List.filter_cons, hx, Bool.false_eq_true, if_false] at hf
      rw [findFrom, hx, if_neg (by simp), key_first hf hc hk]
      congr 1; omega
theorem schemaB_says {nm : ByteArray} {l : List Col} (h : schemaB nm l = true) : (∀ x ∈ l, ColOk x) ∧ KeyOne l ∧ 1 ≤ l.length ∧ l.length ≤ 6 := by
  unfold schemaB at h
  simp only [Bool.and_eq_true, decide_eq_true_eq] at h
  obtain ⟨⟨⟨⟨_, h1⟩, h2⟩, h3⟩, h4⟩ := h
  refine ⟨fun x hx => ?_, fun i c hc hk => ?_, h1, h2⟩
  · obtain ⟨j, hj⟩ := okFrom_mem h3 x hx
    unfold colOk at hj
    simp only [Bool.and_eq_true, decide_eq_true_eq] at hj
    unfold ColOk
    omega
  · have := key_first (k := 0) h4 hc hk
    rw [Nat.zero_add] at this
    exact this
end Go.Proofs.YtedogodccblfeaaGreatDoor

/- ApPlain: what a change that succeeds does to the rows. No program in sight. -/
import Derived.Test.YtljmclbedpceoaaGreatDoorDTellsSaidMA
import Derived.Test.YtljmclbedpceoaaGreatDoorDTellsSaidMB
import Derived.StillTailTactics
import Derived.Deep.LoopGhost
import Derived.IntWalk
import Derived.Laws.BytesArg
namespace Go.Proofs.YtljmclbedpceoaaGreatDoor
open Go.RowKit
set_option linter.unusedVariables false
set_option linter.unusedSimpArgs false

theorem Wds.ro2 {w : World} {M : Nat → Prop} (h : Wds w) (hM : ¬ M 1) : Ro w M Wds := fun w2 _ h2 => h.keep (h2 _ h.lt hM)
def DrawnSm (w : World) (T : Nat) (e : Ending) (w' : World) : Prop :=
  ∃ x : Int, e = .returned (.int .i64 x) ∧ -3 ≤ x ∧ x ≤ 12 ∧ Tp w' T ∧ w.grownBy w' (some T)
set_option maxHeartbeats 400000 in
theorem small_any (T : Nat) (w : World) (ht : Tp w T) : Calls Tryz.prog 98 #[.pointer (some ⟨T, 0, none⟩)] w fun e w' => DrawnSm w T e w' := by
  go_enter Tryz.func98, Tryz.ntmps98
  go_wp2_with fail
  refine (next_any T 16 _ ht (by omega) (by omega)).mono ?_
  rintro e w1 ⟨r, rfl, r0, r1, t1, g1⟩
  go_wp2
  go_ret
  exact ⟨r - 3, by first | rfl | simp, by omega, by omega, t1, g1⟩

/-- values that fit the columns one by one -/
def fitsAll : List Col → List Vl → Prop
  | [], [] => True
  | c :: cs, v :: vs => fitsV c v = 0 ∧ fitsAll cs vs
  | _, _ => False
theorem fitsAll_len : ∀ {cs : List Col} {vs : List Vl}, fitsAll cs vs → vs.length = cs.length
  | [], [], _ => rfl
  | c :: cs, v :: vs, h => by simp [fitsAll_len h.2]
  | [], _ :: _, h => h.elim
  | _ :: _, [], h => h.elim
theorem fitsAll_T : ∀ {cs : List Col} {vs : List Vl}, fitsAll cs vs → fitsL cs vs = 0
  | [], [], _ => rfl
  | c :: cs, v :: vs, h => by rw [fitsL, if_pos h.1]; exact fitsAll_T h.2
  | [], _ :: _, h => h.elim
  | _ :: _, [], h => h.elim
theorem fitsT_all {cs : List Col} {vs : List Vl} (h : fitsAll cs vs) : fitsT cs vs = 0 := by
  unfold fitsT; rw [if_pos (fitsAll_len h)]; exact fitsAll_T h
theorem fitsAll_snoc : ∀ {cs : List Col} {vs : List Vl} {c : Col} {v : Vl}, fitsAll cs vs → fitsV c v = 0 → fitsAll (cs ++ [c]) (vs ++ [v])
  | [], [], _, _, _, h => ⟨h, trivial⟩
  | c :: cs, v :: vs, _, _, h, k => ⟨h.1, fitsAll_snoc h.2 k⟩
  | [], _ :: _, _, _, h, _ => h.elim
  | _ :: _, [], _, _, h, _ => h.elim
theorem fitsAll_take {cs : List Col} {vs : List Vl} {k : Nat} {c : Col} {v : Vl} (h : fitsAll (cs.take k) vs) (hc : cs[k]? = some c) (hv : fitsV c v = 0) : fitsAll (cs.take (k + 1)) (vs ++ [v]) := by
  rw [List.take_add_one, hc]
  exact fitsAll_snoc h hv
/-- a column of a kind -/
def ColOk (c : Col) : Prop := c.ty = 1 ∨ c.ty = 2 ∨ c.ty = 3
theorem fits_typed {c : Col} {k i : Int} {s : ByteArray} (hc : ColOk c) (h : OfKind c.ty k i s) : fitsV c ⟨k, i, s⟩ = 0 ∧ k = c.ty := by
  obtain ⟨h1, h2, _⟩ := h
  obtain rfl := h2 hc
  have h3 : (c.ty == 0) = false := by rcases hc with h | h | h <;> rw [h] <;> rfl
  refine ⟨?_, rfl⟩
  unfold fitsV
  rw [if_pos h1]
  simp [h3]
theorem fits_small {c : Col} (hc : c.ty = 1) (i : Int) (s : ByteArray) (j : Int) (h : fitsV c ⟨1, i, s⟩ = 0) : fitsV c ⟨1, j, s⟩ = 0 := by
  unfold fitsV at h ⊢
  have e : validB 1 j s = validB 1 i s := by unfold validB; rw [if_neg (by decide), if_pos rfl, if_neg (by decide), if_pos rfl]
  rw [e]
  exact h
theorem fits_null {c : Col} (hc : c.nn = false) : fitsV c vNil = 0 := by
  have e : validB 0 0 ⟨#[]⟩ = true := by decide +kernel
  simp [fitsV, vNil, e, hc]
/-- A row drawn: it fits, in a row of the call's own. -/
def DrawnRow (w : World) (T : Nat) (cs : List Col) (e : Ending) (w' : World) : Prop :=
  ∃ (A : Option Addr) (n c : Nat) (vs : List Vl), e = .returned (.slice A n c) ∧ n = vs.length ∧ (∀ v ∈ vs, v.ok) ∧ fitsAll cs vs ∧ w'.ownsRow w.heap.size 86 3 (.slice A n c) n (vlCells vs) ∧ Tp w' T ∧ w.grownBy w' (some T)
theorem vlCells_snoc (l : List Vl) (k i : Int) (s : ByteArray) : vlCells l ++ (#[Value.int .i64 k, .int .i64 i, .string s]).toList = vlCells (l ++ [⟨k, i, s⟩]) := by simp [vlCells, Vl.cells]
theorem oks_snoc {l : List Vl} {v : Vl} (h : ∀ x ∈ l, x.ok) (hv : v.ok) : ∀ x ∈ l ++ [v], x.ok := fun x hx => by
  rcases List.mem_append.1 hx with hx | hx
  · exact h x hx
  · simp at hx; subst hx; exact hv
set_option maxHeartbeats 4000000 in
set_option maxRecDepth 100000 in
theorem trow_any (M : Nat → Prop) (T : Nat) (w : World) (hM : ∀ b, M b → b < w.heap.size) (ht : Tp w T) (hMT : ∀ b, M b → T ≤ b) (nm : ByteArray) (A : Option Addr) (n c : Nat) (cs : List Col) (hD : Ro w (Mut M [.tp T]) (ColsIn A n cs)) (hW : Ro w (Mut M [.tp T]) Wds) (hT : 1 < T)
    (hn : n ≤ 1000) (hok : ∀ x ∈ cs, ColOk x) : Calls Tryz.prog 50 #[.pointer (some ⟨T, 0, none⟩), .agg #[.string nm, .slice A n c]] w fun e w' => DrawnRow w T cs e w' := by
  have HL := hid (cols_n hD.now)
  have HOKC := hid hok
  clear hok
  have K0 := ((((Hold.startT M w T hM ht hMT).add hD).add (hW.less (mut_none rfl))).alloc_cst #[.string nm, .slice A n c] 28).nil 86 3
  clear hD hW
  go_enter Tryz.func50, Tryz.ntmps50
  go_wp2_with fail
  go_loopw [5, 12] (fun ov iv wr => ∃ (k cap : Nat) (O : Option Addr) (outs : List Vl), k ≤ n ∧ iv = .int .i64 k ∧ ov = .slice O k cap ∧ Hid (∀ v ∈ outs, v.ok) ∧ Hid (fitsAll (cs.take k) outs) ∧ Hold M (some T) w wr [.own 86 3 (.slice O k cap) k (vlCells outs), .cst w.heap.size 28 #[.string nm, .slice A n c], .ro Wds, .ro (ColsIn A n cs), .tp T]) (fun _ iv _ => n - (intOf iv).toNat)
  case atStart => exact ⟨0, 0, none, [], by omega, rfl, rfl, hid (fun v hv => nomatch hv), hid trivial, K0⟩
  case round =>
    clear K0
    obtain ⟨k, cap, O, outs, hk, rfl, rfl, HO, HF, H⟩ := hrel
    by_cases hlt : k < n
    · have hd : decide ((k : Int) < (n : Int)) = true := by simp; omega
      have k0 : (0 : Int) ≤ (k : Int) := by omega
      have k1 : (k : Int) < (n : Int) := by omega
      obtain ⟨⟨xn, xt, xnn, xk⟩, hx⟩ := get_col HL.out hlt
      obtain ⟨g, o, rfl, hgb, c0, c1, c2, c3⟩ := (RdC.of_sl (H.ro 3 rfl).now).at_ hx
      dsimp only at c0 c1 c2 c3
      have HCO := hid (HOKC.out _ (List.mem_of_getElem? hx))
      have HX := hid hx
      clear hx
      have K1 := H.alloc_cst #[.string xn, .int .i64 xt, .bool xnn, .bool xk] 94
      obtain ⟨gc, hgc⟩ : ∃ gc, gc = wr.heap.size := ⟨_, rfl⟩
      rw [← hgc] at K1
      go_wp2_with fail
      rw [← hgc]
      clear hgc
      refine (typed_any T xt _ (K1.tp_ 5 rfl) (K1.ro 3 rfl).now hT).mono ?_
      rintro e w2 ⟨kk, ii, ss, rfl, hkk, hss, hii, t2, _, g2⟩
      have K2 := (Hold.callT K1 5 rfl g2 t2)
      obtain ⟨hfit, hkt⟩ := fits_typed (c := ⟨xn, xt, xnn, xk⟩) HCO.out hkk
      obtain rfl : kk = xt := hkt
      clear hkk g2 t2 K1
      have HFIT := hid hfit
      clear hfit
      have K3 := K2.alloc #[.int .i64 kk, .int .i64 ii, .string ss] 86
      clear K2
      have F3 := K3.facts
      simp only [World.size_alloc, World.size_drew, factsL, cellsF, Nat.reduceAdd, List.toList_toArray, List.set_cons_zero, List.set_cons_succ, List.setIfInBounds_toArray, and_true, true_and] at F3
      have hssm : ss.size ≤ maxLen := by unfold maxLen; omega
      by_cases h1 : kk = 1
      · subst h1
        have hb : ((1 : Int) == 1) = true := rfl
        go_wp2_with fail
        refine (bool_any T 9 _ (K3.tp_ 6 rfl) (by omega) (by omega)).mono ?_
        rintro e w3 ⟨b1, rfl, t3, g3⟩
        obtain ⟨gv, hgv⟩ : ∃ gv, gv = w2.heap.size := ⟨_, rfl⟩
        have K4 := Hold.callT K3 6 rfl g3 t3
        clear K3 g3 t3 F3
        rw [← hgv] at K4 ⊢
        clear hgv
        have F4 := K4.facts
        simp only [World.size_alloc, World.size_drew, factsL, cellsF, Nat.reduceAdd, List.toList_toArray, List.set_cons_zero, List.set_cons_succ, List.setIfInBounds_toArray, and_true, true_and] at F4
        cases b1
        · go_wp2_with fail
          refine (small_any T _ (K4.tp_ 6 rfl)).mono ?_
          rintro e w4 ⟨y, rfl, y0, y1, t4, g4⟩
          have K5 := (Hold.callT K4 6 rfl g4 t4).store 0 rfl 1 (.int .i64 y)
          have F5 := (Hold.callT K4 6 rfl g4 t4).facts
          simp only [factsL, cellsF, Nat.reduceAdd, List.toList_toArray, and_true, true_and] at F5
          clear K4 g4 t4 F4
          have hyI : I64 y := by unfold I64; omega
          cases xnn
          · skip
            have KN := K5
            try simp only [List.set_cons_zero, List.set_cons_succ, List.setIfInBounds_toArray] at KN
            have FN := KN.facts
            simp only [World.size_alloc, World.size_drew, factsL, cellsF, Nat.reduceAdd, List.toList_toArray, List.set_cons_zero, List.set_cons_succ, List.setIfInBounds_toArray, and_true, true_and] at FN
            go_wp2_with fail
            refine (bool_any T 5 _ (KN.tp_ 6 rfl) (by omega) (by omega)).mono ?_
            rintro e w8 ⟨b2, rfl, t8, g8⟩
            have KM := Hold.callT KN 6 rfl g8 t8
            clear KN FN g8 t8
            have FM := KM.facts
            simp only [World.size_alloc, World.size_drew, factsL, cellsF, Nat.reduceAdd, List.toList_toArray, List.set_cons_zero, List.set_cons_succ, List.setIfInBounds_toArray, and_true, true_and] at FM
            cases b2
            · skip
              have HFK := hid (fitsAll_take HF.out HX.out (v := ⟨1, y, ss⟩) (fits_small rfl ii ss y HFIT.out))
              have HOK := hid (oks_snoc HO.out (show Vl.ok ⟨1, y, ss⟩ from ⟨by show I64 1; unfold I64; omega, hyI, hssm⟩))
              have HCE := hid (vlCells_snoc outs 1 y ss)
              have KA := KM
              try simp only [List.set_cons_zero, List.set_cons_succ, List.setIfInBounds_toArray] at KA
              have FA := KA.facts
              simp only [World.size_alloc, World.size_drew, factsL, cellsF, Nat.reduceAdd, List.toList_toArray, List.set_cons_zero, List.set_cons_succ, List.setIfInBounds_toArray, and_true, true_and] at FA
              go_wp2_with (at_builtin; go_must (refine wpList_appH KA 2 rfl Tryz.elVl #[.int .i64 1, .int .i64 y, .string ss] rfl (.tmp 39) (.tmp 41) rfl rfl _ (by first | rfl | simp [World.setCell]) rfl rfl (by intro u hu; simp at hu; rcases hu with rfl | rfl | rfl <;> rfl) (by omega) (by omega) ?_); intro g6 cap6 w6 hc6 hm6 KB; rw [HCE.out] at KB; simp only [List.set_cons_zero, List.set_cons_succ] at KB; (have FB := KB.facts); simp only [World.size_alloc, World.size_drew, factsL, cellsF, Nat.reduceAdd, List.toList_toArray, List.set_cons_zero, List.set_cons_succ, List.setIfInBounds_toArray, and_true, true_and] at FB)
              have KC := (KB.drop (List.Sublist.cons _ (List.Sublist.cons _ (List.Sublist.refl _))))
              go_roundw
              case rel => exact ⟨k + 1, cap6, some ⟨g6, 0, none⟩, outs ++ [⟨1, y, ss⟩], by omega, by go_num, by first | rfl | trivial, HOK, HFK, KC⟩
              case measure => simp [intOf]; omega
            · skip
              have HFK := hid (fitsAll_take HF.out HX.out (v := ⟨0, 0, ⟨#[]⟩⟩) (fits_null rfl))
              have HOK := hid (oks_snoc HO.out (show Vl.ok ⟨0, 0, ⟨#[]⟩⟩ from vNil_ok))
              have HCE := hid (vlCells_snoc outs 0 0 ⟨#[]⟩)
              have KA := (((KM.store 0 rfl 0 (.int .i64 0)).store 0 rfl 1 (.int .i64 0)).store 0 rfl 2 (.string ⟨#[]⟩))
              try simp only [List.set_cons_zero, List.set_cons_succ, List.setIfInBounds_toArray] at KA
              have FA := KA.facts
              simp only [World.size_alloc, World.size_drew, factsL, cellsF, Nat.reduceAdd, List.toList_toArray, List.set_cons_zero, List.set_cons_succ, List.setIfInBounds_toArray, and_true, true_and] at FA
              go_wp2_with (at_builtin; go_must (refine wpList_appH KA 2 rfl Tryz.elVl #[.int .i64 0, .int .i64 0, .string ⟨#[]⟩] rfl (.tmp 39) (.tmp 41) rfl rfl _ (by first | rfl | simp [World.setCell]) rfl rfl (by intro u hu; simp at hu; rcases hu with rfl | rfl | rfl <;> rfl) (by omega) (by omega) ?_); intro g6 cap6 w6 hc6 hm6 KB; rw [HCE.out] at KB; simp only [List.set_cons_zero, List.set_cons_succ] at KB; (have FB := KB.facts); simp only [World.size_alloc, World.size_drew, factsL, cellsF, Nat.reduceAdd, List.toList_toArray, List.set_cons_zero, List.set_cons_succ, List.setIfInBounds_toArray, and_true, true_and] at FB)
              have KC := (KB.drop (List.Sublist.cons _ (List.Sublist.cons _ (List.Sublist.refl _))))
              go_roundw
              case rel => exact ⟨k + 1, cap6, some ⟨g6, 0, none⟩, outs ++ [⟨0, 0, ⟨#[]⟩⟩], by omega, by go_num, by first | rfl | trivial, HOK, HFK, KC⟩
              case measure => simp [intOf]; omega
          · skip
            have HFK := hid (fitsAll_take HF.out HX.out (v := ⟨1, y, ss⟩) (fits_small rfl ii ss y HFIT.out))
            have HOK := hid (oks_snoc HO.out (show Vl.ok ⟨1, y, ss⟩ from ⟨by show I64 1; unfold I64; omega, hyI, hssm⟩))
            have HCE := hid (vlCells_snoc outs 1 y ss)
            have KA := K5
            try simp only [List.set_cons_zero, List.set_cons_succ, List.setIfInBounds_toArray] at KA
            have FA := KA.facts
            simp only [World.size_alloc, World.size_drew, factsL, cellsF, Nat.reduceAdd, List.toList_toArray, List.set_cons_zero, List.set_cons_succ, List.setIfInBounds_toArray, and_true, true_and] at FA
            go_wp2_with (at_builtin; go_must (refine wpList_appH KA 2 rfl Tryz.elVl #[.int .i64 1, .int .i64 y, .string ss] rfl (.tmp 39) (.tmp 41) rfl rfl _ (by first | rfl | simp [World.setCell]) rfl rfl (by intro u hu; simp at hu; rcases hu with rfl | rfl | rfl <;> rfl) (by omega) (by omega) ?_); intro g6 cap6 w6 hc6 hm6 KB; rw [HCE.out] at KB; simp only [List.set_cons_zero, List.set_cons_succ] at KB; (have FB := KB.facts); simp only [World.size_alloc, World.size_drew, factsL, cellsF, Nat.reduceAdd, List.toList_toArray, List.set_cons_zero, List.set_cons_succ, List.setIfInBounds_toArray, and_true, true_and] at FB)
            have KC := (KB.drop (List.Sublist.cons _ (List.Sublist.cons _ (List.Sublist.refl _))))
            go_roundw
            case rel => exact ⟨k + 1, cap6, some ⟨g6, 0, none⟩, outs ++ [⟨1, y, ss⟩], by omega, by go_num, by first | rfl | trivial, HOK, HFK, KC⟩
            case measure => simp [intOf]; omega
        · skip
          cases xnn
          · skip
            have KN := K4
            try simp only [List.set_cons_zero, List.set_cons_succ, List.setIfInBounds_toArray] at KN
            have FN := KN.facts
            simp only [World.size_alloc, World.size_drew, factsL, cellsF, Nat.reduceAdd, List.toList_toArray, List.set_cons_zero, List.set_cons_succ, List.setIfInBounds_toArray, and_true, true_and] at FN
            go_wp2_with fail
            refine (bool_any T 5 _ (KN.tp_ 6 rfl) (by omega) (by omega)).mono ?_
            rintro e w8 ⟨b2, rfl, t8, g8⟩
            have KM := Hold.callT KN 6 rfl g8 t8
            clear KN FN g8 t8
            have FM := KM.facts
            simp only [World.size_alloc, World.size_drew, factsL, cellsF, Nat.reduceAdd, List.toList_toArray, List.set_cons_zero, List.set_cons_succ, List.setIfInBounds_toArray, and_true, true_and] at FM
            cases b2
            · skip
              have HFK := hid (fitsAll_take HF.out HX.out (v := ⟨1, ii, ss⟩) HFIT.out)
              have HOK := hid (oks_snoc HO.out (show Vl.ok ⟨1, ii, ss⟩ from ⟨by show I64 1; unfold I64; omega, hii, hssm⟩))
              have HCE := hid (vlCells_snoc outs 1 ii ss)
              have KA := KM
              try simp only [List.set_cons_zero, List.set_cons_succ, List.setIfInBounds_toArray] at KA
              have FA := KA.facts
              simp only [World.size_alloc, World.size_drew, factsL, cellsF, Nat.reduceAdd, List.toList_toArray, List.set_cons_zero, List.set_cons_succ, List.setIfInBounds_toArray, and_true, true_and] at FA
              go_wp2_with (at_builtin; go_must (refine wpList_appH KA 2 rfl Tryz.elVl #[.int .i64 1, .int .i64 ii, .string ss] rfl (.tmp 39) (.tmp 41) rfl rfl _ (by first | rfl | simp [World.setCell]) rfl rfl (by intro u hu; simp at hu; rcases hu with rfl | rfl | rfl <;> rfl) (by omega) (by omega) ?_); intro g6 cap6 w6 hc6 hm6 KB; rw [HCE.out] at KB; simp only [List.set_cons_zero, List.set_cons_succ] at KB; (have FB := KB.facts); simp only [World.size_alloc, World.size_drew, factsL, cellsF, Nat.reduceAdd, List.toList_toArray, List.set_cons_zero, List.set_cons_succ, List.setIfInBounds_toArray, and_true, true_and] at FB)
              have KC := (KB.drop (List.Sublist.cons _ (List.Sublist.cons _ (List.Sublist.refl _))))
              go_roundw
              case rel => exact ⟨k + 1, cap6, some ⟨g6, 0, none⟩, outs ++ [⟨1, ii, ss⟩], by omega, by go_num, by first | rfl | trivial, HOK, HFK, KC⟩
              case measure => simp [intOf]; omega
            · skip
              have HFK := hid (fitsAll_take HF.out HX.out (v := ⟨0, 0, ⟨#[]⟩⟩) (fits_null rfl))
              have HOK := hid (oks_snoc HO.out (show Vl.ok ⟨0, 0, ⟨#[]⟩⟩ from vNil_ok))
              have HCE := hid (vlCells_snoc outs 0 0 ⟨#[]⟩)
              have KA := (((KM.store 0 rfl 0 (.int .i64 0)).store 0 rfl 1 (.int .i64 0)).store 0 rfl 2 (.string ⟨#[]⟩))
              try simp only [List.set_cons_zero, List.set_cons_succ, List.setIfInBounds_toArray] at KA
              have FA := KA.facts
              simp only [World.size_alloc, World.size_drew, factsL, cellsF, Nat.reduceAdd, List.toList_toArray, List.set_cons_zero, List.set_cons_succ, List.setIfInBounds_toArray, and_true, true_and] at FA
              go_wp2_with (at_builtin; go_must (refine wpList_appH KA 2 rfl Tryz.elVl #[.int .i64 0, .int .i64 0, .string ⟨#[]⟩] rfl (.tmp 39) (.tmp 41) rfl rfl _ (by first | rfl | simp [World.setCell]) rfl rfl (by intro u hu; simp at hu; rcases hu with rfl | rfl | rfl <;> rfl) (by omega) (by omega) ?_); intro g6 cap6 w6 hc6 hm6 KB; rw [HCE.out] at KB; simp only [List.set_cons_zero, List.set_cons_succ] at KB; (have FB := KB.facts); simp only [World.size_alloc, World.size_drew, factsL, cellsF, Nat.reduceAdd, List.toList_toArray, List.set_cons_zero, List.set_cons_succ, List.setIfInBounds_toArray, and_true, true_and] at FB)
              have KC := (KB.drop (List.Sublist.cons _ (List.Sublist.cons _ (List.Sublist.refl _))))
              go_roundw
              case rel => exact ⟨k + 1, cap6, some ⟨g6, 0, none⟩, outs ++ [⟨0, 0, ⟨#[]⟩⟩], by omega, by go_num, by first | rfl | trivial, HOK, HFK, KC⟩
              case measure => simp [intOf]; omega
          · skip
            have HFK := hid (fitsAll_take HF.out HX.out (v := ⟨1, ii, ss⟩) HFIT.out)
            have HOK := hid (oks_snoc HO.out (show Vl.ok ⟨1, ii, ss⟩ from ⟨by show I64 1; unfold I64; omega, hii, hssm⟩))
            have HCE := hid (vlCells_snoc outs 1 ii ss)
            have KA := K4
            try simp only [List.set_cons_zero, List.set_cons_succ, List.setIfInBounds_toArray] at KA
            have FA := KA.facts
            simp only [World.size_alloc, World.size_drew, factsL, cellsF, Nat.reduceAdd, List.toList_toArray, List.set_cons_zero, List.set_cons_succ, List.setIfInBounds_toArray, and_true, true_and] at FA
            go_wp2_with (at_builtin; go_must (refine wpList_appH KA 2 rfl Tryz.elVl #[.int .i64 1, .int .i64 ii, .string ss] rfl (.tmp 39) (.tmp 41) rfl rfl _ (by first | rfl | simp [World.setCell]) rfl rfl (by intro u hu; simp at hu; rcases hu with rfl | rfl | rfl <;> rfl) (by omega) (by omega) ?_); intro g6 cap6 w6 hc6 hm6 KB; rw [HCE.out] at KB; simp only [List.set_cons_zero, List.set_cons_succ] at KB; (have FB := KB.facts); simp only [World.size_alloc, World.size_drew, factsL, cellsF, Nat.reduceAdd, List.toList_toArray, List.set_cons_zero, List.set_cons_succ, List.setIfInBounds_toArray, and_true, true_and] at FB)
            have KC := (KB.drop (List.Sublist.cons _ (List.Sublist.cons _ (List.Sublist.refl _))))
            go_roundw
            case rel => exact ⟨k + 1, cap6, some ⟨g6, 0, none⟩, outs ++ [⟨1, ii, ss⟩], by omega, by go_num, by first | rfl | trivial, HOK, HFK, KC⟩
            case measure => simp [intOf]; omega
      · have hb : (kk == 1) = false := by simpa using h1
        have hty : I64 kk := by rcases HCO.out with h | h | h <;> (have h : kk = _ := h; rw [h]; unfold I64; omega)
        clear h1
        cases xnn
        · skip
          have KN := K3
          try simp only [List.set_cons_zero, List.set_cons_succ, List.setIfInBounds_toArray] at KN
          have FN := KN.facts
          simp only [World.size_alloc, World.size_drew, factsL, cellsF, Nat.reduceAdd, List.toList_toArray, List.set_cons_zero, List.set_cons_succ, List.setIfInBounds_toArray, and_true, true_and] at FN
          go_wp2_with fail
          refine (bool_any T 5 _ (KN.tp_ 6 rfl) (by omega) (by omega)).mono ?_
          rintro e w8 ⟨b2, rfl, t8, g8⟩
          have KM := Hold.callT KN 6 rfl g8 t8
          clear KN FN g8 t8
          have FM := KM.facts
          simp only [World.size_alloc, World.size_drew, factsL, cellsF, Nat.reduceAdd, List.toList_toArray, List.set_cons_zero, List.set_cons_succ, List.setIfInBounds_toArray, and_true, true_and] at FM
          cases b2
          · skip
            have HFK := hid (fitsAll_take HF.out HX.out (v := ⟨kk, ii, ss⟩) HFIT.out)
            have HOK := hid (oks_snoc HO.out (show Vl.ok ⟨kk, ii, ss⟩ from ⟨hty, hii, hssm⟩))
            have HCE := hid (vlCells_snoc outs kk ii ss)
            have KA := KM
            try simp only [List.set_cons_zero, List.set_cons_succ, List.setIfInBounds_toArray] at KA
            have FA := KA.facts
            simp only [World.size_alloc, World.size_drew, factsL, cellsF, Nat.reduceAdd, List.toList_toArray, List.set_cons_zero, List.set_cons_succ, List.setIfInBounds_toArray, and_true, true_and] at FA
            go_wp2_with (at_builtin; go_must (refine wpList_appH KA 2 rfl Tryz.elVl #[.int .i64 kk, .int .i64 ii, .string ss] rfl (.tmp 39) (.tmp 41) rfl rfl _ (by first | rfl | simp [World.setCell]) rfl rfl (by intro u hu; simp at hu; rcases hu with rfl | rfl | rfl <;> rfl) (by omega) (by omega) ?_); intro g6 cap6 w6 hc6 hm6 KB; rw [HCE.out] at KB; simp only [List.set_cons_zero, List.set_cons_succ] at KB; (have FB := KB.facts); simp only [World.size_alloc, World.size_drew, factsL, cellsF, Nat.reduceAdd, List.toList_toArray, List.set_cons_zero, List.set_cons_succ, List.setIfInBounds_toArray, and_true, true_and] at FB)
            have KC := (KB.drop (List.Sublist.cons _ (List.Sublist.cons _ (List.Sublist.refl _))))
            go_roundw
            case rel => exact ⟨k + 1, cap6, some ⟨g6, 0, none⟩, outs ++ [⟨kk, ii, ss⟩], by omega, by go_num, by first | rfl | trivial, HOK, HFK, KC⟩
            case measure => simp [intOf]; omega
          · skip
            have HFK := hid (fitsAll_take HF.out HX.out (v := ⟨0, 0, ⟨#[]⟩⟩) (fits_null rfl))
            have HOK := hid (oks_snoc HO.out (show Vl.ok ⟨0, 0, ⟨#[]⟩⟩ from vNil_ok))
            have HCE := hid (vlCells_snoc outs 0 0 ⟨#[]⟩)
            have KA := (((KM.store 0 rfl 0 (.int .i64 0)).store 0 rfl 1 (.int .i64 0)).store 0 rfl 2 (.string ⟨#[]⟩))
            try simp only [List.set_cons_zero, List.set_cons_succ, List.setIfInBounds_toArray] at KA
            have FA := KA.facts
            simp only [World.size_alloc, World.size_drew, factsL, cellsF, Nat.reduceAdd, List.toList_toArray, List.set_cons_zero, List.set_cons_succ, List.setIfInBounds_toArray, and_true, true_and] at FA
            go_wp2_with (at_builtin; go_must (refine wpList_appH KA 2 rfl Tryz.elVl #[.int .i64 0, .int .i64 0, .string ⟨#[]⟩] rfl (.tmp 39) (.tmp 41) rfl rfl _ (by first | rfl | simp [World.setCell]) rfl rfl (by intro u hu; simp at hu; rcases hu with rfl | rfl | rfl <;> rfl) (by omega) (by omega) ?_); intro g6 cap6 w6 hc6 hm6 KB; rw [HCE.out] at KB; simp only [List.set_cons_zero, List.set_cons_succ] at KB; (have FB := KB.facts); simp only [World.size_alloc, World.size_drew, factsL, cellsF, Nat.reduceAdd, List.toList_toArray, List.set_cons_zero, List.set_cons_succ, List.setIfInBounds_toArray, and_true, true_and] at FB)
            have KC := (KB.drop (List.Sublist.cons _ (List.Sublist.cons _ (List.Sublist.refl _))))
            go_roundw
            case rel => exact ⟨k + 1, cap6, some ⟨g6, 0, none⟩, outs ++ [⟨0, 0, ⟨#[]⟩⟩], by omega, by go_num, by first | rfl | trivial, HOK, HFK, KC⟩
            case measure => simp [intOf]; omega
        · skip
          have HFK := hid (fitsAll_take HF.out HX.out (v := ⟨kk, ii, ss⟩) HFIT.out)
          have HOK := hid (oks_snoc HO.out (show Vl.ok ⟨kk, ii, ss⟩ from ⟨hty, hii, hssm⟩))
          have HCE := hid (vlCells_snoc outs kk ii ss)
          have KA := K3
          try simp only [List.set_cons_zero, List.set_cons_succ, List.setIfInBounds_toArray] at KA
          have FA := KA.facts
          simp only [World.size_alloc, World.size_drew, factsL, cellsF, Nat.reduceAdd, List.toList_toArray, List.set_cons_zero, List.set_cons_succ, List.setIfInBounds_toArray, and_true, true_and] at FA
          go_wp2_with (at_builtin; go_must (refine wpList_appH KA 2 rfl Tryz.elVl #[.int .i64 kk, .int .i64 ii, .string ss] rfl (.tmp 39) (.tmp 41) rfl rfl _ (by first | rfl | simp [World.setCell]) rfl rfl (by intro u hu; simp at hu; rcases hu with rfl | rfl | rfl <;> rfl) (by omega) (by omega) ?_); intro g6 cap6 w6 hc6 hm6 KB; rw [HCE.out] at KB; simp only [List.set_cons_zero, List.set_cons_succ] at KB; (have FB := KB.facts); simp only [World.size_alloc, World.size_drew, factsL, cellsF, Nat.reduceAdd, List.toList_toArray, List.set_cons_zero, List.set_cons_succ, List.setIfInBounds_toArray, and_true, true_and] at FB)
          have KC := (KB.drop (List.Sublist.cons _ (List.Sublist.cons _ (List.Sublist.refl _))))
          go_roundw
          case rel => exact ⟨k + 1, cap6, some ⟨g6, 0, none⟩, outs ++ [⟨kk, ii, ss⟩], by omega, by go_num, by first | rfl | trivial, HOK, HFK, KC⟩
          case measure => simp [intOf]; omega
    · obtain rfl : k = n := by omega
      have hd : decide ((k : Int) < (k : Int)) = false := by simp
      have HE := hid (show fitsAll cs outs by have h := HF.out; rwa [List.take_of_length_le (by rw [HL.out]; exact Nat.le_refl _)] at h)
      have HN := hid (show k = outs.length by have := fitsAll_len HE.out; have := HL.out; omega)
      go_wp2_with fail
      go_ret
      exact ⟨O, k, cap, outs, rfl, HN.out, HO.out, HE.out, H.get 0 rfl, H.tp_ 4 rfl, H.grow⟩
end Go.Proofs.YtljmclbedpceoaaGreatDoor

namespace Go.Proofs.YtljmclbedpceoaaGreatDoor
open Go.RowKit
set_option linter.unusedVariables false
set_option linter.unusedSimpArgs false

theorem okR_mono {cs : List Col} {nx nx' : Int} (h : nx ≤ nx') : ∀ {lst : Int} {rs : List Row}, okR cs nx lst rs = true → okR cs nx' lst rs = true
  | _, [], _ => rfl
  | lst, r :: rs, hr => by
    rw [okR] at hr ⊢
    simp only [Bool.and_eq_true, decide_eq_true_eq] at hr ⊢
    exact ⟨⟨⟨hr.1.1.1, by omega⟩, hr.1.2⟩, okR_mono h hr.2⟩
theorem okR_snoc {cs : List Col} {nx nx' : Int} {vs : List Vl} (hf : fitsT cs vs = 0) (hx : nx < nx') : ∀ {lst : Int} {rs : List Row}, lst < nx → okR cs nx lst rs = true → okR cs nx' lst (rs ++ [(nx, vs)]) = true
  | lst, [], hl, _ => by
    simp only [List.nil_append, okR, Bool.and_eq_true, decide_eq_true_eq, Bool.and_true]
    exact ⟨⟨hl, hx⟩, hf⟩
  | lst, r :: rs, hl, hr => by
    rw [okR] at hr
    rw [List.cons_append, okR]
    simp only [Bool.and_eq_true, decide_eq_true_eq] at hr ⊢
    exact ⟨⟨⟨hr.1.1.1, by omega⟩, hr.1.2⟩, okR_snoc hf hx (by omega) hr.2⟩
/-- the keys of rows -/
def keysF (κ : Nat) (l : List (List Vl)) : List Vl := l.filterMap (·[κ]?)
theorem dupF_iff {κ : Nat} : ∀ (l : List (List Vl)) (seen : List Vl), dupF κ seen l = false ↔ (∀ v ∈ keysF κ l, v ∉ seen) ∧ (keysF κ l).Nodup
  | [], seen => by simp [dupF, keysF]
  | r :: l, seen => by
    have h0 : (0 : Int) ≤ (κ : Int) := by omega
    rw [dupF, if_pos h0]
    simp only [Int.toNat_natCast]
    cases hr : r[κ]? with
    | none =>
      have e : keysF κ (r :: l) = keysF κ l := by simp [keysF, hr]
      rw [e]
      simpa using dupF_iff l seen
    | some v =>
      have e : keysF κ (r :: l) = v :: keysF κ l := by simp [keysF, hr]
      rw [e]
      simp only
      by_cases hv : v ∈ seen
      · simp [hv]
      · rw [if_neg hv, dupF_iff l (v :: seen)]
        simp only [List.mem_cons, not_or, List.nodup_cons, List.forall_mem_cons]
        constructor
        · rintro ⟨h1, h2⟩
          refine ⟨fun x hx => ?_, fun hm => (h1 v hm).1 rfl, h2⟩
          rcases hx with rfl | hx
          · exact hv
          · exact (h1 x hx).2
        · rintro ⟨h1, h2, h3⟩
          exact ⟨fun x hx => ⟨fun hxv => h2 (hxv ▸ hx), h1 x (.inr hx)⟩, h3⟩
theorem dupF_snoc {κ : Nat} {l : List (List Vl)} {vs : List Vl} (h : dupF κ [] l = false) (hn : ∀ x ∈ l, x[κ]? = none ∨ x[κ]? ≠ vs[κ]?) : dupF κ [] (l ++ [vs]) = false := by
  rw [dupF_iff] at h ⊢
  refine ⟨fun v _ hv => (List.not_mem_nil hv), ?_⟩
  have e : keysF κ (l ++ [vs]) = keysF κ l ++ (vs[κ]?).toList := by
    unfold keysF
    rw [List.filterMap_append]
    congr 1
  rw [e]
  cases hv : vs[κ]? with
  | none => simpa using h.2
  | some v =>
    simp only [Option.toList_some]
    rw [List.nodup_append]
    refine ⟨h.2, by simp, fun x hx y hy => ?_⟩
    simp only [List.mem_singleton] at hy
    subst hy
    rintro rfl
    obtain ⟨r, hr, hrx⟩ := List.mem_filterMap.1 hx
    rcases hn r hr with h1 | h1
    · rw [h1] at hrx; cases hrx
    · exact h1 (hrx.trans hv.symm)
theorem dupB_snoc {cs : List Col} {rs : List Row} {id : Int} {vs : List Vl} (h : dupB cs rs = false) (hn : findB Col.key cs < 0 ∨ ∀ x ∈ rs, x.2[(findB Col.key cs).toNat]? = none ∨ x.2[(findB Col.key cs).toNat]? ≠ vs[(findB Col.key cs).toNat]?) : dupB cs (rs ++ [(id, vs)]) = false := by
  rcases Int.lt_or_le (findB Col.key cs) 0 with hk | hk
  · exact dupF_neg hk _ _
  · obtain ⟨κ, hκ⟩ := Int.eq_ofNat_of_zero_le hk
    have hn2 := hn.resolve_left (by omega)
    unfold dupB at h ⊢
    rw [hκ] at h hn2 ⊢
    rw [List.map_append]
    exact dupF_snoc h fun x hx => by
      obtain ⟨r, hr, rfl⟩ := List.mem_map.1 hx
      exact hn2 r hr
theorem findFrom_lt {α : Type} (p : α → Bool) : ∀ (l : List α) (k f : Nat), findFrom p k l = (f : Int) → k ≤ f ∧ f < k + l.length
  | [], k, f, h => by rw [findFrom] at h; omega
  | c :: r, k, f, h => by
    rw [findFrom] at h
    split at h
    · simp only [List.length_cons]; omega
    · have := findFrom_lt p r (k + 1) f h
      simp only [List.length_cons]; omega
theorem key_lt {cs : List Col} {κ : Nat} (h : (κ : Int) = findB Col.key cs) : κ < cs.length := by
  have := findFrom_lt Col.key cs 0 κ h.symm
  omega
/-- every key column is the first one -/
def KeyOne (cs : List Col) : Prop := ∀ (i : Nat) (c : Col), cs[i]? = some c → c.key = true → findB Col.key cs = i
theorem tab_ok {nm : ByteArray} {cs : List Col} {nx : Int} {rs : List Row} (h1 : schemaB nm cs = true) (h2 : rs.length ≤ 100) (h3 : 1 ≤ nx) (h4 : nx ≤ 2147483648) (h5 : okR cs nx 0 rs = true) (h6 : dupB cs rs = false) : tabB nm cs nx rs = true := by
  rw [tabB_6 h1 h2 h3 h4 h5, h6]; rfl
end Go.Proofs.YtljmclbedpceoaaGreatDoor

namespace Go.Proofs.YtljmclbedpceoaaGreatDoor
open Go.RowKit
set_option linter.unusedVariables false
set_option linter.unusedSimpArgs false
section
variable {P : Program} {M : Nat → Prop} {row : Option Nat} {w0 w1 : World} {L : List Hp} {sp : SpW} {F : Act → Prop} {S0 : Array Bool}
variable {ops : Array Oper} {o : Oper} {rest : List Oper} {a : Act} {k : Nat}
theorem dw_valC (d : Tmp) (V : Value → World → Prop) (hS : S0.getD k false = false) (hw : Region.wanted o (yielded ops a.tmps) = true) (hd : o.dst = some d) (hsp : sp d = some V) (u : Value) (hrun : ∀ w, Hold M row w0 w L → (execOp a.eval o).run P w = .ok (.value u) w)
    (hV : ∀ w, Hold M row w0 w L → Deps ops (GW sp) o a w → V u w) (hn : wpRel P ops (HC M row w0 w1 L) (GW sp) (RM (Mut M L)) S0 F (k + 1) rest (a.put (some d) u)) : wpRel P ops (HC M row w0 w1 L) (GW sp) (RM (Mut M L)) S0 F k (o :: rest) a :=
  rel_val (fun w _ => RM.refl _ w) hS hw u (fun w hC _ => hrun w hC.1) (fun w hC hD => by rw [hd]; exact (GW_on hsp).2 (hV w hC.1 hD)) (by rw [hd]; exact hn)
end
/-- a clone's slot -/
def VlsSlot (M : Nat → Prop) (vs : List Vl) (u : Value) (w : World) : Prop := ∃ (A : Option Addr) (n c : Nat), u = .slice A n c ∧ n = vs.length ∧ n ≤ c ∧ c ≤ 9223372036854775807 ∧ Ro w M (VlsIn A n vs)
/-- a row's slot -/
def RowSlot (M : Nat → Prop) (id : Int) (vs : List Vl) (u : Value) (w : World) : Prop := ∃ (A : Option Addr) (n c : Nat), u = .agg #[.int .i64 id, .slice A n c] ∧ n = vs.length ∧ n ≤ c ∧ c ≤ 9223372036854775807 ∧ Ro w M (VlsIn A n vs)
/-- the slot of a block of one row -/
def RBoxSlot (M : Nat → Prop) (id : Int) (vs : List Vl) (u : Value) (w : World) : Prop := ∃ (g : Nat) (A : Option Addr) (n c : Nat), u = .slice (some ⟨g, 0, none⟩) 1 1 ∧ n = vs.length ∧ n ≤ c ∧ c ≤ 9223372036854775807 ∧ Ro w M (VlsIn A n vs) ∧ Ro w M (SlR 2 (some ⟨g, 0, none⟩) 1 [.int .i64 id, .slice A n c])
theorem vlsSlot_mono {M : Nat → Prop} {vs : List Vl} (u : Value) (w w' : World) (hr : RM M w w') (h : VlsSlot M vs u w) : VlsSlot M vs u w' := by
  obtain ⟨A, n, c, h1, h2, h3, h4, h5⟩ := h
  exact ⟨A, n, c, h1, h2, h3, h4, hr.ro h5⟩
theorem rowSlot_mono {M : Nat → Prop} {id : Int} {vs : List Vl} (u : Value) (w w' : World) (hr : RM M w w') (h : RowSlot M id vs u w) : RowSlot M id vs u w' := by
  obtain ⟨A, n, c, h1, h2, h3, h4, h5⟩ := h
  exact ⟨A, n, c, h1, h2, h3, h4, hr.ro h5⟩
theorem rboxSlot_mono {M : Nat → Prop} {id : Int} {vs : List Vl} (u : Value) (w w' : World) (hr : RM M w w') (h : RBoxSlot M id vs u w) : RBoxSlot M id vs u w' := by
  obtain ⟨g, A, n, c, h1, h2, h3, h4, h5, h6⟩ := h
  exact ⟨g, A, n, c, h1, h2, h3, h4, hr.ro h5, hr.ro h6⟩
theorem rwCells_snoc1 (l : List Rw) (id : Int) (A : Option Addr) (n c : Nat) (vs : List Vl) : rwCells l ++ [.int .i64 id, .slice A n c] = rwCells (l ++ [⟨id, A, n, c, vs⟩]) := by simp [rwCells, Rw.cells]
theorem vals_snoc {M : Nat → Prop} {w : World} {rs : List Rw} {r : Rw} (h : Ro w M (ValsIn rs)) (k : Ro w M (VlsIn r.A r.n r.vs)) : Ro w M (ValsIn (rs ++ [r])) := fun w2 h1 h2 x hx => by
  rcases List.mem_append.1 hx with hx | hx
  · exact h w2 h1 h2 x hx
  · simp at hx; subst hx; exact k w2 h1 h2
theorem ro_vals_nil (w : World) (M : Nat → Prop) : Ro w M (ValsIn []) := fun _ _ _ r hr => nomatch hr
end Go.Proofs.YtljmclbedpceoaaGreatDoor

namespace Go.Proofs.YtljmclbedpceoaaGreatDoor
open Go.RowKit
set_option linter.unusedVariables false
set_option linter.unusedSimpArgs false

/-- a table in plain words -/
structure Tb where
  nm : ByteArray
  cs : List Col
  nx : Int
  rs : List Row
deriving DecidableEq
/-- A value that is a table in memory that nobody writes. -/
def TbAt (w : World) (M : Nat → Prop) (v : Value) (t : Tb) : Prop :=
  ∃ (A : Option Addr) (n c : Nat) (B : Option Addr) (m d : Nat) (l : List Rw), v = .agg #[.string t.nm, .slice A n c, .int .i64 t.nx, .slice B m d] ∧ n ≤ c ∧ c ≤ 9223372036854775807 ∧ m ≤ d ∧ d ≤ 9223372036854775807 ∧ Ro w M (ColsIn A n t.cs) ∧ Ro w M (RwsIn B m l) ∧ (∀ r ∈ l, r.ok) ∧ l.map Rw.row = t.rs
end Go.Proofs.YtljmclbedpceoaaGreatDoor

namespace Go.Proofs.YtljmclbedpceoaaGreatDoor
open Go.RowKit
set_option linter.unusedVariables false
set_option linter.unusedSimpArgs false

/-- an update's slot -/
def PrSlot (M : Nat → Prop) (x : Upd) (u : Value) (w : World) : Prop := ∃ p : Pr, u = .agg #[.int .i64 p.id, .slice p.oA p.on p.oc, .slice p.nA p.nn p.nc] ∧ p.upd = x ∧ p.ok ∧ Ro w M (VlsIn p.oA p.on p.old) ∧ Ro w M (VlsIn p.nA p.nn p.new)
/-- a list's of updates -/
def PrsSlot (M : Nat → Prop) (l : List Upd) (u : Value) (w : World) : Prop := ∃ (A : Option Addr) (n c : Nat) (ps : List Pr), u = .slice A n c ∧ n ≤ c ∧ c ≤ 9223372036854775807 ∧ ps.map Pr.upd = l ∧ (∀ p ∈ ps, p.ok) ∧ Ro w M (PrsIn A n ps)
/-- a list's of rows without numbers -/
def SlsSlot (M : Nat → Prop) (l : List (List Vl)) (u : Value) (w : World) : Prop := ∃ (A : Option Addr) (n c : Nat) (ps : List Sl), u = .slice A n c ∧ n ≤ c ∧ c ≤ 9223372036854775807 ∧ ps.map Sl.vs = l ∧ (∀ p ∈ ps, p.ok) ∧ Ro w M (SlsIn A n ps)
/-- a list's of numbers -/
def IsSlot (M : Nat → Prop) (l : List Int) (u : Value) (w : World) : Prop := ∃ (A : Option Addr) (n c : Nat), u = .slice A n c ∧ n ≤ c ∧ c ≤ 9223372036854775807 ∧ Ro w M (IsIn A n l)
/-- a change's -/
def ChgSlot (M : Nat → Prop) (ins : List (List Vl)) (dels : List Int) (us : List Upd) (u : Value) (w : World) : Prop := ∃ a b c : Value, u = .agg #[a, b, c] ∧ SlsSlot M ins a w ∧ IsSlot M dels b w ∧ PrsSlot M us c w
/-- what Apply answers -/
def ApSlot (M : Nat → Prop) (r : Int × Tb) (u : Value) (w : World) : Prop := ∃ v, u = .tuple #[v, .int .i64 r.1] ∧ TbAt w M v r.2
/-- a new block's, to be written -/
def NewSlot (M : Nat → Prop) (H : Nat) (t : TypeId) (cs : Array Value) (u : Value) (w : World) : Prop := ∃ g : Nat, u = .pointer (some ⟨g, 0, none⟩) ∧ H ≤ g ∧ Ro w M (fun w => w.heap[g]? = some (.cells cs t (0, 0)))
theorem newSlot_mono {M : Nat → Prop} {H : Nat} {t : TypeId} {cs : Array Value} (u : Value) (w w' : World) (hr : RM M w w') (h : NewSlot M H t cs u w) : NewSlot M H t cs u w' := by
  obtain ⟨g, h1, h2, h3⟩ := h
  exact ⟨g, h1, h2, hr.ro h3⟩
/-- A block that came since w1, known whole. -/
theorem Hold.addFreshBlk {M : Nat → Prop} {row : Option Nat} {w0 w1 w : World} {L : List Hp} (K1 : Hold M row w0 w1 L) (K : Hold M row w0 w L) (hr : RM (Mut M L) w1 w) {g : Nat} {t : TypeId} {cs : Array Value} (hg : w1.heap.size ≤ g) (hb : w.heap[g]? = some (.cells cs t (0, 0))) :
    Hold M row w0 w (.blk g t cs :: L) := by
  have hgl : g < w.heap.size := Blk.lt (t := t) (cs := cs) hb
  have hno : ∀ k ∈ L, k.foot ≠ some g := fun k hk hf => by have := (K1.fresh k hk g hf).2; omega
  have ee : ∀ b, b < w1.heap.size → Mut M (.blk g t cs :: L) b → Mut M L b := fun b hl hb => by
    rcases mut_cons.1 hb with hf | hm
    · have : some g = some b := hf
      injection this with this
      omega
    · exact hm
  refine ⟨K.grow, K.low, fun k hk => ?_, fun k hk b hf => ?_, ⟨fun b hf k hk he => ?_, K.sep⟩⟩
  · rcases List.mem_cons.1 hk with rfl | hk
    · exact hb
    · have h1 := K1.sat k hk
      have h2 := K.sat k hk
      cases k with
      | blk g' t' cs' => exact h2
      | own e s v n' xs => exact h2
      | tp T =>
        refine ⟨h2.1, fun b hb' => ?_⟩
        have hT : T < w1.heap.size := (K1.fresh _ hk T rfl).2
        rcases mut_cons.1 hb' with hf | hm'
        · have : some g = some b := hf
          injection this with this
          omega
        · exact h2.2 b hm'
      | ro S => exact Ro.step h1 hr.1 hr.2 ee
      | cst g' t' cs' => exact Ro.step h1 hr.1 hr.2 ee
      | ob g' F' => exact h2
  · rcases List.mem_cons.1 hk with rfl | hk
    · have : some g = some b := hf
      injection this with this
      subst this
      exact ⟨.inl (Nat.le_trans K1.grow.size hg), hgl⟩
    · exact K.fresh k hk b hf
  · have : some g = some b := hf
    injection this with this
    subst this
    exact hno k hk he
/-- What is read is apart from a block whose cells do not fit. -/
theorem Ro.apartBlk {w : World} {Q : Nat → Prop} {size n : Nat} {A : Option Addr} {xs : List Value} (h : Ro w Q (SlR size A n xs)) {ga : Nat} {t : TypeId} {cs : Array Value} (hg : w.heap[ga]? = some (.cells cs t (0, 0))) (hx : n = 0 ∨ ∃ u, xs[0]? = some u ∧ u ∉ cs.toList) : Ro w (fun b => b = ga ∨ Q b) (SlR size A n xs) := by
  rcases hx with rfl | ⟨u0, hu0, hnu⟩
  · exact fun w2 _ _ => ⟨(show Rd w w.heap.size size A 0 xs from h.now).1, fun h0 => absurd h0 (by omega)⟩
  · intro w2 h1 h2
    have hgl : ga < w.heap.size := Blk.lt (t := t) (cs := cs) hg
    have hgs : (w2.heap.setIfInBounds ga (.cells cs t (0, 0)))[ga]? = some (.cells cs t (0, 0)) := by
      rw [Array.getElem?_setIfInBounds, if_pos rfl, if_pos (by omega)]
    have hne : ∀ b, b ≠ ga → (w2.heap.setIfInBounds ga (.cells cs t (0, 0)))[b]? = w2.heap[b]? := fun b hb => by
      rw [Array.getElem?_setIfInBounds, if_neg (fun e => hb e.symm)]
    have h3 : Rd { w2 with heap := w2.heap.setIfInBounds ga (.cells cs t (0, 0)) } _ size A n xs := h { w2 with heap := w2.heap.setIfInBounds ga (.cells cs t (0, 0)) } (by simpa using h1) (fun b hb hn => by
      by_cases e : b = ga
      · subst e; exact hgs.trans hg.symm
      · exact (hne b e).trans (h2 b hb (fun hm => hm.elim e hn)))
    refine ⟨h3.1, fun hn => ?_⟩
    obtain ⟨b, o, e, hb, hc⟩ := h3.2 hn
    have hbg : b ≠ ga := by
      rintro rfl
      have h4 := hc 0 u0 hu0
      rw [cell_of_row _ _ _ _ _ _ hgs] at h4
      exact hnu (Array.mem_toList_iff.2 (Array.mem_of_getElem? h4))
    refine ⟨b, o, e, by simpa using hb, fun j u hu => ?_⟩
    rw [← hc j u hu]
    exact (World.cell?_of_block (w := w2) (w' := { w2 with heap := w2.heap.setIfInBounds ga (.cells cs t (0, 0)) }) (a := ⟨b, o + j, none⟩) (hne b hbg)).symm
def zeroTc : Array Value := #[.string ⟨#[]⟩, .slice none 0 0, .int .i64 0, .slice none 0 0]
theorem int_apart {x : Int} (h : x ≠ 0) : Value.int .i64 x ∉ zeroTc.toList := by simp [zeroTc, h]
section
variable {M : Nat → Prop}
theorem prSlot_mono {x : Upd} (u : Value) (w w' : World) (hr : RM M w w') (h : PrSlot M x u w) : PrSlot M x u w' := by
  obtain ⟨p, h1, h2, h3, h4, h5⟩ := h
  exact ⟨p, h1, h2, h3, hr.ro h4, hr.ro h5⟩
theorem prsSlot_mono {l : List Upd} (u : Value) (w w' : World) (hr : RM M w w') (h : PrsSlot M l u w) : PrsSlot M l u w' := by
  obtain ⟨A, n, c, ps, h1, h2, h3, h4, h5, h6⟩ := h
  exact ⟨A, n, c, ps, h1, h2, h3, h4, h5, hr.ro h6⟩
theorem slsSlot_mono {l : List (List Vl)} (u : Value) (w w' : World) (hr : RM M w w') (h : SlsSlot M l u w) : SlsSlot M l u w' := by
  obtain ⟨A, n, c, ps, h1, h2, h3, h4, h5, h6⟩ := h
  exact ⟨A, n, c, ps, h1, h2, h3, h4, h5, hr.ro h6⟩
theorem isSlot_mono {l : List Int} (u : Value) (w w' : World) (hr : RM M w w') (h : IsSlot M l u w) : IsSlot M l u w' := by
  obtain ⟨A, n, c, h1, h2, h3, h6⟩ := h
  exact ⟨A, n, c, h1, h2, h3, hr.ro h6⟩
theorem chgSlot_mono {ins : List (List Vl)} {dels : List Int} {us : List Upd} (u : Value) (w w' : World) (hr : RM M w w') (h : ChgSlot M ins dels us u w) : ChgSlot M ins dels us u w' := by
  obtain ⟨a, b, c, h1, h2, h3, h4⟩ := h
  exact ⟨a, b, c, h1, slsSlot_mono _ _ _ hr h2, isSlot_mono _ _ _ hr h3, prsSlot_mono _ _ _ hr h4⟩
theorem tbAt_mono {t : Tb} {v : Value} {w w' : World} (hr : RM M w w') (h : TbAt w M v t) : TbAt w' M v t := by
  obtain ⟨A, n, c, B, m, d, l, h1, h2, h3, h4, h5, h6, h7, h8, h9⟩ := h
  exact ⟨A, n, c, B, m, d, l, h1, h2, h3, h4, h5, hr.ro h6, hr.ro h7, h8, h9⟩
theorem apSlot_mono {r : Int × Tb} (u : Value) (w w' : World) (hr : RM M w w') (h : ApSlot M r u w) : ApSlot M r u w' := by
  obtain ⟨v, h1, h2⟩ := h
  exact ⟨v, h1, tbAt_mono hr h2⟩
/-- a clone's slot and another make an update's -/
theorem prSlot_of {id : Int} {old new : List Vl} {a b : Value} {w : World} (hid : I64 id) (ho : ∀ v ∈ old, v.ok) (hn : ∀ v ∈ new, v.ok) (h : VlsSlot M old a w) (k : VlsSlot M new b w) : PrSlot M (id, old, new) (.agg #[.int .i64 id, a, b]) w := by
  obtain ⟨A, n, c, rfl, h1, h2, h3, h4⟩ := h
  obtain ⟨B, m, d, rfl, k1, k2, k3, k4⟩ := k
  exact ⟨⟨id, A, n, c, old, B, m, d, new⟩, rfl, rfl, ⟨hid, h2, h3, k2, k3, ho, hn⟩, h4, k4⟩
theorem chgSlot_of {ins : List (List Vl)} {dels : List Int} {us : List Upd} {a b c : Value} {w : World} (h1 : SlsSlot M ins a w) (h2 : IsSlot M dels b w) (h3 : PrsSlot M us c w) : ChgSlot M ins dels us (.agg #[a, b, c]) w := ⟨a, b, c, rfl, h1, h2, h3⟩
theorem prsSlot_one {x : Upd} {a : Value} {w : World} {g : Nat} {t : TypeId} {cs : Array Value} (hg : Ro w M (fun w => w.heap[g]? = some (.cells cs t (0, 0)))) (hc : ∀ i j k, a = .agg #[i, j, k] → cs = #[i, j, k]) (h : PrSlot M x a w) : PrsSlot M [x] (.slice (some ⟨g, 0, none⟩) 1 1) w := by
  obtain ⟨p, rfl, rfl, h3, h4, h5⟩ := h
  obtain rfl := hc _ _ _ rfl
  refine ⟨_, 1, 1, [p], rfl, by omega, by omega, rfl, fun z hz => ?_, ?_⟩
  · simp only [List.mem_cons, List.not_mem_nil, or_false] at hz
    subst hz; assumption
  · exact (show Ro w M (SlR 3 (some ⟨g, 0, none⟩) 1 (prCells [p])) from ro_block hg rfl).and fun w2 h1 h2 r hr => by
      simp only [List.mem_cons, List.not_mem_nil, or_false] at hr
      subst hr
      exact ⟨h4 w2 h1 h2, h5 w2 h1 h2⟩
end
end Go.Proofs.YtljmclbedpceoaaGreatDoor

namespace Go.Proofs.YtljmclbedpceoaaGreatDoor
open Go.RowKit
set_option linter.unusedVariables false
theorem Ro.vlsAt {w : World} {M : Nat → Prop} {A : Option Addr} {n : Nat} {l : List Vl} (h : Ro w M (VlsIn A n l)) {k : Nat} {x : Vl} (hx : l[k]? = some x) :
    ∃ b o, A = some ⟨b, o, none⟩ ∧ Ro w M (fun w => b < w.heap.size ∧ w.cell? ⟨b, o + k * 3, none⟩ = some (.int .i64 x.k) ∧ w.cell? ⟨b, o + k * 3 + 1, none⟩ = some (.int .i64 x.i) ∧ w.cell? ⟨b, o + k * 3 + 2, none⟩ = some (.string x.s)) := by
  obtain ⟨b, o, e, _⟩ := h.now.at_ hx
  refine ⟨b, o, e, fun w2 h1 h2 => ?_⟩
  obtain ⟨b', o', e', h3, h4, h5, h6⟩ := (h w2 h1 h2).at_ hx
  rw [e] at e'
  injection e' with e'
  injection e' with e1 e2
  subst e1; subst e2
  exact ⟨h3, h4, h5, h6⟩
/-- the items under one name -/
theorem Hold.name {M : Nat → Prop} {row : Option Nat} {w0 w : World} {L : List Hp} (h : Hold M row w0 w L) : ∃ KL, KL = L ∧ Hold M row w0 w KL := ⟨L, rfl, h⟩
end Go.Proofs.YtljmclbedpceoaaGreatDoor

namespace Go.Proofs.YtljmclbedpceoaaGreatDoor
open Go.RowKit
set_option linter.unusedVariables false
set_option linter.unusedSimpArgs false

theorem cont_hit {xs : List Int} {k : Nat} {x y : Int} (hx : xs[k]? = some y) (h : x = y) : xs.contains x = true := by
  subst h; simpa using List.mem_of_getElem? hx
theorem cont_step {xs : List Int} {k : Nat} {x y : Int} (hx : xs[k]? = some y) (h : x ≠ y) (hk : (xs.take k).contains x = false) : (xs.take (k + 1)).contains x = false := by
  rw [List.take_add_one, hx]
  simp at hk ⊢
  exact ⟨hk, h⟩
end Go.Proofs.YtljmclbedpceoaaGreatDoor

namespace Go.Proofs.YtljmclbedpceoaaGreatDoor
open Go.RowKit
set_option linter.unusedVariables false
set_option linter.unusedSimpArgs false

/-- the number ahead of place k -/
def PrevOk (ids : List Int) (k : Nat) (last : Option Int) : Prop := (k = 0 → last = none) ∧ ∀ p, k = p + 1 → ∃ z, ids[p]? = some z ∧ last = some z
end Go.Proofs.YtljmclbedpceoaaGreatDoor

namespace Go.Proofs.YtljmclbedpceoaaGreatDoor
open Go.RowKit
set_option linter.unusedVariables false
set_option linter.unusedSimpArgs false

/-- the updates say what the rows were, and are as wide -/
def updK (rs : List Row) (W : Nat) (us : List Upd) : Bool := us.all fun u => decide (getR rs u.1 = some u.2.1) && decide (u.2.2.length = W)
/-- which changes are valid -/
def chgB (nm : ByteArray) (cs : List Col) (nx : Int) (rs : List Row) (ins : List (List Vl)) (dels : List Int) (us : List Upd) : Bool :=
  tabB nm cs nx rs && rowsK rs [] none dels && updK rs cs.length us && rowsK rs dels none (us.map (·.1)) && !(ins.any fun s => decide (s.length ≠ cs.length))
theorem okR_fits {cs : List Col} {nx : Int} : ∀ {lst : Int} {rs : List Row}, okR cs nx lst rs = true → ∀ r ∈ rs, fitsT cs r.2 = 0
  | _, [], _, r, hr => nomatch hr
  | lst, x :: rs, h, r, hr => by
    rw [okR] at h
    simp only [Bool.and_eq_true, decide_eq_true_eq] at h
    rcases List.mem_cons.1 hr with rfl | hr
    · exact h.1.2
    · exact okR_fits h.2 r hr
theorem fitsT_len {cs : List Col} {vs : List Vl} (h : fitsT cs vs = 0) : vs.length = cs.length := by
  unfold fitsT at h
  split at h
  · assumption
  · omega
theorem tabB_cols {nm : ByteArray} {cs : List Col} {nx : Int} {rs : List Row} (h : tabB nm cs nx rs = true) : cs.length ≤ 6 := by
  unfold tabB at h
  simp only [Bool.and_eq_true] at h
  have h1 := h.1.1.1.1.1
  unfold schemaB at h1
  simp only [Bool.and_eq_true, decide_eq_true_eq] at h1
  exact h1.1.1.2
theorem tabB_row {nm : ByteArray} {cs : List Col} {nx : Int} {rs : List Row} (h : tabB nm cs nx rs = true) {r : Row} (hr : r ∈ rs) : r.2.length = cs.length := by
  unfold tabB at h
  simp only [Bool.and_eq_true] at h
  exact fitsT_len (okR_fits h.1.2 r hr)
theorem tabB_rows {nm : ByteArray} {cs : List Col} {nx : Int} {rs : List Row} (h : tabB nm cs nx rs = true) : rs.length ≤ 100 ∧ 1 ≤ nx ∧ nx ≤ 2147483648 := by
  unfold tabB at h
  simp only [Bool.and_eq_true, decide_eq_true_eq] at h
  exact ⟨h.1.1.1.1.2, h.1.1.1.2, h.1.1.2⟩
/-- rows of a valid table are short, in memory too -/
theorem rw_short {w : World} {B : Option Addr} {m : Nat} {l : List Rw} {nm : ByteArray} {cs : List Col} {nx : Int} (hE : RwsIn B m l w) (h : tabB nm cs nx (l.map Rw.row) = true) : ∀ r ∈ l, r.n ≤ 6 := fun r hr => by
  have h1 := tabB_row h (List.mem_map_of_mem (f := Rw.row) hr)
  have h2 := tabB_cols h
  have h3 := (hE.2 r hr).len
  have : r.vs.length = cs.length := h1
  omega
theorem Tryz.elIntK : ElemT Tryz.prog 29 3 1 8 (.int .i64 0) := ⟨Tryz.underlying29, by kernel_rfl, rfl, by omega⟩
end Go.Proofs.YtljmclbedpceoaaGreatDoor

namespace Go.Proofs.YtljmclbedpceoaaGreatDoor
open Go.RowKit
set_option linter.unusedVariables false
set_option linter.unusedSimpArgs false

/-- A table drawn: a valid one of the schema. -/
def DrawnTab (w : World) (T : Nat) (M : Nat → Prop) (nm : ByteArray) (cs : List Col) (N : Nat) (e : Ending) (w' : World) : Prop :=
  ∃ (v : Value) (nx : Int) (rs : List Row), e = .returned v ∧ TbAt w' M v ⟨nm, cs, nx, rs⟩ ∧ tabB nm cs nx rs = true ∧ rs.length ≤ N ∧ Tp w' T ∧ w.grownBy w' (some T)
theorem mut_tp {M : Nat → Prop} {L : List Hp} {T i : Nat} (hi : L[i]? = some (.tp T)) : ∀ b, Mut (Mut M L) [.tp T] b → Mut M L b := fun b hb => by
  rcases hb with hb | ⟨k, hk, hf⟩
  · exact hb
  · simp only [List.mem_singleton] at hk
    subst hk
    exact .inr ⟨_, List.mem_of_getElem? hi, hf⟩
theorem findFrom_none {α : Type} {p : α → Bool} : ∀ (l : List α) (k : Nat), (∀ (i : Nat) (x : α), l[i]? = some x → p x = false) → findFrom p k l = -1
  | [], _, _ => rfl
  | x :: l, k, h => by
    rw [findFrom, if_neg (by rw [h 0 x rfl]; simp)]
    exact findFrom_none l (k + 1) fun i y hy => h (i + 1) y (by simpa using hy)
/-- what the first loop knows of the key -/
def KeyUp (cs : List Col) (k : Nat) (q : Int) : Prop := (q = -1 ∧ ∀ i x, i < k → cs[i]? = some x → x.key = false) ∨ (0 ≤ q ∧ q = findB Col.key cs)
theorem keyUp_end {cs : List Col} {q : Int} (h : KeyUp cs cs.length q) : q = findB Col.key cs := by
  rcases h with ⟨rfl, h⟩ | ⟨_, h⟩
  · exact (findFrom_none cs 0 fun i x hx => h i x (List.getElem?_eq_some_iff.1 hx).1 hx).symm
  · exact h
theorem keyUp_no {cs : List Col} {k : Nat} {q : Int} {x : Col} (h : KeyUp cs k q) (hx : cs[k]? = some x) (hk : x.key = false) : KeyUp cs (k + 1) q := by
  rcases h with ⟨rfl, h⟩ | h
  · refine .inl ⟨rfl, fun i y hi hy => ?_⟩
    rcases Nat.lt_or_ge i k with h' | h'
    · exact h i y h' hy
    · obtain rfl : i = k := by omega
      rw [hx] at hy
      injection hy with hy
      rw [← hy]; exact hk
  · exact .inr h
theorem keyUp_yes {cs : List Col} {k : Nat} {x : Col} (ho : KeyOne cs) (hx : cs[k]? = some x) (hk : x.key = true) : KeyUp cs (k + 1) (k : Int) := .inr ⟨by omega, (ho k x hx hk).symm⟩
/-- what is known of the rows -/
structure RowsOk (cs : List Col) (nx : Int) (rs : List Rw) : Prop where
  ok : okR cs nx 0 (rs.map Rw.row) = true
  dup : dupB cs (rs.map Rw.row) = false
  rok : ∀ r ∈ rs, r.ok
/-- is the new row's key new so far? -/
def Fresh (q : Int) (rs : List Rw) (vr : List Vl) (fr : Bool) : Prop := fr = true → q < 0 ∨ ∀ x ∈ rs, x.vs[q.toNat]? ≠ vr[q.toNat]?
theorem fresh_neg {q : Int} {rs : List Rw} {vr : List Vl} {fr : Bool} (h : q < 0) : Fresh q rs vr fr := fun _ => .inl h
theorem fresh_false {q : Int} {rs : List Rw} {vr : List Vl} : Fresh q rs vr false := fun h => nomatch h
theorem fresh_step {q : Nat} {rs : List Rw} {vr : List Vl} {j : Nat} {x : Rw} {vx vy : Vl} {fr : Bool} (hx : rs[j]? = some x) (h1 : x.vs[q]? = some vx) (h2 : vr[q]? = some vy) (h : Fresh q (rs.take j) vr true) (hf : fr = decide (vx ≠ vy)) : Fresh q (rs.take (j + 1)) vr fr := by
  intro hfr
  rw [hfr] at hf
  have hne : vx ≠ vy := of_decide_eq_true hf.symm
  refine .inr fun y hy => ?_
  rw [List.take_add_one, hx] at hy
  rcases List.mem_append.1 hy with hy | hy
  · exact (h rfl).resolve_left (by omega) y hy
  · simp at hy
    subst hy
    simp only [Int.toNat_natCast]
    rw [h1, h2]
    intro e
    injection e with e
    exact hne e
theorem rows_new {cs : List Col} {nx nx' : Int} {rs : List Rw} {x : Rw} (h : RowsOk cs nx rs) (hid : x.id = nx) (h1 : 0 < nx) (h2 : nx < nx') (hf : fitsT cs x.vs = 0) (hok : x.ok) (hfr : findB Col.key cs < 0 ∨ ∀ y ∈ rs, y.vs[(findB Col.key cs).toNat]? ≠ x.vs[(findB Col.key cs).toNat]?) : RowsOk cs nx' (rs ++ [x]) := by
  refine ⟨?_, ?_, fun y hy => ?_⟩
  · rw [List.map_append]
    show okR cs nx' 0 (rs.map Rw.row ++ [(x.id, x.vs)]) = true
    rw [hid]
    exact okR_snoc hf h2 h1 h.ok
  · rw [List.map_append]
    refine dupB_snoc (id := x.id) (vs := x.vs) h.dup (hfr.imp (fun h => h) fun h y hy => ?_)
    obtain ⟨z, hz, rfl⟩ := List.mem_map.1 hy
    exact .inr (h z hz)
  · rcases List.mem_append.1 hy with hy | hy
    · exact h.rok y hy
    · simp at hy; subst hy; exact hok
theorem rows_up {cs : List Col} {nx nx' : Int} {rs : List Rw} (h : RowsOk cs nx rs) (h2 : nx ≤ nx') : RowsOk cs nx' rs := ⟨okR_mono h2 h.ok, h.dup, h.rok⟩
set_option maxHeartbeats 4000000 in
set_option maxRecDepth 100000 in
theorem tof_any (M : Nat → Prop) (T : Nat) (w : World) (hM : ∀ b, M b → b < w.heap.size) (ht : Tp w T) (hMT : ∀ b, M b → T ≤ b) (nm : ByteArray) (A : Option Addr) (n c : Nat) (cs : List Col) (N : Nat) (hD : Ro w (Mut M [.tp T]) (ColsIn A n cs)) (hW : Ro w (Mut M [.tp T]) Wds) (hT : 1 < T)
    (hn : n ≤ 1000) (hnc : n ≤ c) (hc : c ≤ 9223372036854775807) (hok : ∀ x ∈ cs, ColOk x) (hsch : schemaB nm cs = true) (hkey : KeyOne cs) (hN : N ≤ 50) : Calls Tryz.prog 9 #[.pointer (some ⟨T, 0, none⟩), .agg #[.string nm, .slice A n c], .int .i64 N] w fun e w' => DrawnTab w T M nm cs N e w' := by
  have HL := hid (cols_n hD.now)
  have HOKC := hid hok
  have HKEY := hid hkey
  have HSCH := hid hsch
  clear hok hkey hsch
  have K0 := ((((Hold.startT M w T hM ht hMT).add hD).add (hW.less (mut_none rfl))).alloc_cst #[.string nm, .slice A n c] 28).alloc #[.string ⟨#[]⟩, .slice none 0 0, .int .i64 0, .slice none 0 0] 34
  rw [World.size_alloc] at K0
  clear hD hW
  go_enter Tryz.func9, Tryz.ntmps9
  go_wp2_with fail
  obtain ⟨gs, hgs⟩ : ∃ gs, gs = w.heap.size := ⟨_, rfl⟩
  obtain ⟨g6, hg6⟩ : ∃ g6, g6 = gs + 1 := ⟨_, rfl⟩
  rw [← hgs, ← hg6] at K0 ⊢
  generalize (w.alloc _).alloc _ = w1 at K0 ⊢
  have HGS := hid hgs
  have HG6 := hid hg6
  clear hgs hg6
  obtain ⟨H, hH⟩ : ∃ H, H = w1.drew.heap.size := ⟨_, rfl⟩
  have HH := hid hH
  clear hH
  refine wp_region_any (by kernel_rfl) ?_
  refine wpAny_hold 6 90 ([.blk g6 34 #[.string ⟨#[]⟩, .slice none 0 0, .int .i64 0, .slice none 0 0], .cst gs 28 #[.string nm, .slice A n c], .ro Wds, .ro (ColsIn A n cs), .tp T]) (spL [(18, fun u _ => NatB 3 u), (7, NewSlot (Mut M ([.blk g6 34 #[.string ⟨#[]⟩, .slice none 0 0, .int .i64 0, .slice none 0 0], .cst gs 28 #[.string nm, .slice A n c], .ro Wds, .ro (ColsIn A n cs), .tp T])) H 34 #[.string ⟨#[]⟩, .slice none 0 0, .int .i64 0, .slice none 0 0])]) (by kernel_rfl) (by kernel_rfl) (by kernel_rfl) rfl ?_ (K0.drew) ?_
  · exact stays_cons (fun _ _ _ _ h => h) (stays_cons newSlot_mono (stays_nil _))
  simp only [List.take_succ_cons, List.take_zero, List.drop_succ_cons, List.drop_zero, Act.put, List.getElem_toArray, List.getElem_cons_zero, List.getElem_cons_succ, List.setIfInBounds_toArray, List.set_cons_succ, List.set_cons_zero]
  refine dw_val rfl rfl rfl ?_; apply Exists.intro; refine ⟨fun wv HC => ?_, ?_⟩
  · have FC := HC.facts; simp only [factsL, cellsF, Nat.reduceAdd, List.toList_toArray, and_true, true_and] at FC; go_simp <;> rfl
  simp only [Act.put, List.setIfInBounds_toArray, List.set_cons_succ, List.set_cons_zero]
  refine dw_val rfl rfl rfl ?_; apply Exists.intro; refine ⟨fun wv HC => ?_, ?_⟩
  ·  go_simp <;> rfl
  simp only [Act.put, List.setIfInBounds_toArray, List.set_cons_succ, List.set_cons_zero]
  refine dw_next 3 4 rfl 18 rfl rfl rfl rfl (fun wv => ?_) ?_
  · go_simp <;> rfl
  rintro r hr
  simp only [Act.put, List.setIfInBounds_toArray, List.set_cons_succ, List.set_cons_zero]
  have s1 : IntKind.i64.wrap (1 + (r : Int)) = 1 + (r : Int) := by rw [IntKind.wrap_i64]; omega
  refine dw_val rfl rfl rfl ?_; apply Exists.intro; refine ⟨fun wv HC => ?_, ?_⟩
  ·  go_simp <;> rfl
  simp only [Act.put, List.setIfInBounds_toArray, List.set_cons_succ, List.set_cons_zero]
  refine dw_val rfl rfl rfl ?_; apply Exists.intro; refine ⟨fun wv HC => ?_, ?_⟩
  ·  go_simp <;> rfl
  simp only [Act.put, List.setIfInBounds_toArray, List.set_cons_succ, List.set_cons_zero]
  refine dw_new #[.string ⟨#[]⟩, .slice none 0 0, .int .i64 0, .slice none 0 0] 34 7 (NewSlot (Mut M ([.blk g6 34 #[.string ⟨#[]⟩, .slice none 0 0, .int .i64 0, .slice none 0 0], .cst gs 28 #[.string nm, .slice A n c], .ro Wds, .ro (ColsIn A n cs), .tp T])) H 34 #[.string ⟨#[]⟩, .slice none 0 0, .int .i64 0, .slice none 0 0]) (fun g => .pointer (some ⟨g, 0, none⟩)) rfl rfl rfl rfl (fun wv => ?_) (fun wv HC hrm hD hro => ?_) ?_
  · go_simp <;> rfl
  · exact ⟨_, rfl, by have := hrm.1; rw [HH.out]; exact this, hro _ HC.mutLt⟩
  rintro g7 wg HCg hsl
  simp only [Act.put, List.setIfInBounds_toArray, List.set_cons_succ, List.set_cons_zero]
  clear hsl HCg s1
  refine rel_nil ?_
  rintro wx1 HX
  rintro _hrm HGW
  have hns : NewSlot (Mut M ([.blk g6 34 #[.string ⟨#[]⟩, .slice none 0 0, .int .i64 0, .slice none 0 0], .cst gs 28 #[.string nm, .slice A n c], .ro Wds, .ro (ColsIn A n cs), .tp T])) H 34 #[.string ⟨#[]⟩, .slice none 0 0, .int .i64 0, .slice none 0 0] (.pointer (some ⟨g7, 0, none⟩)) wx1 := (GW_on (d := 7) rfl).1 (HGW 5 _ rfl (by omega))
  clear HGW
  obtain ⟨gq, hgq, hgH, hgB⟩ := hns
  obtain rfl : g7 = gq := by injection hgq with hgq; injection hgq with hgq; injection hgq
  clear hgq
  rw [HH.out] at hgH
  have HB := Hold.addFreshBlk K0.drew HX _hrm hgH hgB.now
  clear hgB hgH HX _hrm K0 HH
  have FB := HB.facts
  simp only [factsL, cellsF, Nat.reduceAdd, List.toList_toArray, and_true, true_and] at FB
  have K1 := (((HB.store 0 rfl 0 (.string nm)).store 0 rfl 1 (.slice A n c)).store 0 rfl 2 (.int .i64 (1 + (r : Int)))).store 0 rfl 3 (.slice none 0 0)
  have F1 := K1.facts
  simp only [World.size_alloc, World.size_drew, factsL, cellsF, Nat.reduceAdd, List.toList_toArray, List.set_cons_zero, List.set_cons_succ, List.setIfInBounds_toArray, and_true, true_and] at F1
  simp only [List.set_cons_zero, List.set_cons_succ, List.setIfInBounds_toArray] at K1
  clear HB
  go_wp2_with fail
  generalize (((wx1.setCell _ _).setCell _ _).setCell _ _).setCell _ _ = w2 at K1 ⊢
  clear F1 FB
  go_loopw [8, 24] (fun qv iv wr => ∃ (k : Nat) (q : Int), k ≤ n ∧ iv = .int .i64 k ∧ qv = .int .i64 q ∧ Hid (KeyUp cs k q) ∧ Hold M (some T) w wr ([.blk g7 34 #[.string nm, .slice A n c, .int .i64 (1 + (r : Int)), .slice none 0 0], .blk g6 34 #[.string ⟨#[]⟩, .slice none 0 0, .int .i64 0, .slice none 0 0], .cst gs 28 #[.string nm, .slice A n c], .ro Wds, .ro (ColsIn A n cs), .tp T])) (fun _ iv _ => n - (intOf iv).toNat)
  case atStart => exact ⟨0, -1, by omega, rfl, rfl, hid (.inl ⟨rfl, fun i x hi => absurd hi (by omega)⟩), K1⟩
  case round =>
    clear K1
    obtain ⟨k, q, hk, rfl, rfl, HQ, H⟩ := hrel
    by_cases hlt : k < n
    · have hd : decide ((k : Int) < (n : Int)) = true := by simp; omega
      have k0 : (0 : Int) ≤ (k : Int) := by omega
      have k1 : (k : Int) < (n : Int) := by omega
      obtain ⟨⟨xn, xt, xnn, xk⟩, hx⟩ := get_col HL.out hlt
      obtain ⟨g, o, rfl, hgb, c0, c1, c2, c3⟩ := (RdC.of_sl (H.ro 4 rfl).now).at_ hx
      dsimp only at c0 c1 c2 c3
      have HX := hid hx
      clear hx
      have K2 := H.alloc_cst #[.string xn, .int .i64 xt, .bool xnn, .bool xk] 94
      clear H
      have F2 := K2.facts
      simp only [World.size_alloc, World.size_drew, factsL, cellsF, Nat.reduceAdd, List.toList_toArray, List.set_cons_zero, List.set_cons_succ, List.setIfInBounds_toArray, and_true, true_and] at F2
      cases xk
      · have HN := hid (keyUp_no HQ.out HX.out rfl)
        go_wp2_with fail
        have K3 := K2.drop (List.sublist_cons_self _ _)
        go_roundw
        case rel => exact ⟨k + 1, q, by omega, by go_num, by first | rfl | trivial, HN, K3⟩
        case measure => simp [intOf]; omega
      · have HN := hid (keyUp_yes HKEY.out HX.out rfl)
        go_wp2_with fail
        have K3 := K2.drop (List.sublist_cons_self _ _)
        go_roundw
        case rel => exact ⟨k + 1, k, by omega, by go_num, by first | rfl | trivial, HN, K3⟩
        case measure => simp [intOf]; omega
    · obtain rfl : k = n := by omega
      have hd : decide ((k : Int) < (k : Int)) = false := by simp
      clear hlt
      have HKQ := hid (show q = findB Col.key cs from keyUp_end (by have h := HQ.out; rwa [← HL.out] at h))
      clear HQ
      go_wp2_with fail
      refine (next_any T ((N : Int) + 1) _ (H.tp_ 5 rfl) (by omega) (by omega)).mono ?_
      rintro e w3 ⟨i0, rfl, i00, i01, t3, g3⟩
      obtain ⟨i0, rfl⟩ := Int.eq_ofNat_of_zero_le i00
      have K2 := (((Hold.callT H 5 rfl g3 t3).add (ro_vals_nil _ _)).nil 89 2)
      clear H g3 t3
      have hi0 : i0 ≤ N := by omega
      clear i00 i01
      go_wp2_with fail
      clear hd
      go_loopw [11] (fun iv wr => ∃ (i k2 cap : Nat) (nx : Int) (O : Option Addr) (rs : List Rw), iv = .int .i64 i ∧ i + k2 ≤ N ∧ 1 ≤ nx ∧ nx ≤ 3 + 2 * ((N : Int) - i) ∧ Hid (RowsOk cs nx rs) ∧ Hold M (some T) w wr ([.own 89 2 (.slice O k2 cap) k2 (rwCells rs), .ro (ValsIn rs), .blk g7 34 #[.string nm, .slice A k c, .int .i64 nx, .slice O k2 cap], .blk g6 34 #[.string ⟨#[]⟩, .slice none 0 0, .int .i64 0, .slice none 0 0], .cst gs 28 #[.string nm, .slice A k c], .ro Wds, .ro (ColsIn A k cs), .tp T])) (fun iv _ => (intOf iv).toNat)
      case atStart => exact ⟨i0, 0, 0, 1 + (r : Int), none, [], rfl, by omega, by omega, by omega, hid ⟨rfl, by rcases Int.lt_or_le (findB Col.key cs) 0 with h | h <;> rfl, fun r hr => nomatch hr⟩, K2⟩
      case round =>
        clear K2 hi0
        obtain ⟨i, k2, cap, nx, O, rs, rfl, hik, hnx, hnx2, HR, H⟩ := hrel
        by_cases hlt : 0 < i
        · obtain ⟨i, rfl⟩ : ∃ i', i = i' + 1 := ⟨i - 1, by omega⟩
          have hd : decide (((i + 1 : Nat) : Int) > 0) = true := by rw [decide_eq_true_iff]; omega
          clear hlt
          have F2 := H.facts
          simp only [World.size_alloc, World.size_drew, factsL, cellsF, Nat.reduceAdd, List.toList_toArray, List.set_cons_zero, List.set_cons_succ, List.setIfInBounds_toArray, and_true, true_and] at F2
          go_wp2_with fail
          refine (trow_any (Mut M _) T _ H.mutLt (H.tp_ 7 rfl) (H.get 7 rfl).2 nm A k c cs ((H.ro 6 rfl).less (mut_tp (i := 7) rfl)) ((H.ro 5 rfl).less (mut_tp (i := 7) rfl)) hT hn HOKC.out).mono ?_
          rintro e w4 ⟨Ar, nr, cr, vr, rfl, hnr, hvr, hfr, ho, t4, g4⟩
          have K3a := Hold.addOwn H (Hold.callT H 7 rfl g4 t4) (RM.grown g4 (.inr ⟨_, List.mem_of_getElem? (i := 7) rfl, rfl⟩)) ho
          obtain ⟨hcr1, hcr2, _⟩ := own_caps (K3a.get 0 rfl)
          have K3 := K3a.sealRow 0 rfl
          simp only [List.set_cons_zero] at K3
          have HNR := hid hnr
          have HFR := hid hfr
          have HVR := hid hvr
          clear K3a H ho t4 g4 hnr hfr hvr F2
          have F3 := K3.facts
          simp only [World.size_alloc, World.size_drew, factsL, cellsF, Nat.reduceAdd, List.toList_toArray, List.set_cons_zero, List.set_cons_succ, List.setIfInBounds_toArray, and_true, true_and] at F3
          go_wp2_with fail
          clear F3
          go_loopw [13, 47] (fun fv jv wr => ∃ (j : Nat) (fr : Bool), j ≤ k2 ∧ jv = .int .i64 j ∧ fv = .bool fr ∧ Hid (Fresh q (rs.take j) vr fr) ∧ Hold M (some T) w wr ([.ro (VlsIn Ar nr vr), .own 89 2 (.slice O k2 cap) k2 (rwCells rs), .ro (ValsIn rs), .blk g7 34 #[.string nm, .slice A k c, .int .i64 nx, .slice O k2 cap], .blk g6 34 #[.string ⟨#[]⟩, .slice none 0 0, .int .i64 0, .slice none 0 0], .cst gs 28 #[.string nm, .slice A k c], .ro Wds, .ro (ColsIn A k cs), .tp T])) (fun _ jv _ => k2 - (intOf jv).toNat)
          case atStart => exact ⟨0, true, by omega, rfl, rfl, hid (fun _ => .inr fun x hx => (by simp at hx)), K3⟩
          case round =>
            clear K3 hd
            obtain ⟨j, fr, hj, rfl, rfl, HFS, H⟩ := hrel
            have hRW : RwsIn O k2 rs wr := ⟨Rd.of_own (H.get 1 rfl), (H.ro 2 rfl).now⟩
            have HLR := hid hRW.len
            by_cases hlt : j < k2
            · have hd : decide ((j : Int) < (k2 : Int)) = true := by simp; omega
              have j0 : (0 : Int) ≤ (j : Int) := by omega
              have j1 : (j : Int) < (k2 : Int) := by omega
              obtain ⟨x, hx⟩ := get_of HLR.out hlt
              obtain ⟨b, o, rfl, hb, c0, c1, hxv⟩ := hRW.at_ hx
              have HX := hid hx
              have HXV := hid (show x.vs.length = x.n from hxv.len)
              have HXF := hid (show fitsT cs x.vs = 0 from okR_fits HR.out.ok _ (List.mem_map_of_mem (f := Rw.row) (List.mem_of_getElem? hx)))
              have hxr : Ro wr _ (VlsIn x.A x.n x.vs) := (H.ro 2 rfl).imp fun w2 h2 => h2 x (List.mem_of_getElem? hx)
              clear hx hxv hRW
              have K4 := (H.add hxr).alloc_cst #[.int .i64 x.id, .slice x.A x.n x.c] 89
              obtain ⟨gx, hgx⟩ : ∃ gx, gx = wr.heap.size := ⟨_, rfl⟩
              rw [← hgx] at K4
              clear H hxr
              obtain ⟨xid, xA, xn, xc, xvs⟩ := x
              dsimp only at *
              go_wp2_with fail
              rw [← hgx]
              have HGX := hid hgx
              clear hgx c0 c1
              generalize wr.alloc _ = w5 at K4 ⊢
              obtain ⟨KL, hKL, K5⟩ := K4.name
              clear K4
              cases fr
              · have HKL := hid hKL
                clear hKL
                refine wp_region_any (by kernel_rfl) ?_
                refine wpAny_hold 18 90 (KL) (spL []) (by kernel_rfl) (by kernel_rfl) (by kernel_rfl) rfl ?_ (K5.drew) ?_
                · exact stays_nil _
                simp only [List.take_succ_cons, List.take_zero, List.drop_succ_cons, List.drop_zero, Act.put, List.getElem_toArray, List.getElem_cons_zero, List.getElem_cons_succ, List.setIfInBounds_toArray, List.set_cons_succ, List.set_cons_zero]
                refine dw_val rfl rfl rfl ?_; apply Exists.intro; refine ⟨fun wv HC => ?_, ?_⟩
                ·  go_simp <;> rfl
                simp only [Act.put, List.setIfInBounds_toArray, List.set_cons_succ, List.set_cons_zero]
                refine dw_val rfl rfl rfl ?_; apply Exists.intro; refine ⟨fun wv HC => ?_, ?_⟩
                ·  go_simp <;> rfl
                simp only [Act.put, List.setIfInBounds_toArray, List.set_cons_succ, List.set_cons_zero]
                refine dw_skip rfl rfl rfl ?_
                simp only [Act.put, List.setIfInBounds_toArray, List.set_cons_succ, List.set_cons_zero]
                refine dw_skip rfl rfl rfl ?_
                simp only [Act.put, List.setIfInBounds_toArray, List.set_cons_succ, List.set_cons_zero]
                refine dw_skip rfl rfl rfl ?_
                simp only [Act.put, List.setIfInBounds_toArray, List.set_cons_succ, List.set_cons_zero]
                refine dw_skip rfl rfl rfl ?_
                simp only [Act.put, List.setIfInBounds_toArray, List.set_cons_succ, List.set_cons_zero]
                refine dw_skip rfl rfl rfl ?_
                simp only [Act.put, List.setIfInBounds_toArray, List.set_cons_succ, List.set_cons_zero]
                refine dw_skip rfl rfl rfl ?_
                simp only [Act.put, List.setIfInBounds_toArray, List.set_cons_succ, List.set_cons_zero]
                refine dw_skip rfl rfl rfl ?_
                simp only [Act.put, List.setIfInBounds_toArray, List.set_cons_succ, List.set_cons_zero]
                refine dw_skip rfl rfl rfl ?_
                simp only [Act.put, List.setIfInBounds_toArray, List.set_cons_succ, List.set_cons_zero]
                refine dw_skip rfl rfl rfl ?_
                simp only [Act.put, List.setIfInBounds_toArray, List.set_cons_succ, List.set_cons_zero]
                refine dw_skip rfl rfl rfl ?_
                simp only [Act.put, List.setIfInBounds_toArray, List.set_cons_succ, List.set_cons_zero]
                refine dw_skip rfl rfl rfl ?_
                simp only [Act.put, List.setIfInBounds_toArray, List.set_cons_succ, List.set_cons_zero]
                refine dw_skip rfl rfl rfl ?_
                simp only [Act.put, List.setIfInBounds_toArray, List.set_cons_succ, List.set_cons_zero]
                refine dw_skip rfl rfl rfl ?_
                simp only [Act.put, List.setIfInBounds_toArray, List.set_cons_succ, List.set_cons_zero]
                refine dw_skip rfl rfl rfl ?_
                simp only [Act.put, List.setIfInBounds_toArray, List.set_cons_succ, List.set_cons_zero]
                refine dw_val rfl rfl rfl ?_; apply Exists.intro; refine ⟨fun wv HC => ?_, ?_⟩
                ·  go_simp <;> rfl
                simp only [Act.put, List.setIfInBounds_toArray, List.set_cons_succ, List.set_cons_zero]
                refine dw_val rfl rfl rfl ?_; apply Exists.intro; refine ⟨fun wv HC => ?_, ?_⟩
                ·  go_simp <;> rfl
                simp only [Act.put, List.setIfInBounds_toArray, List.set_cons_succ, List.set_cons_zero]
                refine rel_nil ?_
                rintro wx4 HX4
                rintro _hrm _HG
                rw [HKL.out] at HX4
                clear _hrm _HG
                have HQ := hid ((fresh_false : Fresh q (rs.take (j + 1)) vr false))
                have K6 := HX4.drop (List.Sublist.cons _ (List.sublist_cons_self _ _))
                have F5 := K6.facts
                simp only [World.size_alloc, World.size_drew, factsL, cellsF, Nat.reduceAdd, List.toList_toArray, List.set_cons_zero, List.set_cons_succ, List.setIfInBounds_toArray, and_true, true_and] at F5
                go_wp2_with fail
                go_roundw
                case rel => exact ⟨j + 1, _, by omega, by go_num, by first | rfl | trivial | simp, HQ, K6⟩
                case measure => simp [intOf]; omega
              · by_cases hq : q < 0
                · have hq1 : decide (q < 0) = true := by simpa using hq
                  have HKL := hid hKL
                  have HQN := hid hq
                  clear hKL hq
                  refine wp_region_any (by kernel_rfl) ?_
                  refine wpAny_hold 18 90 (KL) (spL []) (by kernel_rfl) (by kernel_rfl) (by kernel_rfl) rfl ?_ (K5.drew) ?_
                  · exact stays_nil _
                  simp only [List.take_succ_cons, List.take_zero, List.drop_succ_cons, List.drop_zero, Act.put, List.getElem_toArray, List.getElem_cons_zero, List.getElem_cons_succ, List.setIfInBounds_toArray, List.set_cons_succ, List.set_cons_zero]
                  refine dw_val rfl rfl rfl ?_; apply Exists.intro; refine ⟨fun wv HC => ?_, ?_⟩
                  ·  go_simp <;> rfl
                  simp only [Act.put, List.setIfInBounds_toArray, List.set_cons_succ, List.set_cons_zero]
                  refine dw_val rfl rfl rfl ?_; apply Exists.intro; refine ⟨fun wv HC => ?_, ?_⟩
                  ·  go_simp <;> rfl
                  simp only [Act.put, List.setIfInBounds_toArray, List.set_cons_succ, List.set_cons_zero]
                  refine dw_val rfl rfl rfl ?_; apply Exists.intro; refine ⟨fun wv HC => ?_, ?_⟩
                  ·  go_simp <;> rfl
                  simp only [Act.put, List.setIfInBounds_toArray, List.set_cons_succ, List.set_cons_zero]
                  refine dw_val rfl rfl rfl ?_; apply Exists.intro; refine ⟨fun wv HC => ?_, ?_⟩
                  ·  go_simp <;> rfl
                  simp only [Act.put, List.setIfInBounds_toArray, List.set_cons_succ, List.set_cons_zero]
                  refine dw_val rfl rfl rfl ?_; apply Exists.intro; refine ⟨fun wv HC => ?_, ?_⟩
                  ·  go_simp <;> rfl
                  simp only [Act.put, List.setIfInBounds_toArray, List.set_cons_succ, List.set_cons_zero]
                  refine dw_skip rfl rfl rfl ?_
                  simp only [Act.put, List.setIfInBounds_toArray, List.set_cons_succ, List.set_cons_zero]
                  refine dw_skip rfl rfl rfl ?_
                  simp only [Act.put, List.setIfInBounds_toArray, List.set_cons_succ, List.set_cons_zero]
                  refine dw_skip rfl rfl rfl ?_
                  simp only [Act.put, List.setIfInBounds_toArray, List.set_cons_succ, List.set_cons_zero]
                  refine dw_skip rfl rfl rfl ?_
                  simp only [Act.put, List.setIfInBounds_toArray, List.set_cons_succ, List.set_cons_zero]
                  refine dw_skip rfl rfl rfl ?_
                  simp only [Act.put, List.setIfInBounds_toArray, List.set_cons_succ, List.set_cons_zero]
                  refine dw_skip rfl rfl rfl ?_
                  simp only [Act.put, List.setIfInBounds_toArray, List.set_cons_succ, List.set_cons_zero]
                  refine dw_skip rfl rfl rfl ?_
                  simp only [Act.put, List.setIfInBounds_toArray, List.set_cons_succ, List.set_cons_zero]
                  refine dw_skip rfl rfl rfl ?_
                  simp only [Act.put, List.setIfInBounds_toArray, List.set_cons_succ, List.set_cons_zero]
                  refine dw_skip rfl rfl rfl ?_
                  simp only [Act.put, List.setIfInBounds_toArray, List.set_cons_succ, List.set_cons_zero]
                  refine dw_skip rfl rfl rfl ?_
                  simp only [Act.put, List.setIfInBounds_toArray, List.set_cons_succ, List.set_cons_zero]
                  refine dw_val rfl rfl rfl ?_; apply Exists.intro; refine ⟨fun wv HC => ?_, ?_⟩
                  ·  go_simp <;> rfl
                  simp only [Act.put, List.setIfInBounds_toArray, List.set_cons_succ, List.set_cons_zero]
                  refine dw_val rfl rfl rfl ?_; apply Exists.intro; refine ⟨fun wv HC => ?_, ?_⟩
                  ·  go_simp <;> rfl
                  simp only [Act.put, List.setIfInBounds_toArray, List.set_cons_succ, List.set_cons_zero]
                  refine dw_val rfl rfl rfl ?_; apply Exists.intro; refine ⟨fun wv HC => ?_, ?_⟩
                  ·  go_simp <;> rfl
                  simp only [Act.put, List.setIfInBounds_toArray, List.set_cons_succ, List.set_cons_zero]
                  refine rel_nil ?_
                  rintro wx4 HX4
                  rintro _hrm _HG
                  rw [HKL.out] at HX4
                  clear _hrm _HG
                  have HQ := hid ((fresh_neg HQN.out : Fresh q (rs.take (j + 1)) vr true))
                  have K6 := HX4.drop (List.Sublist.cons _ (List.sublist_cons_self _ _))
                  have F5 := K6.facts
                  simp only [World.size_alloc, World.size_drew, factsL, cellsF, Nat.reduceAdd, List.toList_toArray, List.set_cons_zero, List.set_cons_succ, List.setIfInBounds_toArray, and_true, true_and] at F5
                  go_wp2_with fail
                  go_roundw
                  case rel => exact ⟨j + 1, _, by omega, by go_num, by first | rfl | trivial | simp, HQ, K6⟩
                  case measure => simp [intOf]; omega
                · obtain ⟨κ, rfl⟩ := Int.eq_ofNat_of_zero_le (show 0 ≤ q by omega)
                  have hq1 : decide ((κ : Int) < 0) = false := by rw [decide_eq_false_iff_not]; omega
                  clear hq
                  have hκ : κ < cs.length := key_lt HKQ.out
                  have q0 : (0 : Int) ≤ (κ : Int) := by omega
                  have q1 : (κ : Int) < (xn : Int) := by have h := fitsT_len HXF.out; have h2 := HXV.out; omega
                  have q2 : (κ : Int) < (nr : Int) := by have h := fitsAll_len HFR.out; have h2 := HNR.out; omega
                  clear hκ
                  obtain ⟨vx, hvx⟩ := get_of HXV.out (show κ < xn by omega)
                  obtain ⟨vy, hvy⟩ := get_of HNR.out.symm (show κ < nr by omega)
                  have K6 := K5
                  rw [hKL] at K6
                  obtain ⟨bx, ox, rfl, rx⟩ := (K6.ro 1 rfl).vlsAt hvx
                  obtain ⟨by_, oy, rfl, ry⟩ := (K6.ro 2 rfl).vlsAt hvy
                  have K7 := (K6.add rx).add (ry.less (mut_none rfl))
                  clear K6 K5 hKL rx ry
                  obtain ⟨KM, hKM, K5⟩ := K7.name
                  clear K7
                  have HF : Hid (∀ wv, Hold M (some T) w wv KM → (wv.cell? ⟨gx, 1, none⟩ = some (.slice (some ⟨bx, ox, none⟩) xn xc) ∧ gx < wv.heap.size) ∧ (bx < wv.heap.size ∧ wv.cell? ⟨bx, ox + κ * 3, none⟩ = some (.int .i64 vx.k) ∧ wv.cell? ⟨bx, ox + κ * 3 + 1, none⟩ = some (.int .i64 vx.i) ∧ wv.cell? ⟨bx, ox + κ * 3 + 2, none⟩ = some (.string vx.s)) ∧ by_ < wv.heap.size ∧ wv.cell? ⟨by_, oy + κ * 3, none⟩ = some (.int .i64 vy.k) ∧ wv.cell? ⟨by_, oy + κ * 3 + 1, none⟩ = some (.int .i64 vy.i) ∧ wv.cell? ⟨by_, oy + κ * 3 + 2, none⟩ = some (.string vy.s)) := hid fun wv HC => by
                    rw [hKM] at HC
                    have y1 := HC.cst_ 2 rfl
                    exact ⟨⟨cell_of_row _ _ 1 _ _ _ y1, Blk.lt y1⟩, (HC.ro 1 rfl).now, (HC.ro 0 rfl).now⟩
                  have HKL := hid hKM
                  have HVX := hid hvx
                  have HVY := hid hvy
                  clear hKM hvx hvy
                  refine wp_region_any (by kernel_rfl) ?_
                  refine wpAny_hold 18 90 (KM) (spL []) (by kernel_rfl) (by kernel_rfl) (by kernel_rfl) rfl ?_ (K5.drew) ?_
                  · exact stays_nil _
                  simp only [List.take_succ_cons, List.take_zero, List.drop_succ_cons, List.drop_zero, Act.put, List.getElem_toArray, List.getElem_cons_zero, List.getElem_cons_succ, List.setIfInBounds_toArray, List.set_cons_succ, List.set_cons_zero]
                  refine dw_val rfl rfl rfl ?_; apply Exists.intro; refine ⟨fun wv HC => ?_, ?_⟩
                  · obtain ⟨⟨f0, f1⟩, ⟨f2, f3, f4, f5⟩, f6, f7, f8, f9⟩ := HF.out _ HC; go_simp <;> rfl
                  simp only [Act.put, List.setIfInBounds_toArray, List.set_cons_succ, List.set_cons_zero]
                  refine dw_val rfl rfl rfl ?_; apply Exists.intro; refine ⟨fun wv HC => ?_, ?_⟩
                  · obtain ⟨⟨f0, f1⟩, ⟨f2, f3, f4, f5⟩, f6, f7, f8, f9⟩ := HF.out _ HC; go_simp <;> rfl
                  simp only [Act.put, List.setIfInBounds_toArray, List.set_cons_succ, List.set_cons_zero]
                  refine dw_val rfl rfl rfl ?_; apply Exists.intro; refine ⟨fun wv HC => ?_, ?_⟩
                  · obtain ⟨⟨f0, f1⟩, ⟨f2, f3, f4, f5⟩, f6, f7, f8, f9⟩ := HF.out _ HC; go_simp <;> rfl
                  simp only [Act.put, List.setIfInBounds_toArray, List.set_cons_succ, List.set_cons_zero]
                  refine dw_val rfl rfl rfl ?_; apply Exists.intro; refine ⟨fun wv HC => ?_, ?_⟩
                  · obtain ⟨⟨f0, f1⟩, ⟨f2, f3, f4, f5⟩, f6, f7, f8, f9⟩ := HF.out _ HC; go_simp <;> rfl
                  simp only [Act.put, List.setIfInBounds_toArray, List.set_cons_succ, List.set_cons_zero]
                  refine dw_val rfl rfl rfl ?_; apply Exists.intro; refine ⟨fun wv HC => ?_, ?_⟩
                  · obtain ⟨⟨f0, f1⟩, ⟨f2, f3, f4, f5⟩, f6, f7, f8, f9⟩ := HF.out _ HC; go_simp <;> rfl
                  simp only [Act.put, List.setIfInBounds_toArray, List.set_cons_succ, List.set_cons_zero]
                  refine dw_val rfl rfl rfl ?_; apply Exists.intro; refine ⟨fun wv HC => ?_, ?_⟩
                  · obtain ⟨⟨f0, f1⟩, ⟨f2, f3, f4, f5⟩, f6, f7, f8, f9⟩ := HF.out _ HC; go_simp <;> rfl
                  simp only [Act.put, List.setIfInBounds_toArray, List.set_cons_succ, List.set_cons_zero]
                  refine dw_val rfl rfl rfl ?_; apply Exists.intro; refine ⟨fun wv HC => ?_, ?_⟩
                  · obtain ⟨⟨f0, f1⟩, ⟨f2, f3, f4, f5⟩, f6, f7, f8, f9⟩ := HF.out _ HC; go_simp <;> rfl
                  simp only [Act.put, List.setIfInBounds_toArray, List.set_cons_succ, List.set_cons_zero]
                  refine dw_val rfl rfl rfl ?_; apply Exists.intro; refine ⟨fun wv HC => ?_, ?_⟩
                  · obtain ⟨⟨f0, f1⟩, ⟨f2, f3, f4, f5⟩, f6, f7, f8, f9⟩ := HF.out _ HC; go_simp <;> rfl
                  simp only [Act.put, List.setIfInBounds_toArray, List.set_cons_succ, List.set_cons_zero]
                  refine dw_val rfl rfl rfl ?_; apply Exists.intro; refine ⟨fun wv HC => ?_, ?_⟩
                  · obtain ⟨⟨f0, f1⟩, ⟨f2, f3, f4, f5⟩, f6, f7, f8, f9⟩ := HF.out _ HC; go_simp <;> rfl
                  simp only [Act.put, List.setIfInBounds_toArray, List.set_cons_succ, List.set_cons_zero]
                  refine dw_val rfl rfl rfl ?_; apply Exists.intro; refine ⟨fun wv HC => ?_, ?_⟩
                  · obtain ⟨⟨f0, f1⟩, ⟨f2, f3, f4, f5⟩, f6, f7, f8, f9⟩ := HF.out _ HC; go_simp <;> rfl
                  simp only [Act.put, List.setIfInBounds_toArray, List.set_cons_succ, List.set_cons_zero]
                  refine dw_val rfl rfl rfl ?_; apply Exists.intro; refine ⟨fun wv HC => ?_, ?_⟩
                  · obtain ⟨⟨f0, f1⟩, ⟨f2, f3, f4, f5⟩, f6, f7, f8, f9⟩ := HF.out _ HC; go_simp <;> rfl
                  simp only [Act.put, List.setIfInBounds_toArray, List.set_cons_succ, List.set_cons_zero]
                  refine dw_val rfl rfl rfl ?_; apply Exists.intro; refine ⟨fun wv HC => ?_, ?_⟩
                  · obtain ⟨⟨f0, f1⟩, ⟨f2, f3, f4, f5⟩, f6, f7, f8, f9⟩ := HF.out _ HC; go_simp <;> rfl
                  simp only [Act.put, List.setIfInBounds_toArray, List.set_cons_succ, List.set_cons_zero]
                  refine dw_val rfl rfl rfl ?_; apply Exists.intro; refine ⟨fun wv HC => ?_, ?_⟩
                  · obtain ⟨⟨f0, f1⟩, ⟨f2, f3, f4, f5⟩, f6, f7, f8, f9⟩ := HF.out _ HC; go_simp <;> rfl
                  simp only [Act.put, List.setIfInBounds_toArray, List.set_cons_succ, List.set_cons_zero]
                  refine dw_val rfl rfl rfl ?_; apply Exists.intro; refine ⟨fun wv HC => ?_, ?_⟩
                  · obtain ⟨⟨f0, f1⟩, ⟨f2, f3, f4, f5⟩, f6, f7, f8, f9⟩ := HF.out _ HC; go_simp <;> rfl
                  simp only [Act.put, List.setIfInBounds_toArray, List.set_cons_succ, List.set_cons_zero]
                  refine dw_val rfl rfl rfl ⟨.bool (decide (vx ≠ vy)), fun wv HC => ?_, ?_⟩
                  · by_cases h0 : vx.k = vy.k
                    · have e0 : (vx.k == vy.k) = true := by simp [h0]
                      by_cases h1 : vx.i = vy.i
                      · have e1 : (vx.i == vy.i) = true := by simp [h1]
                        by_cases h2 : vx.s = vy.s
                        · have e2 : (vx.s.toList == vy.s.toList) = true := by simp [h2]
                          have e3 : decide (vx ≠ vy) = false := by rw [decide_eq_false_iff_not]; exact fun h => h (vl_ext h0 h1 h2)
                          rw [e3]
                          clear h0 h1 h2
                          go_simp <;> rfl
                        · have e2 : (vx.s.toList == vy.s.toList) = false := by rw [beq_eq_false_iff_ne]; exact fun h => h2 (bytesEq h)
                          have e3 : decide (vx ≠ vy) = true := by rw [decide_eq_true_iff]; rintro rfl; exact h2 rfl
                          rw [e3]
                          clear h0 h1 h2
                          go_simp <;> rfl
                      · have e1 : (vx.i == vy.i) = false := by simpa using h1
                        have e3 : decide (vx ≠ vy) = true := by rw [decide_eq_true_iff]; rintro rfl; exact h1 rfl
                        rw [e3]
                        clear h0 h1
                        go_simp <;> rfl
                    · have e0 : (vx.k == vy.k) = false := by simpa using h0
                      have e3 : decide (vx ≠ vy) = true := by rw [decide_eq_true_iff]; rintro rfl; exact h0 rfl
                      rw [e3]
                      clear h0
                      go_simp <;> rfl
                  simp only [Act.put, List.setIfInBounds_toArray, List.set_cons_succ, List.set_cons_zero]
                  refine dw_val rfl rfl rfl ?_; apply Exists.intro; refine ⟨fun wv HC => ?_, ?_⟩
                  ·  go_simp <;> rfl
                  simp only [Act.put, List.setIfInBounds_toArray, List.set_cons_succ, List.set_cons_zero]
                  refine dw_val rfl rfl rfl ?_; apply Exists.intro; refine ⟨fun wv HC => ?_, ?_⟩
                  ·  go_simp <;> rfl
                  simp only [Act.put, List.setIfInBounds_toArray, List.set_cons_succ, List.set_cons_zero]
                  refine dw_val rfl rfl rfl ?_; apply Exists.intro; refine ⟨fun wv HC => ?_, ?_⟩
                  ·  go_simp <;> rfl
                  simp only [Act.put, List.setIfInBounds_toArray, List.set_cons_succ, List.set_cons_zero]
                  refine rel_nil ?_
                  rintro wx4 HX4
                  rintro _hrm _HG
                  rw [HKL.out] at HX4
                  clear _hrm _HG
                  have HQ := hid ((fresh_step HX.out (by simpa using HVX.out) HVY.out HFS.out rfl : Fresh (κ : Int) (rs.take (j + 1)) vr (decide (vx ≠ vy))))
                  have K6 := HX4.drop (List.Sublist.cons _ (List.Sublist.cons _ (List.Sublist.cons _ (List.sublist_cons_self _ _))))
                  have F5 := K6.facts
                  simp only [World.size_alloc, World.size_drew, factsL, cellsF, Nat.reduceAdd, List.toList_toArray, List.set_cons_zero, List.set_cons_succ, List.setIfInBounds_toArray, and_true, true_and] at F5
                  go_wp2_with fail
                  go_roundw
                  case rel => exact ⟨j + 1, _, by omega, by go_num, by first | rfl | trivial | simp, HQ, K6⟩
                  case measure => simp [intOf]; omega
            · obtain rfl : j = k2 := by omega
              have hd : decide ((j : Int) < (j : Int)) = false := by simp
              clear hlt
              have HFE := hid (show Fresh q rs vr fr by have h := HFS.out; rwa [List.take_of_length_le (by rw [HLR.out]; exact Nat.le_refl _)] at h)
              clear hRW HFS
              have F3 := H.facts
              simp only [World.size_alloc, World.size_drew, factsL, cellsF, Nat.reduceAdd, List.toList_toArray, List.set_cons_zero, List.set_cons_succ, List.setIfInBounds_toArray, and_true, true_and] at F3
              cases fr
              · go_wp2_with fail
                clear F3 hd
                have K4 := H.drop (List.sublist_cons_self _ _)
                clear H
                refine wp_region_any (by kernel_rfl) ?_
                refine wpAny_hold 10 90 ([.own 89 2 (.slice O j cap) j (rwCells rs), .ro (ValsIn rs), .blk g7 34 #[.string nm, .slice A k c, .int .i64 nx, .slice O j cap], .blk g6 34 #[.string ⟨#[]⟩, .slice none 0 0, .int .i64 0, .slice none 0 0], .cst gs 28 #[.string nm, .slice A k c], .ro Wds, .ro (ColsIn A k cs), .tp T]) (spL [(82, fun u _ => NatB 2 u), (84, fun u _ => NatB 2 u)]) (by kernel_rfl) (by kernel_rfl) (by kernel_rfl) rfl ?_ (K4.drew) ?_
                · exact stays_cons (fun _ _ _ _ h => h) (stays_cons (fun _ _ _ _ h => h) (stays_nil _))
                simp only [List.take_succ_cons, List.take_zero, List.drop_succ_cons, List.drop_zero, Act.put, List.getElem_toArray, List.getElem_cons_zero, List.getElem_cons_succ, List.setIfInBounds_toArray, List.set_cons_succ, List.set_cons_zero]
                refine dw_val rfl rfl rfl ?_; apply Exists.intro; refine ⟨fun wv HC => ?_, ?_⟩
                ·  go_simp <;> rfl
                simp only [Act.put, List.setIfInBounds_toArray, List.set_cons_succ, List.set_cons_zero]
                refine dw_val rfl rfl rfl ?_; apply Exists.intro; refine ⟨fun wv HC => ?_, ?_⟩
                · have FC := HC.facts; simp only [factsL, cellsF, Nat.reduceAdd, List.toList_toArray, and_true, true_and] at FC; go_simp <;> rfl
                simp only [Act.put, List.setIfInBounds_toArray, List.set_cons_succ, List.set_cons_zero]
                refine dw_val rfl rfl rfl ?_; apply Exists.intro; refine ⟨fun wv HC => ?_, ?_⟩
                ·  go_simp <;> rfl
                simp only [Act.put, List.setIfInBounds_toArray, List.set_cons_succ, List.set_cons_zero]
                refine dw_next 2 7 rfl 82 rfl rfl rfl rfl (fun wv => ?_) ?_
                · go_simp <;> rfl
                rintro a ha
                simp only [Act.put, List.setIfInBounds_toArray, List.set_cons_succ, List.set_cons_zero]
                refine dw_val rfl rfl rfl ?_; apply Exists.intro; refine ⟨fun wv HC => ?_, ?_⟩
                ·  go_simp <;> rfl
                simp only [Act.put, List.setIfInBounds_toArray, List.set_cons_succ, List.set_cons_zero]
                refine dw_next 2 7 rfl 84 rfl rfl rfl rfl (fun wv => ?_) ?_
                · go_simp <;> rfl
                rintro b hb
                simp only [Act.put, List.setIfInBounds_toArray, List.set_cons_succ, List.set_cons_zero]
                obtain ⟨m, hm, hm1⟩ : ∃ m : Nat, (a : Int) * (b : Int) = (m : Int) ∧ m ≤ 1 := ⟨a * b, by simp, by
                  obtain rfl | rfl : a = 0 ∨ a = 1 := by omega
                  · simp
                  · omega⟩
                have s1 : IntKind.i64.wrap ((a : Int) * (b : Int)) = (m : Int) := by rw [hm, IntKind.wrap_i64]; omega
                have s2 : IntKind.i64.wrap (1 + (m : Int)) = 1 + (m : Int) := by rw [IntKind.wrap_i64]; omega
                have s3 : IntKind.i64.wrap (nx + (1 + (m : Int))) = nx + (1 + (m : Int)) := by rw [IntKind.wrap_i64]; omega
                clear hm
                refine dw_val rfl rfl rfl ?_; apply Exists.intro; refine ⟨fun wv HC => ?_, ?_⟩
                ·  go_simp <;> rfl
                simp only [Act.put, List.setIfInBounds_toArray, List.set_cons_succ, List.set_cons_zero]
                refine dw_val rfl rfl rfl ?_; apply Exists.intro; refine ⟨fun wv HC => ?_, ?_⟩
                ·  go_simp <;> rfl
                simp only [Act.put, List.setIfInBounds_toArray, List.set_cons_succ, List.set_cons_zero]
                refine dw_val rfl rfl rfl ?_; apply Exists.intro; refine ⟨fun wv HC => ?_, ?_⟩
                ·  go_simp <;> rfl
                simp only [Act.put, List.setIfInBounds_toArray, List.set_cons_succ, List.set_cons_zero]
                refine dw_val rfl rfl rfl ?_; apply Exists.intro; refine ⟨fun wv HC => ?_, ?_⟩
                ·  go_simp <;> rfl
                simp only [Act.put, List.setIfInBounds_toArray, List.set_cons_succ, List.set_cons_zero]
                refine rel_nil ?_
                rintro wx5 HX5
                rintro _hrm _HG
                clear _hrm _HG s1 s2 s3
                have F6 := HX5.facts
                simp only [World.size_alloc, World.size_drew, factsL, cellsF, Nat.reduceAdd, List.toList_toArray, List.set_cons_zero, List.set_cons_succ, List.setIfInBounds_toArray, and_true, true_and] at F6
                have K9 := HX5.store 2 rfl 2 (.int .i64 (nx + (1 + (m : Int))))
                simp only [List.set_cons_zero, List.set_cons_succ, List.setIfInBounds_toArray] at K9
                have HRN := hid (rows_up HR.out (show nx ≤ nx + (1 + (m : Int)) by omega))
                go_wp2_with fail
                go_roundw
                case rel => exact ⟨i, j, cap, nx + (1 + (m : Int)), _, _, by first | rfl | go_num, by omega, by omega, by omega, HRN, K9⟩
                case measure => simp [intOf] <;> omega
              · have hx2 : (rwCells rs ++ (#[Value.int .i64 nx, .slice Ar nr cr]).toList) = rwCells (rs ++ [⟨nx, Ar, nr, cr, vr⟩]) := rwCells_snoc1 _ _ _ _ _ _
                have HCE := hid hx2
                clear hx2
                go_wp2_with (at_builtin; go_must (refine wpList_appH H 1 rfl Tryz.elRw #[.int .i64 nx, .slice Ar nr cr] rfl (.tmp 71) (.tmp 76) rfl rfl _ rfl rfl rfl (by intro u hu; simp at hu; rcases hu with rfl | rfl <;> rfl) (by omega) (by omega) ?_); intro g9 cap9 w9 hc9 hm9 KB; rw [HCE.out] at KB; simp only [List.set_cons_zero, List.set_cons_succ] at KB; (have FB := KB.facts); simp only [World.size_alloc, World.size_drew, factsL, cellsF, Nat.reduceAdd, List.toList_toArray, List.set_cons_zero, List.set_cons_succ, List.setIfInBounds_toArray, and_true, true_and] at FB)
                clear F3 hd
                have KC := KB.store 3 rfl 3 (.slice (some ⟨g9, 0, none⟩) (j + 1) cap9)
                have KD := (KC.swapRo 2 rfl (vals_snoc (r := ⟨nx, Ar, nr, cr, vr⟩) (KC.ro 2 rfl) (KC.ro 0 rfl))).drop (List.sublist_cons_self _ _)
                simp only [List.set_cons_zero, List.set_cons_succ, List.setIfInBounds_toArray] at KD
                generalize World.setCell _ _ _ = w10 at KD ⊢
                clear KB KC FB H
                refine wp_region_any (by kernel_rfl) ?_
                refine wpAny_hold 10 90 ([.own 89 2 (.slice (some ⟨g9, 0, none⟩) (j + 1) cap9) (j + 1) (rwCells (rs ++ [⟨nx, Ar, nr, cr, vr⟩])), .ro (ValsIn (rs ++ [⟨nx, Ar, nr, cr, vr⟩])), .blk g7 34 #[.string nm, .slice A k c, .int .i64 nx, .slice (some ⟨g9, 0, none⟩) (j + 1) cap9], .blk g6 34 #[.string ⟨#[]⟩, .slice none 0 0, .int .i64 0, .slice none 0 0], .cst gs 28 #[.string nm, .slice A k c], .ro Wds, .ro (ColsIn A k cs), .tp T]) (spL [(82, fun u _ => NatB 2 u), (84, fun u _ => NatB 2 u)]) (by kernel_rfl) (by kernel_rfl) (by kernel_rfl) rfl ?_ (KD.drew) ?_
                · exact stays_cons (fun _ _ _ _ h => h) (stays_cons (fun _ _ _ _ h => h) (stays_nil _))
                simp only [List.take_succ_cons, List.take_zero, List.drop_succ_cons, List.drop_zero, Act.put, List.getElem_toArray, List.getElem_cons_zero, List.getElem_cons_succ, List.setIfInBounds_toArray, List.set_cons_succ, List.set_cons_zero]
                refine dw_val rfl rfl rfl ?_; apply Exists.intro; refine ⟨fun wv HC => ?_, ?_⟩
                ·  go_simp <;> rfl
                simp only [Act.put, List.setIfInBounds_toArray, List.set_cons_succ, List.set_cons_zero]
                refine dw_val rfl rfl rfl ?_; apply Exists.intro; refine ⟨fun wv HC => ?_, ?_⟩
                · have FC := HC.facts; simp only [factsL, cellsF, Nat.reduceAdd, List.toList_toArray, and_true, true_and] at FC; go_simp <;> rfl
                simp only [Act.put, List.setIfInBounds_toArray, List.set_cons_succ, List.set_cons_zero]
                refine dw_val rfl rfl rfl ?_; apply Exists.intro; refine ⟨fun wv HC => ?_, ?_⟩
                ·  go_simp <;> rfl
                simp only [Act.put, List.setIfInBounds_toArray, List.set_cons_succ, List.set_cons_zero]
                refine dw_next 2 7 rfl 82 rfl rfl rfl rfl (fun wv => ?_) ?_
                · go_simp <;> rfl
                rintro a ha
                simp only [Act.put, List.setIfInBounds_toArray, List.set_cons_succ, List.set_cons_zero]
                refine dw_val rfl rfl rfl ?_; apply Exists.intro; refine ⟨fun wv HC => ?_, ?_⟩
                ·  go_simp <;> rfl
                simp only [Act.put, List.setIfInBounds_toArray, List.set_cons_succ, List.set_cons_zero]
                refine dw_next 2 7 rfl 84 rfl rfl rfl rfl (fun wv => ?_) ?_
                · go_simp <;> rfl
                rintro b hb
                simp only [Act.put, List.setIfInBounds_toArray, List.set_cons_succ, List.set_cons_zero]
                obtain ⟨m, hm, hm1⟩ : ∃ m : Nat, (a : Int) * (b : Int) = (m : Int) ∧ m ≤ 1 := ⟨a * b, by simp, by
                  obtain rfl | rfl : a = 0 ∨ a = 1 := by omega
                  · simp
                  · omega⟩
                have s1 : IntKind.i64.wrap ((a : Int) * (b : Int)) = (m : Int) := by rw [hm, IntKind.wrap_i64]; omega
                have s2 : IntKind.i64.wrap (1 + (m : Int)) = 1 + (m : Int) := by rw [IntKind.wrap_i64]; omega
                have s3 : IntKind.i64.wrap (nx + (1 + (m : Int))) = nx + (1 + (m : Int)) := by rw [IntKind.wrap_i64]; omega
                clear hm
                refine dw_val rfl rfl rfl ?_; apply Exists.intro; refine ⟨fun wv HC => ?_, ?_⟩
                ·  go_simp <;> rfl
                simp only [Act.put, List.setIfInBounds_toArray, List.set_cons_succ, List.set_cons_zero]
                refine dw_val rfl rfl rfl ?_; apply Exists.intro; refine ⟨fun wv HC => ?_, ?_⟩
                ·  go_simp <;> rfl
                simp only [Act.put, List.setIfInBounds_toArray, List.set_cons_succ, List.set_cons_zero]
                refine dw_val rfl rfl rfl ?_; apply Exists.intro; refine ⟨fun wv HC => ?_, ?_⟩
                ·  go_simp <;> rfl
                simp only [Act.put, List.setIfInBounds_toArray, List.set_cons_succ, List.set_cons_zero]
                refine dw_val rfl rfl rfl ?_; apply Exists.intro; refine ⟨fun wv HC => ?_, ?_⟩
                ·  go_simp <;> rfl
                simp only [Act.put, List.setIfInBounds_toArray, List.set_cons_succ, List.set_cons_zero]
                refine rel_nil ?_
                rintro wx5 HX5
                rintro _hrm _HG
                clear _hrm _HG s1 s2 s3
                have F6 := HX5.facts
                simp only [World.size_alloc, World.size_drew, factsL, cellsF, Nat.reduceAdd, List.toList_toArray, List.set_cons_zero, List.set_cons_succ, List.setIfInBounds_toArray, and_true, true_and] at F6
                have K9 := HX5.store 2 rfl 2 (.int .i64 (nx + (1 + (m : Int))))
                simp only [List.set_cons_zero, List.set_cons_succ, List.setIfInBounds_toArray] at K9
                have HRN := hid (rows_new (x := ⟨nx, Ar, nr, cr, vr⟩) HR.out rfl (by omega) (show nx < nx + (1 + (m : Int)) by omega) (fitsT_all HFR.out) ⟨by show I64 nx; unfold I64; omega, hcr1, hcr2, HVR.out⟩ (by have h := HFE.out rfl; rwa [HKQ.out] at h))
                go_wp2_with fail
                go_roundw
                case rel => exact ⟨i, (j + 1), cap9, nx + (1 + (m : Int)), _, _, by first | rfl | go_num, by omega, by omega, by omega, HRN, K9⟩
                case measure => simp [intOf] <;> omega
        · obtain rfl : i = 0 := by omega
          have hd : decide (((0 : Nat) : Int) > 0) = false := by decide
          have F := H.facts
          simp only [World.size_alloc, World.size_drew, factsL, cellsF, Nat.reduceAdd, List.toList_toArray, List.set_cons_zero, List.set_cons_succ, List.setIfInBounds_toArray, and_true, true_and] at F
          obtain ⟨hcq1, hcq2, _⟩ := own_caps (H.get 0 rfl)
          have KS := H.sealRow 0 rfl
          simp only [List.set_cons_zero] at KS
          have KN := (((KS.store 3 rfl 0 (.string nm)).store 3 rfl 1 (.slice A k c)).store 3 rfl 2 (.int .i64 nx)).store 3 rfl 3 (.slice O k2 cap)
          clear KS
          go_wp2_with fail
          exact bodyPost_ret (v := .agg #[.string nm, .slice A k c, .int .i64 nx, .slice O k2 cap]) (by simp [results, Tryz.results9, go_sem, F]) rfl ⟨_, nx, rs.map Rw.row, rfl, ⟨A, k, c, O, k2, cap, rs, rfl, hnc, hc, hcq1, hcq2, KN.roOut 6 rfl, (KN.roOut 0 rfl).and (KN.roOut 1 rfl), HR.out.rok, rfl⟩, tab_ok HSCH.out (by have h := Rd.of_own (H.get 0 rfl); have h2 := h.1; rw [rwCells_len] at h2; simp; omega) (by omega) (by omega) HR.out.ok HR.out.dup, by have h := Rd.of_own (H.get 0 rfl); have h2 := h.1; rw [rwCells_len] at h2; simp; omega, KN.tp_ 7 rfl, KN.grow⟩
end Go.Proofs.YtljmclbedpceoaaGreatDoor

namespace Go.Proofs.YtljmclbedpceoaaGreatDoor
open Go.RowKit
set_option linter.unusedVariables false
set_option linter.unusedSimpArgs false
section
variable {P : Program} {ops : Array Oper} {C : World → Prop} {G : Option Tmp → Value → World → Prop} {R : World → World → Prop} {F : Act → Prop} {o : Oper} {rest : List Oper} {a : Act} {k : Nat} {S0 : Array Bool}
/-- an operation that hands back some value of its class -/
theorem rel_step (hS : S0.getD k false = false) (hw : Region.wanted o (yielded ops a.tmps) = true) (d : Tmp) (hd : o.dst = some d) (hg : ∀ w, C w → Deps ops G o a w → ∃ u w', (execOp a.eval o).run P w = .ok (.value u) w' ∧ G (some d) u w' ∧ C w' ∧ R w w')
    (hn : ∀ u w, C w → G (some d) u w → wpRel P ops C G R S0 F (k + 1) rest (a.put (some d) u)) : wpRel P ops C G R S0 F k (o :: rest) a := by
  unfold wpRel
  rw [hS, if_neg (by simp)]
  refine ⟨by unfold StepOk; simp only [hw, if_true]; intro w hC hD; obtain ⟨u, w', hr, h1, h2, h3⟩ := hg w hC hD; unfold Good; rw [hr, hd]; exact ⟨h1, h2, h3⟩, fun x _ hx => ?_⟩
  obtain ⟨w, hC, h⟩ := hx d hd
  rw [hd]; exact hn x w hC h
end
theorem own_ro {w : World} {M : Nat → Prop} {b0 : Nat} (hM : ∀ b, M b → b < b0) {e : TypeId} {size n c : Nat} {A : Option Addr} {xs : List Value} (h : w.ownsRow b0 e size (.slice A n c) n xs) : Ro w M (SlR size A n xs) :=
  fun w2 h1 h2 => Rd.of_own (own_RM hM ⟨h1, h2⟩ h)
/-- append(nil, xs...): a list of one's own -/
theorem run_cloneNil {P : Program} {t e : TypeId} {size bytes : Nat} {z : Value} (hE : ElemT P t e size bytes z) (ty : TypeId) (w : World) {A : Option Addr} {m c : Nat} {ys : List Value} (hr : SlR size A m ys w) (h1 : ∀ u ∈ ys, u.oneCell' = true) (hq : m < 140737488355328) (hb : m * bytes ≤ 140737488355328) :
    ∃ C' cap' w', (Builtin.append_ #[t, t] ty #[.slice none 0 0, .slice A m c]).run P w = .ok (.slice C' m cap') w' ∧ m ≤ cap' ∧ cap' ≤ 9223372036854775807 ∧ w'.ownsRow w.heap.size e size (.slice C' m cap') m ys ∧ Below w.heap.size w w' := by
  obtain ⟨i0, hi1, hi2, hi3, hi4⟩ := info_parts hE.hi
  have hown := World.ownsRow_nil w w.heap.size e size
  have hz : A = none → m = 0 := fun hA => by
    rcases Nat.eq_zero_or_pos m with h0 | h0
    · exact h0
    · obtain ⟨b, o, h, _⟩ := hr.2 h0
      rw [hA] at h; cases h
  rcases A with _ | ad
  · obtain rfl := hz rfl
    have hn : ys = [] := List.eq_nil_of_length_eq_zero (by simpa using hr.1)
    subst hn
    exact ⟨none, 0, w, run_append_self w _ t _ _ i0 size hE.ht hi1 _ _ _ hown c, by omega, by omega, hown, Below.refl _ _⟩
  · have hcells : ∀ j u, ys[j]? = some u → w.cell? (ad.add j) = some u := by
      intro j u hu
      have hpos : 0 < m := by
        rcases Nat.eq_zero_or_pos m with h0 | h0
        · have hn : ys = [] := List.eq_nil_of_length_eq_zero (by have := hr.1; rw [h0] at this; simpa using this)
          rw [hn] at hu; simp at hu
        · exact h0
      obtain ⟨b, o', hA, _, hc⟩ := hr.2 hpos
      injection hA with hA
      subst hA
      have := hc j u hu
      rwa [Addr.add_lit]
    obtain ⟨v', w', hrun, h2, h3, _, h5⟩ := run_append_own_at (P := P) w w.heap.size t ty e i0 z size bytes hE.ht hi1 hi2 hi3 hi4 hE.hzs hE.hsz _ 0 [] hown ad m c ys hr.1 hcells h1 (by unfold maxLen; omega) (by rw [Nat.zero_add]; exact hb) (Nat.le_refl _)
    rw [Nat.zero_add, List.nil_append] at h2
    obtain ⟨C', cap', rfl⟩ := own_form h2
    have hc := own_caps h2
    exact ⟨C', cap', w', hrun, hc.1, hc.2.1, h2, ⟨h3.os, h3.tape, h3.output, h3.size, fun k hk => h3.block k hk (by simp [Value.ownBlock])⟩⟩
section
variable {P : Program} {M : Nat → Prop} {row : Option Nat} {w0 w1 : World} {L : List Hp} {sp : SpW} {F : Act → Prop} {S0 : Array Bool}
variable {ops : Array Oper} {o : Oper} {rest : List Oper} {a : Act} {k : Nat}
theorem dw_clone {t e : TypeId} {size bytes : Nat} {z : Value} (hE : ElemT P t e size bytes z) (d : Tmp) (V : Value → World → Prop) (hS : S0.getD k false = false) (hw : Region.wanted o (yielded ops a.tmps) = true) (hd : o.dst = some d) (hsp : sp d = some V)
    (s x : Operand) (ho : o.op = .call { callee := .builtin .append, args := #[s, x], argTypes := #[t, t] }) (hs : a.eval s = .slice none 0 0) {A : Option Addr} {m c : Nat} {ys : List Value} (hx : a.eval x = .slice A m c) (h1 : ∀ u ∈ ys, u.oneCell' = true) (hq : m < 140737488355328) (hb : m * bytes ≤ 140737488355328)
    (hr : ∀ w, Hold M row w0 w L → Deps ops (GW sp) o a w → SlR size A m ys w) (hV : ∀ C' cap' w', Hold M row w0 w' L → m ≤ cap' → cap' ≤ 9223372036854775807 → Ro w' (Mut M L) (SlR size C' m ys) → V (.slice C' m cap') w')
    (hn : ∀ u w, Hold M row w0 w L → V u w → wpRel P ops (HC M row w0 w1 L) (GW sp) (RM (Mut M L)) S0 F (k + 1) rest (a.put (some d) u)) : wpRel P ops (HC M row w0 w1 L) (GW sp) (RM (Mut M L)) S0 F k (o :: rest) a := by
  refine rel_step hS hw d hd (fun w hC hD => ?_) fun u w hC hu => hn u w hC.1 ((GW_on hsp).1 hu)
  obtain ⟨C', cap', w', hrun, c1, c2, ho2, hb2⟩ := run_cloneNil hE o.type w (hr w hC.1 hD) (c := c) h1 hq hb
  have hH := hC.1.call hb2
  refine ⟨.slice C' m cap', w', ?_, (GW_on hsp).2 (hV C' cap' w' hH c1 c2 (own_ro hC.1.mutLt ho2)), ⟨hH, hC.2.trans (RM.below hb2)⟩, RM.below hb2⟩
  unfold execOp
  simp only [ho, resolve, invoke, builtin, Sem.run_bind, Sem.run_pure, Result.andThen_ok, List.map_toArray, List.map_cons, List.map_nil, hs, hx, hrun]
end
theorem vlCells_set : ∀ (l : List Vl) (k : Nat) (v : Vl), k < l.length → (((vlCells l).set (k * 3) (.int .i64 v.k)).set (k * 3 + 1) (.int .i64 v.i)).set (k * 3 + 2) (.string v.s) = vlCells (l.set k v)
  | [], k, v, h => by simp at h
  | x :: l, 0, v, h => by simp [vlCells, Vl.cells]
  | x :: l, k + 1, v, h => by
    have ih := vlCells_set l k v (by simpa using h)
    have e : ∀ (ys : List Value) (j : Nat) (u : Value), (x.cells ++ ys).set (j + 3) u = x.cells ++ ys.set j u := fun ys j u => by
      rw [List.set_append_right _ _ (by simp [Vl.cells])]
      simp [Vl.cells]
    have e0 : vlCells (x :: l) = x.cells ++ vlCells l := by simp [vlCells]
    have e1 : vlCells ((x :: l).set (k + 1) v) = x.cells ++ vlCells (l.set k v) := by simp [vlCells]
    rw [e0, e1, show (k + 1) * 3 = k * 3 + 3 by omega, e, show k * 3 + 3 + 1 = (k * 3 + 1) + 3 by omega, e, show k * 3 + 3 + 2 = (k * 3 + 2) + 3 by omega, e, ih]
/-- a value stored into an own row of values -/
theorem Hold.putVl {M : Nat → Prop} {row : Option Nat} {w0 w : World} {L : List Hp} (h : Hold M row w0 w L) (i : Nat) {e : TypeId} {n cap g : Nat} {vs : List Vl} (hi : L[i]? = some (.own e 3 (.slice (some ⟨g, 0, none⟩) n cap) n (vlCells vs))) (k : Nat) (hk : k < vs.length) (v : Vl) :
    Hold M row w0 (((w.setCell ⟨g, k * 3, none⟩ (.int .i64 v.k)).setCell ⟨g, k * 3 + 1, none⟩ (.int .i64 v.i)).setCell ⟨g, k * 3 + 2, none⟩ (.string v.s)) (L.set i (.own e 3 (.slice (some ⟨g, 0, none⟩) n cap) n (vlCells (vs.set k v)))) := by
  have hil := (List.getElem?_eq_some_iff.1 hi).1
  have h1 := h.put_ i hi (k * 3) (.int .i64 v.k)
  have hs : ∀ x : Hp, (L.set i x)[i]? = some x := fun x => by rw [List.getElem?_set, if_pos rfl, if_pos hil]
  have h2 := h1.put_ i (hs _) (k * 3 + 1) (.int .i64 v.i)
  rw [List.set_set] at h2
  have h3 := h2.put_ i (hs _) (k * 3 + 2) (.string v.s)
  rw [List.set_set, vlCells_set vs k v hk] at h3
  exact h3
theorem own_vl {w : World} {base g n cap k : Nat} {e : TypeId} {l : List Vl} {v : Vl} (h : w.ownsRow base e 3 (.slice (some ⟨g, 0, none⟩) n cap) n (vlCells l)) (hv : l[k]? = some v) :
    (w.cell? ⟨g, k * 3, none⟩ = some (.int .i64 v.k) ∧ w.cell? ⟨g, k * 3 + 1, none⟩ = some (.int .i64 v.i) ∧ w.cell? ⟨g, k * 3 + 2, none⟩ = some (.string v.s)) ∧
    (w.frozen? ⟨g, k * 3, none⟩ = false ∧ w.frozen? ⟨g, k * 3 + 1, none⟩ = false ∧ w.frozen? ⟨g, k * 3 + 2, none⟩ = false) ∧ g < w.heap.size := by
  have hk := (List.getElem?_eq_some_iff.1 hv).1
  have hl : l.length = n := by have := h.1; rw [vlCells_len] at this; omega
  have c0 := flat_get Vl.cells 3 (fun _ => rfl) l k 0 v (by omega) hv
  have c1 := flat_get Vl.cells 3 (fun _ => rfl) l k 1 v (by omega) hv
  have c2 := flat_get Vl.cells 3 (fun _ => rfl) l k 2 v (by omega) hv
  exact ⟨⟨(h.cellAt _ (by omega)).trans c0, (h.cellAt _ (by omega)).trans c1, (h.cellAt _ (by omega)).trans c2⟩, ⟨h.frozenAt _, h.frozenAt _, h.frozenAt _⟩, (h.lt g rfl).2⟩
theorem oks_set {l : List Vl} {k : Nat} {v : Vl} (h : ∀ x ∈ l, x.ok) (hv : v.ok) : ∀ x ∈ l.set k v, x.ok := fun x hx => by
  rcases List.mem_or_eq_of_mem_set hx with hx | rfl
  · exact h x hx
  · exact hv
end Go.Proofs.YtljmclbedpceoaaGreatDoor

namespace Go.Proofs.YtljmclbedpceoaaGreatDoor
open Go.RowKit
set_option linter.unusedVariables false
set_option linter.unusedSimpArgs false
section
variable {P : Program} {M : Nat → Prop} {row : Option Nat} {w0 w1 : World} {L : List Hp} {sp : SpW} {F : Act → Prop} {S0 : Array Bool}
variable {ops : Array Oper} {o : Oper} {rest : List Oper} {a : Act} {k : Nat}
end
/-- an own row, as a statement that stays -/
theorem Ro.own {w : World} {M : Nat → Prop} {b0 b1 : Nat} (hM : ∀ b, M b → b < b1) (h01 : b0 ≤ b1) {e : TypeId} {size n : Nat} {v : Value} {xs : List Value} (h : w.ownsRow b1 e size v n xs) : Ro w M (fun w => w.ownsRow b0 e size v n xs) :=
  fun w2 h1 h2 => own_base h01 (own_RM hM ⟨h1, h2⟩ h)
/-- the rows' values are own rows, each at the head of its block -/
def OwnVals (VT : TypeId) (b0 : Nat) (l : List Rw) (w : World) : Prop := ∀ r ∈ l, w.ownsRow b0 VT 3 (.slice r.A r.n r.c) r.n (vlCells r.vs)
/-- said of a world in which the caller's blocks lie below b0 -/
theorem OwnVals.ro {VT : TypeId} {b0 : Nat} {l : List Rw} {w : World} {M : Nat → Prop} (hM : ∀ b, M b → b < b0) (h : OwnVals VT b0 l w) : Ro w M (ValsIn l) := fun w2 h1 h2 r hr => Rd.of_own (own_RM hM ⟨h1, h2⟩ (h r hr))
/-- an own list's slot, whatever the element -/
def OwnSl (e : TypeId) (size b0 : Nat) (xs : List Value) (u : Value) (w : World) : Prop := ∃ (A : Option Addr) (n c : Nat), u = .slice A n c ∧ n * size = xs.length ∧ n ≤ c ∧ c ≤ 9223372036854775807 ∧ w.ownsRow b0 e size (.slice A n c) n xs
theorem ownSl_mono {M : Nat → Prop} {e : TypeId} {size b0 : Nat} {xs : List Value} (hM : ∀ b, M b → b < b0) (u : Value) (w w' : World) (hr : RM M w w') (h : OwnSl e size b0 xs u w) : OwnSl e size b0 xs u w' := by
  obtain ⟨A, n, c, h1, h2, h3, h4, h5⟩ := h
  exact ⟨A, n, c, h1, h2, h3, h4, own_RM hM hr h5⟩
theorem OwnVals.far {VT : TypeId} {b0 g : Nat} {l : List Rw} {w : World} {t : TypeId} {cs : Array Value} (h : OwnVals VT b0 l w) (hg : Blk w g t cs) (hne : t ≠ VT) (j : Nat) (u : Value) : OwnVals VT b0 l (w.setCell ⟨g, j, none⟩ u) := fun r hr => by
  have ho := h r hr
  refine ⟨ho.1, ?_⟩
  rcases ho.2 with hz | ⟨g', cap, cur, hv, hb, hh, rest⟩
  · exact .inl hz
  · have hn : g' ≠ g := by
      rintro rfl
      have hg2 : w.heap[g']? = some (.cells cs t (0, 0)) := hg
      rw [hh] at hg2
      injection hg2 with hg2
      injection hg2 with _ hg2
      exact hne hg2.symm
    exact .inr ⟨g', cap, cur, hv, hb, (Below.heap_setCell _ _ _ g' hn).trans hh, rest⟩
end Go.Proofs.YtljmclbedpceoaaGreatDoor

namespace Go.Proofs.YtljmclbedpceoaaGreatDoor
open Go.RowKit
set_option linter.unusedVariables false
set_option linter.unusedSimpArgs false

/-- Some value, drawn, its numbers Go's. -/
def DrawnO2 (w : World) (T : Nat) (e : Ending) (w' : World) : Prop :=
  ∃ (k i : Int) (s : ByteArray), e = .returned (.agg #[.int .i64 k, .int .i64 i, .string s]) ∧ (s.size ≤ 100 ∧ I64 k ∧ I64 i) ∧ Tp w' T ∧ w.grownBy w' (some T)
/-- The state of Odd's walk: the value's box V, the result's box R. -/
structure OddSt (w : World) (T V R : Nat) (wr : World) (k i : Int) (s : ByteArray) : Prop where
  bv : Blk wr V 86 #[.int .i64 k, .int .i64 i, .string s]
  br : Blk wr R 86 #[.int .i64 0, .int .i64 0, .string ⟨#[]⟩]
  tp : Tp wr T
  gr : w.grownBy wr (some T)
  hi : I64 i
  hs : s.size ≤ 100

theorem OddSt.grown {w : World} {T V R : Nat} {wr w' : World} {k i : Int} {s : ByteArray} (h : OddSt w T V R wr k i s) (hV : T < V) (hR : T < R) (t : Tp w' T) (g : wr.grownBy w' (some T)) : OddSt w T V R w' k i s :=
  ⟨h.bv.grown g (by intro e; injection e with e; omega), h.br.grown g (by intro e; injection e with e; omega), t, only_trans h.gr g, h.hi, h.hs⟩

theorem OddSt.drew {w : World} {T V R : Nat} {wr : World} {k i : Int} {s : ByteArray} (h : OddSt w T V R wr k i s) : OddSt w T V R wr.drew k i s := ⟨h.bv, h.br, h.tp, only_drew h.gr, h.hi, h.hs⟩
theorem DrawnO2.alloc {w w' : World} {T : Nat} {e : Ending} (h : DrawnO2 w T e w') (o : Obj) : DrawnO2 w T e (w'.alloc o) := by
  obtain ⟨k, i, s, h1, h2, h3, h4⟩ := h
  exact ⟨k, i, s, h1, h2, h3.alloc o, only_alloc h4 o⟩
end Go.Proofs.YtljmclbedpceoaaGreatDoor

namespace Go.Proofs.YtljmclbedpceoaaGreatDoor
open Go.RowKit
set_option linter.unusedVariables false
set_option linter.unusedSimpArgs false

end Go.Proofs.YtljmclbedpceoaaGreatDoor

namespace Go.Proofs.YtljmclbedpceoaaGreatDoor
open Go.RowKit
set_option linter.unusedVariables false
set_option linter.unusedSimpArgs false

def OneName (s : ByteArray) : Prop := s = ⟨#[116]⟩ ∨ s = ⟨#[117]⟩ ∨ s = ⟨#[108, 111, 103]⟩
def DrawnName (w : World) (T : Nat) (e : Ending) (w' : World) : Prop := ∃ s : ByteArray, e = .returned (.string s) ∧ OneName s ∧ Tp w' T ∧ w.grownBy w' (some T)
set_option maxHeartbeats 1000000 in
theorem tname_any (M : Nat → Prop) (T : Nat) (w : World) (hM : ∀ b, M b → b < w.heap.size) (ht : Tp w T) (hMT : ∀ b, M b → T ≤ b) : Calls Tryz.prog 11 #[.pointer (some ⟨T, 0, none⟩)] w fun e w' => DrawnName w T e w' := by
  have K0 := (Hold.startT M w T hM ht hMT).alloc_cst #[.string ⟨#[116]⟩, .string ⟨#[117]⟩, .string ⟨#[108, 111, 103]⟩] 9
  go_enter Tryz.func11, Tryz.ntmps11
  go_wp2_with fail
  refine (next_any T 3 _ (K0.tp_ 1 rfl) (by omega) (by omega)).mono ?_
  rintro e w1 ⟨r, rfl, r0, r1, t1, g1⟩
  have K1 := Hold.callT K0 1 rfl g1 t1
  have F1 := K1.facts
  simp only [World.size_alloc, World.size_drew, factsL, cellsF, Nat.reduceAdd, List.toList_toArray, List.set_cons_zero, List.set_cons_succ, List.setIfInBounds_toArray, and_true, true_and] at F1
  clear K0 g1 t1
  obtain ⟨r, rfl⟩ := Int.eq_ofNat_of_zero_le r0
  obtain rfl | rfl | rfl : r = 0 ∨ r = 1 ∨ r = 2 := by omega
  · go_wp2_with fail
    go_ret
    exact ⟨_, rfl, .inl rfl, K1.tp_ 1 rfl, K1.grow⟩
  · go_wp2_with fail
    go_ret
    exact ⟨_, rfl, .inr (.inl rfl), K1.tp_ 1 rfl, K1.grow⟩
  · go_wp2_with fail
    go_ret
    exact ⟨_, rfl, .inr (.inr rfl), K1.tp_ 1 rfl, K1.grow⟩
/-- what is known of a schema of the three -/
structure SchOk (nm : ByteArray) (cs : List Col) : Prop where
  val : schemaB nm cs = true
  col : ∀ x ∈ cs, ColOk x
  key : KeyOne cs
  len : 1 ≤ cs.length ∧ cs.length ≤ 4
  nm : nm.size ≤ maxLen
  cs : ∀ x ∈ cs, x.name.size ≤ maxLen
def keyOneB (cs : List Col) : Bool := (List.range cs.length).all fun i => match cs[i]? with | some c => !c.key || findB Col.key cs == (i : Int) | none => true
theorem keyOne_of {cs : List Col} (h : keyOneB cs = true) : KeyOne cs := fun i c hc hk => by
  have h1 := List.all_eq_true.1 h i (List.mem_range.2 (List.getElem?_eq_some_iff.1 hc).1)
  simp only [hc, hk, Bool.not_true, Bool.false_or, beq_iff_eq] at h1
  exact h1
def colOkB (c : Col) : Bool := c.ty == 1 || c.ty == 2 || c.ty == 3
def schOkB (nm : ByteArray) (cs : List Col) : Bool := schemaB nm cs && cs.all colOkB && keyOneB cs && decide (1 ≤ cs.length) && decide (cs.length ≤ 4) && decide (nm.size ≤ 100) && cs.all fun x => decide (x.name.size ≤ 100)
theorem schOk_of {nm : ByteArray} {cs : List Col} (h : schOkB nm cs = true) : SchOk nm cs := by
  unfold schOkB at h
  simp only [Bool.and_eq_true, decide_eq_true_eq] at h
  obtain ⟨⟨⟨⟨⟨⟨h1, h2⟩, h3⟩, h4⟩, h5⟩, h6⟩, h7⟩ := h
  refine ⟨h1, fun x hx => ?_, keyOne_of h3, ⟨h4, h5⟩, by unfold maxLen; omega, fun x hx => ?_⟩
  · have := List.all_eq_true.1 h2 x hx
    simpa [colOkB, ColOk, or_assoc] using this
  · have := List.all_eq_true.1 h7 x hx
    simp only [decide_eq_true_eq] at this
    unfold maxLen; omega
theorem schOk_t : schOkB (schemaOf ⟨#[116]⟩).1 (schemaOf ⟨#[116]⟩).2 = true := by decide +kernel
theorem schOk_u : schOkB (schemaOf ⟨#[117]⟩).1 (schemaOf ⟨#[117]⟩).2 = true := by decide +kernel
theorem schOk_log : schOkB (schemaOf ⟨#[108, 111, 103]⟩).1 (schemaOf ⟨#[108, 111, 103]⟩).2 = true := by decide +kernel
theorem schOk_name {s : ByteArray} (h : OneName s) : SchOk (schemaOf s).1 (schemaOf s).2 := by
  rcases h with rfl | rfl | rfl
  · exact schOk_of schOk_t
  · exact schOk_of schOk_u
  · exact schOk_of schOk_log
end Go.Proofs.YtljmclbedpceoaaGreatDoor

namespace Go.Proofs.YtljmclbedpceoaaGreatDoor
open Go.RowKit
set_option linter.unusedVariables false
set_option linter.unusedSimpArgs false

/-- the first reason why one of some rows does not fit -/
def firstE (cs : List Col) : List (List Vl) → Int
  | [] => 0
  | v :: r => if fitsT cs v = 0 then firstE cs r else fitsT cs v
def fitsC (cs : List Col) (news ins : List (List Vl)) : Int := if firstE cs news = 0 then firstE cs ins else firstE cs news
theorem firstE_good {cs : List Col} {l : List (List Vl)} {k : Nat} {v : List Vl} (hx : l[k]? = some v) (h : fitsT cs v = 0) : firstE cs (l.drop k) = firstE cs (l.drop (k + 1)) := by rw [drop_cons hx, firstE, if_pos h]
theorem firstE_bad {cs : List Col} {l : List (List Vl)} {k : Nat} {v : List Vl} (hx : l[k]? = some v) (h : fitsT cs v ≠ 0) : firstE cs (l.drop k) = fitsT cs v := by rw [drop_cons hx, firstE, if_neg h]
theorem firstE_end {cs : List Col} {l : List (List Vl)} {k : Nat} (h : l.length ≤ k) : firstE cs (l.drop k) = 0 := by rw [List.drop_of_length_le h]; rfl
end Go.Proofs.YtljmclbedpceoaaGreatDoor

namespace Go.Proofs.YtljmclbedpceoaaGreatDoor
open Go.RowKit
set_option linter.unusedVariables false
set_option linter.unusedSimpArgs false

/-- the rows that stay, with their new values: the updates are taken in order -/
def goR (dels : List Int) : List Row → List Upd → List Row
  | [], _ => []
  | r :: rs, [] => if dels.contains r.1 then goR dels rs [] else r :: goR dels rs []
  | r :: rs, u :: us => if dels.contains r.1 then goR dels rs (u :: us) else if u.1 = r.1 then (r.1, u.2.2) :: goR dels rs us else r :: goR dels rs (u :: us)
/-- the new rows -/
def insR (nx : Int) (ins : List (List Vl)) : List Row := ins.zipIdx.map fun p => (nx + (p.2 : Int), p.1)
def outR (nx : Int) (rs : List Row) (ins : List (List Vl)) (dels : List Int) (us : List Upd) : List Row := goR dels rs us ++ insR nx ins
def zeroT : Tb := ⟨⟨#[]⟩, [], 0, []⟩
/-- what Apply answers -/
def applyC (nm : ByteArray) (cs : List Col) (nx : Int) (rs : List Row) (ins : List (List Vl)) (dels : List Int) (us : List Upd) : Int × Tb :=
  if chgB nm cs nx rs ins dels us = false then (17, zeroT)
  else if fitsC cs (us.map (·.2.2)) ins ≠ 0 then (fitsC cs (us.map (·.2.2)) ins, zeroT)
  else if (rs.length : Int) - dels.length + ins.length > 100 ∨ (ins.length : Int) > 2147483648 - nx then (10, zeroT)
  else if dupB cs (outR nx rs ins dels us) then (9, zeroT)
  else (0, ⟨nm, cs, nx + ins.length, outR nx rs ins dels us⟩)
theorem insR_snoc {nx : Int} {ins : List (List Vl)} {k : Nat} {v : List Vl} (hv : ins[k]? = some v) : insR nx (ins.take (k + 1)) = insR nx (ins.take k) ++ [(nx + (k : Int), v)] := by
  have hk : k < ins.length := (List.getElem?_eq_some_iff.1 hv).1
  unfold insR
  rw [List.take_add_one, hv, Option.toList_some, List.zipIdx_append, List.map_append, List.length_take, Nat.min_eq_left (Nat.le_of_lt hk)]
  simp
theorem firstE_all {cs : List Col} : ∀ {l : List (List Vl)}, firstE cs l = 0 → ∀ v ∈ l, fitsT cs v = 0
  | [], _, v, hv => nomatch hv
  | x :: l, h, v, hv => by
    rw [firstE] at h
    split at h
    · rcases List.mem_cons.1 hv with rfl | hv
      · assumption
      · exact firstE_all h v hv
    · exact absurd h (by assumption)
theorem fitsC_all {cs : List Col} {a b : List (List Vl)} (h : fitsC cs a b = 0) : (∀ v ∈ a, fitsT cs v = 0) ∧ ∀ v ∈ b, fitsT cs v = 0 := by
  unfold fitsC at h
  split at h
  · exact ⟨firstE_all (by assumption), firstE_all h⟩
  · exact absurd h (by assumption)
theorem PrsIn.tail {w : World} {b o k : Nat} {u : Pr} {us : List Pr} (h : PrsIn (some ⟨b, o, none⟩) (k + 1) (u :: us) w) : PrsIn (some ⟨b, o + 3, none⟩) k us w := by
  refine ⟨?_, fun r hr => h.2 r (List.mem_cons_of_mem _ hr)⟩
  have h1 : Rd w w.heap.size 3 (some ⟨b, o, none⟩) (k + 1) (prCells (u :: us)) := h.1
  have hl := h1.1
  refine ⟨by simp [prCells, Pr.cells] at hl ⊢; omega, fun hk => ?_⟩
  obtain ⟨b', o', e, hb, hc⟩ := h1.2 (by omega)
  obtain ⟨rfl, rfl⟩ : b = b' ∧ o = o' := by injection e with e; injection e with a1 a2; exact ⟨a1, a2⟩
  refine ⟨b, o + 3, rfl, hb, fun j v hv => ?_⟩
  have := hc (3 + j) v (by
    show (prCells (u :: us))[3 + j]? = some v
    unfold prCells
    rw [List.flatMap_cons, List.getElem?_append_right (by simp [Pr.cells])]
    simpa [Pr.cells, prCells] using hv)
  rwa [show o + (3 + j) = o + 3 + j by omega] at this
theorem PrsIn.zero {w : World} (A : Option Addr) : PrsIn A 0 [] w := ⟨⟨by simp [prCells], fun h => absurd h (by omega)⟩, fun r hr => nomatch hr⟩
def ApplyRet (w : World) (M : Nat → Prop) (r : Int × Tb) (e : Ending) (w' : World) : Prop := ∃ v, e = .returned (.tuple #[v, .int .i64 r.1]) ∧ TbAt w' M v r.2 ∧ Below w.heap.size w w'
theorem tbAt_zero {w : World} {M : Nat → Prop} : TbAt w M (.agg #[.string ⟨#[]⟩, .slice none 0 0, .int .i64 0, .slice none 0 0]) zeroT := ⟨none, 0, 0, none, 0, 0, [], rfl, by omega, by omega, by omega, by omega, ro_nil, fun _ _ _ => ⟨Rd.none_, fun r hr => nomatch hr⟩, fun r hr => (nomatch hr), rfl⟩
end Go.Proofs.YtljmclbedpceoaaGreatDoor

namespace Go.Proofs.YtljmclbedpceoaaGreatDoor
open Go.RowKit
set_option linter.unusedVariables false
set_option linter.unusedSimpArgs false

/-- the values that the updates ask for -/
def wantR (us : List Upd) (id : Int) (v : List Vl) : List Vl := us.foldl (fun acc p => if p.1 = id then p.2.2 else acc) v
theorem wantR_cons (u : Upd) (us : List Upd) (id : Int) (v : List Vl) : wantR (u :: us) id v = wantR us id (if u.1 = id then u.2.2 else v) := rfl
theorem wantR_none : ∀ {us : List Upd} {id : Int} {v : List Vl}, (∀ u ∈ us, u.1 ≠ id) → wantR us id v = v
  | [], _, _, _ => rfl
  | u :: us, id, v, h => by
    rw [wantR_cons, if_neg (h u (List.mem_cons_self ..))]
    exact wantR_none fun x hx => h x (List.mem_cons_of_mem _ hx)
def keepR (dels : List Int) (us : List Upd) (rs : List Row) : List Row := (rs.filter fun r => !dels.contains r.1).map fun r => (r.1, wantR us r.1 r.2)
theorem okR_asc {cs : List Col} {nx : Int} : ∀ {lst : Int} {rs : List Row}, okR cs nx lst rs = true → (rs.map (·.1)).Pairwise (· < ·) ∧ ∀ r ∈ rs, lst < r.1 ∧ r.1 < nx
  | _, [], _ => ⟨List.Pairwise.nil, fun _ h => nomatch h⟩
  | lst, r :: rs, h => by
    rw [okR] at h
    simp only [Bool.and_eq_true, decide_eq_true_eq] at h
    obtain ⟨h1, h2⟩ := okR_asc h.2
    refine ⟨?_, fun x hx => ?_⟩
    · rw [List.map_cons, List.pairwise_cons]
      refine ⟨fun a ha => ?_, h1⟩
      obtain ⟨x, hx, rfl⟩ := List.mem_map.1 ha
      exact (h2 x hx).1
    · rcases List.mem_cons.1 hx with rfl | hx
      · exact ⟨h.1.1.1, h.1.1.2⟩
      · exact ⟨Int.lt_trans h.1.1.1 (h2 x hx).1, (h2 x hx).2⟩
theorem rowsK_spec {rs : List Row} {gone : List Int} : ∀ {ids : List Int} {last : Option Int}, rowsK rs gone last ids = true → ids.Pairwise (· < ·) ∧ ∀ id ∈ ids, (getR rs id).isSome = true ∧ gone.contains id = false ∧ ∀ p, last = some p → p < id
  | [], _, _ => ⟨List.Pairwise.nil, fun _ h => nomatch h⟩
  | id :: ids, last, h => by
    rw [rowsK] at h
    simp only [Bool.and_eq_true, Bool.not_eq_true'] at h
    obtain ⟨⟨⟨h1, h2⟩, h3⟩, h4⟩ := h
    obtain ⟨i1, i2⟩ := rowsK_spec h4
    have hl : ∀ p, last = some p → p < id := fun p hp => by
      rw [hp] at h2
      simp only [Option.any_some, decide_eq_false_iff_not] at h2
      omega
    refine ⟨List.pairwise_cons.2 ⟨fun a ha => (i2 a ha).2.2 id rfl, i1⟩, fun x hx => ?_⟩
    rcases List.mem_cons.1 hx with rfl | hx
    · exact ⟨h1, h3, hl⟩
    · exact ⟨(i2 x hx).1, (i2 x hx).2.1, fun p hp => Int.lt_trans (hl p hp) ((i2 x hx).2.2 id rfl)⟩
theorem getR_some {rs : List Row} {id : Int} (h : (getR rs id).isSome = true) : id ∈ rs.map (·.1) := by
  unfold getR at h
  rw [Option.isSome_map] at h
  obtain ⟨r, hr⟩ := Option.isSome_iff_exists.1 h
  have h1 := List.find?_some hr
  have h2 := List.mem_of_find?_eq_some hr
  exact List.mem_map.2 ⟨r, h2, by simpa using h1⟩
theorem goR_eq {dels : List Int} : ∀ (rs : List Row) (us : List Upd), (rs.map (·.1)).Pairwise (· < ·) → (us.map (·.1)).Pairwise (· < ·) → (∀ u ∈ us, u.1 ∈ rs.map (·.1) ∧ dels.contains u.1 = false) → goR dels rs us = keepR dels us rs
  | [], us, _, _, h => by simp [goR, keepR]
  | r :: rs, [], hr, _, _ => by
    have ih := goR_eq (dels := dels) rs [] (List.pairwise_cons.1 hr).2 List.Pairwise.nil (fun _ h => nomatch h)
    rw [goR]
    cases hd : dels.contains r.1
    · simp only [keepR, List.filter_cons, hd, Bool.not_false, if_true, List.map_cons, Bool.false_eq_true, if_false] at ih ⊢
      rw [ih]; rfl
    · simp only [keepR, List.filter_cons, hd, Bool.not_true, if_true, Bool.false_eq_true, if_false] at ih ⊢
      rw [ih]
  | r :: rs, u :: us, hr, hu, h => by
    obtain ⟨r1, r2⟩ := List.pairwise_cons.1 hr
    obtain ⟨u1, u2⟩ := List.pairwise_cons.1 hu
    replace r1 : ∀ x ∈ rs, r.1 < x.1 := fun x hx => r1 _ (List.mem_map_of_mem (f := fun x : Row => x.1) hx)
    replace u1 : ∀ x ∈ us, u.1 < x.1 := fun x hx => u1 _ (List.mem_map_of_mem (f := fun x : Upd => x.1) hx)
    have hin : ∀ x ∈ u :: us, (x.1 = r.1 ∨ x.1 ∈ rs.map (·.1)) ∧ dels.contains x.1 = false := fun x hx => ⟨List.mem_cons.1 (h x hx).1, (h x hx).2⟩
    rw [goR]
    cases hd : dels.contains r.1
    · simp only [Bool.false_eq_true, if_false]
      by_cases hur : u.1 = r.1
      · rw [if_pos hur]
        have ih := goR_eq (dels := dels) rs us r2 u2 fun x hx => by
          obtain ⟨h1, h2⟩ := hin x (List.mem_cons_of_mem _ hx)
          refine ⟨?_, h2⟩
          rcases h1 with h1 | h1
          · have := u1 x hx; omega
          · exact h1
        rw [ih]
        simp only [keepR, List.filter_cons, hd, Bool.not_false, if_true, List.map_cons]
        rw [wantR_cons, if_pos hur, wantR_none fun x hx => by have := u1 x hx; omega]
        congr 1
        refine List.map_congr_left fun x hx => ?_
        have := r1 x (List.mem_filter.1 hx).1
        rw [wantR_cons, if_neg (by omega)]
      · rw [if_neg hur]
        have hmem : ∀ x ∈ u :: us, r.1 < x.1 ∧ x.1 ∈ rs.map (·.1) := fun x hx => by
          have hu0 : r.1 < u.1 := by
            rcases (hin u (List.mem_cons_self ..)).1 with h1 | h1
            · exact absurd h1 hur
            · obtain ⟨y, hy, hyu⟩ := List.mem_map.1 h1
              have := r1 y hy
              have hyu : y.1 = u.1 := hyu
              omega
          have hx1 : r.1 < x.1 := by
            rcases List.mem_cons.1 hx with rfl | hx
            · exact hu0
            · exact Int.lt_trans hu0 (u1 x hx)
          refine ⟨hx1, ?_⟩
          rcases (hin x hx).1 with h1 | h1
          · omega
          · exact h1
        have ih := goR_eq (dels := dels) rs (u :: us) r2 hu fun x hx => ⟨(hmem x hx).2, (h x hx).2⟩
        rw [ih]
        simp only [keepR, List.filter_cons, hd, Bool.not_false, if_true, List.map_cons]
        rw [wantR_none fun x hx => by have := (hmem x hx).1; omega]
    · simp only [if_true]
      have ih := goR_eq (dels := dels) rs (u :: us) r2 hu fun x hx => by
        obtain ⟨h1, h2⟩ := hin x hx
        refine ⟨?_, h2⟩
        rcases h1 with h1 | h1
        · rw [h1, hd] at h2; cases h2
        · exact h1
      rw [ih]
      simp only [keepR, List.filter_cons, hd, Bool.not_true, Bool.false_eq_true, if_false]
/-- What is known of a change that succeeds. -/
structure ApOk (nm : ByteArray) (cs : List Col) (nx : Int) (rs : List Row) (ins : List (List Vl)) (dels : List Int) (us : List Upd) (T : Tb) : Prop where
  tab : tabB nm cs nx rs = true
  tb : T = ⟨nm, cs, nx + ins.length, keepR dels us rs ++ insR nx ins⟩
  asc : (rs.map (·.1)).Pairwise (· < ·)
  low : ∀ r ∈ rs, 0 < r.1 ∧ r.1 < nx
  dasc : dels.Pairwise (· < ·)
  din : ∀ id ∈ dels, id ∈ rs.map (·.1)
  uasc : (us.map (·.1)).Pairwise (· < ·)
  uin : ∀ u ∈ us, u.1 ∈ rs.map (·.1) ∧ dels.contains u.1 = false
  dup : dupB cs (keepR dels us rs ++ insR nx ins) = false
  fits : (∀ u ∈ us, fitsT cs u.2.2 = 0) ∧ ∀ v ∈ ins, fitsT cs v = 0
  lim : (rs.length : Int) - dels.length + ins.length ≤ 100
  nlim : (ins.length : Int) ≤ 2147483648 - nx
theorem tabB_ok {nm : ByteArray} {cs : List Col} {nx : Int} {rs : List Row} (h : tabB nm cs nx rs = true) : schemaB nm cs = true ∧ rs.length ≤ 100 ∧ 1 ≤ nx ∧ nx ≤ 2147483648 ∧ okR cs nx 0 rs = true ∧ dupB cs rs = false := by
  unfold tabB at h
  simp only [Bool.and_eq_true, decide_eq_true_eq, Bool.not_eq_true'] at h
  obtain ⟨⟨⟨⟨⟨h1, h2⟩, h3⟩, h4⟩, h5⟩, h6⟩ := h
  exact ⟨h1, h2, h3, h4, h5, h6⟩
theorem chgB_ok {nm : ByteArray} {cs : List Col} {nx : Int} {rs : List Row} {ins : List (List Vl)} {dels : List Int} {us : List Upd} (h : chgB nm cs nx rs ins dels us = true) :
    tabB nm cs nx rs = true ∧ (dels.Pairwise (· < ·) ∧ ∀ id ∈ dels, id ∈ rs.map (·.1)) ∧ (us.map (·.1)).Pairwise (· < ·) ∧ ∀ u ∈ us, u.1 ∈ rs.map (·.1) ∧ dels.contains u.1 = false := by
  unfold chgB at h
  simp only [Bool.and_eq_true] at h
  obtain ⟨⟨⟨⟨h1, h2⟩, h3⟩, h4⟩, h5⟩ := h
  obtain ⟨a1, a2⟩ := rowsK_spec h2
  obtain ⟨b1, b2⟩ := rowsK_spec h4
  exact ⟨h1, ⟨a1, fun id hd => getR_some (a2 id hd).1⟩, b1, fun u hu => ⟨getR_some (b2 u.1 (List.mem_map_of_mem hu)).1, (b2 u.1 (List.mem_map_of_mem hu)).2.1⟩⟩
theorem apOk_of {nm : ByteArray} {cs : List Col} {nx : Int} {rs : List Row} {ins : List (List Vl)} {dels : List Int} {us : List Upd} {T : Tb} (h : applyC nm cs nx rs ins dels us = (0, T)) : ApOk nm cs nx rs ins dels us T := by
  unfold applyC at h
  split at h
  · injection h with h; omega
  · rename_i hc
    split at h
    · rename_i hf; injection h with h; exact absurd h hf
    · rename_i hf
      split at h
      · injection h with h; omega
      · rename_i hl
        split at h
        · injection h with h; omega
        · rename_i hd
          injection h with _ h
          obtain ⟨h1, ⟨h2, h3⟩, h4, h5⟩ := chgB_ok (by simpa using hc)
          obtain ⟨_, _, _, _, k5, _⟩ := tabB_ok h1
          obtain ⟨k6, k7⟩ := okR_asc k5
          have hg := goR_eq (dels := dels) rs us k6 h4 h5
          have hfc := fitsC_all (Decidable.not_not.1 hf)
          refine ⟨h1, ?_, k6, k7, h2, h3, h4, h5, ?_, ⟨fun u hu => hfc.1 _ (List.mem_map_of_mem hu), hfc.2⟩, by omega, by omega⟩
          · rw [← h]; unfold outR; rw [hg]
          · unfold outR at hd; rw [hg] at hd; simpa using hd
theorem find_uniq {l : List Row} (h : (l.map (·.1)).Pairwise (· < ·)) {r : Row} (hr : r ∈ l) : l.find? (fun x => x.1 == r.1) = some r := by
  induction l with
  | nil => cases hr
  | cons x l ih =>
    obtain ⟨h1, h2⟩ := List.pairwise_cons.1 h
    rcases List.mem_cons.1 hr with rfl | hr
    · simp
    · have : x.1 < r.1 := h1 r.1 (List.mem_map_of_mem (f := fun x : Row => x.1) hr)
      rw [List.find?_cons, show (x.1 == r.1) = false by rw [beq_eq_false_iff_ne]; omega]
      exact ih h2 hr
theorem getR_none {l : List Row} {id : Int} (h : ∀ r ∈ l, r.1 ≠ id) : getR l id = none := by
  unfold getR
  rw [List.find?_eq_none.2 fun x hx => by simpa using h x hx]; rfl
theorem getR_app (a b : List Row) (id : Int) : getR (a ++ b) id = (getR a id).or (getR b id) := by
  unfold getR
  rw [List.find?_append]
  cases a.find? (fun r => r.1 == id) <;> simp
theorem insR_at : ∀ (ins : List (List Vl)) (nx : Int) (i : Nat), getR (insR nx ins) (nx + (i : Int)) = ins[i]? := by
  intro ins nx i
  have key : ∀ (l : List (List Vl)) (k : Nat) (i : Nat), k ≤ i → getR ((l.zipIdx k).map fun p => (nx + (p.2 : Int), p.1)) (nx + (i : Int)) = l[i - k]? := by
    intro l
    induction l with
    | nil => intro k i _; simp [getR]
    | cons v l ih =>
      intro k i hki
      rw [List.zipIdx_cons, List.map_cons]
      by_cases h : k = i
      · subst h
        simp [getR]
      · have h2 := ih (k + 1) i (by omega)
        have e : i - k = (i - (k + 1)) + 1 := by omega
        rw [e, List.getElem?_cons_succ, ← h2]
        unfold getR
        rw [List.find?_cons, show ((nx + (k : Int), v).1 == nx + (i : Int)) = false by rw [beq_eq_false_iff_ne]; show nx + (k : Int) ≠ _; omega]
  have := key ins 0 i (by omega)
  simpa [insR] using this
theorem insR_ge {ins : List (List Vl)} {nx : Int} : ∀ r ∈ insR nx ins, nx ≤ r.1 := fun r hr => by
  unfold insR at hr
  obtain ⟨p, _, rfl⟩ := List.mem_map.1 hr
  show nx ≤ nx + (p.2 : Int)
  omega
section
variable {nm : ByteArray} {cs : List Col} {nx : Int} {rs : List Row} {ins : List (List Vl)} {dels : List Int} {us : List Upd} {T : Tb}
theorem ApOk.asc2 (h : ApOk nm cs nx rs ins dels us T) : ((keepR dels us rs).map (·.1)).Pairwise (· < ·) := by
  have e : (keepR dels us rs).map (·.1) = (rs.filter fun r => !dels.contains r.1).map (·.1) := by simp [keepR]
  rw [e]
  exact List.Pairwise.sublist (List.Sublist.map _ List.filter_sublist) h.asc
/-- a row of before -/
theorem ApOk.old (h : ApOk nm cs nx rs ins dels us T) {r : Row} (hr : r ∈ rs) : getR T.rs r.1 = if dels.contains r.1 then none else some (wantR us r.1 r.2) := by
  rw [h.tb]
  show getR (keepR dels us rs ++ insR nx ins) r.1 = _
  rw [getR_app, getR_none (l := insR nx ins) fun x hx => by have := insR_ge x hx; have := (h.low r hr).2; omega, Option.or_none]
  cases hd : dels.contains r.1
  · have hm : (r.1, wantR us r.1 r.2) ∈ keepR dels us rs := List.mem_map.2 ⟨r, List.mem_filter.2 ⟨hr, by simp only [hd]; rfl⟩, rfl⟩
    have := find_uniq h.asc2 hm
    unfold getR
    rw [this]; simp
  · rw [getR_none fun x hx => ?_]
    · simp
    · obtain ⟨y, hy, rfl⟩ := List.mem_map.1 hx
      have := (List.mem_filter.1 hy).2
      intro e
      have e : y.1 = r.1 := e
      rw [e, hd] at this
      cases this
/-- a new row -/
theorem ApOk.new (h : ApOk nm cs nx rs ins dels us T) (i : Nat) : getR T.rs (nx + (i : Int)) = ins[i]? := by
  rw [h.tb]
  show getR (keepR dels us rs ++ insR nx ins) _ = _
  rw [getR_app, getR_none (l := keepR dels us rs) fun x hx => ?_, Option.none_or, insR_at]
  obtain ⟨y, hy, rfl⟩ := List.mem_map.1 hx
  have := (h.low y (List.mem_filter.1 hy).1).2
  show y.1 ≠ _
  omega
theorem ApOk.len (h : ApOk nm cs nx rs ins dels us T) : (T.rs.length : Int) = rs.length - dels.length + ins.length := by
  rw [h.tb]
  show ((keepR dels us rs ++ insR nx ins).length : Int) = _
  have h1 : (insR nx ins).length = ins.length := by simp [insR]
  have h2 : (keepR dels us rs).length = (rs.filter fun r => !dels.contains r.1).length := by simp [keepR]
  have hnd : (rs.map (·.1)).Nodup := h.asc.imp fun h => by omega
  have hdn : dels.Nodup := h.dasc.imp fun h => by omega
  have hp : ((rs.map (·.1)).filter fun id => dels.contains id).Perm dels := (List.perm_ext_iff_of_nodup (hnd.sublist List.filter_sublist) hdn).2 fun a => by
    simp only [List.mem_filter, List.contains_iff_mem]
    exact ⟨fun k => k.2, fun k => ⟨h.din a k, k⟩⟩
  have h3 : (rs.filter fun r => dels.contains r.1).length = dels.length := by
    rw [← hp.length_eq, List.filter_map, List.length_map]; rfl
  have h4 : (rs.filter fun r => dels.contains r.1).length + (rs.filter fun r => !dels.contains r.1).length = rs.length := by
    have : ∀ l : List Row, (l.filter fun r => dels.contains r.1).length + (l.filter fun r => !dels.contains r.1).length = l.length := by
      intro l
      induction l with
      | nil => rfl
      | cons x l ih => cases hx : dels.contains x.1 <;> simp only [List.filter_cons, hx, if_true, if_false, Bool.not_true, Bool.not_false, List.length_cons, Bool.false_eq_true] <;> omega
    exact this rs
  rw [List.length_append, h1, h2]
  omega
end
end Go.Proofs.YtljmclbedpceoaaGreatDoor

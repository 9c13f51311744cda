/- SUndo: store.undo at an entry that can be undone. -/
import Derived.Test.YtedogodccblfeaaGreatDoorSDiffSaidMG
import Derived.Test.YtedogodccblfeaaGreatDoorSDiffSaidMB
import Derived.Test.YtedogodccblfeaaGreatDoorSDiffSaidMD
import Derived.Test.YtedogodccblfeaaGreatDoorSDiffSaidMF
import Derived.Test.YtedogodccblfeaaGreatDoorSDiffSaidME
import Derived.StillTailTactics
import Derived.Lib.AppendZerosOnto
import Derived.Lib.SliceRun
import Derived.Shelf.SlSortCmp.InsertionK
import Derived.Sort.LotA
import Derived.Test.YtedogodccblfeaaGreatDoorProg
import Derived.Test.YtedogodccblfeaaGreatDoorSDiffSaidMA
import Derived.Shelf.SlSortCmp.NoneTotal
import Derived.Laws.EntriesVeiled
namespace Go.Proofs.YtedogodccblfeaaGreatDoor
open Go.RowKit
set_option linter.unusedVariables false
set_option linter.unusedSimpArgs false

theorem Tryz.elTe : ElemT Tryz.prog 29 58 4 72 (.agg #[.string ⟨#[]⟩, .slice none 0 0, .int .i64 0, .slice none 0 0]) := ⟨Tryz.underlying29, by kernel_rfl, rfl, by omega⟩
theorem Tryz.elUe : ElemT Tryz.prog 63 129 5 96 (.agg #[.string ⟨#[]⟩, .int .i64 0, .slice none 0 0, .slice none 0 0, .slice none 0 0]) := ⟨Tryz.underlying63, by kernel_rfl, rfl, by omega⟩
def TeLim (x : Te) : Prop := x.n ≤ 4398046511104 ∧ x.m ≤ 1000000 ∧ ∀ r ∈ x.l, r.ok ∧ r.n ≤ 4398046511104
def TeStep (outs l : List Te) (j : Nat) : Prop := outs.map Te.tb = (l.take j).map Te.tb ∧ ∀ y ∈ outs, y.ok
def UeStep (N K : Nat) (outs l : List Ue) (j : Nat) : Prop := outs.map Ue.ud = (l.take j).map Ue.ud ∧ ∀ y ∈ outs, y.good N K
/-- a log handed back in a row of the call's own -/
def UesOwn (w : World) (M : Nat → Prop) (N K : Nat) (us : List Ud) (e : Ending) (w' : World) : Prop := ∃ (A : Option Addr) (n c : Nat) (l : List Ue), e = .returned (.slice A n c) ∧ l.map Ue.ud = us ∧ (∀ x ∈ l, x.good N K) ∧ w'.ownsRow w.heap.size 129 5 (.slice A n c) n (ueCells l) ∧ Ro w' (Mut M [.own 129 5 (.slice A n c) n (ueCells l)]) (UeVals l) ∧ Below w.heap.size w w'
theorem mut_one {M : Nat → Prop} {k : Hp} {L : List Hp} {b : Nat} (h : Mut M [k] b) : Mut M (k :: L) b := by
  rcases h with h | ⟨k2, hk, hf⟩
  · exact .inl h
  · simp only [List.mem_singleton] at hk; subst hk; exact .inr ⟨_, List.mem_cons_self, hf⟩
theorem UesOwn.ret {w : World} {M : Nat → Prop} (hM : ∀ b, M b → b < w.heap.size) {N K : Nat} {us : List Ud} {e : Ending} {w' : World} (h : UesOwn w M N K us e w') : UesRet w M N K us e w' := by
  obtain ⟨A, n, c, l, h1, h2, h3, h4, h5, h6⟩ := h
  have hc := own_caps h4
  exact ⟨A, n, c, l, h1, hc.1, hc.2.1, h2, h3, (show Ro w' M (SlR 5 A n (ueCells l)) from fun w2 a b => Rd.of_own (own_RM hM ⟨a, b⟩ h4)).and (h5.less fun b hb => .inl hb), h6⟩
/-- rows in a slot -/
def RwsSl (M : Nat → Prop) (K : Nat) (rs : List Row) (u : Value) (w : World) : Prop := ∃ (A : Option Addr) (n c : Nat) (l : List Rw), u = .slice A n c ∧ n ≤ c ∧ c ≤ 9223372036854775807 ∧ l.map Rw.row = rs ∧ (∀ r ∈ l, r.ok ∧ r.n ≤ K) ∧ Ro w M (RwsIn A n l)
theorem rwsSl_mono {M : Nat → Prop} {K : Nat} {rs : List Row} (u : Value) (w w' : World) (hr : RM M w w') (h : RwsSl M K rs u w) : RwsSl M K rs u w' := by
  obtain ⟨A, n, c, l, h1, h2, h3, h4, h5, h6⟩ := h
  exact ⟨A, n, c, l, h1, h2, h3, h4, h5, hr.ro h6⟩
set_option maxHeartbeats 4000000 in
set_option maxRecDepth 100000 in
theorem copies_any (M : Nat → Prop) (w : World) (hM : ∀ b, M b → b < w.heap.size) (A : Option Addr) (n c : Nat) (l : List Te) (hok : ∀ x ∈ l, TeLim x) (hD : Ro w M (TesIn A n l)) (hn : n ≤ 1000000) :
    Calls Tryz.prog 65 #[.slice A n c] w fun e w' => TesRet w M (l.map Te.tb) e w' := by
  have HL := hid hD.now.len
  have HOK := hid hok
  clear hok
  have K0 := (((Hold.start M w hM).add (hD.less (by simp [Mut]))).add (teVals_nil _ _)).nil 58 4
  clear hD
  go_enter Tryz.func65, Tryz.ntmps65
  go_wp2_with fail
  go_loopw [3, 8] (fun ov iv wr => ∃ (j cap : Nat) (O : Option Addr) (outs : List Te), j ≤ n ∧ iv = .int .i64 j ∧ ov = .slice O j cap ∧ Hid (TeStep outs l j) ∧ Hold M none w wr [.own 58 4 (.slice O j cap) j (teCells outs), .ro (TeVals outs), .ro (TesIn A n l)]) (fun _ iv _ => n - (intOf iv).toNat)
  case atStart => exact ⟨0, 0, none, [], by omega, rfl, rfl, hid ⟨rfl, fun r hr => nomatch hr⟩, K0⟩
  case round =>
    clear K0
    obtain ⟨j, cap, O, outs, hj, rfl, rfl, HW, H⟩ := hrel
    by_cases hlt : j < n
    · have hd : decide ((j : Int) < (n : Int)) = true := by simp; omega
      have j0 : (0 : Int) ≤ (j : Int) := by omega
      have j1 : (j : Int) < (n : Int) := by omega
      obtain ⟨x, hx⟩ := get_of HL.out hlt
      obtain ⟨g, o, rfl, hb, c0, c1, c2, c3, -⟩ := (H.ro 2 rfl).now.at_ hx
      have HXO := hid (HOK.out x (List.mem_of_getElem? hx))
      have HXM := hid (List.mem_of_getElem? hx)
      have HXG := hid hx
      clear hx
      have K1 := H.alloc_cst #[.string x.nm, .slice x.A x.n x.c, .int .i64 x.nx, .slice x.B x.m x.d] 58
      have FA := K1.facts
      simp only [factsL, cellsF, Nat.reduceAdd, zf, zl] at FA
      clear H
      go_wp2_with fail
      refine (scopied_any _ _ K1.mutLt x.nm x.A x.n x.c x.cs x.nx x.B x.m x.d 4398046511104 x.l ((K1.ro 3 rfl).imp fun w2 h2 => (h2.2 x HXM.out).1) ((K1.ro 3 rfl).imp fun w2 h2 => (h2.2 x HXM.out).2) HXO.out.1 HXO.out.2.1 (by omega) HXO.out.2.2).mono ?_
      rintro e w5 ⟨y, rfl, hy, hyo, ry, b5⟩
      have hv : y.val = .agg #[.string y.nm, .slice y.A y.n y.c, .int .i64 y.nx, .slice y.B y.m y.d] := rfl
      rw [hv]
      clear hv
      have K2 := (K1.call b5).add ry
      have HS2 := hid (show TeStep (outs ++ [y]) l (j + 1) from ⟨by rw [List.map_append, HW.out.1, List.take_add_one, HXG.out, List.map_append]; exact congrArg _ (congrArg (fun z => [z]) hy), fun z hz => by
        rcases List.mem_append.1 hz with hz | hz
        · exact HW.out.2 z hz
        · simp at hz; subst hz; exact hyo⟩)
      clear b5 ry K1 FA hy hyo
      go_wp2_with (at_builtin; go_must (refine wpList_appH K2 2 rfl Tryz.elTe #[.string y.nm, .slice y.A y.n y.c, .int .i64 y.nx, .slice y.B y.m y.d] rfl (.tmp 12) (.tmp 15) rfl rfl _ (by first | rfl | simp) rfl rfl (by intro u hu; simp at hu; rcases hu with rfl | rfl | rfl | rfl <;> rfl) (by omega) (by omega) ?_); intro g9 cap9 w9 hc9 hm9 KB; simp only [List.set_cons_zero, List.set_cons_succ] at KB)
      have e9 : teCells outs ++ (#[.string y.nm, .slice y.A y.n y.c, .int .i64 y.nx, .slice y.B y.m y.d]).toList = teCells (outs ++ [y]) := (teCells_snoc outs y).symm
      rw [e9] at KB
      have KC := (KB.swapRo 3 rfl (teVals_snoc (r := y) (KB.ro 3 rfl) (KB.ro 0 rfl))).drop (List.Sublist.cons _ (List.sublist_cons_self _ _))
      go_roundw
      case rel => exact ⟨j + 1, cap9, _, _, by omega, by go_num, by first | rfl | trivial, HS2, KC⟩
      case measure => simp [intOf]; omega
    · obtain rfl : n = j := by omega
      have hd : decide ((n : Int) < (n : Int)) = false := by simp
      have hcap := own_caps (H.get 0 rfl)
      have KS := H.sealRow 0 rfl
      simp only [List.set_cons_zero] at KS
      have r1 := (KS.roOut 0 rfl).and (KS.roOut 1 rfl)
      have HW2 := hid (show outs.map Te.tb = l.map Te.tb by have h := HW.out.1; rwa [List.take_of_length_le (by rw [HL.out]; exact Nat.le_refl _)] at h)
      go_wp2_with fail
      go_ret
      exact ⟨O, n, cap, outs, rfl, hcap.1, hcap.2.1, HW2.out, HW.out.2, r1, KS.below⟩
set_option maxHeartbeats 4000000 in
set_option maxRecDepth 100000 in
theorem sundo_any (M : Nat → Prop) (w : World) (hM : ∀ b, M b → b < w.heap.size) (x : Ue) (N K : Nat) (hg : x.good N K) (hN : N ≤ 1000000) (hK : K ≤ 4398046511104) (hU : Ro w M (UeIn x)) :
    Calls Tryz.prog 137 #[.agg #[.string x.nm, .int .i64 x.nx, .slice x.I x.ni x.ci, .slice x.D x.nd x.cd, .slice x.U x.nu x.cu]] w fun e w' => UeRet w M N K x.ud e w' := by
  have HG := hid hg
  have HKN := hid (And.intro hN hK)
  have hni := Nat.le_trans hg.i hN
  clear hg hN hK
  have K0 := (((Hold.start M w hM).add (hU.less (by simp [Mut]))).alloc #[.string x.nm, .int .i64 x.nx, .slice x.I x.ni x.ci, .slice x.D x.nd x.cd, .slice x.U x.nu x.cu] 129).alloc #[.string ⟨#[]⟩, .int .i64 0, .slice none 0 0, .slice none 0 0, .slice none 0 0] 129
  rw [World.size_alloc] at K0
  clear hU
  have F0 := K0.facts
  simp only [factsL, cellsF, Nat.reduceAdd, zf, zl] at F0
  have HI := hid (show IsIn x.I x.ni x.li _ from (K0.ro 2 rfl).now.1)
  go_enter Tryz.func137, Tryz.ntmps137
  go_wp2_with fail
  refine (scloneI_any _ x.I x.ni x.ci x.li HI.out (by omega)).mono ?_
  rintro e w5 ⟨C9, n9, c9, rfl, hn9, ho9, hb9⟩
  have hcap := own_caps ho9
  have KB := K0.callOwn hb9 ho9
  have HN9 := hid (show n9 = x.ni by rw [hn9]; exact HI.out.len)
  clear K0 F0 HI hb9 ho9 hn9
  have KS := KB.sealRow 0 rfl
  simp only [List.set_cons_zero] at KS
  have FB := KS.facts
  simp only [factsL, cellsF, Nat.reduceAdd, zf, zl] at FB
  have KC := KS.store 2 rfl 2 (.slice C9 n9 c9)
  simp only [List.set_cons_zero, List.set_cons_succ, List.setIfInBounds_toArray] at KC
  have FD := KC.facts
  simp only [factsL, cellsF, Nat.reduceAdd, zf, zl] at FD
  clear KB KS
  go_wp2_with fail
  generalize World.setCell _ _ _ = w10 at KC ⊢
  clear FB FD
  obtain ⟨g1, hg1⟩ : ∃ g1, g1 = w.heap.size := ⟨_, rfl⟩
  obtain ⟨g2, hg2⟩ : ∃ g2, g2 = g1 + 1 := ⟨_, rfl⟩
  rw [← hg1, ← hg2] at KC ⊢
  have HG1 := hid hg1
  clear hg1 hg2
  have KD : Hold M none w w10 [.ro (IsIn C9 n9 x.li), .blk g2 129 #[.string ⟨#[]⟩, .int .i64 0, .slice none 0 0, .slice none 0 0, .slice none 0 0], .blk g1 129 #[.string x.nm, .int .i64 x.nx, .slice C9 n9 c9, .slice x.D x.nd x.cd, .slice x.U x.nu x.cu], .ro (UeIn x)] := KC
  clear KC
  refine wp_region_any (by kernel_rfl) ?_
  refine wpAny_hold 7 16 ([.ro (IsIn C9 n9 x.li), .blk g2 129 #[.string ⟨#[]⟩, .int .i64 0, .slice none 0 0, .slice none 0 0, .slice none 0 0], .blk g1 129 #[.string x.nm, .int .i64 x.nx, .slice C9 n9 c9, .slice x.D x.nd x.cd, .slice x.U x.nu x.cu], .ro (UeIn x)]) (spL [(9, RwsSl (Mut M [.ro (IsIn C9 n9 x.li), .blk g2 129 #[.string ⟨#[]⟩, .int .i64 0, .slice none 0 0, .slice none 0 0, .slice none 0 0], .blk g1 129 #[.string x.nm, .int .i64 x.nx, .slice C9 n9 c9, .slice x.D x.nd x.cd, .slice x.U x.nu x.cu], .ro (UeIn x)]) K (x.ld.map Rw.row)), (12, RwsSl (Mut M [.ro (IsIn C9 n9 x.li), .blk g2 129 #[.string ⟨#[]⟩, .int .i64 0, .slice none 0 0, .slice none 0 0, .slice none 0 0], .blk g1 129 #[.string x.nm, .int .i64 x.nx, .slice C9 n9 c9, .slice x.D x.nd x.cd, .slice x.U x.nu x.cu], .ro (UeIn x)]) K (x.lu.map Rw.row))]) (by kernel_rfl) (by kernel_rfl) (by kernel_rfl) rfl ?_ (KD.drew) ?_
  · exact stays_cons rwsSl_mono (stays_cons rwsSl_mono (stays_nil _))
  simp only [zd, Act.put, List.getElem_toArray, List.getElem_cons_zero, List.getElem_cons_succ, zl]
  repeat (first | (refine dw_skip rfl rfl rfl ?_; simp only [Act.put, zl]) | (refine dw_val rfl rfl rfl ?_; apply Exists.intro; refine ⟨fun wv HC => ?_, ?_⟩; (focus (have f3 := cell_of_row _ _ 3 _ _ _ (HC.blk_ 2 rfl); have f4 := cell_of_row _ _ 4 _ _ _ (HC.blk_ 2 rfl); have fl := Blk.lt (HC.blk_ 2 rfl); go_simp <;> rfl; done)); simp only [Act.put, zl]))
  refine dw_callR 9 (RwsSl (Mut M [.ro (IsIn C9 n9 x.li), .blk g2 129 #[.string ⟨#[]⟩, .int .i64 0, .slice none 0 0, .slice none 0 0, .slice none 0 0], .blk g1 129 #[.string x.nm, .int .i64 x.nx, .slice C9 n9 c9, .slice x.D x.nd x.cd, .slice x.U x.nu x.cu], .ro (UeIn x)]) K (x.ld.map Rw.row)) (f := 193) (args := #[.slice x.D x.nd x.cd]) rfl rfl rfl rfl (fun wv => ?_) (fun wv HC hrm hD => ?_) ?_
  · go_simp <;> rfl
  · refine (srows_any _ wv HC.mutLt x.D x.nd x.cd K x.ld ((HC.ro 3 rfl).imp fun w2 h2 => h2.2.1) (Nat.le_trans HG.out.d HKN.out.1) HKN.out.2 HG.out.ld).mono ?_
    rintro e w5 ⟨A5, n5, c5, l5, rfl, h1, h2, h3, h4, r5, b5⟩
    exact ⟨_, rfl, ⟨A5, n5, c5, l5, rfl, h1, h2, h3, h4, r5⟩, HC.call b5, RM.below b5⟩
  rintro u_ wx HCx ⟨A5, n5, c5, l5, rfl, -, -, -, -, -⟩
  clear HCx
  simp only [Act.put, zl]
  repeat (first | (refine dw_skip rfl rfl rfl ?_; simp only [Act.put, zl]) | (refine dw_val rfl rfl rfl ?_; apply Exists.intro; refine ⟨fun wv HC => ?_, ?_⟩; (focus (have f3 := cell_of_row _ _ 3 _ _ _ (HC.blk_ 2 rfl); have f4 := cell_of_row _ _ 4 _ _ _ (HC.blk_ 2 rfl); have fl := Blk.lt (HC.blk_ 2 rfl); go_simp <;> rfl; done)); simp only [Act.put, zl]))
  refine dw_callR 12 (RwsSl (Mut M [.ro (IsIn C9 n9 x.li), .blk g2 129 #[.string ⟨#[]⟩, .int .i64 0, .slice none 0 0, .slice none 0 0, .slice none 0 0], .blk g1 129 #[.string x.nm, .int .i64 x.nx, .slice C9 n9 c9, .slice x.D x.nd x.cd, .slice x.U x.nu x.cu], .ro (UeIn x)]) K (x.lu.map Rw.row)) (f := 193) (args := #[.slice x.U x.nu x.cu]) rfl rfl rfl rfl (fun wv => ?_) (fun wv HC hrm hD => ?_) ?_
  · go_simp <;> rfl
  · refine (srows_any _ wv HC.mutLt x.U x.nu x.cu K x.lu ((HC.ro 3 rfl).imp fun w2 h2 => h2.2.2) (Nat.le_trans HG.out.u HKN.out.1) HKN.out.2 HG.out.lu).mono ?_
    rintro e w5 ⟨A5, n5, c5, l5, rfl, h1, h2, h3, h4, r5, b5⟩
    exact ⟨_, rfl, ⟨A5, n5, c5, l5, rfl, h1, h2, h3, h4, r5⟩, HC.call b5, RM.below b5⟩
  rintro u_ wx HCx ⟨A6, n6, c6, l6, rfl, -, -, -, -, -⟩
  clear HCx
  simp only [Act.put, zl]
  repeat (first | (refine dw_skip rfl rfl rfl ?_; simp only [Act.put, zl]) | (refine dw_val rfl rfl rfl ?_; apply Exists.intro; refine ⟨fun wv HC => ?_, ?_⟩; (focus (have f3 := cell_of_row _ _ 3 _ _ _ (HC.blk_ 2 rfl); have f4 := cell_of_row _ _ 4 _ _ _ (HC.blk_ 2 rfl); have fl := Blk.lt (HC.blk_ 2 rfl); go_simp <;> rfl; done)); simp only [Act.put, zl]))
  refine rel_nil ?_
  rintro wx2 HX
  rintro _hrm HGW
  have hu1 : RwsSl (Mut M [.ro (IsIn C9 n9 x.li), .blk g2 129 #[.string ⟨#[]⟩, .int .i64 0, .slice none 0 0, .slice none 0 0, .slice none 0 0], .blk g1 129 #[.string x.nm, .int .i64 x.nx, .slice C9 n9 c9, .slice x.D x.nd x.cd, .slice x.U x.nu x.cu], .ro (UeIn x)]) K (x.ld.map Rw.row) (.slice A5 n5 c5) wx2 := (GW_on (d := 9) rfl).1 (HGW 2 _ rfl (by omega))
  have hu2 : RwsSl (Mut M [.ro (IsIn C9 n9 x.li), .blk g2 129 #[.string ⟨#[]⟩, .int .i64 0, .slice none 0 0, .slice none 0 0, .slice none 0 0], .blk g1 129 #[.string x.nm, .int .i64 x.nx, .slice C9 n9 c9, .slice x.D x.nd x.cd, .slice x.U x.nu x.cu], .ro (UeIn x)]) K (x.lu.map Rw.row) (.slice A6 n6 c6) wx2 := (GW_on (d := 12) rfl).1 (HGW 5 _ rfl (by omega))
  clear HGW _hrm KD
  obtain ⟨A7, n7, c7, l7, e7, p1, p2, p3, p4, r7⟩ := hu1
  obtain ⟨A8, n8, c8, l8, e8, q1, q2, q3, q4, r8⟩ := hu2
  obtain ⟨rfl, rfl, rfl⟩ : A5 = A7 ∧ n5 = n7 ∧ c5 = c7 := by injection e7 with a b c; exact ⟨a, b, c⟩
  obtain ⟨rfl, rfl, rfl⟩ : A6 = A8 ∧ n6 = n8 ∧ c6 = c8 := by injection e8 with a b c; exact ⟨a, b, c⟩
  clear e7 e8
  have HB5 := hid (show n5 ≤ N by have h := r7.now.len; have h2 := congrArg List.length p3; rw [List.length_map, List.length_map] at h2; have h3 := HG.out.d; have h4 : x.ld.length = x.nd := (HX.ro 3 rfl).now.2.1.len; omega)
  have HB6 := hid (show n6 ≤ N by have h := r8.now.len; have h2 := congrArg List.length q3; rw [List.length_map, List.length_map] at h2; have h3 := HG.out.u; have h4 : x.lu.length = x.nu := (HX.ro 3 rfl).now.2.2.len; omega)
  have K3 := (HX.add r7).add (r8.less (by simp [Mut, Hp.foot]))
  clear HX r7 r8
  have F := K3.facts
  simp only [factsL, cellsF, Nat.reduceAdd, zf, zl] at F
  have NE := K3.nes
  simp only [World.size_alloc, nesL, neF, List.set_cons_zero, List.set_cons_succ, and_true, true_and] at NE
  have KN := ((((((K3.store 4 rfl 3 (.slice A5 n5 c5)).store 4 rfl 4 (.slice A6 n6 c6)).store 3 rfl 0 (.string x.nm)).store 3 rfl 1 (.int .i64 x.nx)).store 3 rfl 2 (.slice C9 n9 c9)).store 3 rfl 3 (.slice A5 n5 c5)).store 3 rfl 4 (.slice A6 n6 c6)
  have r0 := (KN.roOut 2 rfl).and ((KN.roOut 1 rfl).and (KN.roOut 0 rfl))
  go_wp2_with fail
  exact bodyPost_ret (v := .agg #[.string x.nm, .int .i64 x.nx, .slice C9 n9 c9, .slice A5 n5 c5, .slice A6 n6 c6]) (by simp [results, Tryz.results137, go_sem, F, NE]) rfl
    ⟨⟨x.nm, x.nx, C9, n9, c9, A5, n5, c5, A6, n6, c6, x.li, l7, l8⟩, rfl, by simp only [Ue.ud, p3, q3], ⟨by rw [HN9.out]; exact HG.out.i, HB5.out, HB6.out, ⟨hcap.1, hcap.2.1⟩, ⟨p1, p2⟩, ⟨q1, q2⟩, HG.out.li, p4, q4⟩, r0, KN.below⟩
set_option maxHeartbeats 4000000 in
set_option maxRecDepth 100000 in
theorem scopylog_any (M : Nat → Prop) (w : World) (hM : ∀ b, M b → b < w.heap.size) (A : Option Addr) (n c : Nat) (N K : Nat) (hN : N ≤ 1000000) (hK : K ≤ 4398046511104) (l : List Ue) (hok : ∀ x ∈ l, x.good N K) (hD : Ro w M (UesIn A n l)) (hn : n ≤ 1000000) :
    Calls Tryz.prog 67 #[.slice A n c] w fun e w' => UesOwn w M N K (l.map Ue.ud) e w' := by
  have HL := hid hD.now.len
  have HOK := hid hok
  clear hok
  have K0 := (((Hold.start M w hM).add (hD.less (by simp [Mut]))).add (ueVals_nil _ _)).nil 129 5
  clear hD
  go_enter Tryz.func67, Tryz.ntmps67
  go_wp2_with fail
  go_loopw [3, 8] (fun ov iv wr => ∃ (j cap : Nat) (O : Option Addr) (outs : List Ue), j ≤ n ∧ iv = .int .i64 j ∧ ov = .slice O j cap ∧ Hid (UeStep N K outs l j) ∧ Hold M none w wr [.own 129 5 (.slice O j cap) j (ueCells outs), .ro (UeVals outs), .ro (UesIn A n l)]) (fun _ iv _ => n - (intOf iv).toNat)
  case atStart => exact ⟨0, 0, none, [], by omega, rfl, rfl, hid ⟨rfl, fun r hr => nomatch hr⟩, K0⟩
  case round =>
    clear K0
    obtain ⟨j, cap, O, outs, hj, rfl, rfl, HW, H⟩ := hrel
    by_cases hlt : j < n
    · have hd : decide ((j : Int) < (n : Int)) = true := by simp; omega
      have j0 : (0 : Int) ≤ (j : Int) := by omega
      have j1 : (j : Int) < (n : Int) := by omega
      obtain ⟨x, hx⟩ := get_of HL.out hlt
      obtain ⟨g, o, rfl, hb, c0, c1, c2, c3, c4, -⟩ := (H.ro 2 rfl).now.at_ hx
      have HXO := hid (HOK.out x (List.mem_of_getElem? hx))
      have HXM := hid (List.mem_of_getElem? hx)
      have HXG := hid hx
      clear hx
      have K1 := H.alloc_cst #[.string x.nm, .int .i64 x.nx, .slice x.I x.ni x.ci, .slice x.D x.nd x.cd, .slice x.U x.nu x.cu] 129
      have FA := K1.facts
      simp only [factsL, cellsF, Nat.reduceAdd, zf, zl] at FA
      clear H
      go_wp2_with fail
      refine (sundo_any _ _ K1.mutLt x N K HXO.out hN hK ((K1.ro 3 rfl).imp fun w2 h2 => h2.2 x HXM.out)).mono ?_
      rintro e w5 ⟨y, rfl, hy, hyo, ry, b5⟩
      have hv : y.val = .agg #[.string y.nm, .int .i64 y.nx, .slice y.I y.ni y.ci, .slice y.D y.nd y.cd, .slice y.U y.nu y.cu] := rfl
      rw [hv]
      clear hv
      have K2 := (K1.call b5).add ry
      have HS2 := hid (show UeStep N K (outs ++ [y]) l (j + 1) from ⟨by rw [List.map_append, HW.out.1, List.take_add_one, HXG.out, List.map_append]; exact congrArg _ (congrArg (fun z => [z]) hy), fun z hz => by
        rcases List.mem_append.1 hz with hz | hz
        · exact HW.out.2 z hz
        · simp at hz; subst hz; exact hyo⟩)
      clear b5 ry K1 FA hy hyo
      go_wp2_with (at_builtin; go_must (refine wpList_appH K2 2 rfl Tryz.elUe #[.string y.nm, .int .i64 y.nx, .slice y.I y.ni y.ci, .slice y.D y.nd y.cd, .slice y.U y.nu y.cu] rfl (.tmp 12) (.tmp 15) rfl rfl _ (by first | rfl | simp) rfl rfl (by intro u hu; simp at hu; rcases hu with rfl | rfl | rfl | rfl | rfl <;> rfl) (by omega) (by omega) ?_); intro g9 cap9 w9 hc9 hm9 KB; simp only [List.set_cons_zero, List.set_cons_succ] at KB)
      have e9 : ueCells outs ++ (#[.string y.nm, .int .i64 y.nx, .slice y.I y.ni y.ci, .slice y.D y.nd y.cd, .slice y.U y.nu y.cu]).toList = ueCells (outs ++ [y]) := (ueCells_snoc outs y).symm
      rw [e9] at KB
      have KC := (KB.swapRo 3 rfl (ueVals_snoc (r := y) (KB.ro 3 rfl) (KB.ro 0 rfl))).drop (List.Sublist.cons _ (List.sublist_cons_self _ _))
      go_roundw
      case rel => exact ⟨j + 1, cap9, _, _, by omega, by go_num, by first | rfl | trivial, HS2, KC⟩
      case measure => simp [intOf]; omega
    · obtain rfl : n = j := by omega
      have hd : decide ((n : Int) < (n : Int)) = false := by simp
      have hcap := own_caps (H.get 0 rfl)
      have HW2 := hid (show outs.map Ue.ud = l.map Ue.ud by have h := HW.out.1; rwa [List.take_of_length_le (by rw [HL.out]; exact Nat.le_refl _)] at h)
      have HO := hid (H.get 0 rfl)
      have HR := hid ((H.ro 1 rfl).less (fun b hb => mut_one hb))
      have HB := hid H.below
      clear H hcap
      go_wp2_with fail
      go_ret
      exact ⟨O, n, cap, outs, rfl, HW2.out, HW.out.2, HO.out, HR.out, HB.out⟩
end Go.Proofs.YtedogodccblfeaaGreatDoor

namespace Go.Proofs.YtedogodccblfeaaGreatDoor
open Go.RowKit
set_option linter.unusedVariables false
set_option linter.unusedSimpArgs false

def nm3 (k : Nat) : ByteArray := if k = 0 then nmLog else if k = 1 then nmT else nmU
def cs3 (k : Nat) : List Col := if k = 0 then logCols else if k = 1 then tCols else uCols
/-- the first tables of a store drawn -/
structure Sto3 (N k : Nat) (outs : List Te) : Prop where
  len : outs.length = k
  ok : ∀ x ∈ outs, x.ok ∧ VTab x.tb ∧ x.tb.rs.length ≤ N
  at_ : ∀ (j : Nat) (x : Te), outs[j]? = some x → x.tb.nm = nm3 j ∧ x.tb.cs = cs3 j
theorem Sto3.zero (N : Nat) : Sto3 N 0 [] := ⟨rfl, fun x hx => (nomatch hx), fun j x h => by simp at h⟩
theorem Sto3.next {N k : Nat} {outs : List Te} {y : Te} (h : Sto3 N k outs) (h1 : y.ok) (h2 : VTab y.tb) (h3 : y.tb.rs.length ≤ N) (h4 : y.tb.nm = nm3 k) (h5 : y.tb.cs = cs3 k) : Sto3 N (k + 1) (outs ++ [y]) := by
  refine ⟨by simp [h.len], fun x hx => ?_, fun j x hx => ?_⟩
  · rcases List.mem_append.1 hx with hx | hx
    · exact h.ok x hx
    · simp at hx; subst hx; exact ⟨h1, h2, h3⟩
  · rw [List.getElem?_append] at hx
    split at hx
    · exact h.at_ j x hx
    · rename_i hj
      have hk := h.len
      obtain rfl : j = k := by
        have := (List.getElem?_eq_some_iff.1 hx).1
        simp at this; omega
      rw [hk] at hx
      simp at hx
      subst hx
      exact ⟨h4, h5⟩
def StoRet (w : World) (T : Nat) (M : Nat → Prop) (N : Nat) (e : Ending) (w' : World) : Prop :=
  ∃ (A : Option Addr) (c : Nat) (l : List Te), e = .returned (.slice A 3 c) ∧ 3 ≤ c ∧ c ≤ 9223372036854775807 ∧ Sto3 N 3 l ∧ Ro w' M (TesIn A 3 l) ∧ Tp w' T ∧ w.grownBy w' (some T)
set_option maxHeartbeats 8000000 in
set_option maxRecDepth 100000 in
theorem tstore_any (M : Nat → Prop) (T : Nat) (w : World) (hM : ∀ b, M b → b < w.heap.size) (ht : Tp w T) (hMT : ∀ b, M b → T ≤ b) (N : Nat) (hN : N ≤ 50) (hW : Ro w (Mut M [.tp T]) Wds) (hw : 2 < T) :
    Calls Tryz.prog 16 #[.pointer (some ⟨T, 0, none⟩), .int .i64 N] w fun e w' => StoRet w T M N e w' := by
  have K0 := (Hold.startT M w T hM ht hMT).add hW
  clear hW
  go_enter Tryz.func16, Tryz.ntmps16
  go_wp2_with fail
  refine (schemas_any _ _ K0.mutLt).mono ?_
  rintro e w1 ⟨g, g0, g1, g2, nl, nt, nu, hnl, hnt, hnu, rfl, b1, r0, r1, r2, r3⟩
  have HNL := hid (And.intro hnl (And.intro hnt hnu))
  have K1 := ((((((K0.call b1).add r3).add (r2.less (by simp [Mut, Hp.foot]))).add (r1.less (by simp [Mut, Hp.foot]))).add (r0.less (by simp [Mut, Hp.foot]))).add (teVals_nil _ _)).nil 58 4
  clear K0 b1 r0 r1 r2 r3 hnl hnt hnu
  go_wp2_with fail
  go_loopw [5, 10] (fun ov iv wr => ∃ (k cap : Nat) (O : Option Addr) (outs : List Te), k ≤ 3 ∧ iv = .int .i64 k ∧ ov = .slice O k cap ∧ Hid (Sto3 N k outs) ∧ Hold M (some T) w wr [.own 58 4 (.slice O k cap) k (teCells outs), .ro (TeVals outs), .ro (fun w => w.heap[g]? = some (.cells #[.string nl, .slice (some ⟨g0, 0, none⟩) 2 2, .string nt, .slice (some ⟨g1, 0, none⟩) 4 4, .string nu, .slice (some ⟨g2, 0, none⟩) 3 3] 49 (0, 0))), .ro (ColsIn (some ⟨g0, 0, none⟩) 2 logCols), .ro (ColsIn (some ⟨g1, 0, none⟩) 4 tCols), .ro (ColsIn (some ⟨g2, 0, none⟩) 3 uCols), .ro Wds, .tp T]) (fun _ iv _ => 3 - (intOf iv).toNat)
  case atStart => exact ⟨0, 0, none, [], by omega, rfl, rfl, hid (Sto3.zero N), K1⟩
  case round =>
    clear K1
    obtain ⟨k, cap, O, outs, hk, rfl, rfl, HS, H⟩ := hrel
    by_cases hlt : k < 3
    · have hd : decide ((k : Int) < 3) = true := by simp; omega
      have hblk := (H.ro 2 rfl).now
      have hgl := Blk.lt hblk
      obtain rfl | rfl | rfl : k = 0 ∨ k = 1 ∨ k = 2 := by omega
      · have c0 := cell_of_row _ _ 0 _ _ _ hblk
        have c1 := cell_of_row _ _ 1 _ _ _ hblk
        clear hblk
        have K1 := H.alloc_cst #[.string nl, .slice (some ⟨g0, 0, none⟩) 2 2] 49
        have F1 := K1.facts
        simp only [factsL, cellsF, Nat.reduceAdd, zf, zl] at F1
        clear H
        go_wp2_with fail
        refine (tof_slot (Mut M _) T _ K1.mutLt (K1.tp_ 8 rfl) (K1.get 8 rfl).2 nl (some ⟨g0, 0, none⟩) 2 2 logCols N ((K1.ro 4 rfl).less (mut_tp (i := 8) rfl)) (by omega) (by omega) (by rw [HNL.out.1]; exact schOk_of (by decide +kernel)) ((K1.ro 7 rfl).less (mut_tp (i := 8) rfl)) hw hN).mono ?_
        rintro e w5 ⟨v, t, rfl, hT, hv, hn1, hc1, hr1, t5, g5⟩
        obtain ⟨y, rfl, hy, hyo, ry⟩ := tb_te hT
        have hyv : y.val = .agg #[.string y.nm, .slice y.A y.n y.c, .int .i64 y.nx, .slice y.B y.m y.d] := rfl
        rw [hyv]
        clear hyv
        have K2 := (Hold.callT K1 8 rfl g5 t5).add ry
        have HY := hid (show y.ok ∧ VTab y.tb ∧ y.tb.rs.length ≤ N ∧ y.tb.nm = nl ∧ y.tb.cs = logCols from ⟨hyo, by rw [hy]; exact hv, by rw [hy]; exact hr1, by rw [hy]; exact hn1, by rw [hy]; exact hc1⟩)
        clear K1 F1 hT hv hn1 hc1 hr1 t5 g5 hy hyo ry
        go_wp2_with (at_builtin; go_must (refine wpList_appH K2 2 rfl Tryz.elTe #[.string y.nm, .slice y.A y.n y.c, .int .i64 y.nx, .slice y.B y.m y.d] rfl (.tmp 14) (.tmp 19) rfl rfl _ (by first | rfl | simp) rfl rfl (by intro u hu; simp at hu; rcases hu with rfl | rfl | rfl | rfl <;> rfl) (by omega) (by omega) ?_); intro g9 cap9 w9 hc9 hm9 KB; simp only [List.set_cons_zero, List.set_cons_succ] at KB)
        have e9 : teCells outs ++ (#[.string y.nm, .slice y.A y.n y.c, .int .i64 y.nx, .slice y.B y.m y.d]).toList = teCells (outs ++ [y]) := (teCells_snoc outs y).symm
        rw [e9] at KB
        have KC := (KB.swapRo 3 rfl (teVals_snoc (r := y) (KB.ro 3 rfl) (KB.ro 0 rfl))).drop (List.Sublist.cons _ (List.sublist_cons_self _ _))
        have HS2 := hid (HS.out.next HY.out.1 HY.out.2.1 HY.out.2.2.1 (show y.tb.nm = nm3 0 from HY.out.2.2.2.1.trans HNL.out.1) (show y.tb.cs = cs3 0 from HY.out.2.2.2.2))
        go_roundw
        case rel => exact ⟨1, cap9, _, _, by omega, by go_num, by first | rfl | trivial, HS2, KC⟩
        case measure => simp [intOf]
      · have c0 := cell_of_row _ _ 2 _ _ _ hblk
        have c1 := cell_of_row _ _ 3 _ _ _ hblk
        clear hblk
        have K1 := H.alloc_cst #[.string nt, .slice (some ⟨g1, 0, none⟩) 4 4] 49
        have F1 := K1.facts
        simp only [factsL, cellsF, Nat.reduceAdd, zf, zl] at F1
        clear H
        go_wp2_with fail
        refine (tof_slot (Mut M _) T _ K1.mutLt (K1.tp_ 8 rfl) (K1.get 8 rfl).2 nt (some ⟨g1, 0, none⟩) 4 4 tCols N ((K1.ro 5 rfl).less (mut_tp (i := 8) rfl)) (by omega) (by omega) (by rw [HNL.out.2.1]; exact schOk_of (by decide +kernel)) ((K1.ro 7 rfl).less (mut_tp (i := 8) rfl)) hw hN).mono ?_
        rintro e w5 ⟨v, t, rfl, hT, hv, hn1, hc1, hr1, t5, g5⟩
        obtain ⟨y, rfl, hy, hyo, ry⟩ := tb_te hT
        have hyv : y.val = .agg #[.string y.nm, .slice y.A y.n y.c, .int .i64 y.nx, .slice y.B y.m y.d] := rfl
        rw [hyv]
        clear hyv
        have K2 := (Hold.callT K1 8 rfl g5 t5).add ry
        have HY := hid (show y.ok ∧ VTab y.tb ∧ y.tb.rs.length ≤ N ∧ y.tb.nm = nt ∧ y.tb.cs = tCols from ⟨hyo, by rw [hy]; exact hv, by rw [hy]; exact hr1, by rw [hy]; exact hn1, by rw [hy]; exact hc1⟩)
        clear K1 F1 hT hv hn1 hc1 hr1 t5 g5 hy hyo ry
        go_wp2_with (at_builtin; go_must (refine wpList_appH K2 2 rfl Tryz.elTe #[.string y.nm, .slice y.A y.n y.c, .int .i64 y.nx, .slice y.B y.m y.d] rfl (.tmp 14) (.tmp 19) rfl rfl _ (by first | rfl | simp) rfl rfl (by intro u hu; simp at hu; rcases hu with rfl | rfl | rfl | rfl <;> rfl) (by omega) (by omega) ?_); intro g9 cap9 w9 hc9 hm9 KB; simp only [List.set_cons_zero, List.set_cons_succ] at KB)
        have e9 : teCells outs ++ (#[.string y.nm, .slice y.A y.n y.c, .int .i64 y.nx, .slice y.B y.m y.d]).toList = teCells (outs ++ [y]) := (teCells_snoc outs y).symm
        rw [e9] at KB
        have KC := (KB.swapRo 3 rfl (teVals_snoc (r := y) (KB.ro 3 rfl) (KB.ro 0 rfl))).drop (List.Sublist.cons _ (List.sublist_cons_self _ _))
        have HS2 := hid (HS.out.next HY.out.1 HY.out.2.1 HY.out.2.2.1 (show y.tb.nm = nm3 1 from HY.out.2.2.2.1.trans HNL.out.2.1) (show y.tb.cs = cs3 1 from HY.out.2.2.2.2))
        go_roundw
        case rel => exact ⟨2, cap9, _, _, by omega, by go_num, by first | rfl | trivial, HS2, KC⟩
        case measure => simp [intOf]
      · have c0 := cell_of_row _ _ 4 _ _ _ hblk
        have c1 := cell_of_row _ _ 5 _ _ _ hblk
        clear hblk
        have K1 := H.alloc_cst #[.string nu, .slice (some ⟨g2, 0, none⟩) 3 3] 49
        have F1 := K1.facts
        simp only [factsL, cellsF, Nat.reduceAdd, zf, zl] at F1
        clear H
        go_wp2_with fail
        refine (tof_slot (Mut M _) T _ K1.mutLt (K1.tp_ 8 rfl) (K1.get 8 rfl).2 nu (some ⟨g2, 0, none⟩) 3 3 uCols N ((K1.ro 6 rfl).less (mut_tp (i := 8) rfl)) (by omega) (by omega) (by rw [HNL.out.2.2]; exact schOk_of (by decide +kernel)) ((K1.ro 7 rfl).less (mut_tp (i := 8) rfl)) hw hN).mono ?_
        rintro e w5 ⟨v, t, rfl, hT, hv, hn1, hc1, hr1, t5, g5⟩
        obtain ⟨y, rfl, hy, hyo, ry⟩ := tb_te hT
        have hyv : y.val = .agg #[.string y.nm, .slice y.A y.n y.c, .int .i64 y.nx, .slice y.B y.m y.d] := rfl
        rw [hyv]
        clear hyv
        have K2 := (Hold.callT K1 8 rfl g5 t5).add ry
        have HY := hid (show y.ok ∧ VTab y.tb ∧ y.tb.rs.length ≤ N ∧ y.tb.nm = nu ∧ y.tb.cs = uCols from ⟨hyo, by rw [hy]; exact hv, by rw [hy]; exact hr1, by rw [hy]; exact hn1, by rw [hy]; exact hc1⟩)
        clear K1 F1 hT hv hn1 hc1 hr1 t5 g5 hy hyo ry
        go_wp2_with (at_builtin; go_must (refine wpList_appH K2 2 rfl Tryz.elTe #[.string y.nm, .slice y.A y.n y.c, .int .i64 y.nx, .slice y.B y.m y.d] rfl (.tmp 14) (.tmp 19) rfl rfl _ (by first | rfl | simp) rfl rfl (by intro u hu; simp at hu; rcases hu with rfl | rfl | rfl | rfl <;> rfl) (by omega) (by omega) ?_); intro g9 cap9 w9 hc9 hm9 KB; simp only [List.set_cons_zero, List.set_cons_succ] at KB)
        have e9 : teCells outs ++ (#[.string y.nm, .slice y.A y.n y.c, .int .i64 y.nx, .slice y.B y.m y.d]).toList = teCells (outs ++ [y]) := (teCells_snoc outs y).symm
        rw [e9] at KB
        have KC := (KB.swapRo 3 rfl (teVals_snoc (r := y) (KB.ro 3 rfl) (KB.ro 0 rfl))).drop (List.Sublist.cons _ (List.sublist_cons_self _ _))
        have HS2 := hid (HS.out.next HY.out.1 HY.out.2.1 HY.out.2.2.1 (show y.tb.nm = nm3 2 from HY.out.2.2.2.1.trans HNL.out.2.2) (show y.tb.cs = cs3 2 from HY.out.2.2.2.2))
        go_roundw
        case rel => exact ⟨3, cap9, _, _, by omega, by go_num, by first | rfl | trivial, HS2, KC⟩
        case measure => simp [intOf]
    · obtain rfl : k = 3 := by omega
      have hd : decide (((3 : Nat) : Int) < 3) = false := by decide
      have hcap := own_caps (H.get 0 rfl)
      have KS := H.sealRow 0 rfl
      simp only [List.set_cons_zero] at KS
      have r1 := (KS.roOut 0 rfl).and (KS.roOut 1 rfl)
      have ht9 := KS.tp_ 7 rfl
      have HG := hid KS.grow
      clear H
      go_wp2_with fail
      go_ret
      exact ⟨O, cap, outs, rfl, hcap.1, hcap.2.1, HS.out, r1, ht9, HG.out⟩
end Go.Proofs.YtedogodccblfeaaGreatDoor

namespace Go.Proofs.YtedogodccblfeaaGreatDoor
open Go.RowKit
set_option linter.unusedVariables false
set_option linter.unusedSimpArgs false

/-- the place of the first table with a name -/
def findT (l : List Tb) (s : ByteArray) : Int := findB (fun t => t.nm.toList == s.toList) l
/-- a step from table a to table b, recorded as u -/
structure StepU (u : Ud) (a b : Tb) : Prop where
  rec_ : u = recD a b
  va : VTab a
  vb : VTab b
  later : LaterOk a b
  la : a.rs.length ≤ 19
/-- the entries (the last first) lead from S back to S0 -/
def BackR : List Ud → List Tb → List Tb → Prop
  | [], S, S0 => S = S0
  | u :: r, S, S0 => ∃ (k : Nat) (a b : Tb), S[k]? = some b ∧ findT S u.nm = (k : Int) ∧ StepU u a b ∧ BackR r (S.set k a) S0
theorem StepU.asc_a {u : Ud} {a b : Tb} (h : StepU u a b) : (a.rs.map (·.1)).Pairwise (· < ·) := (okR_asc (tabB_ok h.va.val).2.2.2.2.1).1
theorem StepU.asc_b {u : Ud} {a b : Tb} (h : StepU u a b) : (b.rs.map (·.1)).Pairwise (· < ·) := (okR_asc (tabB_ok h.vb.val).2.2.2.2.1).1
/-- names that stand once are found at their place -/
theorem findT_at {S : List Tb} (h : (S.map Tb.nm).Nodup) {k : Nat} {t : Tb} (hk : S[k]? = some t) : findT S t.nm = (k : Int) := by
  have key : ∀ (l : List Tb) (i k : Nat), (l.map Tb.nm).Nodup → l[k]? = some t → findFrom (fun x : Tb => x.nm.toList == t.nm.toList) i l = ((i + k : Nat) : Int) := by
    intro l
    induction l with
    | nil => intro i k _ h; simp at h
    | cons y l ih =>
      intro i k hn hk
      rw [List.map_cons, List.nodup_cons] at hn
      rcases k with _ | k
      · simp only [List.getElem?_cons_zero, Option.some.injEq] at hk
        subst hk
        rw [findFrom, if_pos (by simp)]; rfl
      · simp only [List.getElem?_cons_succ] at hk
        have hne : (y.nm.toList == t.nm.toList) = false := by
          rw [beq_eq_false_iff_ne]
          intro e
          have e2 : y.nm = t.nm := Go.WideShapes.bytes_inj (by rw [← ByteArray.toList_eq, ← ByteArray.toList_eq]; exact e)
          exact hn.1 (e2 ▸ List.mem_map_of_mem (List.mem_of_getElem? hk))
        rw [findFrom, hne, if_neg (by simp), ih (i + 1) k hn.2 hk]
        congr 1; omega
  have := key S 0 k h hk
  rw [Nat.zero_add] at this
  exact this
end Go.Proofs.YtedogodccblfeaaGreatDoor

namespace Go.Proofs.YtedogodccblfeaaGreatDoor
open Go.RowKit
set_option linter.unusedVariables false
set_option linter.unusedSimpArgs false

def pickW (lu : List Rw) (r : Rw) : Rw := (lu.find? fun z => decide (z.id = r.id)).getD r
def leftW (li : List Int) (lu l : List Rw) : List Rw := (l.filter fun r => !li.contains r.id).map (pickW lu)
theorem leftW_take {li : List Int} {lu l : List Rw} {k : Nat} {r : Rw} (hr : l[k]? = some r) : leftW li lu (l.take (k + 1)) = leftW li lu (l.take k) ++ (if li.contains r.id then [] else [pickW lu r]) := by
  unfold leftW
  rw [List.take_add_one, hr, Option.toList_some, List.filter_append, List.map_append]
  cases h : li.contains r.id
  · rw [List.filter_cons, h]; simp
  · rw [List.filter_cons, h]; simp
theorem pickW_none {lu : List Rw} {r : Rw} (h : ∀ z ∈ lu, decide (z.id = r.id) = false) : pickW lu r = r := by
  unfold pickW
  rw [List.find?_eq_none.2 (fun z hz => by rw [h z hz]; simp)]; rfl
theorem pickW_some {lu : List Rw} {r z : Rw} {k : Nat} (hz : lu[k]? = some z) (he : decide (z.id = r.id) = true) (hl : ∀ (j : Nat) (x : Rw), j < k → lu[j]? = some x → decide (x.id = r.id) = false) : pickW lu r = z := by
  unfold pickW
  have hk : k < lu.length := (List.getElem?_eq_some_iff.1 hz).1
  have hf : lu.find? (fun z => decide (z.id = r.id)) = some z := List.find?_eq_some_iff_getElem.2 ⟨he, k, hk, (List.getElem?_eq_some_iff.1 hz).2, fun j hj => by
    have := hl j lu[j] hj (List.getElem?_eq_getElem (by omega))
    simpa using this⟩
  rw [hf]; rfl
theorem pickW_mem {lu : List Rw} {r : Rw} : pickW lu r = r ∨ pickW lu r ∈ lu := by
  unfold pickW
  cases h : lu.find? fun z => decide (z.id = r.id) with
  | none => exact .inl rfl
  | some z => exact .inr (List.mem_of_find?_eq_some h)
theorem pickW_row (lu : List Rw) (r : Rw) : (pickW lu r).row = (r.id, (getR (lu.map Rw.row) r.id).getD r.vs) := by
  have hg : getR (lu.map Rw.row) r.id = (lu.find? fun z => decide (z.id = r.id)).map Rw.vs := by
    unfold getR
    have e : ((fun p : Row => p.1 == r.id) ∘ Rw.row) = fun z : Rw => decide (z.id = r.id) := by
      funext z
      show (z.id == r.id) = decide (z.id = r.id)
      by_cases h : z.id = r.id <;> simp [h]
    rw [List.find?_map, Option.map_map, e]
    rfl
  rw [hg]
  unfold pickW
  cases h : lu.find? fun z => decide (z.id = r.id) with
  | none => rfl
  | some z =>
    have := List.find?_some h
    have e : z.id = r.id := by simpa using this
    show (z.id, z.vs) = (r.id, z.vs)
    rw [e]
theorem leftW_row (nm : ByteArray) (nx : Int) (li : List Int) (d : List Row) (lu l : List Rw) : (leftW li lu l).map Rw.row = leftU ⟨nm, nx, li, d, lu.map Rw.row⟩ (l.map Rw.row) := by
  unfold leftW leftU
  rw [List.map_map, List.filter_map, List.map_map]
  have e1 : ((fun r : Row => !li.contains r.1) ∘ Rw.row) = fun r : Rw => !li.contains r.id := rfl
  rw [e1]
  apply List.map_congr_left
  intro r _
  exact pickW_row lu r
theorem leftW_mem {li : List Int} {lu l : List Rw} {r : Rw} (h : r ∈ leftW li lu l) : r ∈ l ∨ r ∈ lu := by
  obtain ⟨z, hz, rfl⟩ := List.mem_map.1 h
  rcases pickW_mem (lu := lu) (r := z) with h | h
  · rw [h]; exact .inl (List.mem_filter.1 hz).1
  · exact .inr h
/-- an entry that can be undone at rows l, and what comes of it -/
structure UndOk (l : List Rw) (li : List Int) (ld lu : List Rw) (rs : List Row) : Prop where
  nd : (li ++ lu.map Rw.id ++ ld.map Rw.id).Nodup
  inn : ∀ y ∈ li ++ lu.map Rw.id, (l.map Rw.id).contains y = true
  out : ∀ y ∈ ld.map Rw.id, (l.map Rw.id).contains y = false
  len : (leftW li lu l ++ ld).length ≤ 19
  fin : ∀ lo : List Rw, lo.Perm (leftW li lu l ++ ld) → (lo.map Rw.id).Pairwise (· ≤ ·) → lo.map Rw.row = rs
theorem undOk_of {u : Ue} {x : Te} {a : Tb} (h : StepU u.ud a x.tb) : UndOk x.l u.li u.ld u.lu a.rs := by
  have ha := h.asc_a
  have hb := h.asc_b
  have hr := h.rec_
  have i1 : u.li = (recD a x.tb).ins := congrArg Ud.ins hr
  have i2 : u.ld.map Rw.row = (recD a x.tb).del := congrArg Ud.del hr
  have i3 : u.lu.map Rw.row = (recD a x.tb).upd := congrArg Ud.upd hr
  have j2 : u.ld.map Rw.id = (recD a x.tb).del.map (·.1) := by rw [← i2, List.map_map]; rfl
  have j3 : u.lu.map Rw.id = (recD a x.tb).upd.map (·.1) := by rw [← i3, List.map_map]; rfl
  have jl : x.l.map Rw.id = x.tb.rs.map (·.1) := by show _ = (x.l.map Rw.row).map _; rw [List.map_map]; rfl
  have hrow : (leftW u.li u.lu x.l ++ u.ld).map Rw.row = leftU (recD a x.tb) x.tb.rs ++ (recD a x.tb).del := by
    rw [List.map_append, leftW_row u.nm u.nx u.li (u.ld.map Rw.row) u.lu x.l, i2]
    rw [show (⟨u.nm, u.nx, u.li, (recD a x.tb).del, u.lu.map Rw.row⟩ : Ud) = recD a x.tb from by rw [← i2]; exact hr]
    rfl
  refine ⟨?_, fun y hy => ?_, fun y hy => ?_, ?_, fun lo hp hs => ?_⟩
  · rw [i1, j2, j3]; exact rec_nodup ha hb
  · rw [i1, j3] at hy
    have := rec_in (a := a) (b := x.tb) y hy
    rw [jl]; simpa using this
  · rw [j2] at hy
    have := rec_out (a := a) (b := x.tb) y hy
    rw [jl]; simpa using this
  · have := congrArg List.length hrow
    rw [List.length_map] at this
    rw [this, rec_left_len ha hb]; exact h.la
  · refine rec_back ha hb ?_ ?_
    · rw [← hrow]; exact hp.map _
    · rw [List.map_map]; exact hs
end Go.Proofs.YtedogodccblfeaaGreatDoor

namespace Go.Proofs.YtedogodccblfeaaGreatDoor
open Go.RowKit
set_option linter.unusedVariables false
set_option linter.unusedSimpArgs false

theorem sametb_any (w : World) (x y : Te) (hx : TeIn x w) (hy : TeIn y w) (hn : x.n ≤ 4398046511104 ∧ x.m ≤ 4398046511104 ∧ ∀ q ∈ x.l, q.n ≤ 4398046511104) :
    Calls Tryz.prog 69 #[.agg #[.string x.nm, .slice x.A x.n x.c, .int .i64 x.nx, .slice x.B x.m x.d], .agg #[.string y.nm, .slice y.A y.n y.c, .int .i64 y.nx, .slice y.B y.m y.d]] w fun e w' => e = .returned (.bool (decide (x.tb = y.tb))) ∧ Below w.heap.size w w' :=
  sametable_any w x.nm x.A x.n x.c x.cs x.nx x.B x.m x.d x.l y.nm y.A y.n y.c y.cs y.nx y.B y.m y.d y.l hx.1 hy.1 hx.2 hy.2 hn.1 hn.2.1 hn.2.2
set_option maxHeartbeats 4000000 in
set_option maxRecDepth 100000 in
theorem eqTables_any (M : Nat → Prop) (w : World) (hM : ∀ b, M b → b < w.heap.size) (A : Option Addr) (n c : Nat) (xs : List Te) (B : Option Addr) (m d : Nat) (ys : List Te) (hD : Ro w M (TesIn A n xs)) (hE : Ro w M (TesIn B m ys)) (hn : n ≤ 4398046511204) (hr : ∀ r ∈ xs, r.n ≤ 4398046511104 ∧ r.m ≤ 4398046511104 ∧ ∀ q ∈ r.l, q.n ≤ 4398046511104) (hs : ∀ r ∈ ys, r.n ≤ 4398046511104 ∧ r.m ≤ 4398046511104 ∧ ∀ q ∈ r.l, q.n ≤ 4398046511104) :
    Calls Tryz.prog 68 #[.slice A n c, .slice B m d, .func (.func 69) #[] #[]] w fun e w' => e = .returned (.bool (decide (xs.map Te.tb = ys.map Te.tb))) ∧ Below w.heap.size w w' := by
  have HL := hid hD.now.len
  have HK := hid hE.now.len
  by_cases hnm : n = m
  · subst hnm
    have hb : ((n : Int) != (n : Int)) = false := by simp
    have K0 := ((Hold.start M w hM).add (hE.less (by simp [Mut]))).add (hD.less (by simp [Mut, Hp.foot]))
    clear hD hE
    go_enter Tryz.func68, Tryz.ntmps68
    go_wp2_with fail
    go_loopw [17] (fun i wr => ∃ (k : Nat), k ≤ n ∧ i = .int .i64 k ∧ Hid ((xs.map Te.tb).take k = (ys.map Te.tb).take k) ∧ Hold M none w wr [.ro (TesIn A n xs), .ro (TesIn B n ys)]) (fun i _ => n - (intOf i).toNat)
    case atStart => exact ⟨0, by omega, rfl, hid (by simp), K0⟩
    case round =>
      clear K0
      obtain ⟨k, hk, rfl, HTK, H⟩ := hrel
      by_cases hlt : k < n
      · have hd : decide ((k : Int) < (n : Int)) = true := by simp; omega
        have i0 : (0 : Int) ≤ (k : Int) := by omega
        have i1 : (k : Int) < (n : Int) := by omega
        obtain ⟨x, hx⟩ := get_of HL.out hlt
        obtain ⟨y, hy⟩ := get_of HK.out hlt
        have HXN := hid (hr x (List.mem_of_getElem? hx))
        have HYN := hid (hs y (List.mem_of_getElem? hy))
        have HX := hid (show (xs.map Te.tb)[k]? = some (Te.tb x) by simp [hx])
        have HY := hid (show (ys.map Te.tb)[k]? = some (Te.tb y) by simp [hy])
        have HXM := hid (List.mem_of_getElem? hx)
        have HYM := hid (List.mem_of_getElem? hy)
        obtain ⟨g, o, rfl, hbx, x0, x1, x2, x3, -⟩ := (H.ro 0 rfl).now.at_ hx
        obtain ⟨g', o', rfl, hby, y0, y1, y2, y3, -⟩ := (H.ro 1 rfl).now.at_ hy
        have K2 := (H.alloc_cst #[.string x.nm, .slice x.A x.n x.c, .int .i64 x.nx, .slice x.B x.m x.d] 58).alloc_cst #[.string y.nm, .slice y.A y.n y.c, .int .i64 y.nx, .slice y.B y.m y.d] 58
        clear hx hy H
        have FA := K2.facts
        simp only [factsL, cellsF, Nat.reduceAdd, zf, zl] at FA
        go_wp2_with fail
        refine (sametb_any _ x y ((K2.ro 2 rfl).now.2 x HXM.out) ((K2.ro 3 rfl).now.2 y HYM.out) HXN.out).mono ?_
        rintro e w3 ⟨rfl, b3⟩
        have K3 := (K2.call b3).drop (List.Sublist.cons _ (List.sublist_cons_self _ _))
        clear K2 FA b3
        by_cases hb : Te.tb x = Te.tb y
        · have HB := hid (takeEq_succ HX.out HY.out HTK.out hb)
          rw [decide_eq_true hb]
          clear hb
          go_wp2_with fail
          go_roundw
          case rel => exact ⟨k + 1, by omega, by go_num, HB, K3⟩
          case measure => simp [intOf]; omega
        · have HB := hid (beqL_no HX.out HY.out hb)
          rw [decide_eq_false hb]
          clear hb
          go_wp2_with fail
          go_ret
          exact ⟨by rw [HB.out] <;> rfl, K3.below⟩
      · obtain rfl : n = k := by omega
        have hd : decide ((n : Int) < (n : Int)) = false := by simp
        have HB := hid (show decide (xs.map Te.tb = ys.map Te.tb) = true by
          have h := HTK.out
          rw [List.take_of_length_le (by rw [List.length_map, HL.out]; exact Nat.le_refl _), List.take_of_length_le (by rw [List.length_map, HK.out]; exact Nat.le_refl _)] at h
          simp [h])
        go_wp2_with fail
        go_ret
        exact ⟨by rw [HB.out] <;> rfl, H.below⟩
  · have hb : ((n : Int) != (m : Int)) = true := by simp; omega
    have HB := hid (show decide (xs.map Te.tb = ys.map Te.tb) = false by
      rw [decide_eq_false_iff_not]; intro h; have h1 := congrArg List.length h; rw [List.length_map, List.length_map, HL.out, HK.out] at h1; exact hnm h1)
    go_enter Tryz.func68, Tryz.ntmps68
    go_wp2_with fail
    go_ret
    exact ⟨by rw [HB.out] <;> rfl, Below.refl _ _⟩
theorem sameTables_any (M : Nat → Prop) (w : World) (hM : ∀ b, M b → b < w.heap.size) (A : Option Addr) (n c : Nat) (xs : List Te) (B : Option Addr) (m d : Nat) (ys : List Te) (hD : Ro w M (TesIn A n xs)) (hE : Ro w M (TesIn B m ys)) (hn : n ≤ 4398046511204) (hr : ∀ r ∈ xs, r.n ≤ 4398046511104 ∧ r.m ≤ 4398046511104 ∧ ∀ q ∈ r.l, q.n ≤ 4398046511104) (hs : ∀ r ∈ ys, r.n ≤ 4398046511104 ∧ r.m ≤ 4398046511104 ∧ ∀ q ∈ r.l, q.n ≤ 4398046511104) :
    Calls Tryz.prog 21 #[.slice A n c, .slice B m d] w fun e w' => e = .returned (.bool (decide (xs.map Te.tb = ys.map Te.tb))) ∧ Below w.heap.size w w' := by
  have HE := hid (eqTables_any M w hM A n c xs B m d ys hD hE hn hr hs)
  clear hD hE hr hs
  go_enter Tryz.func21, Tryz.ntmps21
  go_wp2_with fail
  refine HE.out.mono ?_
  rintro e w1 ⟨rfl, b1⟩
  have HB := hid b1
  clear b1 HE
  go_wp2_with fail
  go_ret
  exact ⟨rfl, HB.out⟩
set_option maxHeartbeats 4000000 in
set_option maxRecDepth 100000 in
theorem eqDeltas_any (M : Nat → Prop) (w : World) (hM : ∀ b, M b → b < w.heap.size) (A : Option Addr) (n c : Nat) (xs : List El) (B : Option Addr) (m d : Nat) (ys : List El) (hD : Ro w M (ElsIn A n xs)) (hE : Ro w M (ElsIn B m ys)) (hn : n ≤ 4398046511204) (hr : ∀ r ∈ xs, r.good 4398046511104 4398046511104) (hs : ∀ r ∈ ys, r.good 4398046511104 4398046511104) :
    Calls Tryz.prog 84 #[.slice A n c, .slice B m d, .func (.func 85) #[] #[]] w fun e w' => e = .returned (.bool (decide (xs.map El.dl = ys.map El.dl))) ∧ Below w.heap.size w w' := by
  have HL := hid hD.now.len
  have HK := hid hE.now.len
  by_cases hnm : n = m
  · subst hnm
    have hb : ((n : Int) != (n : Int)) = false := by simp
    have K0 := ((Hold.start M w hM).add (hE.less (by simp [Mut]))).add (hD.less (by simp [Mut, Hp.foot]))
    clear hD hE
    go_enter Tryz.func84, Tryz.ntmps84
    go_wp2_with fail
    go_loopw [17] (fun i wr => ∃ (k : Nat), k ≤ n ∧ i = .int .i64 k ∧ Hid ((xs.map El.dl).take k = (ys.map El.dl).take k) ∧ Hold M none w wr [.ro (ElsIn A n xs), .ro (ElsIn B n ys)]) (fun i _ => n - (intOf i).toNat)
    case atStart => exact ⟨0, by omega, rfl, hid (by simp), K0⟩
    case round =>
      clear K0
      obtain ⟨k, hk, rfl, HTK, H⟩ := hrel
      by_cases hlt : k < n
      · have hd : decide ((k : Int) < (n : Int)) = true := by simp; omega
        have i0 : (0 : Int) ≤ (k : Int) := by omega
        have i1 : (k : Int) < (n : Int) := by omega
        obtain ⟨x, hx⟩ := get_of HL.out hlt
        obtain ⟨y, hy⟩ := get_of HK.out hlt
        have HXN := hid (hr x (List.mem_of_getElem? hx))
        have HYN := hid (hs y (List.mem_of_getElem? hy))
        have HX := hid (show (xs.map El.dl)[k]? = some (El.dl x) by simp [hx])
        have HY := hid (show (ys.map El.dl)[k]? = some (El.dl y) by simp [hy])
        have HXM := hid (List.mem_of_getElem? hx)
        have HYM := hid (List.mem_of_getElem? hy)
        obtain ⟨g, o, rfl, hbx, x0, x1, x2, x3, -⟩ := (H.ro 0 rfl).now.at_ hx
        obtain ⟨g', o', rfl, hby, y0, y1, y2, y3, -⟩ := (H.ro 1 rfl).now.at_ hy
        have K2 := (H.alloc_cst #[.string x.nm, .slice x.I x.ni x.ci, .slice x.D x.nd x.cd, .slice x.U x.nu x.cu] 44).alloc_cst #[.string y.nm, .slice y.I y.ni y.ci, .slice y.D y.nd y.cd, .slice y.U y.nu y.cu] 44
        clear hx hy H
        have FA := K2.facts
        simp only [factsL, cellsF, Nat.reduceAdd, zf, zl] at FA
        go_wp2_with fail
        refine (samedelta_any _ x.val y.val x.dl y.dl (dlAt_lessM (el_dl HXN.out ((K2.ro 2 rfl).imp fun w2 h2 => h2.2 x HXM.out)) fun b hb => hb.elim) (dlAt_lessM (el_dl HYN.out ((K2.ro 3 rfl).imp fun w2 h2 => h2.2 y HYM.out)) fun b hb => hb.elim) (el_dlShort HXN.out ((K2.ro 2 rfl).now.2 x HXM.out) (by omega) (by omega))).mono ?_
        rintro e w3 ⟨rfl, b3⟩
        have K3 := (K2.call b3).drop (List.Sublist.cons _ (List.sublist_cons_self _ _))
        clear K2 FA b3
        by_cases hb : El.dl x = El.dl y
        · have HB := hid (takeEq_succ HX.out HY.out HTK.out hb)
          rw [decide_eq_true hb]
          clear hb
          go_wp2_with fail
          go_roundw
          case rel => exact ⟨k + 1, by omega, by go_num, HB, K3⟩
          case measure => simp [intOf]; omega
        · have HB := hid (beqL_no HX.out HY.out hb)
          rw [decide_eq_false hb]
          clear hb
          go_wp2_with fail
          go_ret
          exact ⟨by rw [HB.out] <;> rfl, K3.below⟩
      · obtain rfl : n = k := by omega
        have hd : decide ((n : Int) < (n : Int)) = false := by simp
        have HB := hid (show decide (xs.map El.dl = ys.map El.dl) = true by
          have h := HTK.out
          rw [List.take_of_length_le (by rw [List.length_map, HL.out]; exact Nat.le_refl _), List.take_of_length_le (by rw [List.length_map, HK.out]; exact Nat.le_refl _)] at h
          simp [h])
        go_wp2_with fail
        go_ret
        exact ⟨by rw [HB.out] <;> rfl, H.below⟩
  · have hb : ((n : Int) != (m : Int)) = true := by simp; omega
    have HB := hid (show decide (xs.map El.dl = ys.map El.dl) = false by
      rw [decide_eq_false_iff_not]; intro h; have h1 := congrArg List.length h; rw [List.length_map, List.length_map, HL.out, HK.out] at h1; exact hnm h1)
    go_enter Tryz.func84, Tryz.ntmps84
    go_wp2_with fail
    go_ret
    exact ⟨by rw [HB.out] <;> rfl, Below.refl _ _⟩
theorem sameDeltas_any (M : Nat → Prop) (w : World) (hM : ∀ b, M b → b < w.heap.size) (A : Option Addr) (n c : Nat) (xs : List El) (B : Option Addr) (m d : Nat) (ys : List El) (hD : Ro w M (ElsIn A n xs)) (hE : Ro w M (ElsIn B m ys)) (hn : n ≤ 4398046511204) (hr : ∀ r ∈ xs, r.good 4398046511104 4398046511104) (hs : ∀ r ∈ ys, r.good 4398046511104 4398046511104) :
    Calls Tryz.prog 29 #[.slice A n c, .slice B m d] w fun e w' => e = .returned (.bool (decide (xs.map El.dl = ys.map El.dl))) ∧ Below w.heap.size w w' := by
  have HE := hid (eqDeltas_any M w hM A n c xs B m d ys hD hE hn hr hs)
  clear hD hE hr hs
  go_enter Tryz.func29, Tryz.ntmps29
  go_wp2_with fail
  refine HE.out.mono ?_
  rintro e w1 ⟨rfl, b1⟩
  have HB := hid b1
  clear b1 HE
  go_wp2_with fail
  go_ret
  exact ⟨rfl, HB.out⟩
/-- the place of the first table with a name -/
def findS (l : List Tb) (s : ByteArray) : Int := findB (fun t => t.nm.toList == s.toList) l
set_option maxHeartbeats 2000000 in
theorem stfind1_any (w : World) (x : Te) (b : Nat) (s : ByteArray) (t : TypeId) (hb : w.heap[b]? = some (.cells #[.string s] t (0, 0))) :
    Calls Tryz.prog 89 #[.agg #[.string x.nm, .slice x.A x.n x.c, .int .i64 x.nx, .slice x.B x.m x.d], .pointer (some ⟨b, 0, none⟩)] w fun e w' => e = .returned (.bool (x.nm.toList == s.toList)) ∧ Below w.heap.size w w' := by
  have hbl : b < w.heap.size := Blk.lt (t := t) (cs := #[.string s]) hb
  have K0 := ((Hold.begin_ w).addCst (g := b) (t := t) (cs := #[.string s]) (fun w2 h1 h2 => (h2 b hbl (by simp [Mut, None_])).trans hb)).alloc_cst #[.string x.nm, .slice x.A x.n x.c, .int .i64 x.nx, .slice x.B x.m x.d] 58
  have F0 := K0.facts
  simp only [factsL, cellsF, Nat.reduceAdd, zf, zl] at F0
  go_enter Tryz.func89, Tryz.ntmps89
  go_wp2_with fail
  go_ret
  exact ⟨rfl, K0.below⟩
set_option maxHeartbeats 2000000 in
set_option maxRecDepth 100000 in
theorem stfindI_any (M : Nat → Prop) (w : World) (hM : ∀ b, M b → b < w.heap.size) (A : Option Addr) (n c : Nat) (l : List Te) (b : Nat) (s : ByteArray) (t : TypeId) (hB : Ro w M (fun w => w.heap[b]? = some (.cells #[.string s] t (0, 0)))) (hD : Ro w M (TesIn A n l)) (hn : n ≤ 4611686018427387904) :
    Calls Tryz.prog 88 #[.slice A n c, .func (.func 89) #[] #[.pointer (some ⟨b, 0, none⟩)]] w fun e w' => e = .returned (.int .i64 (findS (l.map Te.tb) s)) ∧ Below w.heap.size w w' := by
  have HL := hid hD.now.len
  have K0 := (((Hold.start M w hM).add (hB.less (by simp [Mut]))).add (hD.less (by simp [Mut, Hp.foot])))
  go_enter Tryz.func88, Tryz.ntmps88
  go_wp2_with fail
  go_loopw [8] (fun iv wr => ∃ (k : Nat), k ≤ n ∧ iv = .int .i64 k ∧ Hid (findS (l.map Te.tb) s = findFrom (fun t => t.nm.toList == s.toList) k ((l.map Te.tb).drop k)) ∧ Hold M none w wr [.ro (TesIn A n l), .ro (fun w => w.heap[b]? = some (.cells #[.string s] t (0, 0)))]) (fun iv _ => n - (intOf iv).toNat)
  case atStart => exact ⟨0, by omega, rfl, hid rfl, K0⟩
  case round =>
    clear K0
    obtain ⟨k, hk, rfl, HC, H⟩ := hrel
    by_cases hlt : k < n
    · have hd : decide ((k : Int) < (n : Int)) = true := by simp; omega
      have i0 : (0 : Int) ≤ (k : Int) := by omega
      have i1 : (k : Int) < (n : Int) := by omega
      obtain ⟨x, hx⟩ := get_of HL.out hlt
      obtain ⟨g, o, rfl, hb, c0, c1, c2, c3, -⟩ := (H.ro 0 rfl).now.at_ hx
      have HX := hid (te_at hx)
      clear hx
      go_wp2_with fail
      refine (stfind1_any wr x b s t (H.ro 1 rfl).now).mono ?_
      rintro e w1 ⟨rfl, b1⟩
      have K1 := H.call b1
      clear H b1
      cases hz : (x.nm.toList == s.toList)
      · have HN := hid (find_miss HC.out HX.out hz)
        clear hz
        go_wp2_with fail
        go_roundw
        case rel => exact ⟨k + 1, by omega, by go_num, HN, K1⟩
        case measure => simp [intOf]; omega
      · have HN := hid (show findS (l.map Te.tb) s = (k : Int) from find_hit HC.out HX.out hz)
        clear hz
        go_wp2_with fail
        go_ret
        exact ⟨by rw [HN.out] <;> rfl, K1.below⟩
    · obtain rfl : n = k := by omega
      have hd : decide ((n : Int) < (n : Int)) = false := by simp
      have HN := hid (show findS (l.map Te.tb) s = -1 from find_end HC.out (by rw [List.length_map, HL.out]; exact Nat.le_refl _))
      go_wp2_with fail
      go_ret
      exact ⟨by rw [HN.out] <;> rfl, H.below⟩
set_option maxHeartbeats 2000000 in
theorem stfind_any (M : Nat → Prop) (w : World) (hM : ∀ b, M b → b < w.heap.size) (A : Option Addr) (n c : Nat) (l : List Te) (s : ByteArray) (hD : Ro w M (TesIn A n l)) (hn : n ≤ 4611686018427387904) :
    Calls Tryz.prog 35 #[.slice A n c, .string s] w fun e w' => e = .returned (.int .i64 (findS (l.map Te.tb) s)) ∧ Below w.heap.size w w' := by
  have K0 := ((Hold.start M w hM).add (hD.less (by simp [Mut]))).alloc_cst #[.string s] 9
  clear hD
  go_enter Tryz.func35, Tryz.ntmps35
  go_wp2_with fail
  refine (stfindI_any _ _ K0.mutLt A n c l w.heap.size s 9 (K0.get 0 rfl) (K0.ro 1 rfl) hn).mono ?_
  rintro e w1 ⟨rfl, b1⟩
  have K1 := K0.call b1
  clear K0 b1
  go_wp2_with fail
  go_ret
  exact ⟨rfl, K1.below⟩
end Go.Proofs.YtedogodccblfeaaGreatDoor

namespace Go.Proofs.YtedogodccblfeaaGreatDoor
open Go.RowKit
set_option linter.unusedVariables false
set_option linter.unusedSimpArgs false

theorem VTab.lim {x : Te} {w : World} (ho : x.ok) (hw : TeIn x w) (h : VTab x.tb) : x.n ≤ 100 ∧ x.m ≤ 100 ∧ ∀ r ∈ x.l, r.ok ∧ r.n ≤ 4 := by
  have h1 := h.sch.len
  have h2 := h.rows
  have l1 : x.cs.length = x.n := (RdC.of_sl hw.1).len
  have l2 : x.l.length = x.m := hw.2.len
  have e1 : x.tb.cs = x.cs := rfl
  have e2 : x.tb.rs = x.l.map Rw.row := rfl
  rw [e1] at h1
  rw [e2, List.length_map] at h2
  refine ⟨by omega, by omega, fun r hr => ⟨ho.l r hr, ?_⟩⟩
  have h3 := h.len r.row (by rw [e2]; exact List.mem_map_of_mem hr)
  have h4 : r.vs.length = r.n := (hw.2.2 r hr).len
  have h5 : r.row.2 = r.vs := rfl
  rw [h5] at h3; omega
theorem VTab.tbm {t : Tb} (h : VTab t) : TbM t :=
  ⟨h.sch.nm, h.sch.cs, by have := h.rows; omega, fun r hr => by have := h.len r hr; omega⟩
theorem VTab.ids {x : Te} (h : VTab x.tb) : ∀ r ∈ x.l, r.id ≠ 0 := fun r hr => by
  have h9 := ((okR_asc (tabB_ok h.val).2.2.2.2.1).2 r.row (List.mem_map_of_mem hr)).1
  have h10 : r.row.1 = r.id := rfl
  rw [h10] at h9; omega
theorem te_apart {w : World} {Q : Nat → Prop} {x : Te} (h : Ro w Q (TeIn x)) (hv : VTab x.tb) {ga : Nat} {t : TypeId} (hg : w.heap[ga]? = some (.cells zeroTc t (0, 0))) : Ro w (fun b => b = ga ∨ Q b) (TeIn x) :=
  (((h.imp fun w h => h.1).colsOff hg).less fun b hb => hb.elim .inr .inl).and (rws_apart (h.imp fun w h => h.2) hg hv.ids)
theorem uesIn_take {w : World} {b o n : Nat} {l : List Ue} (h : UesIn (some ⟨b, o, none⟩) n l w) {k : Nat} (hk : k ≤ n) : UesIn (some ⟨b, o, none⟩) k (l.take k) w := by
  have hl := h.len
  refine ⟨?_, fun x hx => h.2 x (List.mem_of_mem_take hx)⟩
  have h1 : Rd w w.heap.size 5 (some ⟨b, o, none⟩) n (ueCells l) := h.1
  refine ⟨by rw [ueCells_len, List.length_take, Nat.min_eq_left (by omega)], fun h0 => ?_⟩
  obtain ⟨b', o', e, hb, hc⟩ := h1.2 (by omega)
  refine ⟨b', o', e, hb, fun j u hu => hc j u ?_⟩
  have e2 : ueCells l = ueCells (l.take k) ++ ueCells (l.drop k) := by
    unfold ueCells; rw [← List.flatMap_append, List.take_append_drop]
  rw [e2, List.getElem?_append_left (List.getElem?_eq_some_iff.1 hu).1]
  exact hu
theorem back_next {lg : List Ue} {to r : Nat} {u : Ue} (h : lg[to + r]? = some u) : ((lg.drop to).take (r + 1)).reverse.map Ue.ud = u.ud :: ((lg.drop to).take r).reverse.map Ue.ud := by
  rw [List.take_add_one, List.getElem?_drop, h]; simp
end Go.Proofs.YtedogodccblfeaaGreatDoor

namespace Go.Proofs.YtedogodccblfeaaGreatDoor
open Go.RowKit
set_option linter.unusedVariables false
set_option linter.unusedSimpArgs false

/-- a store of log, t and u -/
structure StOk (S : List Tb) : Prop where
  len : S.length = 3
  at_ : ∀ (j : Nat) (t : Tb), S[j]? = some t → t.nm = nm3 j ∧ t.cs = cs3 j ∧ VTab t
theorem Sto3.st {N : Nat} {l : List Te} (h : Sto3 N 3 l) : StOk (l.map Te.tb) := by
  refine ⟨by rw [List.length_map, h.len], fun j t ht => ?_⟩
  rw [List.getElem?_map] at ht
  cases hx : l[j]? with
  | none => rw [hx] at ht; cases ht
  | some x =>
    rw [hx] at ht
    obtain rfl : x.tb = t := by simpa using ht
    exact ⟨(h.at_ j x hx).1, (h.at_ j x hx).2, (h.ok x (List.mem_of_getElem? hx)).2.1⟩
theorem StOk.set {S : List Tb} (h : StOk S) {k : Nat} {a x : Tb} (hk : S[k]? = some a) (hn : x.nm = a.nm) (hc : x.cs = a.cs) (hv : VTab x) : StOk (S.set k x) := by
  refine ⟨by rw [List.length_set, h.len], fun j t ht => ?_⟩
  rw [List.getElem?_set] at ht
  split at ht
  · rename_i hj
    subst hj
    split at ht
    · injection ht with ht
      subst ht
      exact ⟨hn.trans (h.at_ k a hk).1, hc.trans (h.at_ k a hk).2.1, hv⟩
    · cases ht
  · exact h.at_ j t ht
theorem less3 : Op.bytesLess (nm3 0).toList (nm3 1).toList = true ∧ Op.bytesLess (nm3 1).toList (nm3 2).toList = true := by decide +kernel
theorem StOk.stor {S : List Tb} (h : StOk S) : storB S = true := by
  refine storB_end h.len (by omega) ?_
  have g : ∀ j, j < 3 → ∃ t, S[j]? = some t := fun j hj => ⟨S[j]'(by rw [h.len]; exact hj), List.getElem?_eq_getElem _⟩
  obtain ⟨a, ha⟩ := g 0 (by omega)
  obtain ⟨b, hb⟩ := g 1 (by omega)
  obtain ⟨c, hc⟩ := g 2 (by omega)
  refine range_next (range_next (range_next rfl (stoOk_zero ha (h.at_ 0 a ha).2.2.val)) ?_) ?_
  · rw [stoOk_next hb ha (h.at_ 1 b hb).2.2.val, (h.at_ 0 a ha).1, (h.at_ 1 b hb).1]; exact less3.1
  · rw [stoOk_next hc hb (h.at_ 2 c hc).2.2.val, (h.at_ 1 b hb).1, (h.at_ 2 c hc).1]; exact less3.2
theorem StOk.find {S : List Tb} (h : StOk S) {k : Nat} {t : Tb} (hk : S[k]? = some t) : findT S t.nm = (k : Int) := by
  refine findT_at ?_ hk
  have hl := h.len
  match S, hl, h with
  | [a, b, c], _, h =>
    have ha := (h.at_ 0 a rfl).1
    have hb := (h.at_ 1 b rfl).1
    have hc := (h.at_ 2 c rfl).1
    simp only [List.map_cons, List.map_nil, ha, hb, hc]
    decide +kernel
end Go.Proofs.YtedogodccblfeaaGreatDoor

namespace Go.Proofs.YtedogodccblfeaaGreatDoor
open Go.RowKit
set_option linter.unusedVariables false
set_option linter.unusedSimpArgs false

/-- a store handed back in a row of the call's own -/
def TesOwn (w : World) (M : Nat → Prop) (ts : List Tb) (e : Ending) (w' : World) : Prop := ∃ (A : Option Addr) (n c : Nat) (l : List Te), e = .returned (.slice A n c) ∧ l.map Te.tb = ts ∧ (∀ x ∈ l, x.ok) ∧ w'.ownsRow w.heap.size 58 4 (.slice A n c) n (teCells l) ∧ Ro w' (Mut M [.own 58 4 (.slice A n c) n (teCells l)]) (TeVals l) ∧ Below w.heap.size w w'
theorem set_app_right {α : Type} (a b : List α) (i : Nat) (v : α) : (a ++ b).set (a.length + i) v = a ++ b.set i v := by
  rw [List.set_append_right _ _ (by omega)]; congr 2; omega
theorem teCells_set : ∀ {l : List Te} {k : Nat} {x : Te} (y : Te), l[k]? = some x → ((((teCells l).set (k * 4) (.string y.nm)).set (k * 4 + 1) (.slice y.A y.n y.c)).set (k * 4 + 2) (.int .i64 y.nx)).set (k * 4 + 3) (.slice y.B y.m y.d) = teCells (l.set k y)
  | [], k, x, y, h => by simp at h
  | z :: l, 0, x, y, h => by simp [teCells, Te.cells]
  | z :: l, k + 1, x, y, h => by
    have ih := teCells_set (l := l) (k := k) (x := x) y (by simpa using h)
    have e : teCells (z :: l) = z.cells ++ teCells l := by simp [teCells]
    have hl : z.cells.length = 4 := rfl
    have c : ∀ (b : List Value) (j : Nat) (v : Value), (z.cells ++ b).set ((k + 1) * 4 + j) v = z.cells ++ b.set (k * 4 + j) v := fun b j v => by
      rw [show (k + 1) * 4 + j = z.cells.length + (k * 4 + j) by rw [hl]; omega]; exact set_app_right _ _ _ _
    have c0 : ∀ (b : List Value) (v : Value), (z.cells ++ b).set ((k + 1) * 4) v = z.cells ++ b.set (k * 4) v := fun b v => c b 0 v
    rw [e, c0, c, c, c, ih]
    simp [teCells]
theorem teVals_set {M : Nat → Prop} {w : World} {l : List Te} {k : Nat} {y : Te} (h : Ro w M (TeVals l)) (hy : Ro w M (TeIn y)) : Ro w M (TeVals (l.set k y)) := fun w2 h1 h2 x hx => by
  rcases List.mem_or_eq_of_mem_set hx with hx | rfl
  · exact h w2 h1 h2 x hx
  · exact hy w2 h1 h2
set_option maxHeartbeats 4000000 in
set_option maxRecDepth 100000 in
theorem copiesO_any (M : Nat → Prop) (w : World) (hM : ∀ b, M b → b < w.heap.size) (A : Option Addr) (n c : Nat) (l : List Te) (hok : ∀ x ∈ l, TeLim x) (hD : Ro w M (TesIn A n l)) (hn : n ≤ 1000000) :
    Calls Tryz.prog 65 #[.slice A n c] w fun e w' => TesOwn w M (l.map Te.tb) e w' := by
  have HL := hid hD.now.len
  have HOK := hid hok
  clear hok
  have K0 := (((Hold.start M w hM).add (hD.less (by simp [Mut]))).add (teVals_nil _ _)).nil 58 4
  clear hD
  go_enter Tryz.func65, Tryz.ntmps65
  go_wp2_with fail
  go_loopw [3, 8] (fun ov iv wr => ∃ (j cap : Nat) (O : Option Addr) (outs : List Te), j ≤ n ∧ iv = .int .i64 j ∧ ov = .slice O j cap ∧ Hid (TeStep outs l j) ∧ Hold M none w wr [.own 58 4 (.slice O j cap) j (teCells outs), .ro (TeVals outs), .ro (TesIn A n l)]) (fun _ iv _ => n - (intOf iv).toNat)
  case atStart => exact ⟨0, 0, none, [], by omega, rfl, rfl, hid ⟨rfl, fun r hr => nomatch hr⟩, K0⟩
  case round =>
    clear K0
    obtain ⟨j, cap, O, outs, hj, rfl, rfl, HW, H⟩ := hrel
    by_cases hlt : j < n
    · have hd : decide ((j : Int) < (n : Int)) = true := by simp; omega
      have j0 : (0 : Int) ≤ (j : Int) := by omega
      have j1 : (j : Int) < (n : Int) := by omega
      obtain ⟨x, hx⟩ := get_of HL.out hlt
      obtain ⟨g, o, rfl, hb, c0, c1, c2, c3, -⟩ := (H.ro 2 rfl).now.at_ hx
      have HXO := hid (HOK.out x (List.mem_of_getElem? hx))
      have HXM := hid (List.mem_of_getElem? hx)
      have HXG := hid hx
      clear hx
      have K1 := H.alloc_cst #[.string x.nm, .slice x.A x.n x.c, .int .i64 x.nx, .slice x.B x.m x.d] 58
      have FA := K1.facts
      simp only [factsL, cellsF, Nat.reduceAdd, zf, zl] at FA
      clear H
      go_wp2_with fail
      refine (scopied_any _ _ K1.mutLt x.nm x.A x.n x.c x.cs x.nx x.B x.m x.d 4398046511104 x.l ((K1.ro 3 rfl).imp fun w2 h2 => (h2.2 x HXM.out).1) ((K1.ro 3 rfl).imp fun w2 h2 => (h2.2 x HXM.out).2) HXO.out.1 HXO.out.2.1 (by omega) HXO.out.2.2).mono ?_
      rintro e w5 ⟨y, rfl, hy, hyo, ry, b5⟩
      have hv : y.val = .agg #[.string y.nm, .slice y.A y.n y.c, .int .i64 y.nx, .slice y.B y.m y.d] := rfl
      rw [hv]
      clear hv
      have K2 := (K1.call b5).add ry
      have HS2 := hid (show TeStep (outs ++ [y]) l (j + 1) from ⟨by rw [List.map_append, HW.out.1, List.take_add_one, HXG.out, List.map_append]; exact congrArg _ (congrArg (fun z => [z]) hy), fun z hz => by
        rcases List.mem_append.1 hz with hz | hz
        · exact HW.out.2 z hz
        · simp at hz; subst hz; exact hyo⟩)
      clear b5 ry K1 FA hy hyo
      go_wp2_with (at_builtin; go_must (refine wpList_appH K2 2 rfl Tryz.elTe #[.string y.nm, .slice y.A y.n y.c, .int .i64 y.nx, .slice y.B y.m y.d] rfl (.tmp 12) (.tmp 15) rfl rfl _ (by first | rfl | simp) rfl rfl (by intro u hu; simp at hu; rcases hu with rfl | rfl | rfl | rfl <;> rfl) (by omega) (by omega) ?_); intro g9 cap9 w9 hc9 hm9 KB; simp only [List.set_cons_zero, List.set_cons_succ] at KB)
      have e9 : teCells outs ++ (#[.string y.nm, .slice y.A y.n y.c, .int .i64 y.nx, .slice y.B y.m y.d]).toList = teCells (outs ++ [y]) := (teCells_snoc outs y).symm
      rw [e9] at KB
      have KC := (KB.swapRo 3 rfl (teVals_snoc (r := y) (KB.ro 3 rfl) (KB.ro 0 rfl))).drop (List.Sublist.cons _ (List.sublist_cons_self _ _))
      go_roundw
      case rel => exact ⟨j + 1, cap9, _, _, by omega, by go_num, by first | rfl | trivial, HS2, KC⟩
      case measure => simp [intOf]; omega
    · obtain rfl : n = j := by omega
      have hd : decide ((n : Int) < (n : Int)) = false := by simp
      have hcap := own_caps (H.get 0 rfl)
      have HW2 := hid (show outs.map Te.tb = l.map Te.tb by have h := HW.out.1; rwa [List.take_of_length_le (by rw [HL.out]; exact Nat.le_refl _)] at h)
      have HO := hid (H.get 0 rfl)
      have HR := hid ((H.ro 1 rfl).less (fun b hb => mut_one hb))
      have HB := hid H.below
      clear H hcap
      go_wp2_with fail
      go_ret
      exact ⟨O, n, cap, outs, rfl, HW2.out, HW.out.2, HO.out, HR.out, HB.out⟩
end Go.Proofs.YtedogodccblfeaaGreatDoor

namespace Go.Proofs.YtedogodccblfeaaGreatDoor
open Go.RowKit
set_option linter.unusedVariables false
set_option linter.unusedSimpArgs false

/-- a table within the limits of the spoiled ones -/
def TbL (t : Tb) : Prop := t.nm.size ≤ maxLen ∧ (∀ x ∈ t.cs, x.name.size ≤ maxLen) ∧ t.cs.length ≤ 1001 ∧ t.rs.length ≤ 1000 ∧ ∀ r ∈ t.rs, r.2.length ≤ 1000
theorem TbL.tbm {t : Tb} (h : TbL t) : TbM t := ⟨h.1, h.2.1, by have := h.2.2.2.1; omega, fun r hr => by have := h.2.2.2.2 r hr; omega⟩
theorem VTab.tbl {t : Tb} (h : VTab t) : TbL t := ⟨h.tbm.nm, h.tbm.cs, by have := tabB_cols h.val; omega, by have := h.rows; omega, fun r hr => by have := h.len r hr; omega⟩
def Spo9 (w : World) (T : Nat) (M : Nat → Prop) (e : Ending) (w' : World) : Prop := ∃ (A : Option Addr) (n c : Nat) (l : List Te), e = .returned (.slice A n c) ∧ n ≤ c ∧ c ≤ 9223372036854775807 ∧ 3 ≤ n ∧ n ≤ 4 ∧ (∀ x ∈ l, x.ok ∧ TbL x.tb) ∧ Ro w' M (TesIn A n l) ∧ Tp w' T ∧ w.grownBy w' (some T)
set_option maxHeartbeats 16000000 in
set_option maxRecDepth 100000 in
theorem sspoil9_any (M : Nat → Prop) (T : Nat) (w : World) (hM : ∀ b, M b → b < w.heap.size) (ht : Tp w T) (hMT : ∀ b, M b → T ≤ b) (A : Option Addr) (c : Nat) (l : List Te) (hc : 3 ≤ c) (hc2 : c ≤ 9223372036854775807) (hl : Ro w (Mut M [.tp T]) (TesIn A 3 l)) (hok : ∀ x ∈ l, x.ok ∧ VTab x.tb) (hW : Ro w (Mut M [.tp T]) Wds) (hw : 2 < T) :
    Calls Tryz.prog 26 #[.pointer (some ⟨T, 0, none⟩), .slice A 3 c] w fun e w' => Spo9 w T M e w' := by
  have HOK := hid hok
  have HL := hid hl.now.len
  have K0 := ((Hold.startT M w T hM ht hMT).add hW).add (hl.less (by simp [Mut, Hp.foot]))
  have K1 := K0.alloc_own #[] 58 4 0 (by unfold maxLen; omega) rfl
  have hr := hid (show SlR 4 A 3 (teCells l) _ from (K1.ro 1 rfl).now.1)
  clear hok hl hW K0
  go_enter Tryz.func26, Tryz.ntmps26
  go_wp2_with (at_builtin; go_must (refine wpList_appAllH K1 0 rfl Tryz.elTe hr.out rfl (.tmp 7) (.tmp 8) rfl rfl rfl (one_tes l) (by omega) (by omega) ?_); intro C' cap' w2 hc1 hm1 K2; simp only [Nat.zero_add, List.nil_append, List.set_cons_zero] at K2)
  obtain ⟨g, rfl⟩ : ∃ g, C' = some ⟨g, 0, none⟩ := by
    rcases own_addr (K2.get 0 rfl) with ⟨-, h0, -⟩ | ⟨g, h, -⟩
    · omega
    · exact ⟨g, h⟩
  refine (next_any T 3 _ (K2.tp_ 3 rfl) (by omega) (by omega)).mono ?_
  rintro e w3 ⟨k, rfl, k0, k1, t3, g3⟩
  have K3 := Hold.callT K2 3 rfl g3 t3
  obtain ⟨k, rfl⟩ := Int.eq_ofNat_of_zero_le k0
  have hk : k < 3 := by omega
  obtain ⟨x, hx⟩ := get_of HL.out hk
  obtain ⟨x0, hx0⟩ := get_of HL.out (show 0 < 3 by omega)
  have HXK := hid hx
  have HX0 := hid hx0
  have HXO := hid (HOK.out x (List.mem_of_getElem? hx))
  clear K1 K2 t3 g3 hx hx0 hr
  go_wp2_with fail
  refine (next_any T 3 _ (K3.tp_ 3 rfl) (by omega) (by omega)).mono ?_
  rintro e w4 ⟨j, rfl, j0, j1, t4, g4⟩
  have K4 := Hold.callT K3 3 rfl g4 t4
  clear K3 t4 g4
  have ho := K4.get 0 rfl
  have q0 : _ = some (Value.string x.nm) := (ho.cellAt (k * 4) (by omega)).trans (flat_get Te.cells 4 (fun _ => rfl) l k 0 x (by omega) HXK.out)
  have q1 : _ = some (Value.slice x.A x.n x.c) := (ho.cellAt (k * 4 + 1) (by omega)).trans (flat_get Te.cells 4 (fun _ => rfl) l k 1 x (by omega) HXK.out)
  have q2 : _ = some (Value.int .i64 x.nx) := (ho.cellAt (k * 4 + 2) (by omega)).trans (flat_get Te.cells 4 (fun _ => rfl) l k 2 x (by omega) HXK.out)
  have q3 : _ = some (Value.slice x.B x.m x.d) := (ho.cellAt (k * 4 + 3) (by omega)).trans (flat_get Te.cells 4 (fun _ => rfl) l k 3 x (by omega) HXK.out)
  have gl0 := (ho.lt g rfl).2
  clear ho
  obtain rfl | rfl | rfl : j = 0 ∨ j = 1 ∨ j = 2 := by omega
  · go_wp2_with fail
    refine (tspoil_slot (Mut M _) T _ K4.mutLt (K4.tp_ 3 rfl) (K4.get 3 rfl).2 (.agg #[.string x.nm, .slice x.A x.n x.c, .int .i64 x.nx, .slice x.B x.m x.d]) x.tb (tbAt_less (te_tb HXO.out.1 ((K4.ro 1 rfl).imp fun w2 h2 => h2.2 x (List.mem_of_getElem? HXK.out))) (mut_tp (i := 3) rfl)) HXO.out.2 ((K4.ro 2 rfl).less (mut_tp (i := 3) rfl)) hw).mono ?_
    rintro e w5 ⟨v5, t5, rfl, TT, hlm, tp5, g5⟩
    obtain ⟨y, rfl, rfl, hyo, ry⟩ := tb_te TT
    have hyv : y.val = .agg #[.string y.nm, .slice y.A y.n y.c, .int .i64 y.nx, .slice y.B y.m y.d] := rfl
    rw [hyv]
    clear hyv
    have HY := hid (And.intro hyo hlm)
    have K5 := (Hold.callT K4 3 rfl g5 tp5).add ry
    clear K4 g5 tp5 ry hyo hlm TT q0 q1 q2 q3 gl0
    have ho := K5.get 1 rfl
    have pq0 : _ = some (Value.string x.nm) := (ho.cellAt (k * 4) (by omega)).trans (flat_get Te.cells 4 (fun _ => rfl) l k 0 x (by omega) HXK.out)
    have pq1 : _ = some (Value.slice x.A x.n x.c) := (ho.cellAt (k * 4 + 1) (by omega)).trans (flat_get Te.cells 4 (fun _ => rfl) l k 1 x (by omega) HXK.out)
    have pq2 : _ = some (Value.int .i64 x.nx) := (ho.cellAt (k * 4 + 2) (by omega)).trans (flat_get Te.cells 4 (fun _ => rfl) l k 2 x (by omega) HXK.out)
    have pq3 : _ = some (Value.slice x.B x.m x.d) := (ho.cellAt (k * 4 + 3) (by omega)).trans (flat_get Te.cells 4 (fun _ => rfl) l k 3 x (by omega) HXK.out)
    have pz0 := ho.frozenAt (k * 4)
    have pz1 := ho.frozenAt (k * 4 + 1)
    have pz2 := ho.frozenAt (k * 4 + 2)
    have pz3 := ho.frozenAt (k * 4 + 3)
    have pgl := (ho.lt g rfl).2
    clear ho
    have pKA1 := K5.put_ 1 rfl (k * 4) (.string y.nm)
    have pKA2 := pKA1.put_ 1 rfl (k * 4 + 1) (.slice y.A y.n y.c)
    have pKA3 := pKA2.put_ 1 rfl (k * 4 + 2) (.int .i64 y.nx)
    have K6 := pKA3.put_ 1 rfl (k * 4 + 3) (.slice y.B y.m y.d)
    simp only [List.set_cons_zero, List.set_cons_succ, List.setIfInBounds_toArray] at pKA1
    simp only [List.set_cons_zero, List.set_cons_succ, List.setIfInBounds_toArray] at pKA2
    simp only [List.set_cons_zero, List.set_cons_succ, List.setIfInBounds_toArray] at pKA3
    simp only [List.set_cons_zero, List.set_cons_succ, List.setIfInBounds_toArray] at K6
    have pe1 : _ = some (Value.slice x.A x.n x.c) := ((pKA1.get 1 rfl).cellAt (k * 4 + 1) (by omega)).trans ((List.getElem?_set_ne (by omega)).trans (flat_get Te.cells 4 (fun _ => rfl) l k 1 x (by omega) HXK.out))
    have pe2 : _ = some (Value.int .i64 x.nx) := ((pKA2.get 1 rfl).cellAt (k * 4 + 2) (by omega)).trans ((List.getElem?_set_ne (by omega)).trans ((List.getElem?_set_ne (by omega)).trans (flat_get Te.cells 4 (fun _ => rfl) l k 2 x (by omega) HXK.out)))
    have pe3 : _ = some (Value.slice x.B x.m x.d) := ((pKA3.get 1 rfl).cellAt (k * 4 + 3) (by omega)).trans ((List.getElem?_set_ne (by omega)).trans ((List.getElem?_set_ne (by omega)).trans ((List.getElem?_set_ne (by omega)).trans (flat_get Te.cells 4 (fun _ => rfl) l k 3 x (by omega) HXK.out))))
    have py1 := (pKA1.get 1 rfl).frozenAt (k * 4 + 1)
    have py2 := (pKA2.get 1 rfl).frozenAt (k * 4 + 2)
    have py3 := (pKA3.get 1 rfl).frozenAt (k * 4 + 3)
    clear pKA1 pKA2 pKA3
    rw [teCells_set y HXK.out] at K6
    have K7 := K6.add (teVals_set (k := k) ((K6.ro 2 rfl).imp fun w2 h2 => h2.2) (K6.ro 0 rfl))
    clear K6
    go_wp2_with fail
    iterate 4 (try simp only [Result.andThen_ok, pe1, py1, pe2, py2, pe3, py3, Bool.false_eq_true, if_false])
    go_wp2_with fail
    clear pq0 pq1 pq2 pq3 pz0 pz1 pz2 pz3 pgl pe1 py1 pe2 py2 pe3 py3
    have hcap := own_caps (K7.get 2 rfl)
    have KS := K7.sealRow 2 rfl
    simp only [List.set_cons_zero, List.set_cons_succ, List.setIfInBounds_toArray] at KS
    have rT := (KS.roOut 2 rfl).and (KS.roOut 0 rfl)
    have ht9 := KS.tp_ 5 rfl
    have hgr := KS.grow
    have HCAP := hid hcap
    clear hcap K7 KS
    go_wp2_with fail
    (try simp only [Exit.inBlock, Exit.then])
    refine bodyPost_ret (v := .slice (some ⟨g, 0, none⟩) 3 cap') (by simp [results, Tryz.results26, go_sem]) rfl ?_
    exact ⟨some ⟨g, 0, none⟩, 3, cap', l.set k y, rfl, HCAP.out.1, HCAP.out.2.1, by omega, by omega, fun z hz => (List.mem_or_eq_of_mem_set hz).elim (fun h => ⟨(HOK.out z h).1, (HOK.out z h).2.tbl⟩) (fun h => h ▸ ⟨HY.out.1, HY.out.2⟩), rT, ht9, hgr⟩
  · have e9 : teCells l ++ (#[.string x.nm, .slice x.A x.n x.c, .int .i64 x.nx, .slice x.B x.m x.d]).toList = teCells (l ++ [x]) := (teCells_snoc l x).symm
    have HE9 := hid e9
    clear e9
    go_wp2_with (at_builtin; go_must (refine wpList_appH K4 0 rfl Tryz.elTe #[.string x.nm, .slice x.A x.n x.c, .int .i64 x.nx, .slice x.B x.m x.d] rfl (.tmp 41) (.tmp 46) rfl rfl _ (by first | rfl | simp) rfl rfl (by intro u hu; simp at hu; rcases hu with rfl | rfl | rfl | rfl <;> rfl) (by omega) (by omega) ?_); intro g9 cap9 w9 hc9 hm9 KB; rw [HE9.out] at KB; simp only [List.set_cons_zero, List.set_cons_succ] at KB; (have hcap := own_caps (KB.get 0 rfl)); (have KS := KB.sealRow 0 rfl); (simp only [List.set_cons_zero, List.set_cons_succ, List.setIfInBounds_toArray] at KS); (have rT := (KS.roOut 0 rfl).and ((KS.roOut 1 rfl).imp fun w2 h2 => (show ∀ z ∈ l ++ [x], TeIn z w2 from fun z hz => (List.mem_append.1 hz).elim (h2.2 z) (fun h => by simp at h; subst h; exact h2.2 _ (List.mem_of_getElem? HXK.out))))); (have ht9 := KS.tp_ 3 rfl); (have hgr := KS.grow); (have HCAP := hid hcap); clear hcap KS KB)
    (try simp only [Exit.inBlock, Exit.then])
    refine bodyPost_ret (v := .slice (some ⟨g9, 0, none⟩) (3 + 1) cap9) (by simp [results, Tryz.results26, go_sem]) rfl ?_
    exact ⟨some ⟨g9, 0, none⟩, 3 + 1, cap9, l ++ [x], rfl, HCAP.out.1, HCAP.out.2.1, by omega, by omega, fun z hz => (List.mem_append.1 hz).elim (fun h => ⟨(HOK.out z h).1, (HOK.out z h).2.tbl⟩) (fun h => by simp at h; subst h; exact ⟨HXO.out.1, HXO.out.2.tbl⟩), rT, ht9, hgr⟩
  · go_wp2_with fail
    obtain ⟨KL, hKL, KN⟩ := K4.name
    have HF : Hid (∀ wv, Hold M (some T) w wv KL → (wv.cell? ⟨g, k * 4, none⟩ = some (.string x.nm) ∧ wv.cell? ⟨g, k * 4 + 1, none⟩ = some (.slice x.A x.n x.c) ∧ wv.cell? ⟨g, k * 4 + 2, none⟩ = some (.int .i64 x.nx) ∧ wv.cell? ⟨g, k * 4 + 3, none⟩ = some (.slice x.B x.m x.d)) ∧ wv.cell? ⟨g, 0, none⟩ = some (.string x0.nm) ∧ wv.cell? ⟨g, 1, none⟩ = some (.slice x0.A x0.n x0.c) ∧ wv.cell? ⟨g, 2, none⟩ = some (.int .i64 x0.nx) ∧ wv.cell? ⟨g, 3, none⟩ = some (.slice x0.B x0.m x0.d) ∧ g < wv.heap.size) := hid fun wv HC => by
      rw [hKL] at HC
      have ho := HC.get 0 rfl
      exact ⟨⟨(ho.cellAt _ (by omega)).trans (flat_get Te.cells 4 (fun _ => rfl) l k 0 x (by omega) HXK.out), (ho.cellAt _ (by omega)).trans (flat_get Te.cells 4 (fun _ => rfl) l k 1 x (by omega) HXK.out), (ho.cellAt _ (by omega)).trans (flat_get Te.cells 4 (fun _ => rfl) l k 2 x (by omega) HXK.out), (ho.cellAt _ (by omega)).trans (flat_get Te.cells 4 (fun _ => rfl) l k 3 x (by omega) HXK.out)⟩, (ho.cellAt 0 (by omega)).trans (flat_get Te.cells 4 (fun _ => rfl) l 0 0 x0 (by omega) HX0.out), (ho.cellAt 1 (by omega)).trans (flat_get Te.cells 4 (fun _ => rfl) l 0 1 x0 (by omega) HX0.out), (ho.cellAt 2 (by omega)).trans (flat_get Te.cells 4 (fun _ => rfl) l 0 2 x0 (by omega) HX0.out), (ho.cellAt 3 (by omega)).trans (flat_get Te.cells 4 (fun _ => rfl) l 0 3 x0 (by omega) HX0.out), (ho.lt g rfl).2⟩
    have HKL := hid hKL
    clear hKL K4 q0 q1 q2 q3 gl0
    refine wp_region_any (by kernel_rfl) ?_
    refine wpAny_holdE [1, 2] 11 49 (KL) (spL []) (by kernel_rfl) (fun _ d _ _ _ h => by cases d <;> exact h) (by kernel_rfl) (by kernel_rfl) rfl ?_ (KN.drew) ?_
    · exact stays_nil _
    simp only [zd, Act.put, List.getElem_toArray, List.getElem_cons_zero, List.getElem_cons_succ, zl]
    repeat (first | (refine dw_skip rfl rfl rfl ?_; simp only [Act.put, zl]) | (refine dw_val rfl rfl rfl ?_; apply Exists.intro; refine ⟨fun wv HC => ?_, ?_⟩; (focus (obtain ⟨⟨f0, f1, f2, f3⟩, p0, p1, p2, p3, p4⟩ := HF.out _ HC; go_simp <;> rfl; done)); simp only [Act.put, zl]))
    refine rel_nil ?_
    rintro wxb HY
    rintro _hrm HGW
    clear HGW _hrm KN HF
    rw [HKL.out] at HY
    clear HKL
    clear KL
    have ho := HY.get 0 rfl
    have aq0 : _ = some (Value.string x0.nm) := (ho.cellAt 0 (by omega)).trans (flat_get Te.cells 4 (fun _ => rfl) l 0 0 x0 (by omega) HX0.out)
    have aq1 : _ = some (Value.slice x0.A x0.n x0.c) := (ho.cellAt (1) (by omega)).trans (flat_get Te.cells 4 (fun _ => rfl) l 0 1 x0 (by omega) HX0.out)
    have aq2 : _ = some (Value.int .i64 x0.nx) := (ho.cellAt (2) (by omega)).trans (flat_get Te.cells 4 (fun _ => rfl) l 0 2 x0 (by omega) HX0.out)
    have aq3 : _ = some (Value.slice x0.B x0.m x0.d) := (ho.cellAt (3) (by omega)).trans (flat_get Te.cells 4 (fun _ => rfl) l 0 3 x0 (by omega) HX0.out)
    have az0 := ho.frozenAt 0
    have az1 := ho.frozenAt (1)
    have az2 := ho.frozenAt (2)
    have az3 := ho.frozenAt (3)
    have agl := (ho.lt g rfl).2
    clear ho
    have aKA1 := HY.put_ 0 rfl 0 (.string x.nm)
    have aKA2 := aKA1.put_ 0 rfl (1) (.slice x.A x.n x.c)
    have aKA3 := aKA2.put_ 0 rfl (2) (.int .i64 x.nx)
    have K5 := aKA3.put_ 0 rfl (3) (.slice x.B x.m x.d)
    simp only [List.set_cons_zero, List.set_cons_succ, List.setIfInBounds_toArray] at aKA1
    simp only [List.set_cons_zero, List.set_cons_succ, List.setIfInBounds_toArray] at aKA2
    simp only [List.set_cons_zero, List.set_cons_succ, List.setIfInBounds_toArray] at aKA3
    simp only [List.set_cons_zero, List.set_cons_succ, List.setIfInBounds_toArray] at K5
    have ae1 : _ = some (Value.slice x0.A x0.n x0.c) := ((aKA1.get 0 rfl).cellAt (1) (by omega)).trans ((List.getElem?_set_ne (by omega)).trans (flat_get Te.cells 4 (fun _ => rfl) l 0 1 x0 (by omega) HX0.out))
    have ae2 : _ = some (Value.int .i64 x0.nx) := ((aKA2.get 0 rfl).cellAt (2) (by omega)).trans ((List.getElem?_set_ne (by omega)).trans ((List.getElem?_set_ne (by omega)).trans (flat_get Te.cells 4 (fun _ => rfl) l 0 2 x0 (by omega) HX0.out)))
    have ae3 : _ = some (Value.slice x0.B x0.m x0.d) := ((aKA3.get 0 rfl).cellAt (3) (by omega)).trans ((List.getElem?_set_ne (by omega)).trans ((List.getElem?_set_ne (by omega)).trans ((List.getElem?_set_ne (by omega)).trans (flat_get Te.cells 4 (fun _ => rfl) l 0 3 x0 (by omega) HX0.out))))
    have ay1 := (aKA1.get 0 rfl).frozenAt (1)
    have ay2 := (aKA2.get 0 rfl).frozenAt (2)
    have ay3 := (aKA3.get 0 rfl).frozenAt (3)
    clear aKA1 aKA2 aKA3
    rw [teCells_set x HX0.out] at K5
    have hx2 : (l.set 0 x)[k]? = some x := by
      rw [List.getElem?_set]
      split
      · rw [if_pos (by rw [HL.out]; omega)]
      · exact HXK.out
    have HX2 := hid hx2
    clear hx2
    have ho := K5.get 0 rfl
    have bq0 : _ = some (Value.string x.nm) := (ho.cellAt (k * 4) (by omega)).trans (flat_get Te.cells 4 (fun _ => rfl) (l.set 0 x) k 0 x (by omega) HX2.out)
    have bq1 : _ = some (Value.slice x.A x.n x.c) := (ho.cellAt (k * 4 + 1) (by omega)).trans (flat_get Te.cells 4 (fun _ => rfl) (l.set 0 x) k 1 x (by omega) HX2.out)
    have bq2 : _ = some (Value.int .i64 x.nx) := (ho.cellAt (k * 4 + 2) (by omega)).trans (flat_get Te.cells 4 (fun _ => rfl) (l.set 0 x) k 2 x (by omega) HX2.out)
    have bq3 : _ = some (Value.slice x.B x.m x.d) := (ho.cellAt (k * 4 + 3) (by omega)).trans (flat_get Te.cells 4 (fun _ => rfl) (l.set 0 x) k 3 x (by omega) HX2.out)
    have bz0 := ho.frozenAt (k * 4)
    have bz1 := ho.frozenAt (k * 4 + 1)
    have bz2 := ho.frozenAt (k * 4 + 2)
    have bz3 := ho.frozenAt (k * 4 + 3)
    have bgl := (ho.lt g rfl).2
    clear ho
    have bKA1 := K5.put_ 0 rfl (k * 4) (.string x0.nm)
    have bKA2 := bKA1.put_ 0 rfl (k * 4 + 1) (.slice x0.A x0.n x0.c)
    have bKA3 := bKA2.put_ 0 rfl (k * 4 + 2) (.int .i64 x0.nx)
    have K6 := bKA3.put_ 0 rfl (k * 4 + 3) (.slice x0.B x0.m x0.d)
    simp only [List.set_cons_zero, List.set_cons_succ, List.setIfInBounds_toArray] at bKA1
    simp only [List.set_cons_zero, List.set_cons_succ, List.setIfInBounds_toArray] at bKA2
    simp only [List.set_cons_zero, List.set_cons_succ, List.setIfInBounds_toArray] at bKA3
    simp only [List.set_cons_zero, List.set_cons_succ, List.setIfInBounds_toArray] at K6
    have be1 : _ = some (Value.slice x.A x.n x.c) := ((bKA1.get 0 rfl).cellAt (k * 4 + 1) (by omega)).trans ((List.getElem?_set_ne (by omega)).trans (flat_get Te.cells 4 (fun _ => rfl) (l.set 0 x) k 1 x (by omega) HX2.out))
    have be2 : _ = some (Value.int .i64 x.nx) := ((bKA2.get 0 rfl).cellAt (k * 4 + 2) (by omega)).trans ((List.getElem?_set_ne (by omega)).trans ((List.getElem?_set_ne (by omega)).trans (flat_get Te.cells 4 (fun _ => rfl) (l.set 0 x) k 2 x (by omega) HX2.out)))
    have be3 : _ = some (Value.slice x.B x.m x.d) := ((bKA3.get 0 rfl).cellAt (k * 4 + 3) (by omega)).trans ((List.getElem?_set_ne (by omega)).trans ((List.getElem?_set_ne (by omega)).trans ((List.getElem?_set_ne (by omega)).trans (flat_get Te.cells 4 (fun _ => rfl) (l.set 0 x) k 3 x (by omega) HX2.out))))
    have by1 := (bKA1.get 0 rfl).frozenAt (k * 4 + 1)
    have by2 := (bKA2.get 0 rfl).frozenAt (k * 4 + 2)
    have by3 := (bKA3.get 0 rfl).frozenAt (k * 4 + 3)
    clear bKA1 bKA2 bKA3
    rw [teCells_set x0 HX2.out] at K6
    have K7 := K6.add (teVals_set (k := k) (teVals_set (k := 0) ((K6.ro 1 rfl).imp fun w2 h2 => h2.2) ((K6.ro 1 rfl).imp fun w2 h2 => h2.2 x (List.mem_of_getElem? HXK.out))) ((K6.ro 1 rfl).imp fun w2 h2 => h2.2 x0 (List.mem_of_getElem? HX0.out)))
    clear K6
    go_wp2_with fail
    iterate 4 (try simp only [Result.andThen_ok, ae1, ay1, ae2, ay2, ae3, ay3, Bool.false_eq_true, if_false])
    go_wp2_with fail
    iterate 4 (try simp only [Result.andThen_ok, be1, by1, be2, by2, be3, by3, Bool.false_eq_true, if_false])
    go_wp2_with fail
    clear aq0 aq1 aq2 aq3 az0 az1 az2 az3 agl ae1 ay1 ae2 ay2 ae3 ay3
    clear bq0 bq1 bq2 bq3 bz0 bz1 bz2 bz3 bgl be1 by1 be2 by2 be3 by3
    have hcap := own_caps (K7.get 1 rfl)
    have KS := K7.sealRow 1 rfl
    simp only [List.set_cons_zero, List.set_cons_succ, List.setIfInBounds_toArray] at KS
    have rT := (KS.roOut 1 rfl).and (KS.roOut 0 rfl)
    have ht9 := KS.tp_ 4 rfl
    have hgr := KS.grow
    have HCAP := hid hcap
    clear hcap K7 KS
    go_wp2_with fail
    (try simp only [Exit.inBlock, Exit.then])
    refine bodyPost_ret (v := .slice (some ⟨g, 0, none⟩) 3 cap') (by simp [results, Tryz.results26, go_sem]) rfl ?_
    exact ⟨some ⟨g, 0, none⟩, 3, cap', (l.set 0 x).set k x0, rfl, HCAP.out.1, HCAP.out.2.1, by omega, by omega, fun z hz => (List.mem_or_eq_of_mem_set hz).elim (fun h => (List.mem_or_eq_of_mem_set h).elim (fun h => ⟨(HOK.out z h).1, (HOK.out z h).2.tbl⟩) (fun h => h ▸ ⟨HXO.out.1, HXO.out.2.tbl⟩)) (fun h => h ▸ ⟨(HOK.out x0 (List.mem_of_getElem? HX0.out)).1, (HOK.out x0 (List.mem_of_getElem? HX0.out)).2.tbl⟩), rT, ht9, hgr⟩
end Go.Proofs.YtedogodccblfeaaGreatDoor

namespace Go.Proofs.YtedogodccblfeaaGreatDoor
open Go.RowKit
set_option linter.unusedVariables false
set_option linter.unusedSimpArgs false

def k9a : Tb := ⟨nmLog, logCols, 1, []⟩
def k9b : Tb := ⟨nmLog, logCols, 2, [(1, [vNil, vNil])]⟩
def k9d : Dl := ⟨nmLog, [(1, [vNil, vNil])], [], []⟩
theorem k9_bet : betweenC k9a k9b = (true, k9d) := by kernel_rfl
theorem k9_stoa : storB [k9a] = true := by kernel_rfl
theorem k9_stob : storB [k9b] = true := by kernel_rfl
theorem k9_taba : tabB k9a.nm k9a.cs k9a.nx k9a.rs = true := by kernel_rfl
theorem k9_tabb : tabB k9b.nm k9b.cs k9b.nx k9b.rs = true := by kernel_rfl
theorem k9_rec : udOf k9a.nx k9d = recD k9a k9b := by kernel_rfl
theorem k9_later : LaterOk k9a k9b := ⟨rfl, rfl, by decide, fun r hr => by
  simp [k9b] at hr; subst hr; exact .inr (by decide)⟩
theorem k9_sch : schOkB nmLog logCols = true := by decide +kernel
theorem k9_va : VTab k9a := ⟨schOk_of k9_sch, k9_taba⟩
theorem k9_vb : VTab k9b := ⟨schOk_of k9_sch, k9_tabb⟩
theorem k9_step : StepU (udOf k9a.nx k9d) k9a k9b := ⟨k9_rec, k9_va, k9_vb, k9_later, by decide⟩
theorem k9_find : findT [k9b] nmLog = ((0 : Nat) : Int) := by kernel_rfl
theorem k9_back : BackR [udOf k9a.nx k9d] [k9b] [k9a] := ⟨0, k9a, k9b, rfl, k9_find, k9_step, rfl⟩
end Go.Proofs.YtedogodccblfeaaGreatDoor

namespace Go.Proofs.YtedogodccblfeaaGreatDoor
open Go.RowKit
set_option linter.unusedVariables false
set_option linter.unusedSimpArgs false

/-- an update's row of before -/
def oldRw (p : Pr) : Rw := ⟨p.id, p.oA, p.on, p.oc, p.old⟩
/-- a log and a yes -/
def RecRet (w : World) (M : Nat → Prop) (N K : Nat) (us : List Ud) (e : Ending) (w' : World) : Prop := ∃ (A : Option Addr) (n c : Nat) (l : List Ue), e = .returned (.tuple #[.slice A n c, .bool true]) ∧ n ≤ c ∧ c ≤ 9223372036854775807 ∧ l.map Ue.ud = us ∧ (∀ x ∈ l, x.good N K) ∧ Ro w' M (UesIn A n l) ∧ Below w.heap.size w w'
def LogSl (M : Nat → Prop) (b0 N K : Nat) (us : List Ud) (u : Value) (w : World) : Prop := ∃ (A : Option Addr) (n c : Nat) (l : List Ue), u = .slice A n c ∧ l.map Ue.ud = us ∧ (∀ x ∈ l, x.good N K) ∧ w.ownsRow b0 129 5 (.slice A n c) n (ueCells l) ∧ Ro w (Mut M [.own 129 5 (.slice A n c) n (ueCells l)]) (UeVals l)
theorem logSl_mono {M : Nat → Prop} {b0 N K : Nat} (hM : ∀ b, M b → b < b0) {us : List Ud} (u : Value) (w w' : World) (hr : RM M w w') (h : LogSl M b0 N K us u w) : LogSl M b0 N K us u w' := by
  obtain ⟨A, n, c, l, h1, h2, h3, h4, h5⟩ := h
  exact ⟨A, n, c, l, h1, h2, h3, own_RM hM hr h4, h5.step hr.1 (fun b hb hn => hr.2 b hb fun hm => hn (.inl hm)) fun _ _ h => h⟩
def UeBox (M : Nat → Prop) (cs : Array Value) (u : Value) (w : World) : Prop := ∃ g : Nat, u = .slice (some ⟨g, 0, none⟩) 1 1 ∧ Ro w M (SlR 5 (some ⟨g, 0, none⟩) 1 cs.toList)
theorem ueBox_mono {M : Nat → Prop} {cs : Array Value} (u : Value) (w w' : World) (hr : RM M w w') (h : UeBox M cs u w) : UeBox M cs u w' := by
  obtain ⟨g, h1, h2⟩ := h
  exact ⟨g, h1, hr.ro h2⟩
set_option maxHeartbeats 8000000 in
set_option maxRecDepth 100000 in
theorem record_any (M : Nat → Prop) (w : World) (hM : ∀ b, M b → b < w.heap.size) (A : Option Addr) (n c N K : Nat) (us : List Ue) (x y : Te) (d : Dl) (hx : x.ok) (hy : y.ok) (rx : Ro w M (TeIn x)) (ry : Ro w M (TeIn y)) (mx : TbM x.tb) (my : TbM y.tb) (hL : Ro w M (UesIn A n us)) (hok : ∀ u ∈ us, u.good N K) (hn : n ≤ 1000000) (hN : N ≤ 1000000) (hK : K ≤ 4398046511104)
    (hbt : betweenC x.tb y.tb = (true, d)) (h1 : d.ins.length ≤ N) (h2 : d.del.length ≤ N) (h3 : d.upd.length ≤ N) (h4 : ∀ r ∈ d.ins, r.2.length ≤ K) (h5 : ∀ r ∈ d.del, r.2.length ≤ K) (h6 : ∀ u ∈ d.upd, u.2.1.length ≤ K ∧ u.2.2.length ≤ K) :
    Calls Tryz.prog 63 #[.slice A n c, .agg #[.string x.nm, .slice x.A x.n x.c, .int .i64 x.nx, .slice x.B x.m x.d], .agg #[.string y.nm, .slice y.A y.n y.c, .int .i64 y.nx, .slice y.B y.m y.d]] w fun e w' => RecRet w M N K (us.map Ue.ud ++ [udOf x.nx d]) e w' := by
  have HOK := hid (And.intro hok (And.intro hN hK))
  have HML := hid hM
  have HUL := hid hL.now.len
  have K1 := ((((Hold.start M w hM).add (hL.less (by simp [Mut]))).add (rx.less (by simp [Mut, Hp.foot]))).add (ry.less (by simp [Mut, Hp.foot]))).alloc_cst #[.string x.nm, .slice x.A x.n x.c, .int .i64 x.nx, .slice x.B x.m x.d] 58 |>.alloc_cst #[.string y.nm, .slice y.A y.n y.c, .int .i64 y.nx, .slice y.B y.m y.d] 58
  rw [World.size_alloc] at K1
  clear hL rx ry hok
  have F1 := K1.facts
  simp only [factsL, cellsF, Nat.reduceAdd, zf, zl] at F1
  go_enter Tryz.func63, Tryz.ntmps63
  go_wp2_with fail
  refine (dbetw_any _ _ K1.mutLt _ _ x.tb y.tb (te_tb hx (K1.ro 3 rfl)) (te_tb hy (K1.ro 2 rfl)) mx.nm mx.cs mx.rs my.nm my.cs my.rs).mono ?_
  rintro e w2 ⟨v, rfl, hd, b2⟩
  rw [hbt] at hd ⊢
  obtain ⟨⟨znm, zI, zni, zci, zD, znd, zcd, zU, znu, zcu, zli, zld, zlu⟩, rfl, hz, hzg, rz⟩ := dl_el hd h1 h2 h3 h4 h5 h6
  dsimp only [El.val, ElIn] at rz ⊢
  have HZ := hid hz
  have HZG := hid hzg
  have K2 := (((K1.call b2).add (show Ro w2 _ (RwsIn zI zni zli) from rz.imp fun w h => h.1)).add (show Ro w2 _ (RwsIn zD znd zld) from (rz.imp fun w h => h.2.1).less (by simp [Mut, Hp.foot]))).add (show Ro w2 _ (PrsIn zU znu zlu) from (rz.imp fun w h => h.2.2).less (by simp [Mut, Hp.foot]))
  have hzi : zni ≤ 1000000 := Nat.le_trans hzg.i hN
  have hzu : znu ≤ 1000000 := Nat.le_trans hzg.u hN
  have hci := hzg.ci
  have hcd := hzg.cd
  have hcu := hzg.cu
  dsimp only at hci hcd hcu
  clear K1 F1 hd b2 hz hzg rz h1 h2 h3 h4 h5 h6 hx hy mx my hbt hN hK
  have F2 := K2.facts
  simp only [factsL, cellsF, Nat.reduceAdd, zf, zl] at F2
  obtain ⟨gd, hgd⟩ : ∃ g, g = w2.heap.size := ⟨_, rfl⟩
  obtain ⟨gu, hgu⟩ : ∃ g, g = w2.heap.size + 1 := ⟨_, rfl⟩
  have K3 := K2.alloc_cst #[.string znm, .slice zI zni zci, .slice zD znd zcd, .slice zU znu zcu] 44
  have K4 := K3.alloc #[.string znm, .int .i64 x.nx, .slice none 0 0, .slice zD znd zcd, .slice none 0 0] 129
  rw [World.size_alloc, ← hgu, ← hgd] at K4
  have KL := (K4.drop (show List.Sublist [Hp.blk gu 129 #[.string znm, .int .i64 x.nx, .slice none 0 0, .slice zD znd zcd, .slice none 0 0], .cst gd 44 #[.string znm, .slice zI zni zci, .slice zD znd zcd, .slice zU znu zcu], .ro (PrsIn zU znu zlu), .ro (RwsIn zD znd zld), .ro (RwsIn zI zni zli), .ro (UesIn A n us)] _ from .cons_cons _ (.cons_cons _ (.cons_cons _ (.cons_cons _ (.cons_cons _ (.cons _ (.cons _ (.cons _ (.cons _ (List.Sublist.refl _)))))))))))
  have K5 := KL.nil 3 1
  have F5 := K5.facts
  simp only [factsL, cellsF, Nat.reduceAdd, zf, zl] at F5
  clear K2 K3 K4 KL
  rw [hgu, hgd] at F5
  go_wp2_with fail
  rw [← hgu, ← hgd]
  have HGU := hid hgu
  have HGD := hid hgd
  have HL1 := hid (K5.ro 5 rfl).now.len
  have HL2 := hid (K5.ro 3 rfl).now.len
  clear hgu hgd F2 F5
  go_loopw [33] (fun iv wr => ∃ (k cap : Nat) (O : Option Addr), k ≤ zni ∧ iv = .int .i64 k ∧ Hold M none w wr [.own 3 1 (.slice O k cap) k (iCells ((zli.take k).map Rw.id)), .blk gu 129 #[.string znm, .int .i64 x.nx, .slice O k cap, .slice zD znd zcd, .slice none 0 0], .cst gd 44 #[.string znm, .slice zI zni zci, .slice zD znd zcd, .slice zU znu zcu], .ro (PrsIn zU znu zlu), .ro (RwsIn zD znd zld), .ro (RwsIn zI zni zli), .ro (UesIn A n us)]) (fun iv _ => zni - (intOf iv).toNat)
  case atStart => exact ⟨0, 0, none, by omega, rfl, K5⟩
  case round =>
    clear K5
    obtain ⟨k, cap, O, hk, rfl, H⟩ := hrel
    by_cases hlt : k < zni
    · have hd : decide ((k : Int) < (zni : Int)) = true := by simp; omega
      have i0 : (0 : Int) ≤ (k : Int) := by omega
      have i1 : (k : Int) < (zni : Int) := by omega
      obtain ⟨r, hx⟩ := get_of HL1.out hlt
      obtain ⟨g, o, rfl, hb, c0, c1, -⟩ := (H.ro 5 rfl).now.at_ hx
      have HCE := hid (show iCells ((zli.take k).map Rw.id) ++ (#[Value.int .i64 r.id]).toList = iCells ((zli.take (k + 1)).map Rw.id) by rw [List.take_add_one, hx]; simp [iCells])
      clear hx
      have K1 := H.alloc_cst #[.int .i64 r.id, .slice r.A r.n r.c] 119
      have FA := K1.facts
      simp only [factsL, cellsF, Nat.reduceAdd, zf, zl] at FA
      clear H
      go_wp2_with (at_builtin; go_must (refine wpList_appH K1 1 rfl Tryz.elIntC #[.int .i64 r.id] rfl (.tmp 38) (.tmp 41) rfl rfl _ (by first | rfl | simp) rfl rfl (by intro u hu; simp at hu; rcases hu with rfl; rfl) (by omega) (by omega) ?_); intro g9 cap9 w9 hc9 hm9 KB; rw [HCE.out] at KB; simp only [List.set_cons_zero, List.set_cons_succ] at KB; (have FB := KB.facts); simp only [factsL, cellsF, Nat.reduceAdd, zf, zl] at FB)
      have KC := KB.store 2 rfl 2 (.slice (some ⟨g9, 0, none⟩) (k + 1) cap9)
      simp only [List.set_cons_zero, List.set_cons_succ, List.setIfInBounds_toArray] at KC
      go_roundw
      case rel => exact ⟨k + 1, cap9, _, by omega, by go_num, KC.drop (List.sublist_cons_self _ _)⟩
      case measure => simp [intOf]; omega
    · obtain rfl : zni = k := by omega
      have hd : decide ((zni : Int) < (zni : Int)) = false := by simp
      rw [List.take_of_length_le (by rw [HL1.out]; exact Nat.le_refl _)] at H
      have hcap := own_caps (H.get 0 rfl)
      have KS := H.sealRow 0 rfl
      simp only [List.set_cons_zero] at KS
      have KT : Hold M none w wr [.ro (IsIn O zni (zli.map Rw.id)), .blk gu 129 #[.string znm, .int .i64 x.nx, .slice O zni cap, .slice zD znd zcd, .slice none 0 0], .cst gd 44 #[.string znm, .slice zI zni zci, .slice zD znd zcd, .slice zU znu zcu], .ro (PrsIn zU znu zlu), .ro (RwsIn zD znd zld), .ro (RwsIn zI zni zli), .ro (UesIn A n us)] := KS
      have K6 := KT.nil 119 2
      clear H KS KT
      have F6 := K6.facts
      simp only [factsL, cellsF, Nat.reduceAdd, zf, zl] at F6
      go_wp2_with fail
      clear F6
      go_loopw [48] (fun iv wr => ∃ (k cap2 : Nat) (O2 : Option Addr), k ≤ znu ∧ iv = .int .i64 k ∧ Hold M none w wr [.own 119 2 (.slice O2 k cap2) k (rwCells ((zlu.take k).map oldRw)), .ro (IsIn O zni (zli.map Rw.id)), .blk gu 129 #[.string znm, .int .i64 x.nx, .slice O zni cap, .slice zD znd zcd, .slice O2 k cap2], .cst gd 44 #[.string znm, .slice zI zni zci, .slice zD znd zcd, .slice zU znu zcu], .ro (PrsIn zU znu zlu), .ro (RwsIn zD znd zld), .ro (RwsIn zI zni zli), .ro (UesIn A n us)]) (fun iv _ => znu - (intOf iv).toNat)
      case atStart => exact ⟨0, 0, none, by omega, rfl, K6⟩
      case round =>
        clear K6
        obtain ⟨k, cap2, O2, hk, rfl, H⟩ := hrel
        by_cases hlt : k < znu
        · have hd : decide ((k : Int) < (znu : Int)) = true := by simp; omega
          have i0 : (0 : Int) ≤ (k : Int) := by omega
          have i1 : (k : Int) < (znu : Int) := by omega
          obtain ⟨r, hx⟩ := get_of HL2.out hlt
          obtain ⟨g, o, rfl, hb, c0, c1, c2, -⟩ := (H.ro 4 rfl).now.at_ hx
          have HCE := hid (show rwCells ((zlu.take k).map oldRw) ++ (#[Value.int .i64 r.id, .slice r.oA r.on r.oc]).toList = rwCells ((zlu.take (k + 1)).map oldRw) by rw [List.take_add_one, hx]; simp [rwCells, Rw.cells, oldRw])
          clear hx
          have K1 := H.alloc_cst #[.int .i64 r.id, .slice r.oA r.on r.oc, .slice r.nA r.nn r.nc] 110
          have FA := K1.facts
          simp only [factsL, cellsF, Nat.reduceAdd, zf, zl] at FA
          clear H
          go_wp2_with (at_builtin; go_must (refine wpList_appH K1 1 rfl Tryz.elRw #[.int .i64 r.id, .slice r.oA r.on r.oc] rfl (.tmp 53) (.tmp 59) rfl rfl _ (by first | rfl | simp) rfl rfl (by intro u hu; simp at hu; rcases hu with rfl | rfl <;> rfl) (by omega) (by omega) ?_); intro g9 cap9 w9 hc9 hm9 KB; rw [HCE.out] at KB; simp only [List.set_cons_zero, List.set_cons_succ] at KB; (have FB := KB.facts); simp only [factsL, cellsF, Nat.reduceAdd, zf, zl] at FB)
          have KC := KB.store 3 rfl 4 (.slice (some ⟨g9, 0, none⟩) (k + 1) cap9)
          simp only [List.set_cons_zero, List.set_cons_succ, List.setIfInBounds_toArray] at KC
          go_roundw
          case rel => exact ⟨k + 1, cap9, _, by omega, by go_num, KC.drop (List.sublist_cons_self _ _)⟩
          case measure => simp [intOf]; omega
        · obtain rfl : znu = k := by omega
          have hd : decide ((znu : Int) < (znu : Int)) = false := by simp
          rw [List.take_of_length_le (by rw [HL2.out]; exact Nat.le_refl _)] at H
          have hcap2 := own_caps (H.get 0 rfl)
          have KS := H.sealRow 0 rfl
          simp only [List.set_cons_zero] at KS
          have KT : Hold M none w wr [.ro (SlR 2 O2 znu (rwCells (zlu.map oldRw))), .ro (IsIn O zni (zli.map Rw.id)), .blk gu 129 #[.string znm, .int .i64 x.nx, .slice O zni cap, .slice zD znd zcd, .slice O2 znu cap2], .cst gd 44 #[.string znm, .slice zI zni zci, .slice zD znd zcd, .slice zU znu zcu], .ro (PrsIn zU znu zlu), .ro (RwsIn zD znd zld), .ro (RwsIn zI zni zli), .ro (UesIn A n us)] := KS
          clear H KS
          go_wp2_with fail
          refine wp_region_any (by kernel_rfl) ?_
          refine wpAny_hold 4 68 ([.ro (SlR 2 O2 znu (rwCells (zlu.map oldRw))), .ro (IsIn O zni (zli.map Rw.id)), .blk gu 129 #[.string znm, .int .i64 x.nx, .slice O zni cap, .slice zD znd zcd, .slice O2 znu cap2], .cst gd 44 #[.string znm, .slice zI zni zci, .slice zD znd zcd, .slice zU znu zcu], .ro (PrsIn zU znu zlu), .ro (RwsIn zD znd zld), .ro (RwsIn zI zni zli), .ro (UesIn A n us)]) (spL [(64, LogSl (Mut M [.ro (SlR 2 O2 znu (rwCells (zlu.map oldRw))), .ro (IsIn O zni (zli.map Rw.id)), .blk gu 129 #[.string znm, .int .i64 x.nx, .slice O zni cap, .slice zD znd zcd, .slice O2 znu cap2], .cst gd 44 #[.string znm, .slice zI zni zci, .slice zD znd zcd, .slice zU znu zcu], .ro (PrsIn zU znu zlu), .ro (RwsIn zD znd zld), .ro (RwsIn zI zni zli), .ro (UesIn A n us)]) wr.heap.size N K (us.map Ue.ud)), (66, UeBox (Mut M [.ro (SlR 2 O2 znu (rwCells (zlu.map oldRw))), .ro (IsIn O zni (zli.map Rw.id)), .blk gu 129 #[.string znm, .int .i64 x.nx, .slice O zni cap, .slice zD znd zcd, .slice O2 znu cap2], .cst gd 44 #[.string znm, .slice zI zni zci, .slice zD znd zcd, .slice zU znu zcu], .ro (PrsIn zU znu zlu), .ro (RwsIn zD znd zld), .ro (RwsIn zI zni zli), .ro (UesIn A n us)]) #[.string znm, .int .i64 x.nx, .slice O zni cap, .slice zD znd zcd, .slice O2 znu cap2])]) (by kernel_rfl) (by kernel_rfl) (by kernel_rfl) rfl ?_ (KT.drew) ?_
          · exact stays_cons (logSl_mono KT.mutLt) (stays_cons ueBox_mono (stays_nil _))
          simp only [zd, Act.put, List.getElem_toArray, List.getElem_cons_zero, List.getElem_cons_succ, zl]
          repeat (first | (refine dw_skip rfl rfl rfl ?_; simp only [Act.put, zl]) | (refine dw_val rfl rfl rfl ?_; apply Exists.intro; refine ⟨fun wv HC => ?_, ?_⟩; (focus ( go_simp <;> rfl; done)); simp only [Act.put, zl]))
          refine dw_callR 64 (LogSl (Mut M [.ro (SlR 2 O2 znu (rwCells (zlu.map oldRw))), .ro (IsIn O zni (zli.map Rw.id)), .blk gu 129 #[.string znm, .int .i64 x.nx, .slice O zni cap, .slice zD znd zcd, .slice O2 znu cap2], .cst gd 44 #[.string znm, .slice zI zni zci, .slice zD znd zcd, .slice zU znu zcu], .ro (PrsIn zU znu zlu), .ro (RwsIn zD znd zld), .ro (RwsIn zI zni zli), .ro (UesIn A n us)]) wr.heap.size N K (us.map Ue.ud)) (f := 67) (args := #[.slice A n c]) rfl rfl rfl rfl (fun wv => ?_) (fun wv HC hrm hD => ?_) ?_
          · go_simp <;> rfl
          · refine (scopylog_any _ wv HC.mutLt A n c N K HOK.out.2.1 HOK.out.2.2 us HOK.out.1 (HC.ro 7 rfl) hn).mono ?_
            rintro e w5 ⟨A5, n5, c5, l5, rfl, h1, h2, h3, h4, b5⟩
            exact ⟨_, rfl, ⟨A5, n5, c5, l5, rfl, h1, h2, own_base (by simpa using hrm.1) h3, h4⟩, HC.call b5, RM.below b5⟩
          rintro u_ wx HCx ⟨A5, n5, c5, l5, rfl, -, -, -, -⟩
          clear HCx
          simp only [Act.put, zl]
          repeat (first | (refine dw_skip rfl rfl rfl ?_; simp only [Act.put, zl]) | (refine dw_val rfl rfl rfl ?_; apply Exists.intro; refine ⟨fun wv HC => ?_, ?_⟩; (focus (have f0 := cell_of_row _ _ 0 _ _ _ (HC.blk_ 2 rfl); have f1 := cell_of_row _ _ 1 _ _ _ (HC.blk_ 2 rfl); have f2 := cell_of_row _ _ 2 _ _ _ (HC.blk_ 2 rfl); have f3 := cell_of_row _ _ 3 _ _ _ (HC.blk_ 2 rfl); have f4 := cell_of_row _ _ 4 _ _ _ (HC.blk_ 2 rfl); have fl := Blk.lt (HC.blk_ 2 rfl); go_simp <;> rfl; done)); simp only [Act.put, zl]))
          refine dw_new #[.string znm, .int .i64 x.nx, .slice O zni cap, .slice zD znd zcd, .slice O2 znu cap2] 129 66 (UeBox (Mut M [.ro (SlR 2 O2 znu (rwCells (zlu.map oldRw))), .ro (IsIn O zni (zli.map Rw.id)), .blk gu 129 #[.string znm, .int .i64 x.nx, .slice O zni cap, .slice zD znd zcd, .slice O2 znu cap2], .cst gd 44 #[.string znm, .slice zI zni zci, .slice zD znd zcd, .slice zU znu zcu], .ro (PrsIn zU znu zlu), .ro (RwsIn zD znd zld), .ro (RwsIn zI zni zli), .ro (UesIn A n us)]) #[.string znm, .int .i64 x.nx, .slice O zni cap, .slice zD znd zcd, .slice O2 znu cap2]) (fun g => .slice (some ⟨g, 0, none⟩) 1 1) rfl rfl rfl rfl (fun wv => ?_) (fun wv HC _hrm hD hro => ?_) ?_
          · go_simp <;> rfl
          · exact ⟨_, rfl, ro_block (hro _ HC.mutLt) rfl⟩
          rintro g2 wg HCg -
          simp only [Act.put, zl]
          clear HCg
          refine rel_nil ?_
          rintro wx2 HX
          rintro hrm HGW
          have hu1 : LogSl (Mut M [.ro (SlR 2 O2 znu (rwCells (zlu.map oldRw))), .ro (IsIn O zni (zli.map Rw.id)), .blk gu 129 #[.string znm, .int .i64 x.nx, .slice O zni cap, .slice zD znd zcd, .slice O2 znu cap2], .cst gd 44 #[.string znm, .slice zI zni zci, .slice zD znd zcd, .slice zU znu zcu], .ro (PrsIn zU znu zlu), .ro (RwsIn zD znd zld), .ro (RwsIn zI zni zli), .ro (UesIn A n us)]) wr.heap.size N K (us.map Ue.ud) (.slice A5 n5 c5) wx2 := (GW_on (d := 64) rfl).1 (HGW 1 _ rfl (by omega))
          have hu2 : UeBox (Mut M [.ro (SlR 2 O2 znu (rwCells (zlu.map oldRw))), .ro (IsIn O zni (zli.map Rw.id)), .blk gu 129 #[.string znm, .int .i64 x.nx, .slice O zni cap, .slice zD znd zcd, .slice O2 znu cap2], .cst gd 44 #[.string znm, .slice zI zni zci, .slice zD znd zcd, .slice zU znu zcu], .ro (PrsIn zU znu zlu), .ro (RwsIn zD znd zld), .ro (RwsIn zI zni zli), .ro (UesIn A n us)]) #[.string znm, .int .i64 x.nx, .slice O zni cap, .slice zD znd zcd, .slice O2 znu cap2] (.slice (some ⟨g2, 0, none⟩) 1 1) wx2 := (GW_on (d := 66) rfl).1 (HGW 3 _ rfl (by omega))
          clear HGW
          obtain ⟨A6, n6, c6, l6, e6, p1, p2, p3, p4⟩ := hu1
          obtain ⟨rfl, rfl, rfl⟩ : A5 = A6 ∧ n5 = n6 ∧ c5 = c6 := by injection e6 with a b c; exact ⟨a, b, c⟩
          obtain ⟨g3, e7, p5⟩ := hu2
          obtain rfl : g2 = g3 := by injection e7 with e7; injection e7 with e7; injection e7
          have K7 := (Hold.addOwn KT.drew HX hrm (by simpa using p3)).add (p4.less (by intro b hb; rcases mut_cons.1 hb with h | h; exact .inr ⟨_, List.mem_singleton_self _, h⟩; exact .inl h))
          have HP := hid (And.intro p1 p2)
          have hn5 : n5 ≤ 1000000 := by
            have a := p3.1; rw [ueCells_len] at a
            have b := congrArg List.length p1; rw [List.length_map, List.length_map, HUL.out] at b
            omega
          have k5 := hid p5.now
          clear HX KT p1 p2 p3 p4 p5 e6 e7 hrm
          go_wp2_with (at_builtin; go_must (refine wpList_appAllH K7 1 rfl Tryz.elUe k5.out rfl (.tmp 64) (.tmp 66) rfl rfl rfl (by intro z hz; simp at hz; rcases hz with rfl | rfl | rfl | rfl | rfl <;> rfl) (by omega) (by omega) ?_); intro C' cap' w6 hc6 hm6 KB; simp only [List.set_cons_zero, List.set_cons_succ] at KB)
          have KD := KB.sealRow 1 rfl
          simp only [List.set_cons_zero, List.set_cons_succ] at KD
          have e9 : ueCells l6 ++ [.string znm, .int .i64 x.nx, .slice O zni cap, .slice zD znd zcd, .slice O2 znu cap2] = ueCells (l6 ++ [⟨znm, x.nx, O, zni, cap, zD, znd, zcd, O2, znu, cap2, zli.map Rw.id, zld, zlu.map oldRw⟩]) := (ueCells_snoc l6 ⟨znm, x.nx, O, zni, cap, zD, znd, zcd, O2, znu, cap2, zli.map Rw.id, zld, zlu.map oldRw⟩).symm
          rw [e9] at KD
          have rI := KD.roOut 3 rfl
          have rU := (KD.roOut 2 rfl).and ((KD.roOut 6 rfl).imp (S' := ValsIn (zlu.map oldRw)) fun w2 h2 r hr => by
            obtain ⟨p, hp, rfl⟩ := List.mem_map.1 hr
            exact (h2.2 p hp).1)
          have rE : Ro w6 M (UeIn ⟨znm, x.nx, O, zni, cap, zD, znd, zcd, O2, znu, cap2, zli.map Rw.id, zld, zlu.map oldRw⟩) := rI.and ((KD.roOut 7 rfl).and rU)
          have rL := (KD.roOut 1 rfl).and (ueVals_snoc (KD.roOut 0 rfl) rE)
          have HG := HZG.out
          have HB := KD.below
          go_wp2_with fail
          go_ret2
          refine ⟨C', n5 + 1, cap', _, rfl, hc6, hm6, ?_, fun u hu => ?_, rL, HB⟩
          · rw [List.map_append, HP.out.1, List.map_singleton]
            exact congrArg _ (congrArg (fun z => [z]) (by rw [← HZ.out]; simp [Ue.ud, udOf, El.dl, Rw.row, Pr.upd, oldRw, List.map_map, Function.comp_def]))
          · rcases List.mem_append.1 hu with hu | hu
            · exact HP.out.2 u hu
            · simp at hu; subst hu
              exact ⟨HG.i, HG.d, HG.u, ⟨hcap.1, hcap.2.1⟩, HG.cd, ⟨hcap2.1, hcap2.2.1⟩, fun i hi => by
                obtain ⟨r, hr, rfl⟩ := List.mem_map.1 hi; exact (HG.li r hr).1.id, HG.ld, fun r hr => by
                obtain ⟨p, hp, rfl⟩ := List.mem_map.1 hr
                obtain ⟨a, b, c⟩ := HG.lu p hp
                exact ⟨⟨a.id, a.oc, a.oc2, a.old⟩, b⟩⟩
end Go.Proofs.YtedogodccblfeaaGreatDoor

namespace Go.Proofs.YtedogodccblfeaaGreatDoor
open Go.RowKit
set_option linter.unusedVariables false
set_option linter.unusedSimpArgs false

abbrev has1V (b : Nat) : Value := .func (.func 127) #[] #[.pointer (some ⟨b, 0, none⟩)]
abbrev hasV (g : Nat) : Value := .func (.func 125) #[] #[.pointer (some ⟨g, 0, none⟩)]
abbrev notV (h : Nat) : Value := .func (.func 130) #[] #[.pointer (some ⟨h, 0, none⟩)]
abbrev turnV (b : Nat) : Value := .func (.func 133) #[] #[.pointer (some ⟨b, 0, none⟩)]
set_option maxHeartbeats 2000000 in
theorem uhas1_any (w : World) (x : Rw) (b : Nat) (id : Int) (t : TypeId) (hb : w.heap[b]? = some (.cells #[.int .i64 id] t (0, 0))) :
    Calls Tryz.prog 127 #[.agg #[.int .i64 x.id, .slice x.A x.n x.c], .pointer (some ⟨b, 0, none⟩)] w fun e w' => e = .returned (.bool (decide (x.id = id))) ∧ Below w.heap.size w w' := by
  have hbl : b < w.heap.size := Blk.lt (t := t) (cs := #[.int .i64 id]) hb
  have K0 := ((Hold.begin_ w).addCst (g := b) (t := t) (cs := #[.int .i64 id]) (fun w2 h1 h2 => (h2 b hbl (by simp [Mut, None_])).trans hb)).alloc_cst #[.int .i64 x.id, .slice x.A x.n x.c] 119
  have F0 := K0.facts
  simp only [factsL, cellsF, Nat.reduceAdd, zf, zl] at F0
  have e0 : (x.id == id) = decide (x.id = id) := by by_cases h : x.id = id <;> simp [h]
  go_enter Tryz.func127, Tryz.ntmps127
  go_wp2_with fail
  go_ret
  exact ⟨by first | rfl | simp [e0] | rw [e0], K0.below⟩
set_option maxHeartbeats 2000000 in
set_option maxRecDepth 100000 in
theorem uhasI_any (w : World) (A : Option Addr) (n c : Nat) (l : List Rw) (b : Nat) (id : Int) (t : TypeId) (hb : Ro w None_ (fun w => w.heap[b]? = some (.cells #[.int .i64 id] t (0, 0)))) (hD : Ro w None_ (RwsIn A n l)) (hn : n ≤ 4611686018427387904) :
    Calls Tryz.prog 132 #[.slice A n c, has1V b] w fun e w' => (∃ r : Int, e = .returned (.int .i64 r) ∧ ((∃ (k : Nat) (x : Rw), l[k]? = some x ∧ decide (x.id = id) = true ∧ (∀ (j : Nat) (x : Rw), j < k → l[j]? = some x → decide (x.id = id) = false) ∧ r = k) ∨ (r = -1 ∧ ∀ x ∈ l, decide (x.id = id) = false))) ∧ Below w.heap.size w w' := by
  have HL := hid hD.now.len
  have K0 := ((Hold.start None_ w (fun b hb => hb.elim)).add (hb.less (by simp [Mut]))).add (hD.less (by simp [Mut, Hp.foot]))
  go_enter Tryz.func132, Tryz.ntmps132
  go_wp2_with fail
  go_loopw [8] (fun iv wr => ∃ (k : Nat), k ≤ n ∧ iv = .int .i64 k ∧ Hid (∀ (j : Nat) (x : Rw), j < k → l[j]? = some x → decide (x.id = id) = false) ∧ Hold None_ none w wr [.ro (RwsIn A n l), .ro (fun w => w.heap[b]? = some (.cells #[.int .i64 id] t (0, 0)))]) (fun iv _ => n - (intOf iv).toNat)
  case atStart => exact ⟨0, by omega, rfl, hid (fun j x hj => by omega), K0⟩
  case round =>
    clear K0
    obtain ⟨k, hk, rfl, HC, H⟩ := hrel
    by_cases hlt : k < n
    · have hd : decide ((k : Int) < (n : Int)) = true := by simp; omega
      have i0 : (0 : Int) ≤ (k : Int) := by omega
      have i1 : (k : Int) < (n : Int) := by omega
      obtain ⟨x, hx⟩ := get_of HL.out hlt
      obtain ⟨b_, o, rfl, hb_, c0, c1, _⟩ := (H.ro 0 rfl).now.at_ hx
      have HX := hid hx
      clear hx
      go_wp2_with fail
      refine (uhas1_any wr x b id t (H.ro 1 rfl).now).mono ?_
      rintro e w1 ⟨rfl, b1⟩
      have K1 := H.call b1
      clear H b1
      cases hz : decide (x.id = id)
      · have HN := hid (show ∀ (j : Nat) (x : Rw), j < k + 1 → l[j]? = some x → decide (x.id = id) = false from fun j y hj hy => by
          rcases Nat.lt_or_ge j k with h | h
          · exact HC.out j y h hy
          · obtain rfl : j = k := by omega
            have hx := HX.out
            rw [hx] at hy; injection hy with hy; subst hy; exact hz)
        clear hz
        go_wp2_with fail
        go_roundw
        case rel => exact ⟨k + 1, by omega, by go_num, HN, K1⟩
        case measure => simp [intOf]; omega
      · have HZ := hid hz
        clear hz
        go_wp2_with fail
        go_ret
        exact ⟨⟨k, rfl, .inl ⟨k, x, HX.out, HZ.out, HC.out, rfl⟩⟩, K1.below⟩
    · obtain rfl : n = k := by omega
      have hd : decide ((n : Int) < (n : Int)) = false := by simp
      go_wp2_with fail
      go_ret
      exact ⟨⟨-1, rfl, .inr ⟨rfl, fun x hx => by
        obtain ⟨j, hj⟩ := List.getElem?_of_mem hx
        exact HC.out j x (by have := (List.getElem?_eq_some_iff.1 hj).1; rw [HL.out] at this; exact this) hj⟩⟩, H.below⟩
theorem uhasC_any (w : World) (A : Option Addr) (n c : Nat) (l : List Rw) (b : Nat) (id : Int) (t : TypeId) (hb : Ro w None_ (fun w => w.heap[b]? = some (.cells #[.int .i64 id] t (0, 0)))) (hD : Ro w None_ (RwsIn A n l)) (hn : n ≤ 4611686018427387904) :
    Calls Tryz.prog 126 #[.slice A n c, has1V b] w fun e w' => e = .returned (.bool ((l.map Rw.id).contains id)) ∧ Below w.heap.size w w' := by
  go_enter Tryz.func126, Tryz.ntmps126
  go_wp2_with fail
  refine (uhasI_any w A n c l b id t hb hD hn).mono ?_
  rintro e w1 ⟨⟨r, rfl, hr⟩, b1⟩
  have HB := hid b1
  clear b1
  rcases hr with ⟨k, x, hx, hp, _, rfl⟩ | ⟨rfl, hall⟩
  · have h0 : decide ((k : Int) ≥ 0) = true := by simp
    have HN := hid (show (l.map Rw.id).contains id = true from by
      have h := List.mem_map_of_mem (f := Rw.id) (List.mem_of_getElem? hx)
      rw [of_decide_eq_true hp] at h
      simpa using h)
    clear hx hp
    go_wp2_with fail
    go_ret
    exact ⟨by rw [HN.out] <;> first | rfl | simp, HB.out⟩
  · have HN := hid (show (l.map Rw.id).contains id = false from by
      rw [Bool.eq_false_iff]
      intro h
      obtain ⟨x, hx, e⟩ := List.mem_map.1 (List.contains_iff_mem.1 h)
      have := hall x hx
      rw [decide_eq_true e] at this; cases this)
    clear hall
    go_wp2_with fail
    go_ret
    exact ⟨by rw [HN.out] <;> first | rfl | simp, HB.out⟩
set_option maxHeartbeats 2000000 in
theorem uhas_any (w : World) (x : Te) (g : Nat) (id : Int) (hT : Ro w None_ (fun w => w.heap[g]? = some (.cells #[.string x.nm, .slice x.A x.n x.c, .int .i64 x.nx, .slice x.B x.m x.d] 58 (0, 0)))) (hR : Ro w None_ (RwsIn x.B x.m x.l)) (hm : x.m ≤ 4611686018427387904) :
    Calls Tryz.prog 125 #[.int .i64 id, .pointer (some ⟨g, 0, none⟩)] w fun e w' => e = .returned (.bool ((x.l.map Rw.id).contains id)) ∧ Below w.heap.size w w' := by
  have K0 := (((Hold.start None_ w (fun b hb => hb.elim)).add (hR.less (by simp [Mut]))).add (hT.less (by simp [Mut, Hp.foot]))).alloc_cst #[.int .i64 id] 3
  clear hR hT
  have f3 := cell_of_row _ _ 3 _ _ _ (K0.ro 1 rfl).now
  have fl := Blk.lt (K0.ro 1 rfl).now
  obtain ⟨v, hv⟩ : ∃ v, v = (x.l.map Rw.id).contains id := ⟨_, rfl⟩
  rw [← hv]
  have HV := hid hv
  clear hv
  go_enter Tryz.func125, Tryz.ntmps125
  go_wp2_with fail
  refine (uhasC_any _ x.B x.m x.d x.l w.heap.size id 3 ((K0.get 0 rfl : Ro _ _ _).less fun b hb => hb.elim) ((K0.ro 2 rfl).less fun b hb => hb.elim) hm).mono ?_
  rintro e w1 ⟨rfl, b1⟩
  have K1 := K0.call b1
  rw [← HV.out]
  clear K0 b1 f3 fl
  go_wp2_with fail
  go_ret
  exact ⟨rfl, K1.below⟩
set_option maxHeartbeats 2000000 in
theorem unot_any (w : World) (x : Te) (g h : Nat) (id : Int) (t : TypeId) (hV : Ro w None_ (fun w => w.heap[h]? = some (.cells #[hasV g] t (0, 0)))) (hT : Ro w None_ (fun w => w.heap[g]? = some (.cells #[.string x.nm, .slice x.A x.n x.c, .int .i64 x.nx, .slice x.B x.m x.d] 58 (0, 0)))) (hR : Ro w None_ (RwsIn x.B x.m x.l)) (hm : x.m ≤ 4611686018427387904) :
    Calls Tryz.prog 130 #[.int .i64 id, .pointer (some ⟨h, 0, none⟩)] w fun e w' => e = .returned (.bool (!(x.l.map Rw.id).contains id)) ∧ Below w.heap.size w w' := by
  have f0 := cell_of_row _ _ 0 _ _ _ hV.now
  have fl := Blk.lt hV.now
  obtain ⟨v, hv⟩ : ∃ v, v = (x.l.map Rw.id).contains id := ⟨_, rfl⟩
  rw [← hv]
  have HV := hid hv
  clear hv
  go_enter Tryz.func130, Tryz.ntmps130
  go_wp2_with fail
  refine (uhas_any w x g id hT hR hm).mono ?_
  rintro e w1 ⟨rfl, b1⟩
  rw [← HV.out]
  have HB := hid b1
  clear b1 f0 fl
  go_wp2_with fail
  go_ret
  exact ⟨by first | rfl | simp, HB.out⟩
set_option maxHeartbeats 2000000 in
theorem uturn1_any (w : World) (x : Rw) (b : Nat) (id : Int) (A2 : Option Addr) (n2 c2 : Nat) (t : TypeId) (hb : w.heap[b]? = some (.cells #[.int .i64 id, .slice A2 n2 c2] t (0, 0))) :
    Calls Tryz.prog 133 #[.agg #[.int .i64 x.id, .slice x.A x.n x.c], .pointer (some ⟨b, 0, none⟩)] w fun e w' => e = .returned (.bool (decide (x.id = id))) ∧ Below w.heap.size w w' := by
  have hbl : b < w.heap.size := Blk.lt (t := t) (cs := #[.int .i64 id, .slice A2 n2 c2]) hb
  have K0 := ((Hold.begin_ w).addCst (g := b) (t := t) (cs := #[.int .i64 id, .slice A2 n2 c2]) (fun w2 h1 h2 => (h2 b hbl (by simp [Mut, None_])).trans hb)).alloc_cst #[.int .i64 x.id, .slice x.A x.n x.c] 119
  have F0 := K0.facts
  simp only [factsL, cellsF, Nat.reduceAdd, zf, zl] at F0
  have e0 : (x.id == id) = decide (x.id = id) := by by_cases h : x.id = id <;> simp [h]
  go_enter Tryz.func133, Tryz.ntmps133
  go_wp2_with fail
  go_ret
  exact ⟨by first | rfl | simp [e0] | rw [e0], K0.below⟩
set_option maxHeartbeats 2000000 in
set_option maxRecDepth 100000 in
theorem uturnI_any (w : World) (A : Option Addr) (n c : Nat) (l : List Rw) (b : Nat) (id : Int) (A2 : Option Addr) (n2 c2 : Nat) (t : TypeId) (hb : Ro w None_ (fun w => w.heap[b]? = some (.cells #[.int .i64 id, .slice A2 n2 c2] t (0, 0)))) (hD : Ro w None_ (RwsIn A n l)) (hn : n ≤ 4611686018427387904) :
    Calls Tryz.prog 132 #[.slice A n c, turnV b] w fun e w' => (∃ r : Int, e = .returned (.int .i64 r) ∧ ((∃ (k : Nat) (x : Rw), l[k]? = some x ∧ decide (x.id = id) = true ∧ (∀ (j : Nat) (x : Rw), j < k → l[j]? = some x → decide (x.id = id) = false) ∧ r = k) ∨ (r = -1 ∧ ∀ x ∈ l, decide (x.id = id) = false))) ∧ Below w.heap.size w w' := by
  have HL := hid hD.now.len
  have K0 := ((Hold.start None_ w (fun b hb => hb.elim)).add (hb.less (by simp [Mut]))).add (hD.less (by simp [Mut, Hp.foot]))
  go_enter Tryz.func132, Tryz.ntmps132
  go_wp2_with fail
  go_loopw [8] (fun iv wr => ∃ (k : Nat), k ≤ n ∧ iv = .int .i64 k ∧ Hid (∀ (j : Nat) (x : Rw), j < k → l[j]? = some x → decide (x.id = id) = false) ∧ Hold None_ none w wr [.ro (RwsIn A n l), .ro (fun w => w.heap[b]? = some (.cells #[.int .i64 id, .slice A2 n2 c2] t (0, 0)))]) (fun iv _ => n - (intOf iv).toNat)
  case atStart => exact ⟨0, by omega, rfl, hid (fun j x hj => by omega), K0⟩
  case round =>
    clear K0
    obtain ⟨k, hk, rfl, HC, H⟩ := hrel
    by_cases hlt : k < n
    · have hd : decide ((k : Int) < (n : Int)) = true := by simp; omega
      have i0 : (0 : Int) ≤ (k : Int) := by omega
      have i1 : (k : Int) < (n : Int) := by omega
      obtain ⟨x, hx⟩ := get_of HL.out hlt
      obtain ⟨b_, o, rfl, hb_, c0, c1, _⟩ := (H.ro 0 rfl).now.at_ hx
      have HX := hid hx
      clear hx
      go_wp2_with fail
      refine (uturn1_any wr x b id A2 n2 c2 t (H.ro 1 rfl).now).mono ?_
      rintro e w1 ⟨rfl, b1⟩
      have K1 := H.call b1
      clear H b1
      cases hz : decide (x.id = id)
      · have HN := hid (show ∀ (j : Nat) (x : Rw), j < k + 1 → l[j]? = some x → decide (x.id = id) = false from fun j y hj hy => by
          rcases Nat.lt_or_ge j k with h | h
          · exact HC.out j y h hy
          · obtain rfl : j = k := by omega
            have hx := HX.out
            rw [hx] at hy; injection hy with hy; subst hy; exact hz)
        clear hz
        go_wp2_with fail
        go_roundw
        case rel => exact ⟨k + 1, by omega, by go_num, HN, K1⟩
        case measure => simp [intOf]; omega
      · have HZ := hid hz
        clear hz
        go_wp2_with fail
        go_ret
        exact ⟨⟨k, rfl, .inl ⟨k, x, HX.out, HZ.out, HC.out, rfl⟩⟩, K1.below⟩
    · obtain rfl : n = k := by omega
      have hd : decide ((n : Int) < (n : Int)) = false := by simp
      go_wp2_with fail
      go_ret
      exact ⟨⟨-1, rfl, .inr ⟨rfl, fun x hx => by
        obtain ⟨j, hj⟩ := List.getElem?_of_mem hx
        exact HC.out j x (by have := (List.getElem?_eq_some_iff.1 hj).1; rw [HL.out] at this; exact this) hj⟩⟩, H.below⟩
set_option maxHeartbeats 2000000 in
set_option maxRecDepth 100000 in
theorem uneverI_any (w : World) (A : Option Addr) (n c : Nat) (xs : List Int) (x : Te) (g : Nat) (hT : Ro w None_ (fun w => w.heap[g]? = some (.cells #[.string x.nm, .slice x.A x.n x.c, .int .i64 x.nx, .slice x.B x.m x.d] 58 (0, 0)))) (hR : Ro w None_ (RwsIn x.B x.m x.l)) (hm : x.m ≤ 4611686018427387904) (hD : Ro w None_ (IsIn A n xs)) (hn : n ≤ 4611686018427387904) (hall : ∀ y ∈ xs, (x.l.map Rw.id).contains y = false) :
    Calls Tryz.prog 189 #[.slice A n c, hasV g] w fun e w' => e = .returned (.int .i64 (-1)) ∧ Below w.heap.size w w' := by
  have HL := hid hD.now.len
  have HALL := hid hall
  clear hall
  have K0 := ((((Hold.start None_ w (fun b hb => hb.elim)).add (hR.less (by simp [Mut]))).add (hT.less (by simp [Mut, Hp.foot])))).add (hD.less (by simp [Mut, Hp.foot]))
  clear hD hR hT
  go_enter Tryz.func189, Tryz.ntmps189
  go_wp2_with fail
  go_loopw [8] (fun iv wr => ∃ (k : Nat), k ≤ n ∧ iv = .int .i64 k ∧ Hold None_ none w wr [.ro (IsIn A n xs), .ro (fun w => w.heap[g]? = some (.cells #[.string x.nm, .slice x.A x.n x.c, .int .i64 x.nx, .slice x.B x.m x.d] 58 (0, 0))), .ro (RwsIn x.B x.m x.l)]) (fun iv _ => n - (intOf iv).toNat)
  case atStart => exact ⟨0, by omega, rfl, K0⟩
  case round =>
    clear K0
    obtain ⟨k, hk, rfl, H⟩ := hrel
    by_cases hlt : k < n
    · have hd : decide ((k : Int) < (n : Int)) = true := by simp; omega
      have i0 : (0 : Int) ≤ (k : Int) := by omega
      have i1 : (k : Int) < (n : Int) := by omega
      obtain ⟨b, o, rfl, hb, hcc⟩ := (H.ro 0 rfl).now.cells (by omega)
      have hkl : k < xs.length := by rw [HL.out]; exact hlt
      have HX := hid (HALL.out (xs.getD k 0) (by
        have h : xs[k]? = some (xs.getD k 0) := by simp [List.getD, hkl]
        exact List.mem_of_getElem? h))
      have ck := hcc k hkl
      clear hcc
      generalize xs.getD k 0 = z at *
      go_wp2_with fail
      refine (uhas_any wr x g z ((H.ro 1 rfl).less fun b hb => hb.elim) ((H.ro 2 rfl).less fun b hb => hb.elim) hm).mono ?_
      rw [HX.out]
      rintro e w1 ⟨rfl, b1⟩
      have K1 := H.call b1
      clear H b1
      go_wp2_with fail
      go_roundw
      case rel => exact ⟨k + 1, by omega, by go_num, K1⟩
      case measure => simp [intOf]; omega
    · obtain rfl : n = k := by omega
      have hd : decide ((n : Int) < (n : Int)) = false := by simp
      go_wp2_with fail
      go_ret
      exact ⟨by first | rfl | simp, H.below⟩
theorem unever_any (w : World) (A : Option Addr) (n c : Nat) (xs : List Int) (x : Te) (g : Nat) (hT : Ro w None_ (fun w => w.heap[g]? = some (.cells #[.string x.nm, .slice x.A x.n x.c, .int .i64 x.nx, .slice x.B x.m x.d] 58 (0, 0)))) (hR : Ro w None_ (RwsIn x.B x.m x.l)) (hm : x.m ≤ 4611686018427387904) (hD : Ro w None_ (IsIn A n xs)) (hn : n ≤ 4611686018427387904) (hall : ∀ y ∈ xs, (x.l.map Rw.id).contains y = false) :
    Calls Tryz.prog 129 #[.slice A n c, hasV g] w fun e w' => e = .returned (.bool false) ∧ Below w.heap.size w w' := by
  go_enter Tryz.func129, Tryz.ntmps129
  go_wp2_with fail
  refine (uneverI_any w A n c xs x g hT hR hm hD hn hall).mono ?_
  rintro e w1 ⟨rfl, b1⟩
  have HB := hid b1
  clear b1
  have h0 : decide ((-1 : Int) ≥ 0) = false := by decide
  go_wp2_with fail
  go_ret
  exact ⟨by first | rfl | simp, HB.out⟩
set_option maxHeartbeats 2000000 in
set_option maxRecDepth 100000 in
theorem uallI_any (w : World) (A : Option Addr) (n c : Nat) (xs : List Int) (x : Te) (g : Nat) (h : Nat) (t : TypeId) (hV : Ro w None_ (fun w => w.heap[h]? = some (.cells #[hasV g] t (0, 0)))) (hT : Ro w None_ (fun w => w.heap[g]? = some (.cells #[.string x.nm, .slice x.A x.n x.c, .int .i64 x.nx, .slice x.B x.m x.d] 58 (0, 0)))) (hR : Ro w None_ (RwsIn x.B x.m x.l)) (hm : x.m ≤ 4611686018427387904) (hD : Ro w None_ (IsIn A n xs)) (hn : n ≤ 4611686018427387904) (hall : ∀ y ∈ xs, (x.l.map Rw.id).contains y = true) :
    Calls Tryz.prog 189 #[.slice A n c, notV h] w fun e w' => e = .returned (.int .i64 (-1)) ∧ Below w.heap.size w w' := by
  have HL := hid hD.now.len
  have HALL := hid hall
  clear hall
  have K0 := ((((Hold.start None_ w (fun b hb => hb.elim)).add (hR.less (by simp [Mut]))).add (hT.less (by simp [Mut, Hp.foot]))).add (hV.less (by simp [Mut, Hp.foot]))).add (hD.less (by simp [Mut, Hp.foot]))
  clear hD hR hT
  go_enter Tryz.func189, Tryz.ntmps189
  go_wp2_with fail
  go_loopw [8] (fun iv wr => ∃ (k : Nat), k ≤ n ∧ iv = .int .i64 k ∧ Hold None_ none w wr [.ro (IsIn A n xs), .ro (fun w => w.heap[h]? = some (.cells #[hasV g] t (0, 0))), .ro (fun w => w.heap[g]? = some (.cells #[.string x.nm, .slice x.A x.n x.c, .int .i64 x.nx, .slice x.B x.m x.d] 58 (0, 0))), .ro (RwsIn x.B x.m x.l)]) (fun iv _ => n - (intOf iv).toNat)
  case atStart => exact ⟨0, by omega, rfl, K0⟩
  case round =>
    clear K0
    obtain ⟨k, hk, rfl, H⟩ := hrel
    by_cases hlt : k < n
    · have hd : decide ((k : Int) < (n : Int)) = true := by simp; omega
      have i0 : (0 : Int) ≤ (k : Int) := by omega
      have i1 : (k : Int) < (n : Int) := by omega
      obtain ⟨b, o, rfl, hb, hcc⟩ := (H.ro 0 rfl).now.cells (by omega)
      have hkl : k < xs.length := by rw [HL.out]; exact hlt
      have HX := hid (HALL.out (xs.getD k 0) (by
        have h : xs[k]? = some (xs.getD k 0) := by simp [List.getD, hkl]
        exact List.mem_of_getElem? h))
      have ck := hcc k hkl
      clear hcc
      generalize xs.getD k 0 = z at *
      go_wp2_with fail
      refine (unot_any wr x g h z t ((H.ro 1 rfl).less fun b hb => hb.elim) ((H.ro 2 rfl).less fun b hb => hb.elim) ((H.ro 3 rfl).less fun b hb => hb.elim) hm).mono ?_
      rw [HX.out]
      rintro e w1 ⟨rfl, b1⟩
      have K1 := H.call b1
      clear H b1
      go_wp2_with fail
      go_roundw
      case rel => exact ⟨k + 1, by omega, by go_num, K1⟩
      case measure => simp [intOf]; omega
    · obtain rfl : n = k := by omega
      have hd : decide ((n : Int) < (n : Int)) = false := by simp
      go_wp2_with fail
      go_ret
      exact ⟨by first | rfl | simp, H.below⟩
theorem uall_any (w : World) (A : Option Addr) (n c : Nat) (xs : List Int) (x : Te) (g : Nat) (h : Nat) (t : TypeId) (hV : Ro w None_ (fun w => w.heap[h]? = some (.cells #[hasV g] t (0, 0)))) (hT : Ro w None_ (fun w => w.heap[g]? = some (.cells #[.string x.nm, .slice x.A x.n x.c, .int .i64 x.nx, .slice x.B x.m x.d] 58 (0, 0)))) (hR : Ro w None_ (RwsIn x.B x.m x.l)) (hm : x.m ≤ 4611686018427387904) (hD : Ro w None_ (IsIn A n xs)) (hn : n ≤ 4611686018427387904) (hall : ∀ y ∈ xs, (x.l.map Rw.id).contains y = true) :
    Calls Tryz.prog 129 #[.slice A n c, notV h] w fun e w' => e = .returned (.bool false) ∧ Below w.heap.size w w' := by
  go_enter Tryz.func129, Tryz.ntmps129
  go_wp2_with fail
  refine (uallI_any w A n c xs x g h t hV hT hR hm hD hn hall).mono ?_
  rintro e w1 ⟨rfl, b1⟩
  have HB := hid b1
  clear b1
  have h0 : decide ((-1 : Int) ≥ 0) = false := by decide
  go_wp2_with fail
  go_ret
  exact ⟨by first | rfl | simp, HB.out⟩
end Go.Proofs.YtedogodccblfeaaGreatDoor

namespace Go.Proofs.YtedogodccblfeaaGreatDoor
open Go.RowKit
set_option linter.unusedVariables false
set_option linter.unusedSimpArgs false

set_option maxHeartbeats 4000000 in
set_option maxRecDepth 100000 in
theorem growI_any (w : World) (n : Nat) (hn : n ≤ 1000000000) :
    Calls Tryz.prog 220 #[.slice none 0 0, .int .i64 n] w fun e w' => ∃ (A : Option Addr) (c : Nat), e = .returned (.slice A 0 c) ∧ w'.ownsRow w.heap.size 3 1 (.slice A 0 c) 0 [] ∧ Below w.heap.size w w' := by
  rcases Nat.eq_zero_or_pos n with h0 | h0
  · subst h0
    go_enter Tryz.func220, Tryz.ntmps220
    go_wp2_with fail
    go_ret
    exact ⟨none, 0, rfl, World.ownsRow_nil _ _ _ _, Below.refl _ _⟩
  · obtain ⟨i0, hi0, hz0, hz1, hz2⟩ := info_parts Tryz.elIntC.hi
    have hold : (Builtin.firstCells i0.size 0 (.slice none 0 0)).run Tryz.prog w.drew = .ok ([] : List Value).toArray w.drew := run_firstCells_none w.drew i0.size 0 0 0
    have hrz : ∀ ty, (Builtin.append_ #[22, 3] ty #[.slice none 0 0, .int .i64 (n : Int)]).run Tryz.prog w =
        .ok (.slice (some ⟨w.heap.size, 0, none⟩) n (grownCap w n 0 3)) (w.drew.alloc (.cells (([] : List Value).toArray ++ Builtin.zeroCells (Value.int .i64 0).cells n ++ Builtin.zeroCells (Value.int .i64 0).cells (grownCap w n 0 3 - n)) 3)) := fun ty => by
      have h := Lib.run_append_grow_zeros w 22 3 ty 3 i0 (.int .i64 0) .i64 .i64 Tryz.underlying22 Tryz.underlying3 hi0 hz0 none 0 0 [] hold n (by omega) (by rw [hz1]; omega) (by omega) (by omega) (by rw [hz2]; omega) (by rw [Nat.zero_add]; exact growslice_fits h0 (by rw [hz2]; omega))
      rw [Nat.zero_add] at h
      exact h
    have hGn : n ≤ grownCap w n 0 3 := grownCap_ge w _ _ _
    have hGm : grownCap w n 0 3 ≤ maxLen := grownCap_le_maxLen w n 0 3 (by unfold maxLen; omega)
    obtain ⟨G, hG⟩ : ∃ G, G = grownCap w n 0 3 := ⟨_, rfl⟩
    rw [← hG] at hrz hGn hGm
    have hG63 : G ≤ 9223372036854775807 := by unfold maxLen at hGm; omega
    clear hold hG
    have HGM := hid hGm
    clear hGm
    go_enter Tryz.func220, Tryz.ntmps220
    go_wp2_with (at_builtin; refine Lib.wpList_append_run _ rfl _ _ _ _ rfl _ _ rfl rfl _ _ (hrz _) ?_)
    all_goals (go_ret; exact ⟨some ⟨w.heap.size, 0, none⟩, G, rfl, ⟨by simp, .inr ⟨w.heap.size, G, _, rfl, Nat.le_refl _, heap_alloc_new w.drew _, Nat.zero_le _, HGM.out, by simp [Builtin.zeroCells, Value.cells]; omega, by simp⟩⟩, ⟨rfl, rfl, rfl, by simp, fun k hk => heap_alloc_old w.drew _ hk⟩⟩)
def catN (k n m : Nat) : Nat := if k = 0 then 0 else if k = 1 then n else n + m
def catX (k : Nat) (xs ys : List Int) : List Int := if k = 0 then [] else if k = 1 then xs else xs ++ ys
set_option maxHeartbeats 4000000 in
set_option maxRecDepth 100000 in
theorem catI_any (M : Nat → Prop) (w : World) (hM : ∀ b, M b → b < w.heap.size) (g : Nat) (A : Option Addr) (n c : Nat) (xs : List Int) (B : Option Addr) (m d : Nat) (ys : List Int) (hG : Ro w M (SlR 1 (some ⟨g, 0, none⟩) 2 [.slice A n c, .slice B m d])) (hA : Ro w M (IsIn A n xs)) (hB : Ro w M (IsIn B m ys)) (hn : n ≤ 100000000) (hm : m ≤ 100000000) :
    Calls Tryz.prog 188 #[.slice (some ⟨g, 0, none⟩) 2 2] w fun e w' => OwnIs w (xs ++ ys) e w' := by
  have HA := hid hA.now.len
  have HB := hid hB.now.len
  have K0 := (((Hold.start M w hM).add (hB.less (by simp [Mut]))).add (hA.less (by simp [Mut, Hp.foot]))).add (hG.less (by simp [Mut, Hp.foot]))
  clear hA hB hG
  go_enter Tryz.func188, Tryz.ntmps188
  go_wp2_with fail
  go_loopw [3, 11] (fun tv iv wr => ∃ (k : Nat), k ≤ 2 ∧ iv = .int .i64 k ∧ tv = .int .i64 (catN k n m) ∧ Hold M none w wr [.ro (SlR 1 (some ⟨g, 0, none⟩) 2 [.slice A n c, .slice B m d]), .ro (IsIn A n xs), .ro (IsIn B m ys)]) (fun _ iv _ => 2 - (intOf iv).toNat)
  case atStart => exact ⟨0, by omega, rfl, rfl, K0⟩
  case round =>
    clear K0
    obtain ⟨k, hk, rfl, rfl, H⟩ := hrel
    by_cases hlt : k < 2
    · have hd : decide ((k : Int) < 2) = true := by simp; omega
      obtain ⟨b, o, hbo, hb, hc⟩ := (H.ro 0 rfl).now.2 (by omega)
      injection hbo with hbo
      injection hbo with e1 e2
      subst e1 e2
      have c0 := hc 0 _ rfl
      have c1 := hc 1 _ rfl
      simp only [Nat.zero_add, Nat.add_zero] at c0 c1
      clear hc
      obtain rfl | rfl : k = 0 ∨ k = 1 := by omega
      · have q1 : catN 0 n m = 0 := rfl
        rw [q1]
        go_wp2_with fail
        go_roundw
        case rel => exact ⟨1, by omega, by go_num, by first | rfl | (simp [catN]), H⟩
        case measure => simp [intOf]
      · have q1 : catN 1 n m = n := rfl
        rw [q1]
        go_wp2_with fail
        go_roundw
        case rel => exact ⟨2, by omega, by go_num, by first | rfl | (simp [catN]), H⟩
        case measure => simp [intOf]
    · obtain rfl : k = 2 := by omega
      have hd : decide (((2 : Nat) : Int) < 2) = false := by decide
      have q1 : catN 2 n m = n + m := rfl
      rw [q1]
      go_wp2_with fail
      refine (growI_any _ (n + m) (by omega)).mono ?_
      rintro e w2 ⟨G, gc, rfl, ho, hb⟩
      have K1 := H.callOwn hb ho
      clear H hb ho
      go_wp2_with fail
      go_loopw [6, 27] (fun tv iv wr => ∃ (k q cap : Nat) (O : Option Addr), k ≤ 2 ∧ iv = .int .i64 k ∧ tv = .slice O q cap ∧ q = catN k n m ∧ Hold M none w wr [.own 3 1 (.slice O q cap) q (iCells (catX k xs ys)), .ro (SlR 1 (some ⟨g, 0, none⟩) 2 [.slice A n c, .slice B m d]), .ro (IsIn A n xs), .ro (IsIn B m ys)]) (fun _ iv _ => 2 - (intOf iv).toNat)
      case atStart => exact ⟨0, 0, gc, G, by omega, rfl, rfl, rfl, K1⟩
      case round =>
        clear K1
        obtain ⟨k, q, cap, O, hk, rfl, rfl, hq, H⟩ := hrel
        by_cases hlt : k < 2
        · have hd : decide ((k : Int) < 2) = true := by simp; omega
          obtain ⟨b, o, hbo, hb, hc⟩ := (H.ro 1 rfl).now.2 (by omega)
          injection hbo with hbo
          injection hbo with e1 e2
          subst e1 e2
          have c0 := hc 0 _ rfl
          have c1 := hc 1 _ rfl
          simp only [Nat.zero_add, Nat.add_zero] at c0 c1
          clear hc
          obtain rfl | rfl : k = 0 ∨ k = 1 := by omega
          · have hr := hid (show SlR 1 A n (iCells xs) wr from (H.ro 2 rfl).now)
            obtain rfl : q = 0 := hq
            go_wp2_with (at_builtin; go_must (refine wpList_appAllH H 0 rfl Tryz.elIntC hr.out rfl (.tmp 31) (.tmp 32) rfl rfl rfl (iCells_one _) (by omega) (by omega) ?_); intro C' cap' w6 hc6 hm6 KB; simp only [List.set_cons_zero, List.set_cons_succ] at KB)
            have e9 : iCells (catX 0 xs ys) ++ iCells xs = iCells (catX 1 xs ys) := by simp [catX, iCells]
            rw [e9] at KB
            (try simp only [Nat.zero_add] at KB)
            go_roundw
            case rel => exact ⟨1, n, cap', _, by omega, by go_num, by first | rfl | trivial, by simp [catN], KB⟩
            case measure => simp [intOf]
          · have hr := hid (show SlR 1 B m (iCells ys) wr from (H.ro 3 rfl).now)
            obtain rfl : n = q := hq.symm
            clear hq
            go_wp2_with (at_builtin; go_must (refine wpList_appAllH H 0 rfl Tryz.elIntC hr.out rfl (.tmp 31) (.tmp 32) rfl rfl rfl (iCells_one _) (by omega) (by omega) ?_); intro C' cap' w6 hc6 hm6 KB; simp only [List.set_cons_zero, List.set_cons_succ] at KB)
            have e9 : iCells (catX 1 xs ys) ++ iCells ys = iCells (catX 2 xs ys) := by simp [catX, iCells]
            rw [e9] at KB
            go_roundw
            case rel => exact ⟨2, n + m, cap', _, by omega, by go_num, by first | rfl | trivial, by simp [catN], KB⟩
            case measure => simp [intOf]
        · obtain rfl : k = 2 := by omega
          have hd : decide (((2 : Nat) : Int) < 2) = false := by decide
          have HOW := hid (H.get 0 rfl)
          have HBL := hid H.below
          have HQ := hid (show q = (xs ++ ys).length by rw [hq, List.length_append, HA.out, HB.out]; rfl)
          clear H
          go_wp2_with fail
          go_ret
          exact ⟨O, q, cap, rfl, HQ.out, HOW.out, HBL.out⟩
end Go.Proofs.YtedogodccblfeaaGreatDoor

namespace Go.Proofs.YtedogodccblfeaaGreatDoor
open Go.RowKit
set_option linter.unusedVariables false
set_option linter.unusedSimpArgs false

theorem results_tmp3 {fn : Func} {t u v : Tmp} (h : fn.results = #[.tmp t, .tmp u, .tmp v]) (tmps : Array Value) (P : Program) (w : World) :
    (results fn tmps).run P w = .ok (.tuple #[tmps.getD t undef, tmps.getD u undef, tmps.getD v undef]) w := by
  simp [results, h]
def NumsRet (w : World) (M : Nat → Prop) (xs ys : List Int) (e : Ending) (w' : World) : Prop := ∃ (A : Option Addr) (n c : Nat) (B : Option Addr) (m d : Nat), e = .returned (.tuple #[.slice A n c, .slice B m d, .bool true]) ∧ n = xs.length ∧ m = ys.length ∧ Ro w' M (IsIn A n xs) ∧ Ro w' M (IsIn B m ys) ∧ Below w.heap.size w w'
set_option maxHeartbeats 8000000 in
set_option maxRecDepth 100000 in
theorem snums_any (M : Nat → Prop) (w : World) (hM : ∀ b, M b → b < w.heap.size) (x : Ue) (N K : Nat) (hN : N ≤ 1000000) (hg : x.good N K) (rx : Ro w M (UeIn x)) (hnd : (x.li ++ x.lu.map Rw.id ++ x.ld.map Rw.id).Nodup) :
    Calls Tryz.prog 128 #[.agg #[.string x.nm, .int .i64 x.nx, .slice x.I x.ni x.ci, .slice x.D x.nd x.cd, .slice x.U x.nu x.cu]] w fun e w' => NumsRet w M (x.li ++ x.lu.map Rw.id) (x.ld.map Rw.id) e w' := by
  obtain ⟨xnm, xnx, xI, xni, xci, xD, xnd, xcd, xU, xnu, xcu, li, ld, lu⟩ := x
  dsimp only at hnd ⊢
  have HG := hid hg
  have HND := hid hnd
  have hni : xni ≤ 1000000 := Nat.le_trans hg.i hN
  have hnx : xnd ≤ 1000000 := Nat.le_trans hg.d hN
  have hnu : xnu ≤ 1000000 := Nat.le_trans hg.u hN
  have hcd := hg.cd
  have hcu := hg.cu
  dsimp only at hcd hcu
  have HI64 := hid (show ∀ z ∈ li ++ lu.map Rw.id ++ ld.map Rw.id, I64 z from fun z hz => by
    rcases List.mem_append.1 hz with hz | hz
    · rcases List.mem_append.1 hz with hz | hz
      · exact hg.li z hz
      · obtain ⟨r, hr, rfl⟩ := List.mem_map.1 hz; exact (hg.lu r hr).1.id
    · obtain ⟨r, hr, rfl⟩ := List.mem_map.1 hz; exact (hg.ld r hr).1.id)
  have HLI := hid (show li.length = xni from rx.now.1.len)
  have HLD := hid (show ld.length = xnd from rx.now.2.1.len)
  have HLU := hid (show lu.length = xnu from rx.now.2.2.len)
  have K0 := ((((Hold.start M w hM).add (show Ro w _ (IsIn xI xni li) from (rx.imp fun w h => h.1).less (by simp [Mut]))).add (show Ro w _ (RwsIn xD xnd ld) from (rx.imp fun w h => h.2.1).less (by simp [Mut, Hp.foot]))).add (show Ro w _ (RwsIn xU xnu lu) from (rx.imp fun w h => h.2.2).less (by simp [Mut, Hp.foot]))).alloc_cst #[.string xnm, .int .i64 xnx, .slice xI xni xci, .slice xD xnd xcd, .slice xU xnu xcu] 129
  obtain ⟨gx, hgx⟩ : ∃ g, g = w.heap.size := ⟨_, rfl⟩
  rw [← hgx] at K0
  clear rx hg hnd
  have hmm := @run_makeMap Tryz.prog
  have F0 := K0.facts
  simp only [factsL, cellsF, Nat.reduceAdd, zf, zl] at F0
  go_enter Tryz.func128, Tryz.ntmps128
  rw [hgx] at F0
  go_wp2_with fail
  rw [← hgx] at F0 ⊢
  have HGX := hid hgx
  clear hgx
  refine (scloneI_any _ xI xni xci li (K0.ro 3 rfl).now (by omega)).mono ?_
  rintro e w1 ⟨O0, q0, cap0, rfl, hq0, ho, hb⟩
  have K1 := K0.callOwn hb ho
  have hq1 : q0 = xni := by rw [hq0, HLI.out]
  obtain rfl : xni = q0 := hq1.symm
  clear K0 F0 hb ho hq0 hq1
  have F1 := K1.facts
  simp only [factsL, cellsF, Nat.reduceAdd, zf, zl] at F1
  go_wp2_with fail
  clear F1
  go_loopw [2, 18] (fun ov iv wr => ∃ (k q cap : Nat) (O : Option Addr), k ≤ xnu ∧ q = xni + k ∧ iv = .int .i64 k ∧ ov = .slice O q cap ∧ Hold M none w wr [.own 3 1 (.slice O q cap) q (iCells (li ++ (lu.take k).map Rw.id)), .cst gx 129 #[.string xnm, .int .i64 xnx, .slice xI xni xci, .slice xD xnd xcd, .slice xU xnu xcu], .ro (RwsIn xU xnu lu), .ro (RwsIn xD xnd ld), .ro (IsIn xI xni li)]) (fun _ iv _ => xnu - (intOf iv).toNat)
  case atStart => exact ⟨0, xni, cap0, O0, by omega, by omega, rfl, rfl, by simpa using K1⟩
  case round =>
    clear K1
    obtain ⟨k, q, cap, O, hk, hq, rfl, rfl, H⟩ := hrel
    have hqb : q ≤ 3000000 := by omega
    have HQ := hid hq
    clear hq
    by_cases hlt : k < xnu
    · have hd : decide ((k : Int) < (xnu : Int)) = true := by simp; omega
      have j0 : (0 : Int) ≤ (k : Int) := by omega
      have j1 : (k : Int) < (xnu : Int) := by omega
      obtain ⟨r, hx⟩ := get_of HLU.out hlt
      obtain ⟨g, o, rfl, hb, c0, c1, -⟩ := (H.ro 2 rfl).now.at_ hx
      have HCE := hid (show iCells (li ++ (lu.take k).map Rw.id) ++ (#[Value.int .i64 r.id]).toList = iCells (li ++ (lu.take (k + 1)).map Rw.id) by rw [List.take_add_one, hx]; simp [iCells])
      clear hx
      have K1 := H.alloc_cst #[.int .i64 r.id, .slice r.A r.n r.c] 119
      have FA := K1.facts
      simp only [factsL, cellsF, Nat.reduceAdd, zf, zl] at FA
      clear H
      go_wp2_with (at_builtin; go_must (refine wpList_appH K1 1 rfl Tryz.elIntC #[.int .i64 r.id] rfl (.tmp 22) (.tmp 25) rfl rfl _ (by first | rfl | simp) rfl rfl (by intro u hu; simp at hu; rcases hu with rfl; rfl) (by omega) (by omega) ?_); intro g9 cap9 w9 hc9 hm9 KB; rw [HCE.out] at KB; simp only [List.set_cons_zero, List.set_cons_succ] at KB)
      go_roundw
      case rel => exact ⟨k + 1, q + 1, cap9, _, by omega, by (have := HQ.out; omega), by go_num, by first | rfl | trivial, KB.drop (List.sublist_cons_self _ _)⟩
      case measure => simp [intOf]; omega
    · obtain rfl : xnu = k := by omega
      have hd : decide ((xnu : Int) < (xnu : Int)) = false := by simp
      rw [List.take_of_length_le (by rw [HLU.out]; exact Nat.le_refl _)] at H
      have KS := H.sealRow 0 rfl
      simp only [List.set_cons_zero] at KS
      have KT : Hold M none w wr [.ro (IsIn O q (li ++ lu.map Rw.id)), .cst gx 129 #[.string xnm, .int .i64 xnx, .slice xI xni xci, .slice xD xnd xcd, .slice xU xnu xcu], .ro (RwsIn xU xnu lu), .ro (RwsIn xD xnd ld), .ro (IsIn xI xni li)] := KS
      have K2 := KT.nil 3 1
      clear H KS KT
      have F2 := K2.facts
      simp only [factsL, cellsF, Nat.reduceAdd, zf, zl] at F2
      go_wp2_with fail
      clear F2
      go_loopw [3, 31] (fun ov iv wr => ∃ (k cap2 : Nat) (O2 : Option Addr), k ≤ xnd ∧ iv = .int .i64 k ∧ ov = .slice O2 k cap2 ∧ Hold M none w wr [.own 3 1 (.slice O2 k cap2) k (iCells ((ld.take k).map Rw.id)), .ro (IsIn O q (li ++ lu.map Rw.id)), .cst gx 129 #[.string xnm, .int .i64 xnx, .slice xI xni xci, .slice xD xnd xcd, .slice xU xnu xcu], .ro (RwsIn xU xnu lu), .ro (RwsIn xD xnd ld), .ro (IsIn xI xni li)]) (fun _ iv _ => xnd - (intOf iv).toNat)
      case atStart => exact ⟨0, 0, none, by omega, rfl, rfl, K2⟩
      case round =>
        clear K2
        obtain ⟨k, cap2, O2, hk, rfl, rfl, H⟩ := hrel
        by_cases hlt : k < xnd
        · have hd : decide ((k : Int) < (xnd : Int)) = true := by simp; omega
          have j0 : (0 : Int) ≤ (k : Int) := by omega
          have j1 : (k : Int) < (xnd : Int) := by omega
          obtain ⟨r, hx⟩ := get_of HLD.out hlt
          obtain ⟨g, o, rfl, hb, c0, c1, -⟩ := (H.ro 4 rfl).now.at_ hx
          have HCE := hid (show iCells ((ld.take k).map Rw.id) ++ (#[Value.int .i64 r.id]).toList = iCells ((ld.take (k + 1)).map Rw.id) by rw [List.take_add_one, hx]; simp [iCells])
          clear hx
          have K1 := H.alloc_cst #[.int .i64 r.id, .slice r.A r.n r.c] 119
          have FA := K1.facts
          simp only [factsL, cellsF, Nat.reduceAdd, zf, zl] at FA
          clear H
          go_wp2_with (at_builtin; go_must (refine wpList_appH K1 1 rfl Tryz.elIntC #[.int .i64 r.id] rfl (.tmp 35) (.tmp 38) rfl rfl _ (by first | rfl | simp) rfl rfl (by intro u hu; simp at hu; rcases hu with rfl; rfl) (by omega) (by omega) ?_); intro g9 cap9 w9 hc9 hm9 KB; rw [HCE.out] at KB; simp only [List.set_cons_zero, List.set_cons_succ] at KB)
          go_roundw
          case rel => exact ⟨k + 1, cap9, _, by omega, by go_num, by first | rfl | trivial, KB.drop (List.sublist_cons_self _ _)⟩
          case measure => simp [intOf]; omega
        · obtain rfl : xnd = k := by omega
          have hd : decide ((xnd : Int) < (xnd : Int)) = false := by simp
          rw [List.take_of_length_le (by rw [HLD.out]; exact Nat.le_refl _)] at H
          have KS := H.sealRow 0 rfl
          simp only [List.set_cons_zero] at KS
          have KT : Hold M none w wr [.ro (IsIn O2 xnd (ld.map Rw.id)), .ro (IsIn O q (li ++ lu.map Rw.id)), .cst gx 129 #[.string xnm, .int .i64 xnx, .slice xI xni xci, .slice xD xnd xcd, .slice xU xnu xcu], .ro (RwsIn xU xnu lu), .ro (RwsIn xD xnd ld), .ro (IsIn xI xni li)] := KS
          have KM := Hold.mset KT 4 intFam
          rw [show (fun _ : Int => False) = (fun z => z ∈ ([] : List Int)) by funext z; simp] at KM
          obtain ⟨gm, hgm⟩ : ∃ gm, gm = wr.heap.size := ⟨_, rfl⟩
          rw [← hgm] at KM
          have KN := KM.alloc_cst #[.slice O q cap, .slice O2 xnd cap2] 22
          obtain ⟨gn, hgn⟩ : ∃ gn, gn = gm + 1 := ⟨_, rfl⟩
          rw [World.size_alloc, ← hgm, ← hgn] at KN
          clear H KS KT KM
          go_wp2_with fail
          rw [← hgm, ← hgn]
          have HGM := hid (And.intro hgm hgn)
          clear hgm hgn
          have hG : Ro _ _ (SlR 1 (some ⟨gn, 0, none⟩) 2 [.slice O q cap, .slice O2 xnd cap2]) := ro_block (KN.get 0 rfl) rfl
          refine (catI_any _ _ KN.mutLt gn O q cap (li ++ lu.map Rw.id) O2 xnd cap2 (ld.map Rw.id) hG (KN.ro 3 rfl) (KN.ro 2 rfl) (by omega) (by omega)).mono ?_
          rintro e w3 ⟨O3, q3, cap3, rfl, hq3, ho3, hb3⟩
          have hcap3 := own_caps ho3
          have KP := (KN.callOwn hb3 ho3).sealRow 0 rfl
          simp only [List.set_cons_zero] at KP
          have KQ : Hold M none w w3 (.ro (IsIn O3 q3 (li ++ lu.map Rw.id ++ ld.map Rw.id)) :: .cst gn 22 #[.slice O q cap, .slice O2 xnd cap2] :: .ob gm (MSet 4 intFam gm 0 (fun z => z ∈ ([] : List Int))) :: [.ro (IsIn O2 xnd (ld.map Rw.id)), .ro (IsIn O q (li ++ lu.map Rw.id)), .cst gx 129 #[.string xnm, .int .i64 xnx, .slice xI xni xci, .slice xD xnd xcd, .slice xU xnu xcu], .ro (RwsIn xU xnu lu), .ro (RwsIn xD xnd ld), .ro (IsIn xI xni li)]) := KP
          have KR := KQ.drop (show List.Sublist [.ro (IsIn O3 q3 (li ++ lu.map Rw.id ++ ld.map Rw.id)), .ob gm (MSet 4 intFam gm 0 (fun z => z ∈ ([] : List Int))), .ro (IsIn O2 xnd (ld.map Rw.id)), .ro (IsIn O q (li ++ lu.map Rw.id)), .cst gx 129 #[.string xnm, .int .i64 xnx, .slice xI xni xci, .slice xD xnd xcd, .slice xU xnu xcu], .ro (RwsIn xU xnu lu), .ro (RwsIn xD xnd ld), .ro (IsIn xI xni li)] _ from .cons_cons _ (.cons _ (List.Sublist.refl _)))
          obtain ⟨al, hal⟩ : ∃ al, al = li ++ lu.map Rw.id ++ ld.map Rw.id := ⟨_, rfl⟩
          rw [← hal] at KR hq3
          have HAL := hid hal
          have hq9 : q3 ≤ 10000000 := by rw [hq3, hal, List.length_append, List.length_append, List.length_map, List.length_map, HLI.out, HLU.out, HLD.out]; omega
          have HQ3 := hid hq3
          clear KN KP KQ hb3 ho3 hG hal hq3
          go_wp2_with fail
          go_loopw [2, 3, 47] (fun av bv iv wr => ∃ (k : Nat), k ≤ q3 ∧ av = .slice O q cap ∧ bv = .slice O2 xnd cap2 ∧ iv = .int .i64 k ∧ Hold M none w wr [.ro (IsIn O3 q3 al), .ob gm (MSet 4 intFam gm k (fun z => z ∈ al.take k)), .ro (IsIn O2 xnd (ld.map Rw.id)), .ro (IsIn O q (li ++ lu.map Rw.id)), .cst gx 129 #[.string xnm, .int .i64 xnx, .slice xI xni xci, .slice xD xnd xcd, .slice xU xnu xcu], .ro (RwsIn xU xnu lu), .ro (RwsIn xD xnd ld), .ro (IsIn xI xni li)]) (fun _ _ iv _ => q3 - (intOf iv).toNat)
          case atStart => exact ⟨0, by omega, rfl, rfl, rfl, KR⟩
          case round =>
            clear KR
            obtain ⟨k, hk, rfl, rfl, rfl, H⟩ := hrel
            by_cases hlt : k < q3
            · have hd : decide ((k : Int) < (q3 : Int)) = true := by simp; omega
              have j0 : (0 : Int) ≤ (k : Int) := by omega
              have j1 : (k : Int) < (q3 : Int) := by omega
              obtain ⟨b, o, rfl, hb, hcc⟩ := (H.ro 0 rfl).now.cells (by omega)
              have hkl : k < al.length := by rw [← HQ3.out]; exact hlt
              have hx : al[k]? = some (al.getD k 0) := by simp [List.getD, hkl]
              have ck := hcc k hkl
              clear hcc
              generalize al.getD k 0 = z at *
              have hzi : I64 z := HI64.out z (by rw [← HAL.out]; exact List.mem_of_getElem? hx)
              have hzn : z ∉ al.take k := fun hm => by
                obtain ⟨i, hi, he⟩ := List.getElem_of_mem hm
                have hi2 : i < k := by rw [List.length_take] at hi; omega
                have nd : al.Nodup := by rw [HAL.out]; exact HND.out
                have h1 : al[i]? = some z := by rw [← he, List.getElem_take]; exact List.getElem?_eq_getElem (by omega)
                have h2 := (List.getElem?_inj (by omega : i < al.length) nd).1 (h1.trans hx.symm)
                omega
              have HS := hid (show (fun y => y = z ∨ y ∈ al.take k) = (fun y => y ∈ al.take (k + 1)) by
                funext y
                rw [List.take_add_one, hx]
                simp [or_comm])
              have HZN := hid hzn
              clear hx hzn
              go_wp2_with first
                | (at_lookup; go_must (refine wpList_look H 1 rfl Tryz.setI rfl (.tmp 51) (.tmp 52) rfl rfl z rfl hzi ?_); intro cb hcb; obtain rfl : cb = false := (by cases cb; rfl; exact absurd (hcb.1 rfl) HZN.out); clear hcb)
                | (at_mapUpdate; go_must (refine wpList_put H 1 rfl Tryz.setI rfl (.tmp 54) (.tmp 55) _ rfl rfl z rfl rfl hzi (by unfold maxLen; omega) ?_); intro w5 K5)
              rw [HS.out] at K5
              simp only [List.set_cons_zero, List.set_cons_succ] at K5
              go_roundw
              case rel => exact ⟨k + 1, by omega, rfl, rfl, by go_num, K5⟩
              case measure => simp [intOf]; omega
            · obtain rfl : q3 = k := by omega
              have hd : decide ((q3 : Int) < (q3 : Int)) = false := by simp
              have r1 := H.roOut 3 rfl
              have r2 := H.roOut 2 rfl
              have HB := hid H.below
              have HL1 := hid (r1.now.len)
              have HL2 := hid (r2.now.len)
              clear H
              go_wp2_with fail
              (try simp only [Exit.inBlock, Exit.then])
              refine bodyPost_ret (results_tmp3 rfl _ _ _) rfl ?_
              exact ⟨O, q, cap, O2, xnd, cap2, rfl, HL1.out.symm, HL2.out.symm, r1, r2, HB.out⟩
end Go.Proofs.YtedogodccblfeaaGreatDoor

namespace Go.Proofs
open Go.Shelf
def Tryz.insRw_ren : Go.Shelf.Ren := ⟨fun | 20 => 221 | n => n, fun | 22 => 41 | 24 => 119 | 25 => 200 | 3 => 3 | 0 => 0 | 4 => 4 | n => n, fun | n => n⟩
theorem Tryz.insRw : Go.Proofs.SlLaysF0.n20 Tryz.prog Tryz.insRw_ren := {
  mixed := by kernel_rfl
  f20 := ⟨Tryz.f221.name, by decide, Tryz.func221.trans (congrArg some (by kernel_rfl))⟩
  t0 := Tryz.underlying0
  a0 := Tryz.isAgg0
  z0 := Tryz.sizeOf0
  v0 := Tryz.zeroValue0
  t3 := Tryz.underlying3
  a3 := Tryz.isAgg3
  z3 := Tryz.sizeOf3
  v3 := Tryz.zeroValue3
  t4 := Tryz.underlying4
  a4 := Tryz.isAgg4
  z4 := Tryz.sizeOf4
  v4 := Tryz.zeroValue4
  t22 := Tryz.underlying41
  a22 := Tryz.isAgg41
  z22 := Tryz.sizeOf41
  v22 := Tryz.zeroValue41
  t25 := Tryz.underlying200
  a25 := Tryz.isAgg200
  z25 := Tryz.sizeOf200
  v25 := Tryz.zeroValue200 }
end Go.Proofs

namespace Go.Proofs.YtedogodccblfeaaGreatDoor
open Go.RowKit Go.Sort
set_option linter.unusedVariables false
set_option linter.unusedSimpArgs false

theorem sortWd_heap {α : Type} [Inhabited α] (enc : α → Value) (w : World) (g m : Nat) (d : Array α) (os : Array Obj) {b : Nat} (hb : b < w.heap.size) (hne : b ≠ g) : (sortWorld enc w g 0 m d os).heap[b]? = w.heap[b]? := by
  show ((w.heap.modify g _) ++ os)[b]? = _
  rw [Array.getElem?_append, if_pos (by simpa using hb), Array.getElem?_modify, if_neg (fun e => hne e.symm)]
theorem sortWd_size {α : Type} [Inhabited α] (enc : α → Value) (w : World) (g m : Nat) (d : Array α) (os : Array Obj) : w.heap.size ≤ (sortWorld enc w g 0 m d os).heap.size := by
  show _ ≤ ((w.heap.modify g _) ++ os).size
  simp
theorem sortWd_at {α : Type} [Inhabited α] (enc : α → Value) (w : World) (g m : Nat) (d : Array α) (os : Array Obj) {cs : Array Value} {t : TypeId} (h : w.heap[g]? = some (.cells cs t (0, 0))) : (sortWorld enc w g 0 m d os).heap[g]? = some (.cells (Go.Sort.putCells enc 0 d cs) t (0, 0)) := by
  have hb : g < w.heap.size := (Array.getElem?_eq_some_iff.1 h).1
  show ((w.heap.modify g _) ++ os)[g]? = _
  rw [Array.getElem?_append, if_pos (by simpa using hb), Array.getElem?_modify, if_pos rfl, h]
  rfl
section
variable {α : Type} [Inhabited α] (enc : α → List Value) (k : Nat) (hk : ∀ x, (enc x).length = k)
include hk
theorem flatK_cell (d : Array α) {t : Nat} (ht : t < d.size * k) : (flatK enc k d)[t]! = (d.toList.flatMap enc)[t]?.getD default ∧ t < (d.toList.flatMap enc).length := by
  have hl : (d.toList.flatMap enc).length = d.size * k := by rw [flat_len enc k hk]; simp
  have k0 : 0 < k := by
    rcases Nat.eq_zero_or_pos k with h | h
    · subst h; simp at ht
    · exact h
  have h1 : t / k < d.size := Nat.div_lt_of_lt_mul (by rw [Nat.mul_comm]; exact ht)
  have h2 : t % k < k := Nat.mod_lt _ k0
  refine ⟨?_, by rw [hl]; exact ht⟩
  rw [get_flatK _ _ _ _ ht]
  have hx : d.toList[t / k]? = some d[t / k] := by rw [Array.getElem?_toList, Array.getElem?_eq_getElem h1]
  have h3 := flat_get enc k hk d.toList (t / k) (t % k) _ h2 hx
  rw [show t / k * k + t % k = t by rw [Nat.mul_comm]; exact Nat.div_add_mod t k] at h3
  rw [h3, getElem!_pos d _ h1]
  rw [getElem!_pos _ _ (by rw [hk]; exact h2), List.getElem?_eq_getElem (by rw [hk]; exact h2)]
  rfl
theorem flatK_at (d : Array α) {t : Nat} (ht : t < d.size * k) : (d.toList.flatMap enc)[t]? = some (flatK enc k d)[t]! := by
  obtain ⟨h1, h2⟩ := flatK_cell enc k hk d ht
  rw [h1, List.getElem?_eq_getElem h2]; rfl
theorem holdsK_own {w : World} {base : Nat} {e : TypeId} {g q cap : Nat} {d : Array α} (hs : d.size = q) (ho : w.ownsRow base e k (.slice (some ⟨g, 0, none⟩) q cap) q (d.toList.flatMap enc)) : HoldsK enc k w g 0 d := fun j hj => by
  rw [size_flatK] at hj
  rw [Nat.zero_add]
  refine ⟨(ho.cellAt j (by rw [← hs]; exact hj)).trans (flatK_at enc k hk d hj), ho.frozenAt j⟩
/-- an own row behind the sort -/
theorem own_sortK {w : World} {base : Nat} {e : TypeId} {g q cap : Nat} {xs : List Value} (ho : w.ownsRow base e k (.slice (some ⟨g, 0, none⟩) q cap) q xs) {d' : Array α} (hs : d'.size = q) (m : Nat) (os : Array Obj) : (sortWorldK enc k w g 0 m d' os).ownsRow base e k (.slice (some ⟨g, 0, none⟩) q cap) q (d'.toList.flatMap enc) := by
  have hl : (d'.toList.flatMap enc).length = q * k := by rw [flat_len enc k hk]; simp [hs]
  obtain ⟨hlen2, ⟨hv0, _⟩ | ⟨g', cap', cur, hveq, hbase, hcell, hqc, hcm, hcs, htk⟩⟩ := ho
  · cases hv0
  · injection hveq with e1 e2 e3
    injection e1 with e1
    injection e1 with e1
    subst e1; subst e3
    have hle : q * k ≤ cap * k := Nat.mul_le_mul_right _ hqc
    refine ⟨hl, .inr ⟨g, cap, _, rfl, hbase, sortWd_at id w g m (flatK enc k d') os hcell, hqc, hcm, ?_, ?_⟩⟩
    · rw [← hcs]
      show (cur.mapIdx _).size = _
      simp
    · refine List.ext_getElem? fun j => ?_
      by_cases hj : j < q * k
      · rw [List.getElem?_take, if_pos hj, flatK_at enc k hk d' (by rw [hs]; exact hj)]
        have hjc : j < cur.size := by rw [hcs]; omega
        show ((cur.mapIdx fun i x => if 0 ≤ i ∧ i < 0 + (flatK enc k d').size then id (flatK enc k d')[i - 0]! else x).toList)[j]? = _
        rw [Array.getElem?_toList, Array.getElem?_mapIdx, Array.getElem?_eq_getElem hjc]
        simp only [Option.map_some, Nat.zero_add, Nat.sub_zero, Nat.zero_le, true_and, size_flatK]
        rw [if_pos (by rw [hs]; exact hj)]
        rfl
      · rw [List.getElem?_eq_none (by rw [List.length_take]; omega), List.getElem?_eq_none (by rw [hl]; omega)]
theorem Hold.sortK {M : Nat → Prop} {row : Option Nat} {w0 w : World} {L : List Hp} (K : Hold M row w0 w L) (i : Nat) {e : TypeId} {g q cap : Nat} {xs : List Value} (hi : L[i]? = some (.own e k (.slice (some ⟨g, 0, none⟩) q cap) q xs)) {d' : Array α} (hs : d'.size = q) (m : Nat) (os : Array Obj) : Hold M row w0 (sortWorldK enc k w g 0 m d' os) (L.set i (.own e k (.slice (some ⟨g, 0, none⟩) q cap) q (d'.toList.flatMap enc))) := by
  have hg : g < w.heap.size := (K.fresh _ (List.mem_of_getElem? hi) g rfl).2
  exact K.append (w' := sortWorldK enc k w g 0 m d' os) i hi (own_sortK enc k hk (K.get i hi) hs m os) ⟨rfl, rfl, rfl, sortWd_size id w g m (flatK enc k d') os, fun b hb hne => sortWd_heap id w g m (flatK enc k d') os hb fun e => hne (by rw [e]; rfl)⟩ (.inl rfl) (Nat.lt_of_lt_of_le hg (sortWd_size id w g m (flatK enc k d') os))
end
end Go.Proofs.YtedogodccblfeaaGreatDoor

namespace Go.Proofs.YtedogodccblfeaaGreatDoor
open Go.RowKit Go.Sort
set_option linter.unusedVariables false
set_option linter.unusedSimpArgs false

instance rwInh : Inhabited Rw := ⟨⟨0, none, 0, 0, []⟩⟩
def cmpR (x y : Rw) : Int := cmpI x.id y.id
theorem cmpR_lt {x y : Rw} : cmpR x y < 0 ↔ x.id < y.id := by
  unfold cmpR cmpI
  split
  · simp [*]
  · split
    · constructor <;> intro h <;> omega
    · constructor <;> intro h <;> omega
theorem swoR : SWO (ltOf cmpR) where
  irrefl x := by unfold ltOf; rw [decide_eq_false_iff_not, cmpR_lt]; omega
  trans x y z h1 h2 := by unfold ltOf at *; rw [decide_eq_true_iff, cmpR_lt] at *; omega
  ntrans x y z h1 h2 := by unfold ltOf at *; rw [decide_eq_false_iff_not, cmpR_lt] at *; omega
set_option maxHeartbeats 2000000 in
theorem ucmp_gr (x y : Rw) (w : World) :
    Calls Tryz.prog 135 #[.agg #[.int .i64 x.id, .slice x.A x.n x.c], .agg #[.int .i64 y.id, .slice y.A y.n y.c]] w fun e w' => e = .returned (.int .i64 (cmpR x y)) ∧ Gr w w' := by
  have K0 := ((Hold.begin_ w).alloc_cst #[.int .i64 x.id, .slice x.A x.n x.c] 119).alloc_cst #[.int .i64 y.id, .slice y.A y.n y.c] 119
  have F0 := K0.facts
  simp only [factsL, cellsF, Nat.reduceAdd, zf, zl] at F0
  go_enter Tryz.func135, Tryz.ntmps135
  go_wp2_with fail
  refine (cmp_int x.id y.id _).mono ?_
  rintro e w3 ⟨rfl, rfl⟩
  go_wp2_with fail
  go_ret
  exact ⟨rfl, (Gr.alloc _ _).trans (Gr.alloc _ _)⟩
abbrev ucmpV : Value := .func (.func 135) #[] #[]
set_option maxHeartbeats 4000000 in
set_option maxRecDepth 100000 in
theorem stable_any (w : World) (A : Option Addr) (q cap : Nat) (hq : q ≤ 19) (Q : World → Prop) (hins : Calls Tryz.prog 221 #[.slice A q cap, .int .i64 0, .int .i64 q, ucmpV] w fun e w' => e = .returned (.tuple #[]) ∧ Q w') :
    Calls Tryz.prog 191 #[.slice A q cap, .int .i64 q, ucmpV] w fun e w' => e = .returned (.tuple #[]) ∧ Q w' := by
  have HI := hid hins
  clear hins
  have h1 : decide ((20 : Int) ≤ (q : Int)) = false := by rw [decide_eq_false_iff_not]; omega
  have h2 : decide ((20 : Int) < (q : Int)) = false := by rw [decide_eq_false_iff_not]; omega
  go_enter Tryz.func191, Tryz.ntmps191
  go_wp2_with fail
  go_loopw [7, 8] (fun av bv wr => av = .int .i64 0 ∧ bv = .int .i64 20 ∧ wr = w) (fun _ _ _ => 0)
  case atStart => exact ⟨rfl, rfl, rfl⟩
  case round =>
    obtain ⟨rfl, rfl, rfl⟩ := hrel
    go_wp2_with fail
    refine HI.out.mono ?_
    rintro e w2 ⟨rfl, hQ⟩
    have HQ := hid hQ
    clear hQ
    go_wp2_with fail
    go_loopw [6, 7, 8] (fun cv av bv wr => cv = .int .i64 20 ∧ wr = w2) (fun _ _ _ _ => 0)
    case atStart => exact ⟨rfl, rfl⟩
    case round =>
      obtain ⟨rfl, rfl⟩ := hrel
      go_wp2_with fail
      go_end0
      exact ⟨rfl, HQ.out⟩
theorem sortrw_any {M : Nat → Prop} {row : Option Nat} {w0 w : World} {L : List Hp} (K : Hold M row w0 w L) (i : Nat) {e : TypeId} {A : Option Addr} {q cap : Nat} {lo : List Rw} (hi : L[i]? = some (.own e 2 (.slice A q cap) q (rwCells lo))) (hq : q ≤ 19) :
    Calls Tryz.prog 134 #[.slice A q cap, ucmpV] w fun e' w' => e' = .returned (.tuple #[]) ∧ ∃ lo' : List Rw, lo'.Perm lo ∧ (lo'.map Rw.id).Pairwise (· ≤ ·) ∧ Hold M row w0 w' (L.set i (.own e 2 (.slice A q cap) q (rwCells lo'))) := by
  have ho : w.ownsRow w0.heap.size e 2 (.slice A q cap) q (rwCells lo) := K.get i hi
  have hl : lo.length = q := by have := ho.1; rw [rwCells_len] at this; omega
  have hst : Calls Tryz.prog 191 #[.slice A q cap, .int .i64 q, ucmpV] w fun e' w' => e' = .returned (.tuple #[]) ∧ ∃ lo' : List Rw, lo'.Perm lo ∧ (lo'.map Rw.id).Pairwise (· ≤ ·) ∧ Hold M row w0 w' (L.set i (.own e 2 (.slice A q cap) q (rwCells lo'))) := by
    refine stable_any w A q cap hq _ ?_
    rcases own_addr ho with ⟨rfl, rfl, rfl⟩ | ⟨g, rfl, hgb⟩
    · have hcon := AnyF.insertionSortCmpFunc_none Tryz.insRw none 0 ucmpV w
      change Calls Tryz.prog 221 _ _ _ at hcon
      refine hcon.mono ?_
      rintro e' w' ⟨rfl, rfl⟩
      obtain rfl : lo = [] := List.length_eq_zero_iff.1 hl
      refine ⟨rfl, [], List.Perm.refl _, by simp, ?_⟩
      rw [show L.set i (.own e 2 (.slice none 0 0) 0 (rwCells [])) = L from by
        apply List.ext_getElem?
        intro j
        rw [List.getElem?_set]
        split
        · subst i; split
          · exact hi.symm
          · rw [List.getElem?_eq_none (by omega)]
        · rfl]
      exact K
    · have hg : g < w.heap.size := (K.fresh _ (List.mem_of_getElem? hi) g rfl).2
      have hcmp : CmpLays Tryz.prog 135 #[] Rw.cells 2 cmpR g 0 lo.toArray.size w := fun m os dk hs x y => (ucmp_gr x y _).mono fun e' w' h => h
      have hcon := AnyQ.insertionSortCmpFunc Tryz.insRw 2 Tryz.isAgg119 Tryz.sizeOf119 Rw.cells (fun _ => rfl) (fun x v hv => by simp [Rw.cells] at hv; rcases hv with rfl | rfl <;> rfl) cmpR 135 #[] g 0 cap 0 q lo.toArray w (enters_of Tryz.func135 (by kernel_rfl) rfl) hcmp (holdsK_own Rw.cells 2 (fun _ => rfl) (d := lo.toArray) (by simpa using hl) ho) hg (Nat.zero_le _) (by simpa using Nat.le_of_eq hl.symm) (by simpa [hl] using (show q < 4611686018427387904 by omega))
      rw [show lo.toArray.size = q by simpa using hl] at hcon
      change Calls Tryz.prog 221 _ _ _ at hcon
      obtain ⟨⟨p1, p2, p3⟩, hs⟩ := insertionSort_holds (lt := ltOf cmpR) swoR lo.toArray 0 q (Nat.zero_le _) (by simpa using Nat.le_of_eq hl.symm)
      refine hcon.mono ?_
      rintro e' w' ⟨rfl, n, os, rfl⟩
      obtain ⟨d', hd'⟩ : ∃ d', d' = insertionSort (ltOf cmpR) lo.toArray 0 q := ⟨_, rfl⟩
      rw [← hd'] at p1 p2 p3 hs ⊢
      have p1 : d'.size = q := by simpa [hl] using p1
      have hall : d'.extract 0 q = d' := by rw [← p1]; simp
      have hall2 : lo.toArray.extract 0 q = lo.toArray := by rw [← hl]; simp
      rw [hall, hall2] at p3
      refine ⟨rfl, d'.toList, by simpa using p3, ?_, ?_⟩
      · rw [List.pairwise_map, List.pairwise_iff_getElem]
        intro a b ha hb hab
        have h1 := hs a b (Nat.zero_le _) hab (by simpa [p1] using hb)
        unfold ltOf at h1
        rw [decide_eq_false_iff_not, cmpR_lt] at h1
        rw [getElem!_pos d' a (by simpa using ha), getElem!_pos d' b (by simpa using hb)] at h1
        simpa using h1
      · exact K.sortK Rw.cells 2 (fun _ => rfl) i hi p1 n os
  have HST := hid hst
  clear hst K ho hi
  go_enter Tryz.func134, Tryz.ntmps134
  go_wp2_with fail
  refine HST.out.mono ?_
  rintro e' w' ⟨rfl, hr⟩
  have HR := hid hr
  clear hr HST
  go_wp2_with fail
  go_end0
  exact ⟨rfl, HR.out⟩
end Go.Proofs.YtedogodccblfeaaGreatDoor

namespace Go.Proofs.YtedogodccblfeaaGreatDoor
open Go.RowKit
set_option linter.unusedVariables false
set_option linter.unusedSimpArgs false

theorem ro_blkN {w : World} {g : Nat} {t : TypeId} {cs : Array Value} (h : w.heap[g]? = some (.cells cs t (0, 0))) : Ro w None_ (fun w => w.heap[g]? = some (.cells cs t (0, 0))) := fun w2 h1 h2 => (h2 g (Blk.lt (t := t) (cs := cs) h) (fun hm => hm.elim)).trans h
def UndoRet (w : World) (M : Nat → Prop) (t : Tb) (e : Ending) (w' : World) : Prop := ∃ x : Te, e = .returned (.tuple #[x.val, .bool true]) ∧ x.tb = t ∧ x.ok ∧ Ro w' M (TeIn x) ∧ Below w.heap.size w w'
set_option maxHeartbeats 16000000 in
set_option maxRecDepth 100000 in
theorem sundoT_any (M : Nat → Prop) (w : World) (hM : ∀ b, M b → b < w.heap.size) (x : Te) (u : Ue) (N K : Nat) (rs : List Row) (hN : N ≤ 1000000) (hx : x.ok) (hxm : x.m ≤ 1000000) (hg : u.good N K) (rx : Ro w M (TeIn x)) (ru : Ro w M (UeIn u)) (hok : UndOk x.l u.li u.ld u.lu rs) :
    Calls Tryz.prog 66 #[.agg #[.string x.nm, .slice x.A x.n x.c, .int .i64 x.nx, .slice x.B x.m x.d], .agg #[.string u.nm, .int .i64 u.nx, .slice u.I u.ni u.ci, .slice u.D u.nd u.cd, .slice u.U u.nu u.cu]] w fun e w' => UndoRet w M ⟨x.nm, x.cs, u.nx, rs⟩ e w' := by
  obtain ⟨xnm, xA, xn, xc, cs, xnx, xB, xm, xd, l⟩ := x
  obtain ⟨unm, unx, uI, uni, uci, uD, und, ucd, uU, unu, ucu, li, ld, lu⟩ := u
  dsimp only at hok hxm ⊢
  have HOK := hid hok
  have HG := hid hg
  have HX := hid hx
  have hni : uni ≤ 1000000 := Nat.le_trans hg.i hN
  have hnd : und ≤ 1000000 := Nat.le_trans hg.d hN
  have hnu : unu ≤ 1000000 := Nat.le_trans hg.u hN
  have hcd := hg.cd
  have hcu := hg.cu
  have hci := hg.ci
  have hxd := hx.md
  have hxd2 := hx.d
  dsimp only at hcd hcu hci hxd hxd2
  have HLI := hid (show li.length = uni from ru.now.1.len)
  have HLD := hid (show ld.length = und from ru.now.2.1.len)
  have HLU := hid (show lu.length = unu from ru.now.2.2.len)
  have HLL := hid (show l.length = xm from rx.now.2.len)
  have K0 := (((((Hold.start M w hM).add (show Ro w _ (ColsIn xA xn cs) from (rx.imp fun w h => h.1).less (by simp [Mut]))).add (show Ro w _ (RwsIn xB xm l) from (rx.imp fun w h => h.2).less (by simp [Mut, Hp.foot]))).add (show Ro w _ (IsIn uI uni li) from (ru.imp fun w h => h.1).less (by simp [Mut, Hp.foot]))).add (show Ro w _ (RwsIn uD und ld) from (ru.imp fun w h => h.2.1).less (by simp [Mut, Hp.foot]))).add (show Ro w _ (RwsIn uU unu lu) from (ru.imp fun w h => h.2.2).less (by simp [Mut, Hp.foot]))
  clear rx ru hok hg hx hN
  obtain ⟨gt, hgt⟩ : ∃ g, g = w.heap.size := ⟨_, rfl⟩
  obtain ⟨gu, hgu⟩ : ∃ g, g = gt + 1 := ⟨_, rfl⟩
  obtain ⟨gz, hgz⟩ : ∃ g, g = gu + 1 := ⟨_, rfl⟩
  obtain ⟨gf, hgf⟩ : ∃ g, g = gz + 1 := ⟨_, rfl⟩
  have K1 := (((K0.alloc #[.string xnm, .slice xA xn xc, .int .i64 xnx, .slice xB xm xd] 58).alloc_cst #[.string unm, .int .i64 unx, .slice uI uni uci, .slice uD und ucd, .slice uU unu ucu] 129).alloc #[.string ⟨#[]⟩, .slice none 0 0, .int .i64 0, .slice none 0 0] 58).alloc_cst #[hasV w.heap.size] 141
  simp only [World.size_alloc] at K1
  rw [← hgt, ← hgu, ← hgz, ← hgf] at K1
  clear K0
  have F1 := K1.facts
  simp only [factsL, cellsF, Nat.reduceAdd, zf, zl] at F1
  rw [hgf, hgz, hgu, hgt] at F1
  go_enter Tryz.func66, Tryz.ntmps66
  go_wp2_with fail
  rw [← hgt, ← hgu, ← hgz, ← hgf] at F1 ⊢
  have HGS := hid (And.intro hgt (And.intro hgu (And.intro hgz hgf)))
  clear hgt hgu hgz hgf
  refine (snums_any _ _ K1.mutLt ⟨unm, unx, uI, uni, uci, uD, und, ucd, uU, unu, ucu, li, ld, lu⟩ 1000000 K (by omega) ⟨hni, hnd, hnu, HG.out.ci, HG.out.cd, HG.out.cu, HG.out.li, HG.out.ld, HG.out.lu⟩ ((K1.ro 6 rfl).and ((K1.ro 5 rfl).and (K1.ro 4 rfl))) HOK.out.nd).mono ?_
  rintro e w1 ⟨A7, n7, c7, B8, n8, c8, rfl, h7, h8, r7, r8, b1⟩
  have K2 := ((K1.call b1).add r7).add (r8.less (by simp [Mut, Hp.foot]))
  have hn7 : n7 ≤ 3000000 := by rw [h7, List.length_append, List.length_map, HLI.out, HLU.out]; omega
  have hn8 : n8 ≤ 3000000 := by rw [h8, List.length_map, HLD.out]; omega
  clear K1 F1 r7 r8 b1 h7 h8
  have F2 := K2.facts
  simp only [factsL, cellsF, Nat.reduceAdd, zf, zl] at F2
  go_wp2_with fail
  refine (unever_any _ B8 n8 c8 (ld.map Rw.id) ⟨xnm, xA, xn, xc, cs, xnx, xB, xm, xd, l⟩ gt (ro_blkN (K2.blk_ 5 rfl)) ((K2.ro 9 rfl).less (fun b hb => hb.elim)) (by show xm ≤ _; omega) ((K2.ro 0 rfl).less (fun b hb => hb.elim)) (by omega) HOK.out.out).mono ?_
  rintro e w2 ⟨rfl, b2⟩
  have K3 := K2.call b2
  clear K2 F2 b2
  have F3 := K3.facts
  simp only [factsL, cellsF, Nat.reduceAdd, zf, zl] at F3
  go_wp2_with fail
  refine (uall_any _ A7 n7 c7 (li ++ lu.map Rw.id) ⟨xnm, xA, xn, xc, cs, xnx, xB, xm, xd, l⟩ gt gf 141 ((K3.get 2 rfl : Ro _ _ _).less (fun b hb => hb.elim)) (ro_blkN (K3.blk_ 5 rfl)) ((K3.ro 9 rfl).less (fun b hb => hb.elim)) (by show xm ≤ _; omega) ((K3.ro 1 rfl).less (fun b hb => hb.elim)) (by omega) HOK.out.inn).mono ?_
  rintro e w3 ⟨rfl, b3⟩
  have K4 := ((K3.call b3).drop (.cons _ (.cons _ (List.sublist_cons_self _ _)))).nil 119 2
  clear K3 F3 b3
  have F4 := K4.facts
  simp only [factsL, cellsF, Nat.reduceAdd, zf, zl] at F4
  go_wp2_with fail
  clear F4
  go_loopw [10, 37] (fun ov iv wr => ∃ (k q cap : Nat) (O : Option Addr), k ≤ xm ∧ q ≤ k ∧ iv = .int .i64 k ∧ ov = .slice O q cap ∧ Hold M none w wr [.own 119 2 (.slice O q cap) q (rwCells (leftW li lu (l.take k))), .blk gz 58 #[.string ⟨#[]⟩, .slice none 0 0, .int .i64 0, .slice none 0 0], .cst gu 129 #[.string unm, .int .i64 unx, .slice uI uni uci, .slice uD und ucd, .slice uU unu ucu], .blk gt 58 #[.string xnm, .slice xA xn xc, .int .i64 xnx, .slice xB xm xd], .ro (RwsIn uU unu lu), .ro (RwsIn uD und ld), .ro (IsIn uI uni li), .ro (RwsIn xB xm l), .ro (ColsIn xA xn cs)]) (fun _ iv _ => xm - (intOf iv).toNat)
  case atStart => exact ⟨0, 0, 0, none, by omega, by omega, rfl, rfl, K4⟩
  case round =>
    clear K4
    obtain ⟨k, q, cap, O, hk, hq, rfl, rfl, H⟩ := hrel
    by_cases hlt : k < xm
    · have hd : decide ((k : Int) < (xm : Int)) = true := by simp; omega
      have i0 : (0 : Int) ≤ (k : Int) := by omega
      have i1 : (k : Int) < (xm : Int) := by omega
      obtain ⟨r, hr⟩ := get_of HLL.out hlt
      obtain ⟨b, o, rfl, hb, c0, c1, -⟩ := (H.ro 7 rfl).now.at_ hr
      have HR := hid hr
      clear hr
      obtain ⟨gr, hgr⟩ : ∃ g, g = wr.heap.size := ⟨_, rfl⟩
      have K1 := H.alloc #[.int .i64 r.id, .slice r.A r.n r.c] 119
      rw [← hgr] at K1
      have FA := K1.facts
      simp only [factsL, cellsF, Nat.reduceAdd, zf, zl] at FA
      rw [hgr] at FA
      clear H
      go_wp2_with fail
      rw [← hgr] at FA ⊢
      have HGR := hid hgr
      clear hgr c0 c1
      refine (kcont_any _ uI uni uci li r.id (K1.ro 7 rfl).now (by omega)).mono ?_
      rintro e w4 ⟨rfl, rfl⟩
      cases hc : li.contains r.id
      · have HC := hid hc
        clear hc
        go_wp2_with fail
        refine (uturnI_any _ uU unu ucu lu gr r.id r.A r.n r.c 119 (ro_blkN (K1.blk_ 0 rfl)) ((K1.ro 5 rfl).less (fun b hb => hb.elim)) (by omega)).mono ?_
        rintro e w5 ⟨⟨ri, rfl, hri⟩, b5⟩
        have K5 := K1.call b5
        clear K1 FA b5
        have FB := K5.facts
        simp only [factsL, cellsF, Nat.reduceAdd, zf, zl] at FB
        rcases hri with ⟨kk, z, hz, hze, hzl, rfl⟩ | ⟨rfl, hno⟩
        · have h0 : decide ((kk : Int) ≥ 0) = true := by simp
          have hkk : kk < unu := by rw [← HLU.out]; exact (List.getElem?_eq_some_iff.1 hz).1
          have j0 : (0 : Int) ≤ (kk : Int) := by omega
          have j1 : (kk : Int) < (unu : Int) := by omega
          obtain ⟨b6, o6, rfl, hb6, d0, d1, -⟩ := (K5.ro 5 rfl).now.at_ hz
          have HT := hid (show rwCells (leftW li lu (l.take k)) ++ (#[Value.int .i64 z.id, .slice z.A z.n z.c]).toList = rwCells (leftW li lu (l.take (k + 1))) by
            rw [leftW_take HR.out, HC.out, if_neg (by simp), pickW_some hz hze hzl]; simp [rwCells, Rw.cells])
          clear hz hze hzl
          have K6 := (K5.store 0 rfl 0 (.int .i64 z.id)).store 0 rfl 1 (.slice z.A z.n z.c)
          simp only [List.set_cons_zero, List.set_cons_succ, List.setIfInBounds_toArray] at K6
          have N5 := K5.nes
          simp only [World.size_alloc, nesL, neF, List.set_cons_zero, List.set_cons_succ, and_true, true_and] at N5
          go_wp2_with (at_builtin; go_must (refine wpList_appH K6 1 rfl Tryz.elRw #[.int .i64 z.id, .slice z.A z.n z.c] rfl (.tmp 57) (.tmp 59) rfl rfl _ (by first | rfl | simp) rfl rfl (by intro u hu; simp at hu; rcases hu with rfl | rfl <;> rfl) (by omega) (by omega) ?_); intro g9 cap9 w9 hc9 hm9 KB; rw [HT.out] at KB; simp only [List.set_cons_zero, List.set_cons_succ] at KB)
          go_roundw
          case rel => exact ⟨k + 1, q + 1, cap9, _, by omega, by omega, by go_num, by first | rfl | trivial, KB.drop (List.sublist_cons_self _ _)⟩
          case measure => simp [intOf]; omega
        · have h0 : decide ((-1 : Int) ≥ 0) = false := by decide
          have HT := hid (show rwCells (leftW li lu (l.take k)) ++ (#[Value.int .i64 r.id, .slice r.A r.n r.c]).toList = rwCells (leftW li lu (l.take (k + 1))) by
            rw [leftW_take HR.out, HC.out, if_neg (by simp), pickW_none hno]; simp [rwCells, Rw.cells])
          clear hno
          go_wp2_with (at_builtin; go_must (refine wpList_appH K5 1 rfl Tryz.elRw #[.int .i64 r.id, .slice r.A r.n r.c] rfl (.tmp 57) (.tmp 59) rfl rfl _ (by first | rfl | simp) rfl rfl (by intro u hu; simp at hu; rcases hu with rfl | rfl <;> rfl) (by omega) (by omega) ?_); intro g9 cap9 w9 hc9 hm9 KB; rw [HT.out] at KB; simp only [List.set_cons_zero, List.set_cons_succ] at KB)
          go_roundw
          case rel => exact ⟨k + 1, q + 1, cap9, _, by omega, by omega, by go_num, by first | rfl | trivial, KB.drop (List.sublist_cons_self _ _)⟩
          case measure => simp [intOf]; omega
      · have HT := hid (show leftW li lu (l.take k) = leftW li lu (l.take (k + 1)) by rw [leftW_take HR.out, hc, if_pos rfl]; simp)
        clear hc
        go_wp2_with fail
        go_roundw
        case rel => exact ⟨k + 1, q, cap, O, by omega, by omega, by go_num, by first | rfl | trivial, by rw [← HT.out]; exact K1.drop (List.sublist_cons_self _ _)⟩
        case measure => simp [intOf]; omega
    · obtain rfl : xm = k := by omega
      have hd : decide ((xm : Int) < (xm : Int)) = false := by simp
      rw [List.take_of_length_le (by rw [HLL.out]; exact Nat.le_refl _)] at H
      have hqd := hid (show q + und = (leftW li lu l ++ ld).length by
        have := (H.get 0 rfl).1
        rw [rwCells_len] at this
        rw [List.length_append, HLD.out]; omega)
      have hq19 : q + und ≤ 19 := by rw [hqd.out]; exact HOK.out.len
      have F6 := H.facts
      simp only [factsL, cellsF, Nat.reduceAdd, zf, zl] at F6
      have hrd := hid (show SlR 2 uD und (rwCells ld) wr from (H.ro 5 rfl).now.1)
      have e9 : rwCells (leftW li lu l) ++ rwCells ld = rwCells (leftW li lu l ++ ld) := by simp [rwCells]
      have HE9 := hid e9
      clear e9
      go_wp2_with (at_builtin; go_must (refine wpList_appAllH H 0 rfl Tryz.elRw hrd.out rfl (.tmp 62) (.tmp 64) rfl rfl rfl (one_rws _) (by omega) (by omega) ?_); intro C' cap' w6 hc6 hm6 KB; rw [HE9.out] at KB; simp only [List.set_cons_zero, List.set_cons_succ] at KB; (have FB := KB.facts); simp only [factsL, cellsF, Nat.reduceAdd, zf, zl] at FB)
      have KC := KB.store 3 rfl 3 (.slice C' (q + und) cap')
      simp only [List.set_cons_zero, List.set_cons_succ, List.setIfInBounds_toArray] at KC
      refine (sortrw_any KC 0 rfl hq19).mono ?_
      rintro e w7 ⟨rfl, lo, hp, hs, K7⟩
      simp only [List.set_cons_zero] at K7
      have HP := hid (And.intro hp (HOK.out.fin lo hp hs))
      clear KB KC FB F6 H hp hs hrd
      have hcap := own_caps (K7.get 0 rfl)
      have K8 := K7.sealRow 0 rfl
      simp only [List.set_cons_zero] at K8
      have F := K8.facts
      simp only [factsL, cellsF, Nat.reduceAdd, zf, zl] at F
      have NE := K8.nes
      simp only [World.size_alloc, nesL, neF, List.set_cons_zero, List.set_cons_succ, and_true, true_and] at NE
      have KN := ((((K8.store 3 rfl 2 (.int .i64 unx)).store 1 rfl 0 (.string xnm)).store 1 rfl 1 (.slice xA xn xc)).store 1 rfl 2 (.int .i64 unx)).store 1 rfl 3 (.slice C' (q + und) cap')
      have hmem : ∀ r ∈ lo, r ∈ l ∨ r ∈ lu ∨ r ∈ ld := fun r hr => by
        rcases List.mem_append.1 (HP.out.1.mem_iff.1 hr) with h | h
        · rcases leftW_mem h with h | h
          · exact .inl h
          · exact .inr (.inl h)
        · exact .inr (.inr h)
      have HME := hid hmem
      clear hmem
      have rV := ((KN.roOut 4 rfl).and ((KN.roOut 5 rfl).and (KN.roOut 7 rfl))).imp (S' := ValsIn lo) fun w2 h2 r hr => by
        rcases HME.out r hr with h | h | h
        · exact h2.2.2.2 r h
        · exact h2.1.2 r h
        · exact h2.2.1.2 r h
      have r0 := (KN.roOut 8 rfl).and ((KN.roOut 0 rfl).and rV)
      go_wp2_with fail
      exact bodyPost_ret (v := .tuple #[.agg #[.string xnm, .slice xA xn xc, .int .i64 unx, .slice C' (q + und) cap'], .bool true]) (by simp [results, Tryz.results66, go_sem, F, NE]) rfl
        ⟨⟨xnm, xA, xn, xc, cs, unx, C', q + und, cap', lo⟩, rfl, by simp only [Te.tb, HP.out.2], ⟨HX.out.nc, HX.out.c, hcap.1, hcap.2.1, fun r hr => by
          rcases HME.out r hr with h | h | h
          · exact HX.out.l r h
          · exact (HG.out.lu r h).1
          · exact (HG.out.ld r h).1⟩, r0, KN.below⟩
end Go.Proofs.YtedogodccblfeaaGreatDoor

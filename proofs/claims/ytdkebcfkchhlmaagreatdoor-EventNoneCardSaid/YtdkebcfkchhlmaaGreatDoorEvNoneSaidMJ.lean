/- EvNoneSaid, a part: the walk. -/
import Derived.Test.YtdkebcfkchhlmaaGreatDoorEvNoneSaidMH
import Derived.Test.YtdkebcfkchhlmaaGreatDoorEvNoneSaidMB
import Derived.Test.YtdkebcfkchhlmaaGreatDoorEvNoneSaidMG
import Derived.Test.YtdkebcfkchhlmaaGreatDoorEvNoneSaidMA
import Derived.Test.YtdkebcfkchhlmaaGreatDoorEvNoneSaidMC
namespace Go.Proofs.YtdkebcfkchhlmaaGreatDoor
open Go.RowKit
set_option linter.unusedVariables false
set_option linter.unusedSimpArgs false
def nmA22 : ByteArray := ⟨#[97]⟩
def nmB22 : ByteArray := ⟨#[98]⟩
def tgA22 : Tg := ⟨nmA22, nmLog, false, 1, SlP.nil, true, SlP.nil, SlP.nil, SlP.nil, SlP.nil, SlP.nil⟩
def tgB22 : Tg := ⟨nmB22, nmLog, false, 1, SlP.nil, false, SlP.nil, SlP.nil, SlP.nil, SlP.nil, SlP.nil⟩
def vlZ22 : Vl := ⟨0, 0, ⟨#[]⟩⟩
theorem items22 (A : Option Addr) (n c g1 g2 g3 : Nat) : [tgA22, tgB22].flatMap (itemsT [⟨nmLog, A, n, c, logCols, 0, none, 0, 0, []⟩] [⟨nmLog, some ⟨g3, 0, none⟩, 2, 2, [⟨4, some ⟨g1, 0, none⟩, 2, 2, [vlZ22, vlZ22]⟩, ⟨5, some ⟨g2, 0, none⟩, 2, 2, [vlZ22, vlZ22]⟩], none, 0, 0, [], none, 0, 0, []⟩]) = [(nmA22, 4, 0, 2), (nmA22, 5, 0, 2), (nmB22, 0, 0, 0)] := by kernel_rfl
set_option maxHeartbeats 8000000 in
set_option maxRecDepth 100000 in
theorem known22 (w : World) : Calls Tryz.prog 16 #[] w fun e w' => e = .returned (.bool true) ∧ Below w.heap.size w w' := by
 have K0 := Hold.begin_ w
 go_enter Tryz.func16, Tryz.ntmps16
 go_wp2_with fail
 refine (schema_log (Mut None_ _) _ K0.mutLt).mono ?_
 rintro e w1 ⟨A, n, c, rfl, hnc, hc4, r1, b1⟩
 have hn2 : n = 2 := by
  have h := (RdC.of_sl r1.now).len
  exact h.symm
 subst hn2
 have K1 := ((K0.call b1).add r1).alloc_cst #[.string nmLog, .slice A 2 c] 49
 clear K0 b1 r1
 obtain ⟨g0, hg0⟩ : ∃ g, g = w1.heap.size := ⟨_, rfl⟩
 rw [← hg0] at K1
 go_upto_region 2 with fail
 rw [← hg0]
 have HG0 := hid hg0
 clear hg0
 generalize World.alloc _ _ = w2 at K1 ⊢
 have K6 := (((((K1.alloc_cst #[.int .i64 0, .int .i64 0, .string ⟨#[]⟩, .int .i64 0, .int .i64 0, .string ⟨#[]⟩] 123).alloc_cst #[.int .i64 0, .int .i64 0, .string ⟨#[]⟩, .int .i64 0, .int .i64 0, .string ⟨#[]⟩] 123).alloc_cst #[.int .i64 4, .slice (some ⟨w2.heap.size, 0, none⟩) 2 2, .int .i64 5, .slice (some ⟨w2.heap.size + 1, 0, none⟩) 2 2] 125).alloc_cst #[.string ⟨#[108, 111, 103]⟩, .slice (some ⟨w2.heap.size + 1 + 1, 0, none⟩) 2 2, .slice none 0 0, .slice none 0 0] 44).alloc_cst #[.string ⟨#[97]⟩, .string ⟨#[108, 111, 103]⟩, .bool false, .int .i64 1, .slice none 0 0, .bool true, .slice none 0 0, .slice none 0 0, .slice none 0 0, .slice none 0 0, .slice none 0 0, .string ⟨#[98]⟩, .string ⟨#[108, 111, 103]⟩, .bool false, .int .i64 1, .slice none 0 0, .bool false, .slice none 0 0, .slice none 0 0, .slice none 0 0, .slice none 0 0, .slice none 0 0] 40)
 simp only [World.size_alloc] at K6
 have K7 := K6.alloc_cst #[.string nmLog, .slice A 2 c, .int .i64 0, .slice none 0 0] 58
 simp only [World.size_alloc] at K7
 have K8 := K7.alloc_cst #[.string ⟨#[108, 111, 103]⟩, .slice (some ⟨w2.heap.size + 1 + 1, 0, none⟩) 2 2, .slice none 0 0, .slice none 0 0] 44
 simp only [World.size_alloc] at K8
 have F1 := K1.facts
 simp only [factsL, cellsF, Nat.reduceAdd, zf, zl] at F1
 have F6 := K6.facts
 simp only [factsL, cellsF, Nat.reduceAdd, zf, zl] at F6
 have F7 := K7.facts
 simp only [factsL, cellsF, Nat.reduceAdd, zf, zl] at F7
 clear K1 K6 K7
 go_wp2_with fail
 clear F1 F6 F7
 have hv1 : Ro _ _ (VlsIn (some ⟨w2.heap.size, 0, none⟩) 2 [vlZ22, vlZ22]) := ro_block (K8.get 6 rfl) rfl
 have hv2 : Ro _ _ (VlsIn (some ⟨w2.heap.size + 1, 0, none⟩) 2 [vlZ22, vlZ22]) := ro_block (K8.get 5 rfl) rfl
 have hrw : Ro _ _ (SlR 2 (some ⟨w2.heap.size + 1 + 1, 0, none⟩) 2 (rwCells [⟨4, (some ⟨w2.heap.size, 0, none⟩), 2, 2, [vlZ22, vlZ22]⟩, ⟨5, (some ⟨w2.heap.size + 1, 0, none⟩), 2, 2, [vlZ22, vlZ22]⟩])) := ro_block (K8.get 4 rfl) rfl
 have hG : Ro _ _ (TgsRo (some ⟨w2.heap.size + 1 + 1 + 1 + 1, 0, none⟩) 2 [tgA22, tgB22]) := (show Ro _ _ (SlR 11 (some ⟨w2.heap.size + 1 + 1 + 1 + 1, 0, none⟩) 2 ([tgA22, tgB22].flatMap Tg.cells)) from ro_block (K8.get 2 rfl) rfl).imp fun w3 h3 => ⟨h3, fun t ht => by
  simp only [List.mem_cons, List.not_mem_nil, or_false] at ht
  rcases ht with rfl | rfl <;> exact slr_nil 1 w3⟩
 have hT : Ro _ _ (TesIn (some ⟨w2.heap.size + 1 + 1 + 1 + 1 + 1, 0, none⟩) 1 [⟨nmLog, A, 2, c, logCols, 0, none, 0, 0, []⟩]) := ((show Ro _ _ (SlR 4 (some ⟨w2.heap.size + 1 + 1 + 1 + 1 + 1, 0, none⟩) 1 (teCells [⟨nmLog, A, 2, c, logCols, 0, none, 0, 0, []⟩])) from ro_block (K8.get 1 rfl) rfl).and (K8.ro 8 rfl)).imp fun w3 h3 => ⟨h3.1, fun x hx => by
  simp only [List.mem_cons, List.not_mem_nil, or_false] at hx
  subst hx
  exact ⟨h3.2, slr_nil 2 w3, fun _ hx => (nomatch hx)⟩⟩
 have hD : Ro _ _ (DesIn (some ⟨w2.heap.size + 1 + 1 + 1 + 1 + 1 + 1, 0, none⟩) 1 [⟨nmLog, (some ⟨w2.heap.size + 1 + 1, 0, none⟩), 2, 2, [⟨4, (some ⟨w2.heap.size, 0, none⟩), 2, 2, [vlZ22, vlZ22]⟩, ⟨5, (some ⟨w2.heap.size + 1, 0, none⟩), 2, 2, [vlZ22, vlZ22]⟩], none, 0, 0, [], none, 0, 0, []⟩]) := ((show Ro _ _ (SlR 4 (some ⟨w2.heap.size + 1 + 1 + 1 + 1 + 1 + 1, 0, none⟩) 1 (deCells [⟨nmLog, (some ⟨w2.heap.size + 1 + 1, 0, none⟩), 2, 2, [⟨4, (some ⟨w2.heap.size, 0, none⟩), 2, 2, [vlZ22, vlZ22]⟩, ⟨5, (some ⟨w2.heap.size + 1, 0, none⟩), 2, 2, [vlZ22, vlZ22]⟩], none, 0, 0, [], none, 0, 0, []⟩])) from ro_block (K8.get 0 rfl) rfl).and (hrw.and (hv1.and hv2))).imp fun w3 h3 => ⟨h3.1, fun x hx => by
  simp only [List.mem_cons, List.not_mem_nil, or_false] at hx
  subst hx
  exact ⟨⟨h3.2.1, fun r hr => by
   simp only [List.mem_cons, List.not_mem_nil, or_false] at hr
   rcases hr with rfl | rfl
   ·exact h3.2.2.1
   ·exact h3.2.2.2⟩, ⟨slr_nil 2 w3, fun _ hx => (nomatch hx)⟩, ⟨slr_nil 3 w3, fun _ hx => (nomatch hx)⟩⟩⟩
 refine (items_any (Mut None_ _) _ K8.mutLt (some ⟨w2.heap.size + 1 + 1 + 1 + 1, 0, none⟩) 2 2 [tgA22, tgB22] (some ⟨w2.heap.size + 1 + 1 + 1 + 1 + 1, 0, none⟩) 1 1 _ (some ⟨w2.heap.size + 1 + 1 + 1 + 1 + 1 + 1, 0, none⟩) 1 1 _ hG hT hD (by omega) (fun t ht => by
  simp only [List.mem_cons, List.not_mem_nil, or_false] at ht
  rcases ht with rfl | rfl <;> simp [tgA22, tgB22, SlP.nil]) (by omega) (fun x hx => by
  simp only [List.mem_cons, List.not_mem_nil, or_false] at hx
  subst hx
  simp) (by omega) (fun x hx => by
  simp only [List.mem_cons, List.not_mem_nil, or_false] at hx
  subst hx
  exact ⟨by simp, by simp, by simp, fun r hr => by
   simp only [List.mem_cons, List.not_mem_nil, or_false] at hr
   rcases hr with rfl | rfl <;> simp, fun r hr => (nomatch hr), fun r hr => (nomatch hr)⟩)).mono ?_
 rintro e w3 ⟨RA, rn, rc, rl, rfl, hrl, -, rR, b3⟩
 rw [items22] at hrl
 have HB := hid (K8.call b3).below
 obtain ⟨i0, i1, i2, rfl⟩ : ∃ i0 i1 i2, rl = [i0, i1, i2] := by
  have h := congrArg List.length hrl
  match rl, h with
  | [i0, i1, i2], _ => exact ⟨i0, i1, i2, rfl⟩
 have hrn : rn = 3 := by
  have h := (show Rd _ _ 4 RA rn (itCells [i0, i1, i2]) from rR.now).1
  rw [itCells_len] at h
  simp at h
  omega
 subst hrn
 obtain ⟨b, o, rfl, -, hc⟩ := (show Rd _ _ 4 RA 3 (itCells [i0, i1, i2]) from rR.now).2 (by omega)
 simp only [List.map_cons, List.map_nil, List.cons.injEq, and_true, Itm.sh, Prod.mk.injEq] at hrl
 have c5 := hc 5 (.int .i64 i1.row) rfl
 have c8 := hc 8 (.string i2.tr) rfl
 have c9 := hc 9 (.int .i64 i2.row) rfl
 rw [hrl.2.1.2.1] at c5
 rw [hrl.2.2.1, show nmB22 = (⟨#[98]⟩ : ByteArray) from rfl] at c8
 rw [hrl.2.2.2.1] at c9
 clear hc hrl K8 b3 rR hv1 hv2 hrw hG hT hD
 go_wp2_with fail
 go_ret
 exact ⟨rfl, HB.out⟩
end Go.Proofs.YtdkebcfkchhlmaaGreatDoor

namespace Go.Proofs.YtdkebcfkchhlmaaGreatDoor
open Go.RowKit
set_option linter.unusedVariables false
set_option linter.unusedSimpArgs false

/-- a row handed back, its values in memory -/
def RowOne (w : World) (M : Nat → Prop) (id : Int) (vs : List Vl) (e : Ending) (w' : World) : Prop := ∃ (A : Option Addr) (n c : Nat), e = .returned (.agg #[.int .i64 id, .slice A n c]) ∧ n = vs.length ∧ n ≤ c ∧ c ≤ 9223372036854775807 ∧ Ro w' M (VlsIn A n vs) ∧ Below w.heap.size w w'
set_option maxHeartbeats 2000000 in
set_option maxRecDepth 100000 in
theorem rcopyrow_any (M : Nat → Prop) (w : World) (hM : ∀ b, M b → b < w.heap.size) (id : Int) (A : Option Addr) (n c : Nat) (vs : List Vl) (hD : Ro w M (VlsIn A n vs)) (hn : n ≤ 4398046511104) : Calls Tryz.prog 63 #[.agg #[.int .i64 id, .slice A n c]] w fun e w' => RowOne w M id vs e w' := by
 have K0 := ((Hold.start M w hM).add (hD.less (by simp [Mut]))).alloc_cst #[.int .i64 id, .slice A n c] 125 |>.alloc #[.int .i64 0, .slice none 0 0] 125
 simp only [World.size_alloc] at K0
 clear hD
 go_enter Tryz.func63, Tryz.ntmps63
 go_wp2_with fail
 obtain ⟨g1, hg1⟩ : ∃ g, g = w.heap.size := ⟨_, rfl⟩
 obtain ⟨g2, hg2⟩ : ∃ g, g = g1 + 1 := ⟨_, rfl⟩
 rw [← hg1, ← hg2] at K0 ⊢
 generalize (w.alloc _).alloc _ = w1 at K0 ⊢
 have HG := hid hg1
 clear hg1 hg2
 obtain ⟨KL, hKL, KN⟩ := K0.name
 have HF : Hid (∀ wv, Hold M none w wv KL → (wv.cell? ⟨g1, 0, none⟩ = some (.int .i64 id) ∧ wv.cell? ⟨g1, 1, none⟩ = some (.slice A n c) ∧ g1 < wv.heap.size) ∧ Ro wv (Mut M KL) (VlsIn A n vs)) := hid fun wv HC => by
  rw [hKL] at HC ⊢
  have y1 := HC.cst_ 1 rfl
  exact ⟨⟨cell_of_row _ _ 0 _ _ _ y1, cell_of_row _ _ 1 _ _ _ y1, Blk.lt y1⟩, HC.ro 2 rfl⟩
 have HKL := hid hKL
 clear hKL K0
 refine wp_region_any (by kernel_rfl) ?_
 refine wpAny_hold 6 9 (KL) (spL [(7, VlsSlot (Mut M KL) vs)]) (by kernel_rfl) (by kernel_rfl) (by kernel_rfl) rfl ?_ (KN.drew) ?_
 ·exact stays_cons vlsSlot_mono (stays_nil _)
 simp only [zd, Act.put, List.getElem_toArray, List.getElem_cons_zero, List.getElem_cons_succ, zl]
 refine dw_val rfl rfl rfl ?_; apply Exists.intro; refine ⟨fun wv HC => ?_, ?_⟩
 · go_simp <;> rfl
 simp only [Act.put, zl]
 refine dw_val rfl rfl rfl ?_; apply Exists.intro; refine ⟨fun wv HC => ?_, ?_⟩
 ·obtain ⟨⟨f0, f1, f2⟩, _⟩ := HF.out _ HC; go_simp <;> rfl
 simp only [Act.put, zl]
 refine dw_val rfl rfl rfl ?_; apply Exists.intro; refine ⟨fun wv HC => ?_, ?_⟩
 · go_simp <;> rfl
 simp only [Act.put, zl]
 refine dw_val rfl rfl rfl ?_; apply Exists.intro; refine ⟨fun wv HC => ?_, ?_⟩
 ·obtain ⟨⟨f0, f1, f2⟩, _⟩ := HF.out _ HC; go_simp <;> rfl
 simp only [Act.put, zl]
 refine dw_callR 7 (VlsSlot (Mut M KL) vs) (f := 57) (args := #[.slice A n c]) rfl rfl rfl rfl (fun wv => ?_) (fun wv HC hrm hD => ?_) ?_
 ·go_simp <;> rfl
 ·refine (copyVls_any _ wv HC.mutLt A n c vs (HF.out _ HC).2 hn).mono ?_
  rintro e w5 ⟨A5, n5, c5, rfl, h50, h51, h52, h53, b5⟩
  exact ⟨_, rfl, ⟨A5, n5, c5, rfl, h50, h51, h52, h53⟩, HC.call b5, RM.below b5⟩
 rintro x_ wx HCx ⟨A5, n5, c5, rfl, -, -, -, -⟩
 simp only [Act.put, zl]
 clear HCx
 refine dw_val rfl rfl rfl ⟨.agg #[.int .i64 id, .slice A5 n5 c5], fun wv HC => ?_, ?_⟩
 ·go_simp <;> rfl
 simp only [Act.put, zl]
 refine rel_nil ?_
 rintro wx2 HX
 rintro _hrm HGW
 have hb : VlsSlot (Mut M KL) vs (.slice A5 n5 c5) wx2 := (GW_on (d := 7) rfl).1 (HGW 4 _ rfl (by omega))
 clear HGW _hrm
 obtain ⟨A6, n6, c6, e6, k0_, k1_, k2_, k3_⟩ := hb
 obtain ⟨rfl, rfl, rfl⟩ : A5 = A6 ∧ n5 = n6 ∧ c5 = c6 := by injection e6 with h1 h2 h3; exact ⟨h1, h2, h3⟩
 clear e6
 have K1 := HX.add k3_
 rw [HKL.out] at K1
 have F1 := K1.facts
 simp only [factsL, cellsF, Nat.reduceAdd, zf, zl] at F1
 have H0 := hid k0_
 clear HF KN k3_ HX k0_
 have KN := (K1.store 1 rfl 0 (.int .i64 id)).store 1 rfl 1 (.slice A5 n5 c5)
 have r1 := KN.roOut 0 rfl
 go_wp2_with fail
 exact bodyPost_ret (v := .agg #[.int .i64 id, .slice A5 n5 c5]) (by simp [results, Tryz.results63, go_sem, F1]) rfl ⟨A5, n5, c5, rfl, H0.out, k1_, k2_, r1, KN.below⟩
end Go.Proofs.YtdkebcfkchhlmaaGreatDoor

namespace Go.Proofs.YtdkebcfkchhlmaaGreatDoor
open Go.RowKit
set_option linter.unusedVariables false
set_option linter.unusedSimpArgs false

set_option maxHeartbeats 4000000 in
set_option maxRecDepth 100000 in
theorem rsameschema_any (w : World) (nm : ByteArray) (A : Option Addr) (n c : Nat) (cs : List Col) (nm2 : ByteArray) (B : Option Addr) (m d : Nat) (ds : List Col) (hD : ColsIn A n cs w) (hE : ColsIn B m ds w) (hn : n ≤ 4398046511104) :
  Calls Tryz.prog 61 #[.agg #[.string nm, .slice A n c], .agg #[.string nm2, .slice B m d]] w fun e w' => e = .returned (.bool (decide (nm = nm2 ∧ cs = ds))) ∧ Below w.heap.size w w' := by
 have HL := hid (show cs.length = n from cols_n hD)
 have HK := hid (show ds.length = m from cols_n hE)
 have K0 := ((((Hold.start None_ w (fun b hb => hb.elim)).add (Rd.ro hE (Nat.le_refl _) (by simp [Mut, None_]) : Ro w _ (ColsIn B m ds))).add (Rd.ro hD (Nat.le_refl _) (by simp [Mut, None_, Hp.foot]) : Ro w _ (ColsIn A n cs))).alloc_cst #[.string nm, .slice A n c] 49).alloc_cst #[.string nm2, .slice B m d] 49
 rw [World.size_alloc] at K0
 have F0 := K0.facts
 simp only [factsL, cellsF, Nat.reduceAdd, zf, zl] at F0
 clear hD hE
 by_cases hi : nm = nm2
 ·subst hi
  have h1 : (nm.toList == nm.toList) = true := by simp
  have h1' : (nm.toList != nm.toList) = false := by simp
  by_cases hnm : n = m
  ·subst hnm
   have hb : ((n : Int) != (n : Int)) = false := by simp
   go_enter Tryz.func61, Tryz.ntmps61
   go_wp2_with fail
   obtain ⟨g2, hg2⟩ : ∃ g, g = w.heap.size := ⟨_, rfl⟩
   obtain ⟨g3, hg3⟩ : ∃ g, g = g2 + 1 := ⟨_, rfl⟩
   rw [← hg2, ← hg3] at K0 ⊢
   clear F0
   generalize (w.alloc _).alloc _ = w1 at K0 ⊢
   have HG := hid hg2
   clear hg2 hg3
   go_loopw [23] (fun iv wr => ∃ (k : Nat), k ≤ n ∧ iv = .int .i64 k ∧ Hid (cs.take k = ds.take k) ∧ Hold None_ none w wr [.cst g3 49 #[.string nm, .slice B n d], .cst g2 49 #[.string nm, .slice A n c], .ro (ColsIn A n cs), .ro (ColsIn B n ds)]) (fun iv _ => n - (intOf iv).toNat)
   case atStart => exact ⟨0, by omega, rfl, hid (by simp), K0⟩
   case round =>
    clear K0
    obtain ⟨k, hk, rfl, HTK, H⟩ := hrel
    have F := H.facts
    simp only [factsL, cellsF, Nat.reduceAdd, zf, zl] at F
    by_cases hlt : k < n
    ·have hd : decide ((k : Int) < (n : Int)) = true := by simp; omega
     have i0 : (0 : Int) ≤ (k : Int) := by omega
     have i1 : (k : Int) < (n : Int) := by omega
     obtain ⟨x, hx⟩ := get_of HL.out hlt
     obtain ⟨y, hy⟩ := get_of HK.out hlt
     obtain ⟨g, o, rfl, hbx, x0, x1, x2, x3⟩ := (RdC.of_sl (H.ro 2 rfl).now).at_ hx
     obtain ⟨g', o', rfl, hby, y0, y1, y2, y3⟩ := (RdC.of_sl (H.ro 3 rfl).now).at_ hy
     have HX := hid hx; have HY := hid hy; clear hx hy
     by_cases h0 : x.name = y.name
     ·have e0 : (x.name.toList == y.name.toList) = true := by simp [h0]
      by_cases h1 : x.ty = y.ty
      ·have e1 : (x.ty == y.ty) = true := by simp [h1]
       by_cases h2 : x.nn = y.nn
       ·have e2 : (x.nn == y.nn) = true := by simp [h2]
        by_cases h3 : x.key = y.key
        ·have e3 : (x.key == y.key) = true := by simp [h3]
         have HXY := hid (show x = y by cases x; cases y; simp_all)
         clear h0 h1 h2 h3
         go_wp2_with fail
         go_quiet (fail)
         have HZ := H.drewN nq
         go_wp2_with fail
         go_roundw
         case rel => exact ⟨k + 1, by omega, by go_num, hid (takeEq_succ HX.out HY.out HTK.out HXY.out), HZ⟩
         case measure => simp [intOf]; omega
        ·have e3 : (x.key == y.key) = false := by simpa using h3
         have HN := hid (show decide (nm = nm ∧ cs = ds) = false from by rw [decide_eq_false_iff_not]; rintro ⟨_, h⟩; exact take_ne HX.out HY.out (by intro h; exact h3 (by rw [h])) h)
         clear h0 h1 h2 h3
         go_wp2_with fail
         go_quiet (fail)
         have HZ := H.drewN nq
         go_wp2_with fail
         go_ret
         exact ⟨by rw [HN.out] <;> rfl, HZ.below⟩
       ·have e2 : (x.nn == y.nn) = false := by simpa using h2
        have HN := hid (show decide (nm = nm ∧ cs = ds) = false from by rw [decide_eq_false_iff_not]; rintro ⟨_, h⟩; exact take_ne HX.out HY.out (by intro h; exact h2 (by rw [h])) h)
        clear h0 h1 h2
        go_wp2_with fail
        go_quiet (fail)
        have HZ := H.drewN nq
        go_wp2_with fail
        go_ret
        exact ⟨by rw [HN.out] <;> rfl, HZ.below⟩
      ·have e1 : (x.ty == y.ty) = false := by simpa using h1
       have HN := hid (show decide (nm = nm ∧ cs = ds) = false from by rw [decide_eq_false_iff_not]; rintro ⟨_, h⟩; exact take_ne HX.out HY.out (by intro h; exact h1 (by rw [h])) h)
       clear h0 h1
       go_wp2_with fail
       go_quiet (fail)
       have HZ := H.drewN nq
       go_wp2_with fail
       go_ret
       exact ⟨by rw [HN.out] <;> rfl, HZ.below⟩
     ·have e0 : (x.name.toList == y.name.toList) = false := by rw [beq_eq_false_iff_ne]; exact fun h => h0 (bytesEq h)
      have HN := hid (show decide (nm = nm ∧ cs = ds) = false from by rw [decide_eq_false_iff_not]; rintro ⟨_, h⟩; exact take_ne HX.out HY.out (by intro h; exact h0 (by rw [h])) h)
      clear h0
      go_wp2_with fail
      go_quiet (fail)
      have HZ := H.drewN nq
      go_wp2_with fail
      go_ret
      exact ⟨by rw [HN.out] <;> rfl, HZ.below⟩
    ·obtain rfl : n = k := by omega
     have hd : decide ((n : Int) < (n : Int)) = false := by simp
     have HE := hid (show cs = ds from by
      have h := HTK.out
      rw [List.take_of_length_le (by rw [HL.out]; exact Nat.le_refl _), List.take_of_length_le (by rw [HK.out]; exact Nat.le_refl _)] at h
      simp [h])
     go_wp2_with fail
     go_ret
     exact ⟨congrArg (fun b => Ending.returned (Value.bool b)) (a₁ := true) (by simp [HE.out]), H.below⟩
  ·have hb : ((n : Int) != (m : Int)) = true := by simp; omega
   have HB := hid (show ¬ cs = ds from by rintro rfl; have := HL.out; have := HK.out; omega)
   go_enter Tryz.func61, Tryz.ntmps61
   go_wp2_with fail
   go_ret
   exact ⟨congrArg (fun b => Ending.returned (Value.bool b)) (a₁ := false) (by simp [HB.out]), K0.below⟩
 ·have h1 : (nm.toList == nm2.toList) = false := by rw [beq_eq_false_iff_ne]; exact fun h => hi (bytesEq h)
  have h1' : (nm.toList != nm2.toList) = true := by rw [bne_iff_ne]; exact fun h => hi (bytesEq h)
  have HB := hid (show decide (nm = nm2 ∧ cs = ds) = false by simp [hi])
  clear hi
  go_enter Tryz.func61, Tryz.ntmps61
  go_wp2_with fail
  go_ret
  exact ⟨by rw [HB.out] <;> rfl, K0.below⟩
end Go.Proofs.YtdkebcfkchhlmaaGreatDoor

namespace Go.Proofs.YtdkebcfkchhlmaaGreatDoor
open Go.RowKit
set_option linter.unusedVariables false
set_option linter.unusedSimpArgs false

set_option maxHeartbeats 8000000 in
set_option maxRecDepth 100000 in
theorem rbetw_any (M : Nat → Prop) (w : World) (hM : ∀ b, M b → b < w.heap.size) (va vb : Value) (a b : Tb) (hTa : TbAt w M va a) (hTb : TbAt w M vb b) (hsa : a.nm.size ≤ maxLen) (hca : ∀ x ∈ a.cs, x.name.size ≤ maxLen) (hra : a.rs.length ≤ 4398046511104) (hsb : b.nm.size ≤ maxLen) (hcb : ∀ x ∈ b.cs, x.name.size ≤ maxLen) (hrb : b.rs.length ≤ 4398046511104) :
  Calls Tryz.prog 18 #[va, vb] w fun e w' => BetRet w M (betweenC a b) e w' := by
 obtain ⟨aA, an, ac, aB, am, ad, la, rfl, a1, a2, a3, a4, a5, a6, a7, a8⟩ := hTa
 obtain ⟨bA, bn, bc, bB, bm, bd, lb, rfl, b1, b2, b3, b4, b5, b6, b7, b8⟩ := hTb
 have HAL := hid (show la.length = am from a6.now.len)
 have HBL := hid (show lb.length = bm from b6.now.len)
 have HAR := hid a8
 have HBR := hid b8
 have HAO := hid a7
 have HBO := hid b7
 have HAE := hid a6.now
 have HBE := hid b6.now
 have HAC := hid (show a.cs.length = an from cols_n a5.now)
 have ham : am ≤ 4398046511104 := by have := HAL.out; have h := congrArg List.length a8; rw [List.length_map] at h; omega
 have hbm : bm ≤ 4398046511104 := by have := HBL.out; have h := congrArg List.length b8; rw [List.length_map] at h; omega
 have K0 := (((((((Hold.start M w hM).add (b6.less (by simp [Mut]))).add (b5.less (by simp [Mut, Hp.foot]))).add (a6.less (by simp [Mut, Hp.foot]))).add (a5.less (by simp [Mut, Hp.foot]))).alloc_cst #[.string a.nm, .slice aA an ac, .int .i64 a.nx, .slice aB am ad] 58).alloc_cst #[.string b.nm, .slice bA bn bc, .int .i64 b.nx, .slice bB bm bd] 58).alloc #[.string ⟨#[]⟩, .slice none 0 0, .slice none 0 0, .slice none 0 0] 44
 simp only [World.size_alloc] at K0
 have F0 := K0.facts
 simp only [factsL, cellsF, Nat.reduceAdd, zf, zl] at F0
 clear a5 a6 a7 a8 b5 b6 b7 b8
 go_enter Tryz.func18, Tryz.ntmps18
 go_wp2_with fail
 obtain ⟨g2, hg2⟩ : ∃ g, g = w.heap.size := ⟨_, rfl⟩
 obtain ⟨g3, hg3⟩ : ∃ g, g = g2 + 1 := ⟨_, rfl⟩
 obtain ⟨g4, hg4⟩ : ∃ g, g = g3 + 1 := ⟨_, rfl⟩
 rw [← hg2, ← hg3, ← hg4] at K0 ⊢
 clear F0
 generalize ((w.alloc _).alloc _).alloc _ = w1 at K0 ⊢
 have HGX := hid hg2
 clear hg2 hg3 hg4
 have hv := rtvalid_any _ _ K0.mutLt a.nm aA an ac a.cs a.nx aB am ad la (K0.ro 3 rfl) (K0.ro 4 rfl) (by omega) (by omega) HAO.out hsa hca
 rw [HAR.out] at hv
 refine hv.mono ?_
 clear hv
 rintro e w2 ⟨rfl, b1_⟩
 have K1 := K0.call b1_
 clear K0 b1_
 have F1 := K1.facts
 simp only [factsL, cellsF, Nat.reduceAdd, zf, zl] at F1
 cases hva : tabB a.nm a.cs a.nx a.rs
 ·have HN := hid (betC_a (b := b) hva)
  clear hva
  have KN := (((K1.store 0 rfl 0 (.string ⟨#[]⟩)).store 0 rfl 1 (.slice none 0 0)).store 0 rfl 2 (.slice none 0 0)).store 0 rfl 3 (.slice none 0 0)
  go_wp2_with fail
  exact bodyPost_ret (v := .tuple #[.agg #[.string ⟨#[]⟩, .slice none 0 0, .slice none 0 0, .slice none 0 0], .bool false]) (by simp [results, Tryz.results18, go_sem, F1]) rfl ⟨_, by rw [HN.out], by rw [HN.out]; exact dlAt_zero, KN.below⟩
 have HVA := hid hva
 clear hva
 go_wp2_with fail
 have hv := rtvalid_any _ _ K1.mutLt b.nm bA bn bc b.cs b.nx bB bm bd lb (K1.ro 5 rfl) (K1.ro 6 rfl) (by omega) (by omega) HBO.out hsb hcb
 rw [HBR.out] at hv
 refine hv.mono ?_
 clear hv
 rintro e w3 ⟨rfl, b1_⟩
 have K2 := K1.call b1_
 clear K1 b1_ F1
 have F2 := K2.facts
 simp only [factsL, cellsF, Nat.reduceAdd, zf, zl] at F2
 cases hvb : tabB b.nm b.cs b.nx b.rs
 ·have HN := hid (betC_b (a := a) hvb)
  clear hvb
  have KN := (((K2.store 0 rfl 0 (.string ⟨#[]⟩)).store 0 rfl 1 (.slice none 0 0)).store 0 rfl 2 (.slice none 0 0)).store 0 rfl 3 (.slice none 0 0)
  go_wp2_with fail
  exact bodyPost_ret (v := .tuple #[.agg #[.string ⟨#[]⟩, .slice none 0 0, .slice none 0 0, .slice none 0 0], .bool false]) (by simp [results, Tryz.results18, go_sem, F2]) rfl ⟨_, by rw [HN.out], by rw [HN.out]; exact dlAt_zero, KN.below⟩
 have HVB := hid hvb
 clear hvb hsa hca hsb hcb
 have han6 : an ≤ 6 := by have := tabB_cols HVA.out; have := HAC.out; omega
 have ham1 : am ≤ 100 := by have := (tabB_rows HVA.out).1; have h := congrArg List.length HAR.out; rw [List.length_map] at h; have := HAL.out; omega
 have hbm1 : bm ≤ 100 := by have := (tabB_rows HVB.out).1; have h := congrArg List.length HBR.out; rw [List.length_map] at h; have := HBL.out; omega
 have HSA := hid (rw_short HAE.out (by rw [HAR.out]; exact HVA.out))
 have HSB := hid (rw_short HBE.out (by rw [HBR.out]; exact HVB.out))
 clear ham hbm hra hrb
 go_wp2_with fail
 refine (rsameschema_any _ a.nm aA an ac a.cs b.nm bA bn bc b.cs (K2.ro 3 rfl).now (K2.ro 5 rfl).now (by omega)).mono ?_
 rintro e w4 ⟨rfl, b1_⟩
 have K3 := K2.call b1_
 clear K2 b1_ F2
 have F3 := K3.facts
 simp only [factsL, cellsF, Nat.reduceAdd, zf, zl] at F3
 cases hss : decide (a.nm = b.nm ∧ a.cs = b.cs)
 ·have HN := hid (betC_s hss)
  clear hss
  have KN := (((K3.store 0 rfl 0 (.string ⟨#[]⟩)).store 0 rfl 1 (.slice none 0 0)).store 0 rfl 2 (.slice none 0 0)).store 0 rfl 3 (.slice none 0 0)
  go_wp2_with fail
  exact bodyPost_ret (v := .tuple #[.agg #[.string ⟨#[]⟩, .slice none 0 0, .slice none 0 0, .slice none 0 0], .bool false]) (by simp [results, Tryz.results18, go_sem, F3]) rfl ⟨_, by rw [HN.out], by rw [HN.out]; exact dlAt_zero, KN.below⟩
 have HEQ := hid (of_decide_eq_true hss)
 clear hss
 by_cases hnx : b.nx < a.nx
 ·have hd : decide (b.nx < a.nx) = true := by simpa using hnx
  have HN := hid (betC_n hnx)
  clear hnx
  have KN := (((K3.store 0 rfl 0 (.string ⟨#[]⟩)).store 0 rfl 1 (.slice none 0 0)).store 0 rfl 2 (.slice none 0 0)).store 0 rfl 3 (.slice none 0 0)
  go_wp2_with fail
  exact bodyPost_ret (v := .tuple #[.agg #[.string ⟨#[]⟩, .slice none 0 0, .slice none 0 0, .slice none 0 0], .bool false]) (by simp [results, Tryz.results18, go_sem, F3]) rfl ⟨_, by rw [HN.out], by rw [HN.out]; exact dlAt_zero, KN.below⟩
 have hd : decide (b.nx < a.nx) = false := by simpa using hnx
 have HST := hid (RSt.zero HVA.out HVB.out HEQ.out (show a.nx ≤ b.nx by omega))
 clear hnx
 have K4 := K3.alloc #[.string a.nm, .slice none 0 0, .slice none 0 0, .slice none 0 0] 44
 go_wp2_with fail
 obtain ⟨g6, hg6⟩ : ∃ g, g = w4.heap.size := ⟨_, rfl⟩
 rw [← hg6] at K4 ⊢
 have HG6 := hid hg6
 clear hg6 hd F3 K3
 generalize World.alloc w4 _ = w5 at K4 ⊢
 have K6 := ((((((K4.add (show Ro _ _ (PrVals []) from fun _ _ _ r hr => nomatch hr)).add (ro_vals_nil _ _)).add (ro_vals_nil _ _)).nil 116 3).nil 125 2).nil 125 2)
 clear K4
 go_loopw [46] (fun iv wr => ∃ (j ni ci nu cu : Nat) (I U : Option Addr) (li : List Rw) (lu : List Pr), j ≤ bm ∧ iv = .int .i64 j ∧ ni ≤ j ∧ nu ≤ j ∧ Hid (RSt a b j 0 li [] lu) ∧ Hold M none w wr [.own 125 2 (.slice I ni ci) ni (rwCells li), .own 125 2 (.slice none 0 0) 0 (rwCells []), .own 116 3 (.slice U nu cu) nu (prCells lu), .ro (ValsIn li), .ro (ValsIn []), .ro (PrVals lu), .blk g6 44 #[.string a.nm, .slice I ni ci, .slice none 0 0, .slice U nu cu], .blk g4 44 #[.string ⟨#[]⟩, .slice none 0 0, .slice none 0 0, .slice none 0 0], .cst g3 58 #[.string b.nm, .slice bA bn bc, .int .i64 b.nx, .slice bB bm bd], .cst g2 58 #[.string a.nm, .slice aA an ac, .int .i64 a.nx, .slice aB am ad], .ro (ColsIn aA an a.cs), .ro (RwsIn aB am la), .ro (ColsIn bA bn b.cs), .ro (RwsIn bB bm lb)]) (fun iv _ => bm - (intOf iv).toNat)
 case atStart => exact ⟨0, 0, 0, 0, 0, none, none, [], [], by omega, rfl, by omega, by omega, HST, K6⟩
 case round =>
  clear K6 HST
  obtain ⟨j, ni, ci, nu, cu, I, U, li, lu, hj, rfl, hni, hnu, HBS, H⟩ := hrel
  by_cases hlt : j < bm
  ·have hd : decide ((j : Int) < (bm : Int)) = true := by simp; omega
   have j0 : (0 : Int) ≤ (j : Int) := by omega
   have j1 : (j : Int) < (bm : Int) := by omega
   obtain ⟨r, hr⟩ := get_of HBL.out hlt
   obtain ⟨bb, bo, rfl, hbb, c0, c1, _⟩ := (H.ro 13 rfl).now.at_ hr
   have HRR := hid (show b.rs[j]? = some r.row by rw [← HBR.out, List.getElem?_map, hr]; rfl)
   have HRO := hid (HBO.out r (List.mem_of_getElem? hr))
   have hrn6 := HSB.out r (List.mem_of_getElem? hr)
   have hxr : Ro wr _ (VlsIn r.A r.n r.vs) := (H.ro 13 rfl).imp fun w2 h2 => h2.2 r (List.mem_of_getElem? hr)
   obtain ⟨rid, rA, rn, rc, rvs⟩ := r
   dsimp only at *
   clear hr
   have K1 := (H.add hxr).alloc_cst #[.int .i64 rid, .slice rA rn rc] 125
   clear H hxr
   obtain ⟨g8, hg8⟩ : ∃ g, g = wr.heap.size := ⟨_, rfl⟩
   rw [← hg8] at K1
   have F1 := K1.facts
   simp only [factsL, cellsF, Nat.reduceAdd, zf, zl] at F1
   go_wp2_with fail
   rw [← hg8]
   have HG8 := hid hg8
   clear hg8 c0 c1
   have hg := rtget_any _ _ K1.mutLt (.string a.nm) (.slice aA an ac) (.int .i64 a.nx) aB am ad la rid (K1.ro 13 rfl) (by omega) (fun r hr => by have := HSA.out r hr; omega)
   rw [HAR.out] at hg
   refine hg.mono ?_
   clear hg
   rintro e w6 ⟨Ag, ng, cg, rfl, hng, hgc1, hgc2, rg, bg⟩
   have K2 := K1.call bg
   clear K1 bg F1
   have F2 := K2.facts
   simp only [factsL, cellsF, Nat.reduceAdd, zf, zl] at F2
   cases hgt : getR a.rs rid with
   | none =>
    have HGG := hid hgt
    simp only [Option.isSome_none]
    clear rg hng hgc1 hgc2 hgt
    by_cases hrn : rid < a.nx
    ·have hd3 : decide (rid < a.nx) = true := by simpa using hrn
     have HN := hid (HBS.out.bad HRR.out HGG.out hrn)
     clear hrn
     have KN := (((K2.store 9 rfl 0 (.string ⟨#[]⟩)).store 9 rfl 1 (.slice none 0 0)).store 9 rfl 2 (.slice none 0 0)).store 9 rfl 3 (.slice none 0 0)
     go_wp2_with fail
     exact bodyPost_ret (v := .tuple #[.agg #[.string ⟨#[]⟩, .slice none 0 0, .slice none 0 0, .slice none 0 0], .bool false]) (by simp [results, Tryz.results18, go_sem, F2]) rfl ⟨_, by rw [HN.out], by rw [HN.out]; exact dlAt_zero, KN.below⟩
    ·have hd3 : decide (rid < a.nx) = false := by simpa using hrn
     have HRN := hid (show a.nx ≤ rid by omega)
     clear hrn
     obtain ⟨KL, hKL, KN⟩ := K2.name
     have HF : Hid (∀ wv, Hold M none w wv KL → (wv.cell? ⟨g6, 1, none⟩ = some (.slice I ni ci) ∧ g6 < wv.heap.size) ∧ wv.cell? ⟨g8, 0, none⟩ = some (.int .i64 rid) ∧ wv.cell? ⟨g8, 1, none⟩ = some (.slice rA rn rc) ∧ g8 < wv.heap.size) := hid fun wv HC => by
      rw [hKL] at HC
      have y1 := HC.blk_ 8 rfl
      have y2 := HC.cst_ 0 rfl
      exact ⟨⟨cell_of_row _ _ 1 _ _ _ y1, Blk.lt y1⟩, cell_of_row _ _ 0 _ _ _ y2, cell_of_row _ _ 1 _ _ _ y2, Blk.lt y2⟩
     have HRX : Hid (∀ wv, Hold M none w wv KL → Ro wv (Mut M KL) (VlsIn rA rn rvs)) := hid fun wv HC => by
      rw [hKL] at HC ⊢
      exact HC.ro 1 rfl
     have HKL := hid hKL
     clear hKL K2
     go_wp2_with fail
     refine wp_region_any (by kernel_rfl) ?_
     refine wpAny_hold 5 119 (KL) (spL [(72, RowSlot (Mut M KL) rid rvs), (73, RBoxSlot (Mut M KL) rid rvs)]) (by kernel_rfl) (by kernel_rfl) (by kernel_rfl) rfl ?_ (KN.drew) ?_
     ·exact stays_cons rowSlot_mono (stays_cons rboxSlot_mono (stays_nil _))
     simp only [zd, Act.put, List.getElem_toArray, List.getElem_cons_zero, List.getElem_cons_succ, zl]
     refine dw_val rfl rfl rfl ?_; apply Exists.intro; refine ⟨fun wv HC => ?_, ?_⟩
     · go_simp <;> rfl
     simp only [Act.put, zl]
     refine dw_val rfl rfl rfl ?_; apply Exists.intro; refine ⟨fun wv HC => ?_, ?_⟩
     ·obtain ⟨⟨f0, f1⟩, f2, f3, f4⟩ := HF.out _ HC; go_simp <;> rfl
     simp only [Act.put, zl]
     refine dw_val rfl rfl rfl ?_; apply Exists.intro; refine ⟨fun wv HC => ?_, ?_⟩
     ·obtain ⟨⟨f0, f1⟩, f2, f3, f4⟩ := HF.out _ HC; go_simp <;> rfl
     simp only [Act.put, zl]
     refine dw_callR 72 (RowSlot (Mut M KL) rid rvs) (f := 63) (args := #[.agg #[.int .i64 rid, .slice rA rn rc]]) rfl rfl rfl rfl (fun wv => ?_) (fun wv HC hrm hD => ?_) ?_
     ·go_simp <;> rfl
     ·refine (rcopyrow_any _ wv HC.mutLt rid rA rn rc rvs (HRX.out _ HC) (by omega)).mono ?_
      rintro e w5 ⟨A5, n5, c5, rfl, h50, h51, h52, h53, b5⟩
      exact ⟨_, rfl, ⟨A5, n5, c5, rfl, h50, h51, h52, h53⟩, HC.call b5, RM.below b5⟩
     rintro x_ wx HCx ⟨A5, n5, c5, rfl, -, -, -, -⟩
     clear HCx
     simp only [Act.put, zl]
     refine dw_new #[.int .i64 rid, .slice A5 n5 c5] 125 73 (RBoxSlot (Mut M KL) rid rvs) (fun g => .slice (some ⟨g, 0, none⟩) 1 1) rfl rfl rfl rfl (fun wv => ?_) (fun wv HC _hrm hD hro => ?_) ?_
     ·go_simp <;> rfl
     ·have hsl : RowSlot (Mut M KL) rid rvs (.agg #[.int .i64 rid, .slice A5 n5 c5]) wv := deps_at hD 3 rfl (by kernel_rfl) rfl rfl
      obtain ⟨A6, n6, c6, e6, h1, h2, h3, h4⟩ := hsl
      obtain ⟨rfl, rfl, rfl⟩ : A5 = A6 ∧ n5 = n6 ∧ c5 = c6 := by
       injection e6 with e6
       simp at e6
       exact e6
      exact ⟨_, A5, n5, c5, rfl, h1, h2, h3, h4.step (by simp) (fun b hb _ => Below.heap_alloc wv _ b hb) (fun _ _ h => h), ro_block (hro _ HC.mutLt) rfl⟩
     rintro gn wg HCg hsl
     simp only [Act.put, zl]
     clear hsl HCg
     refine rel_nil ?_
     rintro wx2 HX
     rintro _hrm HGW
     have hb2 : RBoxSlot (Mut M KL) rid rvs (.slice (some ⟨gn, 0, none⟩) 1 1) wx2 := (GW_on (d := 73) rfl).1 (HGW 4 _ rfl (by omega))
     clear HGW _hrm
     obtain ⟨gq, A6, n6, c6, e6, k0_, k1_, k2_, k3_, k4_⟩ := hb2
     obtain rfl : gn = gq := by injection e6 with e6; injection e6 with e6; injection e6
     clear e6
     rw [HKL.out] at HX k3_
     have k5 := hid k4_.now
     have HK0 := hid (And.intro k0_ (And.intro k1_ k2_))
     clear k4_ k0_ k1_ k2_ HF HRX KN
     have HRS := hid (show rwCells li ++ [.int .i64 rid, .slice A6 n6 c6] = rwCells (li ++ [⟨rid, A6, n6, c6, rvs⟩]) from rwCells_snoc1 _ _ _ _ _ _)
     have KA := HX.add k3_
     clear HX k3_
     have FKA := KA.facts
     simp only [factsL, cellsF, Nat.reduceAdd, zf, zl] at FKA
     go_wp2_with (at_builtin; go_must (refine wpList_appAllH KA 3 rfl Tryz.elRw k5.out rfl (.tmp 70) (.tmp 73) rfl rfl rfl (by intro z hz; simp at hz; rcases hz with rfl | rfl <;> rfl) (by omega) (by omega) ?_); intro C' cap' w6 hc6 hm6 KB; rw [HRS.out] at KB; simp only [zl] at KB; (have F3 := KB.facts); simp only [factsL, cellsF, Nat.reduceAdd, zf, zl] at F3)
     have KD := KB.store 9 rfl 1 (.slice C' (ni + 1) cap')
     have KE := (KD.swapRo 6 rfl (vals_snoc (r := ⟨rid, A6, n6, c6, rvs⟩) (KD.ro 6 rfl) (KD.ro 0 rfl))).drop (List.sublist_cons_self _ _)
     clear KB KD FKA k5
     have HBN := hid (HBS.out.ins_ HRR.out HGG.out HRN.out (y := ⟨rid, A6, n6, c6, rvs⟩) rfl ⟨HRO.out.id, HK0.out.2.1, HK0.out.2.2, HRO.out.vs⟩)
     have KZ := KE.drop (List.Sublist.cons _ (List.sublist_cons_self _ _))
     go_roundw
     case rel => exact ⟨j + 1, ni + 1, cap', nu, cu, C', U, _, lu, by omega, by first | rfl | go_num, by omega, by omega, HBN, KZ⟩
     case measure => simp [intOf]; omega
   | some o =>
    rw [hgt] at rg hng
    simp only [Option.getD_some] at rg hng
    have HGG := hid hgt
    have HGC := hid (And.intro hng (And.intro hgc1 hgc2))
    have HGO := hid (show ∀ v ∈ o, v.ok from fun v hv => by
     have h1 := getR_out hgt
     rw [← HAR.out] at h1
     obtain ⟨z, hz, hzr⟩ := List.mem_map.1 h1
     have h2 : z.vs = o := congrArg Prod.snd hzr
     exact (HAO.out z hz).vs v (by rw [h2]; exact hv))
    simp only [Option.isSome_some]
    have hng6 : ng ≤ 9223372036854775807 := by omega
    clear hgt hng hgc1 hgc2
    have K3 := K2.add rg
    clear K2 rg F2
    have F3 := K3.facts
    simp only [factsL, cellsF, Nat.reduceAdd, zf, zl] at F3
    go_wp2_with fail
    refine (rcmprows_any _ _ K3.mutLt Ag ng cg o rA rn rc rvs (K3.ro 0 rfl) (K3.ro 2 rfl) (by omega) (by omega)).mono ?_
    rintro e w7 ⟨⟨r0, rfl, hr0⟩, b7⟩
    have K6 := K3.call b7
    clear K3 b7 F3
    have F6 := K6.facts
    simp only [factsL, cellsF, Nat.reduceAdd, zf, zl] at F6
    by_cases hov : o = rvs
    ·obtain rfl : r0 = 0 := hr0.2 hov
     have HBN := hid (HBS.out.same HRR.out HGG.out hov)
     clear hr0 hov
     have KZ := K6.drop (List.Sublist.cons _ (List.Sublist.cons _ (List.sublist_cons_self _ _)))
     go_wp2_with fail
     go_roundw
     case rel => exact ⟨j + 1, ni, ci, nu, cu, I, U, li, lu, by omega, by first | rfl | go_num, by omega, by omega, HBN, KZ⟩
     case measure => simp [intOf]; omega
    ·have hrz : (r0 != 0) = true := by simpa using fun h => hov (hr0.1 h)
     have HNE := hid hov
     clear hr0 hov
     obtain ⟨KL, hKL, KN⟩ := K6.name
     have HF : Hid (∀ wv, Hold M none w wv KL → (wv.cell? ⟨g6, 3, none⟩ = some (.slice U nu cu) ∧ g6 < wv.heap.size) ∧ wv.cell? ⟨g8, 0, none⟩ = some (.int .i64 rid) ∧ wv.cell? ⟨g8, 1, none⟩ = some (.slice rA rn rc) ∧ g8 < wv.heap.size) := hid fun wv HC => by
      rw [hKL] at HC
      have y1 := HC.blk_ 9 rfl
      have y2 := HC.cst_ 1 rfl
      exact ⟨⟨cell_of_row _ _ 3 _ _ _ y1, Blk.lt y1⟩, cell_of_row _ _ 0 _ _ _ y2, cell_of_row _ _ 1 _ _ _ y2, Blk.lt y2⟩
     have HRX : Hid (∀ wv, Hold M none w wv KL → Ro wv (Mut M KL) (VlsIn Ag ng o) ∧ Ro wv (Mut M KL) (VlsIn rA rn rvs)) := hid fun wv HC => by
      rw [hKL] at HC ⊢
      exact ⟨HC.ro 0 rfl, HC.ro 2 rfl⟩
     have HKL := hid hKL
     clear hKL K6
     go_wp2_with fail
     refine wp_region_any (by kernel_rfl) ?_
     refine wpAny_hold 10 119 (KL) (spL [(88, VlsSlot (Mut M KL) rvs), (89, PrSlot (Mut M KL) (rid, o, rvs)), (90, PrsSlot (Mut M KL) [(rid, o, rvs)])]) (by kernel_rfl) (by kernel_rfl) (by kernel_rfl) rfl ?_ (KN.drew) ?_
     ·exact stays_cons vlsSlot_mono (stays_cons prSlot_mono (stays_cons prsSlot_mono (stays_nil _)))
     simp only [zd, Act.put, List.getElem_toArray, List.getElem_cons_zero, List.getElem_cons_succ, zl]
     refine dw_val rfl rfl rfl ?_; apply Exists.intro; refine ⟨fun wv HC => ?_, ?_⟩
     · go_simp <;> rfl
     simp only [Act.put, zl]
     refine dw_val rfl rfl rfl ?_; apply Exists.intro; refine ⟨fun wv HC => ?_, ?_⟩
     ·obtain ⟨⟨f0, f1⟩, f2, f3, f4⟩ := HF.out _ HC; go_simp <;> rfl
     simp only [Act.put, zl]
     refine dw_val rfl rfl rfl ?_; apply Exists.intro; refine ⟨fun wv HC => ?_, ?_⟩
     · go_simp <;> rfl
     simp only [Act.put, zl]
     refine dw_val rfl rfl rfl ?_; apply Exists.intro; refine ⟨fun wv HC => ?_, ?_⟩
     ·obtain ⟨⟨f0, f1⟩, f2, f3, f4⟩ := HF.out _ HC; go_simp <;> rfl
     simp only [Act.put, zl]
     refine dw_val rfl rfl rfl ?_; apply Exists.intro; refine ⟨fun wv HC => ?_, ?_⟩
     · go_simp <;> rfl
     simp only [Act.put, zl]
     refine dw_val rfl rfl rfl ?_; apply Exists.intro; refine ⟨fun wv HC => ?_, ?_⟩
     · go_simp <;> rfl
     simp only [Act.put, zl]
     refine dw_val rfl rfl rfl ?_; apply Exists.intro; refine ⟨fun wv HC => ?_, ?_⟩
     ·obtain ⟨⟨f0, f1⟩, f2, f3, f4⟩ := HF.out _ HC; go_simp <;> rfl
     simp only [Act.put, zl]
     refine dw_callR 88 (VlsSlot (Mut M KL) rvs) (f := 57) (args := #[.slice rA rn rc]) rfl rfl rfl rfl (fun wv => ?_) (fun wv HC hrm hD => ?_) ?_
     ·go_simp <;> rfl
     ·refine (copyVls_any _ wv HC.mutLt rA rn rc rvs (HRX.out _ HC).2 (by omega)).mono ?_
      rintro e w5 ⟨A5, n5, c5, rfl, h50, h51, h52, h53, b5⟩
      exact ⟨_, rfl, ⟨A5, n5, c5, rfl, h50, h51, h52, h53⟩, HC.call b5, RM.below b5⟩
     rintro x_ wx HCx ⟨A94, n94, c94, rfl, -, -, -, -⟩
     clear HCx
     simp only [Act.put, zl]
     refine dw_valC 89 (PrSlot (Mut M KL) (rid, o, rvs)) rfl rfl rfl rfl (.agg #[.int .i64 rid, .slice Ag ng cg, .slice A94 n94 c94]) (fun wv HC => ?_) (fun wv HC hD => ?_) ?_
     ·go_simp <;> rfl
     ·have hb : VlsSlot (Mut M KL) rvs (.slice A94 n94 c94) wv := deps_at hD 7 rfl (by kernel_rfl) rfl rfl
      exact prSlot_of HRO.out.id HGO.out HRO.out.vs ⟨Ag, ng, cg, rfl, HGC.out.1, HGC.out.2.1, HGC.out.2.2, (HRX.out _ HC).1⟩ hb
     simp only [Act.put, zl]
     refine dw_new #[.int .i64 rid, .slice Ag ng cg, .slice A94 n94 c94] 116 90 (PrsSlot (Mut M KL) [(rid, o, rvs)]) (fun g => .slice (some ⟨g, 0, none⟩) 1 1) rfl rfl rfl rfl (fun wv => ?_) (fun wv HC _hrm hD hro => ?_) ?_
     ·go_simp <;> rfl
     ·have hrr := RM.alloc (Mut M KL) wv (.cells #[.int .i64 rid, .slice Ag ng cg, .slice A94 n94 c94] 116)
      have h0 : PrSlot (Mut M KL) (rid, o, rvs) (.agg #[.int .i64 rid, .slice Ag ng cg, .slice A94 n94 c94]) wv := deps_at hD 8 rfl (by kernel_rfl) rfl rfl
      replace h0 := prSlot_mono _ _ _ hrr h0
      exact prsSlot_one (hro _ HC.mutLt) (fun i j k e1 => Value.agg.inj e1) h0
     rintro g96 wg HCg hsl
     simp only [Act.put, zl]
     clear hsl HCg
     refine rel_nil ?_
     rintro wx5 HX5
     rintro _hrm HGW
     have hb2 : PrsSlot (Mut M KL) [(rid, o, rvs)] (.slice (some ⟨g96, 0, none⟩) 1 1) wx5 := (GW_on (d := 90) rfl).1 (HGW 9 _ rfl (by omega))
     clear HGW _hrm
     obtain ⟨Aq, nq, cq, pq, heq, -, -, hpm, hpok, hpr⟩ := hb2
     obtain ⟨rfl, rfl, rfl⟩ : some ⟨g96, 0, none⟩ = Aq ∧ 1 = nq ∧ 1 = cq := by injection heq with h1 h2 h3; exact ⟨h1, h2, h3⟩
     clear heq
     obtain ⟨pr, rfl, hpu⟩ : ∃ pr, pq = [pr] ∧ pr.upd = (rid, o, rvs) := by
      obtain ⟨pr, h1, h2⟩ := List.map_eq_singleton_iff.1 hpm
      exact ⟨pr, h1, h2⟩
     rw [HKL.out] at HX5 hpr
     have HPE := hid (show prCells lu ++ prCells [pr] = prCells (lu ++ [pr]) by simp [prCells])
     have KA := HX5.add (hpr.imp fun w h => (h.2 : PrVals [pr] w))
     have k5 := hid ((hpr.imp fun w h => h.1).now)
     have HBN := hid (HBS.out.turn HRR.out HGG.out HNE.out hpu (hpok pr (List.mem_singleton.2 rfl)))
     clear HX5 hpr hpm hpok hpu HF HRX KN
     have FKA := KA.facts
     simp only [factsL, cellsF, Nat.reduceAdd, zf, zl] at FKA
     go_wp2_with (at_builtin; go_must (refine wpList_appAllH KA 6 rfl Tryz.elPr k5.out rfl (.tmp 82) (.tmp 90) rfl rfl rfl (prCells_one _) (by omega) (by omega) ?_); intro C' cap' w6 hc6 hm6 KB; rw [HPE.out] at KB; simp only [zl] at KB; (have FB := KB.facts); simp only [factsL, cellsF, Nat.reduceAdd, zf, zl] at FB)
     have KD := KB.store 10 rfl 3 (.slice C' (nu + 1) cap')
     have KZ := (KD.swapRo 9 rfl (prVals_app (KD.ro 9 rfl) (KD.ro 0 rfl))).drop (List.Sublist.cons _ (List.Sublist.cons _ (List.Sublist.cons _ (List.sublist_cons_self _ _))))
     clear KB KD FKA k5
     go_roundw
     case rel => exact ⟨j + 1, ni, ci, nu + 1, cap', I, C', li, _, by omega, by first | rfl | go_num, by omega, by omega, HBN, KZ⟩
     case measure => simp [intOf]; omega
  ·obtain rfl : j = bm := by omega
   have hd : decide ((j : Int) < (j : Int)) = false := by simp
   have HBJ := hid (show b.rs.length ≤ j by rw [← HBR.out, List.length_map, HBL.out]; exact Nat.le_refl _)
   clear hlt
   have F1 := H.facts
   simp only [factsL, cellsF, Nat.reduceAdd, zf, zl] at F1
   go_wp2_with fail
   clear F1
   go_loopw [97] (fun iv wr => ∃ (k nd cd : Nat) (D : Option Addr) (ld : List Rw), k ≤ am ∧ iv = .int .i64 k ∧ nd ≤ k ∧ Hid (RSt a b j k li ld lu) ∧ Hold M none w wr [.own 125 2 (.slice I ni ci) ni (rwCells li), .own 125 2 (.slice D nd cd) nd (rwCells ld), .own 116 3 (.slice U nu cu) nu (prCells lu), .ro (ValsIn li), .ro (ValsIn ld), .ro (PrVals lu), .blk g6 44 #[.string a.nm, .slice I ni ci, .slice D nd cd, .slice U nu cu], .blk g4 44 #[.string ⟨#[]⟩, .slice none 0 0, .slice none 0 0, .slice none 0 0], .cst g3 58 #[.string b.nm, .slice bA bn bc, .int .i64 b.nx, .slice bB j bd], .cst g2 58 #[.string a.nm, .slice aA an ac, .int .i64 a.nx, .slice aB am ad], .ro (ColsIn aA an a.cs), .ro (RwsIn aB am la), .ro (ColsIn bA bn b.cs), .ro (RwsIn bB j lb)]) (fun iv _ => am - (intOf iv).toNat)
   case atStart => exact ⟨0, 0, 0, none, [], by omega, rfl, by omega, HBS, H⟩
   case round =>
    clear H HBS
    obtain ⟨k, nd, cd, D, ld, hk, rfl, hnd, HBS, H⟩ := hrel
    by_cases hlt : k < am
    ·have hd5 : decide ((k : Int) < (am : Int)) = true := by simp; omega
     have k0 : (0 : Int) ≤ (k : Int) := by omega
     have k1 : (k : Int) < (am : Int) := by omega
     obtain ⟨x, hx⟩ := get_of HAL.out hlt
     have HXX := hid (show a.rs[k]? = some x.row by rw [← HAR.out, List.getElem?_map, hx]; rfl)
     have HXO := hid (HAO.out x (List.mem_of_getElem? hx))
     have hxn6 := HSA.out x (List.mem_of_getElem? hx)
     obtain ⟨bx, ox, rfl, hbx', x0, x1, _⟩ := (H.ro 11 rfl).now.at_ hx
     have hxx : Ro wr _ (VlsIn x.A x.n x.vs) := (H.ro 11 rfl).imp fun w2 h2 => h2.2 x (List.mem_of_getElem? hx)
     clear hx
     obtain ⟨xid, xA, xn, xc, xvs⟩ := x
     dsimp only at *
     have K1 := (H.add hxx).alloc_cst #[.int .i64 xid, .slice xA xn xc] 125
     clear H hxx
     obtain ⟨gx, hgx⟩ : ∃ g, g = wr.heap.size := ⟨_, rfl⟩
     rw [← hgx] at K1
     have F1 := K1.facts
     simp only [factsL, cellsF, Nat.reduceAdd, zf, zl] at F1
     go_wp2_with fail
     rw [← hgx]
     have HGX2 := hid hgx
     clear hgx x0 x1
     have hg := rtget_any _ _ K1.mutLt (.string b.nm) (.slice bA bn bc) (.int .i64 b.nx) bB j bd lb xid (K1.ro 15 rfl) (by omega) (fun r hr => by have := HSB.out r hr; omega)
     rw [HBR.out] at hg
     refine hg.mono ?_
     clear hg
     rintro e w6 ⟨Ag, ng, cg, rfl, -, -, -, -, bg⟩
     have K2 := K1.call bg
     clear K1 bg F1
     have F2 := K2.facts
     simp only [factsL, cellsF, Nat.reduceAdd, zf, zl] at F2
     cases hgt : getR b.rs xid with
     | none =>
      have HGG := hid hgt
      simp only [Option.isSome_none]
      clear hgt
      obtain ⟨KL, hKL, KN⟩ := K2.name
      have HF : Hid (∀ wv, Hold M none w wv KL → (wv.cell? ⟨g6, 2, none⟩ = some (.slice D nd cd) ∧ g6 < wv.heap.size) ∧ wv.cell? ⟨gx, 0, none⟩ = some (.int .i64 xid) ∧ wv.cell? ⟨gx, 1, none⟩ = some (.slice xA xn xc) ∧ gx < wv.heap.size) := hid fun wv HC => by
       rw [hKL] at HC
       have y1 := HC.blk_ 8 rfl
       have y2 := HC.cst_ 0 rfl
       exact ⟨⟨cell_of_row _ _ 2 _ _ _ y1, Blk.lt y1⟩, cell_of_row _ _ 0 _ _ _ y2, cell_of_row _ _ 1 _ _ _ y2, Blk.lt y2⟩
      have HRX : Hid (∀ wv, Hold M none w wv KL → Ro wv (Mut M KL) (VlsIn xA xn xvs)) := hid fun wv HC => by
       rw [hKL] at HC ⊢
       exact HC.ro 1 rfl
      have HKL := hid hKL
      clear hKL K2
      go_wp2_with fail
      refine wp_region_any (by kernel_rfl) ?_
      refine wpAny_hold 5 119 (KL) (spL [(113, RowSlot (Mut M KL) xid xvs), (114, RBoxSlot (Mut M KL) xid xvs)]) (by kernel_rfl) (by kernel_rfl) (by kernel_rfl) rfl ?_ (KN.drew) ?_
      ·exact stays_cons rowSlot_mono (stays_cons rboxSlot_mono (stays_nil _))
      simp only [zd, Act.put, List.getElem_toArray, List.getElem_cons_zero, List.getElem_cons_succ, zl]
      refine dw_val rfl rfl rfl ?_; apply Exists.intro; refine ⟨fun wv HC => ?_, ?_⟩
      · go_simp <;> rfl
      simp only [Act.put, zl]
      refine dw_val rfl rfl rfl ?_; apply Exists.intro; refine ⟨fun wv HC => ?_, ?_⟩
      ·obtain ⟨⟨f0, f1⟩, f2, f3, f4⟩ := HF.out _ HC; go_simp <;> rfl
      simp only [Act.put, zl]
      refine dw_val rfl rfl rfl ?_; apply Exists.intro; refine ⟨fun wv HC => ?_, ?_⟩
      ·obtain ⟨⟨f0, f1⟩, f2, f3, f4⟩ := HF.out _ HC; go_simp <;> rfl
      simp only [Act.put, zl]
      refine dw_callR 113 (RowSlot (Mut M KL) xid xvs) (f := 63) (args := #[.agg #[.int .i64 xid, .slice xA xn xc]]) rfl rfl rfl rfl (fun wv => ?_) (fun wv HC hrm hD => ?_) ?_
      ·go_simp <;> rfl
      ·refine (rcopyrow_any _ wv HC.mutLt xid xA xn xc xvs (HRX.out _ HC) (by omega)).mono ?_
       rintro e w5 ⟨A5, n5, c5, rfl, h50, h51, h52, h53, b5⟩
       exact ⟨_, rfl, ⟨A5, n5, c5, rfl, h50, h51, h52, h53⟩, HC.call b5, RM.below b5⟩
      rintro x_ wx HCx ⟨A5, n5, c5, rfl, -, -, -, -⟩
      clear HCx
      simp only [Act.put, zl]
      refine dw_new #[.int .i64 xid, .slice A5 n5 c5] 125 114 (RBoxSlot (Mut M KL) xid xvs) (fun g => .slice (some ⟨g, 0, none⟩) 1 1) rfl rfl rfl rfl (fun wv => ?_) (fun wv HC _hrm hD hro => ?_) ?_
      ·go_simp <;> rfl
      ·have hsl : RowSlot (Mut M KL) xid xvs (.agg #[.int .i64 xid, .slice A5 n5 c5]) wv := deps_at hD 3 rfl (by kernel_rfl) rfl rfl
       obtain ⟨A6, n6, c6, e6, h1, h2, h3, h4⟩ := hsl
       obtain ⟨rfl, rfl, rfl⟩ : A5 = A6 ∧ n5 = n6 ∧ c5 = c6 := by
        injection e6 with e6
        simp at e6
        exact e6
       exact ⟨_, A5, n5, c5, rfl, h1, h2, h3, h4.step (by simp) (fun b hb _ => Below.heap_alloc wv _ b hb) (fun _ _ h => h), ro_block (hro _ HC.mutLt) rfl⟩
      rintro gn wg HCg hsl
      simp only [Act.put, zl]
      clear hsl HCg
      refine rel_nil ?_
      rintro wx2 HX
      rintro _hrm HGW
      have hb2 : RBoxSlot (Mut M KL) xid xvs (.slice (some ⟨gn, 0, none⟩) 1 1) wx2 := (GW_on (d := 114) rfl).1 (HGW 4 _ rfl (by omega))
      clear HGW _hrm
      obtain ⟨gq, A6, n6, c6, e6, k0_, k1_, k2_, k3_, k4_⟩ := hb2
      obtain rfl : gn = gq := by injection e6 with e6; injection e6 with e6; injection e6
      clear e6
      rw [HKL.out] at HX k3_
      have k5 := hid k4_.now
      have HK0 := hid (And.intro k0_ (And.intro k1_ k2_))
      clear k4_ k0_ k1_ k2_ HF HRX KN
      have HRS := hid (show rwCells ld ++ [.int .i64 xid, .slice A6 n6 c6] = rwCells (ld ++ [⟨xid, A6, n6, c6, xvs⟩]) from rwCells_snoc1 _ _ _ _ _ _)
      have KA := HX.add k3_
      clear HX k3_
      have FKA := KA.facts
      simp only [factsL, cellsF, Nat.reduceAdd, zf, zl] at FKA
      go_wp2_with (at_builtin; go_must (refine wpList_appAllH KA 4 rfl Tryz.elRw k5.out rfl (.tmp 111) (.tmp 114) rfl rfl rfl (by intro z hz; simp at hz; rcases hz with rfl | rfl <;> rfl) (by omega) (by omega) ?_); intro C' cap' w6 hc6 hm6 KB; rw [HRS.out] at KB; simp only [zl] at KB; (have F3 := KB.facts); simp only [factsL, cellsF, Nat.reduceAdd, zf, zl] at F3)
      have KD := KB.store 9 rfl 2 (.slice C' (nd + 1) cap')
      have KE := (KD.swapRo 7 rfl (vals_snoc (r := ⟨xid, A6, n6, c6, xvs⟩) (KD.ro 7 rfl) (KD.ro 0 rfl))).drop (List.sublist_cons_self _ _)
      clear KB KD FKA k5
      have HBN := hid (HBS.out.left HXX.out HGG.out (y := ⟨xid, A6, n6, c6, xvs⟩) rfl ⟨HXO.out.id, HK0.out.2.1, HK0.out.2.2, HXO.out.vs⟩)
      have KZ := KE.drop (List.Sublist.cons _ (List.sublist_cons_self _ _))
      go_roundw
      case rel => exact ⟨k + 1, nd + 1, cap', C', _, by omega, by first | rfl | go_num, by omega, HBN, KZ⟩
      case measure => simp [intOf]; omega
     | some v =>
      have HBN := hid (HBS.out.keep HXX.out hgt)
      simp only [Option.isSome_some]
      clear hgt
      have KZ := K2.drop (List.Sublist.cons _ (List.sublist_cons_self _ _))
      go_wp2_with fail
      go_roundw
      case rel => exact ⟨k + 1, nd, cd, D, ld, by omega, by first | rfl | go_num, by omega, HBN, KZ⟩
      case measure => simp [intOf]; omega
    ·obtain rfl : k = am := by omega
     have hd5 : decide ((k : Int) < (k : Int)) = false := by simp
     have HFIN := hid (HBS.out.fin HBJ.out (by rw [← HAR.out, List.length_map, HAL.out]; exact Nat.le_refl _))
     have F := H.facts
     simp only [factsL, cellsF, Nat.reduceAdd, zf, zl] at F
     obtain ⟨hi1, hi2, _⟩ := own_caps (H.get 0 rfl)
     obtain ⟨hd1, hd2, _⟩ := own_caps (H.get 1 rfl)
     obtain ⟨hu1, hu2, _⟩ := own_caps (H.get 2 rfl)
     have KS := H.sealRow 0 rfl
     simp only [zl] at KS
     have KS2 := KS.sealRow 1 rfl
     simp only [zl] at KS2
     have KS3 := KS2.sealRow 2 rfl
     simp only [zl] at KS3
     have KN := (((KS3.store 7 rfl 0 (.string a.nm)).store 7 rfl 1 (.slice I ni ci)).store 7 rfl 2 (.slice D nd cd)).store 7 rfl 3 (.slice U nu cu)
     have r1 := (KN.roOut 0 rfl).and (KN.roOut 3 rfl)
     have r2 := (KN.roOut 1 rfl).and (KN.roOut 4 rfl)
     have r3 := (KN.roOut 2 rfl).and (KN.roOut 5 rfl)
     have NK := H.nes
     simp only [nesL, neF, and_true, true_and] at NK
     clear KS KS2 KS3 H
     go_wp2_with fail
     exact bodyPost_ret (v := .tuple #[.agg #[.string a.nm, .slice I ni ci, .slice D nd cd, .slice U nu cu], .bool true]) (by simp [results, Tryz.results18, go_sem, F, NK]) rfl ⟨_, by rw [HFIN.out], by rw [HFIN.out]; exact ⟨I, ni, ci, D, nd, cd, U, nu, cu, li, ld, lu, rfl, ⟨hi1, hi2⟩, ⟨hd1, hd2⟩, ⟨hu1, hu2⟩, r1, r2, r3, HBS.out.ok1, HBS.out.ok2, HBS.out.ok3, rfl, rfl, rfl⟩, KN.below⟩
end Go.Proofs.YtdkebcfkchhlmaaGreatDoor

namespace Go.Proofs.YtdkebcfkchhlmaaGreatDoor
open Go.RowKit
set_option linter.unusedVariables false
set_option linter.unusedSimpArgs false
theorem TNm.keep {w w' : World} (h : TNm w) (hk : w'.heap[0]? = w.heap[0]?) : TNm w' := fun j hj => (World.cell?_of_block (w := w) (a := ⟨0, j, none⟩) hk).trans (h j hj)
theorem TNm.lt {w : World} (h : TNm w) : 0 < w.heap.size := World.block_lt_of_cell? w ⟨0, 0, none⟩ (h 0 (by omega))
theorem TNm.ro2 {w : World} {M : Nat → Prop} (h : TNm w) (hM : ¬ M 0) : Ro w M TNm := fun w2 _ h2 => h.keep (h2 _ h.lt hM)
/-- a difference without rows -/
def DeNil (x : De) : Prop := x.ni = 0 ∧ x.li = [] ∧ x.nd = 0 ∧ x.ld = [] ∧ x.nu = 0 ∧ x.lu = []
theorem DeNil.b {x : De} (h : DeNil x) : DeB x := by
 obtain ⟨h1, h2, h3, h4, h5, h6⟩ := h
 exact ⟨by omega, by omega, by omega, by rw [h2]; exact fun r hr => (nomatch hr), by rw [h4]; exact fun r hr => (nomatch hr), by rw [h6]; exact fun r hr => (nomatch hr)⟩
theorem matchD_nil (ev : Int) (ol : List ByteArray) (cl : List Col) : matchD ev ol cl [] [] [] = ([], [], []) := by
 unfold matchD
 split
 ·rfl
 ·split
  ·rfl
  ·split <;> rfl
theorem itemsM_nil (t : Tg) : itemsM t ([], [], []) = [] := by
 unfold itemsM
 split
 ·rfl
 ·rw [if_neg (by unfold cntD; simp)]
theorem items_nil {tl : List Te} {l : List De} (h : ∀ x ∈ l, DeNil x) (t : Tg) : itemsT tl l t = [] := by
 unfold itemsT
 split
 ·rename_i d y hd hy
  obtain ⟨h1, h2, h3, h4, h5, h6⟩ := h d (List.mem_of_find?_eq_some hd)
  split
  ·rfl
  ·rw [h2, h4, h6]
   simp only [List.map_nil]
   rw [matchD_nil, itemsM_nil]
 ·rfl
theorem flat_nil {α β : Type} {f : α → List β} (h : ∀ x, f x = []) (l : List α) : l.flatMap f = [] := by
 induction l with
 | nil => rfl
 | cons x l ih => rw [List.flatMap_cons, h, ih]; rfl
theorem tgsRo_of {A : Option Addr} {n : Nat} {l : List Tg} {w : World} (h : TgsIn 5 A n l w) : TgsRo A n l w := ⟨h.1, fun t ht => by
 have h2 := (h.2 t ht).1.1
 rw [flat_strc] at h2
 exact h2⟩
def DesOf (l : List De) (w : World) : Prop := ∀ x ∈ l, DeIn x w
theorem len0 {α β : Type} {f : α → β} {l : List α} (h : l.map f = []) : l = [] := List.map_eq_nil_iff.1 h
theorem Tryz.elDe : ElemT Tryz.prog 30 44 4 88 (.agg #[.string ⟨#[]⟩, .slice none 0 0, .slice none 0 0, .slice none 0 0]) := ⟨Tryz.underlying30, by kernel_rfl, rfl, by omega⟩
set_option maxHeartbeats 16000000 in
set_option maxRecDepth 100000 in
theorem eventNone_walk (A : Option Addr) (n c : Nat) (zs : List Int) (w : World) (hr : Rd w w.heap.size 1 A n (zs.map (Value.int .i64))) (hz : Ints zs) (hn : n ≤ c) (hc : c ≤ 9223372036854775807) (hw : Wds w) (hTN : TNm w) :
  Calls Tryz.prog 4 #[.slice A n c] w fun e w' => e = .returned (.bool true) ∧ Below w.heap.size w w' := by
 have hwl := hw.lt
 have htl := hTN.lt
 have K0 := Hold.begin_ w
 go_enter Tryz.func4, Tryz.ntmps4
 go_wp2_with fail
 refine (new_any A n c zs _ hr hz hn hc).mono ?_
 rintro e w1 ⟨T, rfl, hT, t1, b1⟩
 have K1 := Hold.newTape K0 b1 t1 hT (by simp [Mut, None_, Hp.foot])
 have wd0 : Wds w1 := hw.below b1 hwl
 have tn0 : TNm w1 := hTN.keep (b1.block _ htl)
 have hT1 : 1 < T := by omega
 have K2 := (K1.add (wd0.ro2 (show ¬ Mut None_ [.tp T] 1 by simp [Mut, None_, Hp.foot]; omega))).add (tn0.ro2 (show ¬ Mut None_ [.ro Wds, .tp T] 0 by simp [Mut, None_, Hp.foot]; omega))
 clear K1 K0 wd0 tn0 t1 b1 hw hTN hr hwl htl hT
 go_wp2_with fail
 refine (trigs_any (Mut None_ _) T _ K2.mutLt (K2.tp_ 2 rfl) (K2.get 2 rfl).2 6 (by omega) ((K2.ro 1 rfl).less (mut_tp (i := 2) rfl)) hT1 ((K2.ro 0 rfl).less (mut_tp (i := 2) rfl))).mono ?_
 rintro e w2 ⟨gA, gn, gc, gl, O1, on1, oc1, ol1, rfl, hgl, hgn, -, -, hgo, -, rG, -, t2, g2⟩
 have K3 := (Hold.callT K2 2 rfl g2 t2).add rG
 have HGO := hid hgo
 have HGL := hid hgl
 clear K2 t2 g2 rG hgo hgl
 go_wp2_with fail
 refine (tstore_any (Mut None_ _) T _ K3.mutLt (K3.tp_ 3 rfl) (K3.get 3 rfl).2 5 (by omega) ((K3.ro 2 rfl).less (mut_tp (i := 3) rfl)) hT1).mono ?_
 rintro e w3 ⟨tA, tc, tl, rfl, htc1, htc2, hS, rT, t3, g3⟩
 have HS := hid hS
 have K4 : Hold None_ none w w3 [.own 44 4 (.slice none 0 0) 0 (deCells []), .ro (DesOf []), .ro (TesIn tA 3 tl), .ro (TgsIn 5 gA gn gl)] := ((((Hold.callT K3 3 rfl g3 t3).add rT).add (S := DesOf []) (fun w2 _ _ x hx => (nomatch hx))).nil 44 4).pick [0, 1, 2, 3] (by decide) rfl
 clear K3 t3 g3 rT hS
 go_wp2_with fail
 go_loopw [7, 23] (fun ov iv wr => ∃ (j cap : Nat) (O : Option Addr) (outs : List De), j ≤ 3 ∧ iv = .int .i64 j ∧ ov = .slice O j cap ∧ Hid (∀ x ∈ outs, DeNil x) ∧ Hold None_ none w wr [.own 44 4 (.slice O j cap) j (deCells outs), .ro (DesOf outs), .ro (TesIn tA 3 tl), .ro (TgsIn 5 gA gn gl)]) (fun _ iv _ => 3 - (intOf iv).toNat)
 case atStart => exact ⟨0, 0, none, [], by omega, rfl, rfl, hid (fun x hx => (nomatch hx)), K4⟩
 case round =>
  clear K4
  obtain ⟨j, cap, O, outs, hj, rfl, rfl, HO, H⟩ := hrel
  by_cases hlt : j < 3
  ·have hd : decide ((j : Int) < 3) = true := by simp; omega
   obtain ⟨x, hx⟩ := get_of HS.out.len hlt
   obtain ⟨b, o, rfl, hb, c0, c1, c2, c3, -⟩ := (H.ro 2 rfl).now.at_ hx
   have hmx := List.mem_of_getElem? hx
   have HX := hid (HS.out.ok x hmx)
   clear hx
   have K1 := H.alloc_cst #[.string x.nm, .slice x.A x.n x.c, .int .i64 x.nx, .slice x.B x.m x.d] 58
   have F1 := K1.facts
   simp only [factsL, cellsF, Nat.reduceAdd, zf, zl] at F1
   clear H
   go_wp2_with fail
   clear F1 c0 c1 c2 c3
   have hv := HX.out.2.1
   have hTb : TbAt _ (Mut None_ _) x.val x.tb := te_tb HX.out.1 ((K1.ro 3 rfl).imp fun w2 h2 => h2.2 x hmx)
   refine (rbetw_any (Mut None_ _) _ K1.mutLt x.val x.val x.tb x.tb hTb hTb hv.sch.nm hv.sch.cs (by have := HX.out.2.2; omega) hv.sch.nm hv.sch.cs (by have := HX.out.2.2; omega)).mono ?_
   rintro e w4 ⟨v, rfl, hdl, b4⟩
   obtain ⟨q1, q2, q3, q4⟩ := betC_self hv.val hv.val (LaterOk.refl _)
   rw [q1] at hdl ⊢
   obtain ⟨I, ni, ci, D, nd, cd, U, nu, cu, li, ld, lu, rfl, -, -, -, rI, rD, rU, -, -, -, e1, e2, e3⟩ := hdl
   dsimp only at e1 e2 e3
   rw [q2] at e1
   rw [q3] at e2
   rw [q4] at e3
   obtain rfl := len0 e1
   obtain rfl := len0 e2
   obtain rfl := len0 e3
   obtain rfl : ni = 0 := rI.now.len.symm
   obtain rfl : nd = 0 := rD.now.len.symm
   obtain rfl : nu = 0 := rU.now.len.symm
   obtain ⟨dn, hdn⟩ : ∃ s : ByteArray, (betD x.tb x.tb).nm = s := ⟨_, rfl⟩
   dsimp only
   rw [hdn]
   clear q1 q2 q3 q4 hTb e1 e2 e3 hdn hv
   have K2 := (((((K1.call b4).add rI).add (rD.less (by simp [mut_cons, Hp.foot]))).add (rU.less (by simp [mut_cons, Hp.foot])))).alloc_cst #[.string dn, .slice I 0 ci, .slice D 0 cd, .slice U 0 cu] 44
   clear K1 b4 rI rD rU
   have F2 := K2.facts
   simp only [factsL, cellsF, Nat.reduceAdd, zf, zl] at F2
   go_wp2_with (at_builtin; go_must (refine wpList_appH K2 5 rfl Tryz.elDe #[.string dn, .slice I 0 ci, .slice D 0 cd, .slice U 0 cu] rfl (.tmp 35) (.tmp 37) rfl rfl (w4.heap.size + 1) (by first | rfl | simp) rfl rfl (by intro u hu; simp at hu; rcases hu with rfl | rfl | rfl | rfl <;> rfl) (by omega) (by omega) ?_); intro gX capX wX hcX hmX KA; simp only [zl] at KA)
   rw [show deCells outs ++ (#[.string dn, .slice I 0 ci, .slice D 0 cd, .slice U 0 cu] : Array Value).toList = deCells (outs ++ [⟨dn, I, 0, ci, [], D, 0, cd, [], U, 0, cu, []⟩]) from (deCells_snoc outs ⟨dn, I, 0, ci, [], D, 0, cd, [], U, 0, cu, []⟩).symm] at KA
   have hR : Ro _ _ (DesOf (outs ++ [⟨dn, I, 0, ci, [], D, 0, cd, [], U, 0, cu, []⟩])) := ((KA.ro 6 rfl).and ((KA.ro 3 rfl).and ((KA.ro 2 rfl).and (KA.ro 1 rfl)))).imp fun w2 h2 y hy => by
    rcases List.mem_append.1 hy with hy | hy
    ·exact h2.1 y hy
    ·simp only [List.mem_cons, List.not_mem_nil, or_false] at hy
     subst hy
     exact h2.2
   have KB := (KA.swapRo 6 rfl hR).pick [5, 6, 7, 8] (by decide) rfl
   simp only [List.set_cons_zero, List.set_cons_succ, List.filterMap_cons, List.filterMap_nil, List.getElem?_cons_zero, List.getElem?_cons_succ] at KB
   go_roundw
   case rel => exact ⟨j + 1, capX, _, outs ++ [⟨dn, I, 0, ci, [], D, 0, cd, [], U, 0, cu, []⟩], by omega, by go_num, by first | rfl | trivial, hid (fun y hy => by
    rcases List.mem_append.1 hy with hy | hy
    ·exact HO.out y hy
    ·simp only [List.mem_cons, List.not_mem_nil, or_false] at hy
     subst hy
     exact ⟨rfl, rfl, rfl, rfl, rfl, rfl⟩), KB⟩
   case measure => simp [intOf]; omega
  ·obtain rfl : j = 3 := by omega
   have KZ := H.sealRow 0 rfl
   simp only [zl] at KZ
   have hD : Ro _ _ (DesIn O 3 outs) := ((KZ.ro 0 rfl).and (KZ.ro 1 rfl)).imp fun w2 h2 => ⟨h2.1, h2.2⟩
   have HTB := hid (show ∀ x ∈ tl, x.n ≤ 1000 from fun x hx => by
    have h1 : x.cs.length = x.n := (RdC.of_sl (show SlR 4 x.A x.n (colCells x.cs) _ from ((KZ.ro 2 rfl).now.2 x hx).1)).len
    have h2 := (HS.out.ok x hx).2.1.sch.len.2
    have h3 : x.cs.length ≤ 4 := h2
    omega)
   have HGB := hid (show ∀ t ∈ gl, t.cols.n ≤ 1000 from fun t ht => by
    have h1 := SlP.In.len (s := t.cols) (k := 1) (cel := strc) (P := fun _ _ => True) ((KZ.ro 3 rfl).now.2 t ht).1 (by omega) (fun _ => rfl)
    have h2 : t.cols.l.length ≤ 8 := (HGO.out.2 t ht).1.o.2.1
    omega)
   have KD := KZ.add hD
   clear H KZ hD hlt hj
   go_wp2_with fail
   refine (items_any (Mut None_ _) _ KD.mutLt gA gn gc gl tA 3 tc tl O 3 cap outs ((KD.ro 4 rfl).imp fun w2 h2 => tgsRo_of h2) (KD.ro 3 rfl) (KD.ro 0 rfl) (by omega) HGB.out (by omega) HTB.out (by omega) (fun x hx => (HO.out x hx).b)).mono ?_
   rintro e w4 ⟨RA, rn, rc, rl, rfl, hrl, -, rR, b4⟩
   rw [flat_nil (items_nil HO.out)] at hrl
   obtain rfl := len0 hrl
   obtain rfl : rn = 0 := by
    have h := (show Rd _ _ 4 RA rn (itCells []) from rR.now).1
    rw [itCells_len] at h
    simp at h
    omega
   have K5 := KD.call b4
   clear KD b4 rR hrl
   go_wp2_with fail
   refine (items_any (Mut None_ _) _ K5.mutLt gA gn gc gl tA 3 tc tl none 0 0 [] ((K5.ro 4 rfl).imp fun w2 h2 => tgsRo_of h2) (K5.ro 3 rfl) (fun w2 _ _ => ⟨slr_nil 4 w2, fun _ hx => (nomatch hx)⟩) (by omega) HGB.out (by omega) HTB.out (by omega) (fun x hx => (nomatch hx))).mono ?_
   rintro e w5 ⟨RB, rn2, rc2, rl2, rfl, hrl, -, rR, b5⟩
   rw [flat_nil (items_nil (tl := tl) (l := []) (fun x hx => by cases hx))] at hrl
   obtain rfl := len0 hrl
   obtain rfl : rn2 = 0 := by
    have h := (show Rd _ _ 4 RB rn2 (itCells []) from rR.now).1
    rw [itCells_len] at h
    simp at h
    omega
   have K6 := K5.call b5
   clear K5 b5 rR hrl
   go_wp2_with fail
   refine (known22 _).mono ?_
   rintro e w6 ⟨rfl, b6⟩
   have HB := hid (K6.call b6).below
   clear K6 b6
   go_wp2_with fail
   go_ret
   exact ⟨rfl, HB.out⟩
end Go.Proofs.YtdkebcfkchhlmaaGreatDoor
